/- The parser: conditions: walked. -/
import Derived.Test.YtmfnhjdeoklnlaaGreatDoorYQB
import Derived.Test.YtmfnhjdeoklnlaaGreatDoorYFB
namespace Go.Proofs.YtmfnhjdeoklnlaaGreatDoor
open Go.RowKit Go.Sort
open Tess (Fil Tok Prs.next Prs.skip Prs.isT Prs.Endd Prs.Keeps)
theorem infoCond:(Tryz.prog.info? 82).map (fun i=>(i.zero,i.size,i.bytes))=some (some (.agg #[.int .i64 0,.int .i64 0,.int .i64 0]),3,24):=by kernel_rfl
set_option maxRecDepth 100000 in
set_option maxHeartbeats 2000000 in
theorem ops_any (w:World):Calls Tryz.prog 119 #[] w fun e w' => ∃ v,e = .returned v∧SlOf w' v (Tess.Prs.ops.map .string)∧Below w.heap.size w w':=by
 go_enter Tryz.func119,Tryz.ntmps119
 go_wp2
 go_ret
 obtain ⟨a1,a2,a3⟩:=laid1 w (.cells #[.string ⟨#[61]⟩,.string ⟨#[33,61]⟩,.string ⟨#[60]⟩,.string ⟨#[60,61]⟩,.string ⟨#[62]⟩,.string ⟨#[62,61]⟩] 9)
 refine ⟨_,rfl,⟨by show 6≤maxLen;decide,some ⟨w.heap.size,0,none⟩,6,rfl,fun _=>⟨_,_,rfl,by omega,fun j hj => ?_⟩⟩,a3⟩
 have hj:j < 6:=hj
 rw [cell_of_row _ _ (0 + j) _ _ _ a1]
 rcases (show j=0∨j=1∨j=2∨j=3∨j=4∨j=5 by omega) with rfl | rfl | rfl | rfl | rfl | rfl <;> rfl
structure CdEx (N:Nat) (x0 x1 x2 x3 x4 x5 x6 x7 x8 x9 xa xc xd:Value) (acc:List Tess.Cond) (qs:List Value) (W:World):Prop where
 o:∃ vb,qs=[x0,x1,x2,x3,x4,x5,x6,x7,x8,x9,xa,vb,xc,xd]∧W.ownsRow N 82 3 vb acc.length (acc.flatMap condF)∧(acc=[]→vb = .slice none 0 0)
theorem owns_steady {w W:World} {B N:Nat} {e:TypeId} {size:Nat} {v:Value} {n:Nat} {xs:List Value} (h:w.ownsRow N e size v n xs) (hg:w.grownBy W (some B)) (hB:B < N):W.ownsRow N e size v n xs:=by
 refine h.kept hg ?_
 cases hv:v.ownBlock with
 | none=>exact Or.inl rfl
 | some k=>refine Or.inr ?_;intro e;have:=(h.lt k hv).1;have:=Option.some.inj e;omega
theorem CdEx.steady {N B:Nat} {x0 x1 x2 x3 x4 x5 x6 x7 x8 x9 xa xc xd:Value} {w0:World} (hB:B < N) (acc:List Tess.Cond):Steady B w0 (CdEx N x0 x1 x2 x3 x4 x5 x6 x7 x8 x9 xa xc xd acc):=by
 intro qs W W' _ h hg
 obtain ⟨vb,h1,h2,h3⟩:=h.o
 exact ⟨vb,h1,owns_steady h2 hg hB,h3⟩
theorem cond_parts {ts r:List Tok} (ht:Prs.isT [Tess.Prs.wHash] ts=some r):Tess.Prs.cond ts=Tess.Prs.bindR (Tess.Prs.place r) Tess.Prs.cond2:=by
 unfold Tess.Prs.cond Tess.Prs.must Tess.Prs.isR
 rw [ht]
set_option maxRecDepth 100000 in
set_option maxHeartbeats 4000000 in
theorem cond_any {p:Nat→Prop} {B:Nat} {x0 x1 x2 x3 x4 x5 x6 x7 x8 x9 xa xc xd:Value} {L:Nat} (w0:World) (hp:∀ b,p b→b < w0.heap.size) (hB:B < w0.heap.size) (hL:L≤1000000) :
  Reads 188 #[.pointer (some ⟨B,0,none⟩)] p B w0 Tess.Prs.cond (CdEx w0.heap.size x0 x1 x2 x3 x4 x5 x6 x7 x8 x9 xa xc xd) (fun _=>True) L:=by
 intro acc ts v qs W h _ hG hE hlen
 obtain ⟨i0,hi,hz0,hz1,hz2⟩:=info_parts infoCond
 obtain ⟨vb,rfl,hown,hnil⟩:=hE.o
 have hl0:0 < ts.length:=List.length_pos_iff.2 h.ne
 have HM:=Lib.hid (must1_any Tess.Prs.wHash W h)
 have HG:=Lib.hid hG
 have HW:=Lib.hid hown
 clear hG hown h hE
 go_enter Tryz.func188,Tryz.ntmps188
 go_wp2_with (first
  | (go_at_call 70;refine HM.out.mono ?_;clear HM;rintro e w2 ⟨hG2,⟨r,v2,hT,rfl,hP2⟩ | ⟨hT,rfl,v2,hP2⟩⟩ <;> (have HG2:=Lib.hid hG2;have HP2:=Lib.hid hP2;have HT:=Lib.hid hT;clear hG2 hP2 hT))
  | (go_at_call 224;refine (pplace_any _ HP2.out).mono ?_;rintro e w3 ⟨n,err,r3,v3,rfl,hG3,hP3,⟨hpl,rfl⟩ | ⟨k,hpl,rfl⟩⟩ <;> (have HG3:=Lib.hid hG3;have HP3:=Lib.hid hP3;have HPL:=Lib.hid hpl;clear hG3 hP3 hpl)))
 rotate_left
 ·go_ret
  exact ⟨HG.out.transB (HG2.out.transB HG3.out),Or.inr ⟨k,by rw [cond_parts HT.out,HPL.out];rfl,rfl,trivial,_,_,_,HP3.out⟩⟩
 ·go_ret
  exact ⟨HG.out.transB HG2.out,Or.inr ⟨_,by unfold Tess.Prs.cond Tess.Prs.must Tess.Prs.isR;rw [HT.out];rfl,rfl,trivial,_,_,_,HP2.out⟩⟩
 have HN3:=Lib.hid (fun (W':World) (hb:Below w3.heap.size w3 W')=>pnext_any W' (HP3.out.below hb))
 have HF3:=Lib.hid (fun (W':World) (hb:Below w3.heap.size w3 W')=>fail_any W' (HP3.out.below hb))
 have HS3:=Lib.hid (fun (W':World) (hb:Below w3.heap.size w3 W')=>skip_any W' (HP3.out.below hb))
 unfold tkV tkF at HN3 HS3
 have HQ:RowKit.Hid (Tess.Prs.cond ts=Tess.Prs.cond2 n r3):=Lib.hid (by rw [cond_parts HT.out,HPL.out];rfl)
 clear HT HPL
 obtain ⟨i,hii⟩:∃ i:Int,i=if Tess.hasW Tess.Prs.ops (Prs.next r3).text then ((Tess.idxW Tess.Prs.ops (Prs.next r3).text:Nat):Int) else -1:=⟨_,rfl⟩
 have hir : -1≤i∧i≤5:=by
  rw [hii]
  split
  ·rename_i h
   have:Tess.idxW Tess.Prs.ops (Prs.next r3).text < 6:=by
    have h:=(Tess.hasW_iff _ _).1 h
    exact List.findIdx_lt_length_of_exists ⟨_,h,by simp⟩
   omega
  ·omega
 have HIX:=Lib.hid (fun (vo:Value) (W':World) (hv:SlOf W' vo (Tess.Prs.ops.map .string))=>(hii ▸ index_any vo Tess.Prs.ops (Prs.next r3).text W' hv:Calls Tryz.prog 160 #[vo,.string (Prs.next r3).text] W' fun e w'=>e = .returned (.int .i64 i)∧W'=w'))
 have hi2:0≤i→∃ m:Nat,i=m∧m=Tess.idxW Tess.Prs.ops (Prs.next r3).text∧Tess.hasW Tess.Prs.ops (Prs.next r3).text=true:=by
  intro h0
  rw [hii] at h0 ⊢
  split at h0
  ·rename_i h;rw [if_pos h];exact ⟨_,rfl,rfl,h⟩
  ·omega
 have hi3:i < 0→Tess.hasW Tess.Prs.ops (Prs.next r3).text=false:=by
  intro h0
  rw [hii] at h0
  split at h0
  ·omega
  ·rename_i h;simpa using h
 have HI2:=Lib.hid hi2
 have HI3:=Lib.hid hi3
 clear hi2 hi3 hii
 rcases (show (((Prs.next r3).kind≠5∧((((Prs.next r3).kind:Nat):Int) != 5)=true)∨(((Prs.next r3).kind=5∧((((Prs.next r3).kind:Nat):Int) != 5)=false)∧i = -1))∨(((Prs.next r3).kind=5∧((((Prs.next r3).kind:Nat):Int) != 5)=false)∧(0≤i∧(i + 1 == 0)=false)) by
  by_cases h5:(Prs.next r3).kind=5
  ·by_cases h0:0≤i
   ·exact Or.inr ⟨⟨h5,by rw [h5];rfl⟩,h0,by rw [beq_eq_false_iff_ne];omega⟩
   ·exact Or.inl (Or.inr ⟨⟨h5,by rw [h5];rfl⟩,by omega⟩)
  ·exact Or.inl (Or.inl ⟨h5,by rw [bne_iff_ne];omega⟩)) with (⟨h5,g5⟩ | ⟨⟨h5,g5⟩,h0⟩) | ⟨⟨h5,g5⟩,h0,g0⟩
 ·go_wp2_with (first
   | (go_at_call 119;refine (ops_any _).mono ?_;rintro e w4 ⟨vo,rfl,hvo,hB4⟩;have HV:=Lib.hid hvo;have HB4:=Lib.hid hB4;clear hvo hB4)
   | (go_at_call 135;first | (refine (HN3.out _ HB4.out).mono ?_;rintro e w5 ⟨rfl,hB5⟩;have HB5:=Lib.hid (Bt HB4.out hB5);have HV5:=Lib.hid (SlOf.below HV.out hB5);clear hB5 HV HB4) | (refine (HN3.out _ HB5.out).mono ?_;rintro e w6 ⟨rfl,hB6⟩;have HB6:=Lib.hid (Bt HB5.out hB6);clear hB6 HB5))
   | (go_at_call 160;refine (HIX.out _ _ HV5.out).mono ?_;rintro e w5' ⟨rfl,rfl⟩)
   | (go_at_call 134;refine (HF3.out _ HB6.out).mono ?_;rintro e w7 ⟨rfl,hB7⟩;have HB7:=Lib.hid (Bt HB6.out hB7);clear hB7))
  go_ret
  exact ⟨HG.out.transB ((HG2.out.transB HG3.out).trans_below HB7.out),Or.inr ⟨_,by rw [HQ.out];unfold Tess.Prs.cond2;rw [if_neg (fun h=>h5 h.1)];rfl,rfl,trivial,_,_,_,HP3.out.below HB7.out⟩⟩
 ·subst h0
  go_wp2_with (first
   | (go_at_call 119;refine (ops_any _).mono ?_;rintro e w4 ⟨vo,rfl,hvo,hB4⟩;have HV:=Lib.hid hvo;have HB4:=Lib.hid hB4;clear hvo hB4)
   | (go_at_call 135;first | (refine (HN3.out _ HB4.out).mono ?_;rintro e w5 ⟨rfl,hB5⟩;have HB5:=Lib.hid (Bt HB4.out hB5);have HV5:=Lib.hid (SlOf.below HV.out hB5);clear hB5 HV HB4) | (refine (HN3.out _ HB5.out).mono ?_;rintro e w6 ⟨rfl,hB6⟩;have HB6:=Lib.hid (Bt HB5.out hB6);clear hB6 HB5))
   | (go_at_call 160;refine (HIX.out _ _ HV5.out).mono ?_;rintro e w5' ⟨rfl,rfl⟩)
   | (go_at_call 134;refine (HF3.out _ HB6.out).mono ?_;rintro e w7 ⟨rfl,hB7⟩;have HB7:=Lib.hid (Bt HB6.out hB7);clear hB7))
  go_ret
  exact ⟨HG.out.transB ((HG2.out.transB HG3.out).trans_below HB7.out),Or.inr ⟨_,by rw [HQ.out];unfold Tess.Prs.cond2;rw [if_neg (fun h=>by rw [HI3.out (by decide)] at h;exact absurd h.2 (by decide))];rfl,rfl,trivial,_,_,_,HP3.out.below HB7.out⟩⟩
 ·go_wp2_with (first
   | (go_at_call 119;refine (ops_any _).mono ?_;rintro e w4 ⟨vo,rfl,hvo,hB4⟩;have HV:=Lib.hid hvo;have HB4:=Lib.hid hB4;clear hvo hB4)
   | (go_at_call 135;first | (refine (HN3.out _ HB4.out).mono ?_;rintro e w5 ⟨rfl,hB5⟩;have HB5:=Lib.hid (Bt HB4.out hB5);have HV5:=Lib.hid (SlOf.below HV.out hB5);clear hB5 HV HB4) | (refine (HN3.out _ HB5.out).mono ?_;rintro e w6 ⟨rfl,hB6⟩;have HB6:=Lib.hid (Bt HB5.out hB6);clear hB6 HB5))
   | (go_at_call 160;refine (HIX.out _ _ HV5.out).mono ?_;rintro e w5' ⟨rfl,rfl⟩)
   | (go_at_call 136;refine (HS3.out _ HB6.out).mono ?_;rintro e w7 ⟨rfl,v7,hP7,hG7⟩;have HP7:=Lib.hid hP7;have HG7:=Lib.hid (((HG2.out.transB HG3.out).trans_below HB6.out).transB hG7);clear hP7 hG7)
   | (go_at_call 186;refine (num1_any _ _ _ HP7.out).mono ?_;rintro e w8 ⟨m,err,r8,v8,rfl,hP8,hG8,hres⟩;
       have c8:=hP8.can.1.2.2.2.2.2.2.2.2.2.2.2.1;have z8:=hP8.can.2 12 (by decide);have h8s:=hP8.lt;
       have HP8:=Lib.hid hP8;have HG8:=Lib.hid (HG7.out.transB hG8);have HR:=Lib.hid hres;clear hP8 hG8 hres)
   | (at_builtin;refine wpList_append_own _ rfl _ _ 30 rfl w0.heap.size 82 i0 (.agg #[.int .i64 0,.int .i64 0,.int .i64 0]) 3 24 Tryz.underlying30 hi hz0 hz1 hz2 rfl (by decide) _ _ _ rfl (owns_below (owns_steady HW.out HG8.out hB) ((Below.refl _ _).alloc (Nat.le_refl _) _)) ⟨w8.heap.size,0,none⟩ 1 1 [.int .i64 n,.int .i64 (i + 1),.int .i64 m] rfl rfl ?c1 (by simp [Value.oneCell']) (by unfold maxLen;omega) (by omega) ?c2 ?_))
  case c1=>intro j u hj;rcases j with _ | _ | _ | j <;> simp at hj <;> subst hj <;> simp only [Addr.add] <;> exact cell_of_row _ _ _ _ _ _ (heap_alloc_new _ _)
  case c2=>have h1:=HG.out.size;have h2:=HG8.out.size;simp;omega
  intro v' w9 hown9 hgrow hnil9
  have hown8:=owns_steady HW.out HG8.out hB
  have hrow:∀ j,vb.ownBlock=some j→w0.heap.size≤j:=fun j e=>(hown8.lt j e).1
  have hG9:w0.grownBy w9 (some B):=(((HG.out.transB HG8.out).trans_below ((Below.refl _ _).alloc (Nat.le_refl _) _)).row hgrow hrow)
  have hP9:=(HP8.out.below ((Below.refl _ _).alloc (Nat.le_refl _) _)).later hp hB hgrow hrow
  have c9:=hP9.can.1.2.2.2.2.2.2.2.2.2.2.2.1
  have z9:=hP9.can.2 12 (by decide)
  have h9s:=hP9.lt
  have HV9:=Lib.hid hown9
  have HG9:=Lib.hid hG9
  have HP9:=Lib.hid hP9
  clear hown9 hgrow hnil9 hG9 hP9 hown8 c8 z8
  obtain ⟨g,cap,rfl⟩:∃ g cap,v' = .slice (some ⟨g,0,none⟩) (acc.length + 1) cap:=by
   rcases HV9.out.2 with ⟨_,h0⟩ | ⟨g,cap,cur,hv,_⟩
   ·omega
   ·exact ⟨g,cap,hv⟩
  go_wp2
  go_ret
  refine ⟨HG9.out.transB (grB_set _ _ _ _ h9s),?_⟩
  obtain ⟨m',rfl,hm,hw⟩:=HI2.out h0
  rcases HR.out with ⟨hn,rfl⟩ | ⟨_,k,hn,rfl⟩
  ·refine Or.inl ⟨⟨n,(m':Int) + 1,m⟩,r8,_,_,?_,rfl,HP9.out.put 12 _ rfl rfl,⟨_,rfl,?_,fun e=>by simp at e⟩⟩
   ·rw [HQ.out];unfold Tess.Prs.cond2;rw [if_pos ⟨h5,hw⟩,hn,hm];rfl
   ·have:=ownsRow_setCell_below HV9.out (a:=⟨B,12,none⟩) (by show B < w0.heap.size;exact hB) (.slice (some ⟨g,0,none⟩) (acc.length + 1) cap)
    rw [List.length_append,List.flatMap_append]
    exact this
  ·exact Or.inr ⟨k,by rw [HQ.out];unfold Tess.Prs.cond2;rw [if_pos ⟨h5,hw⟩,hn];rfl,rfl,trivial,_,_,_,HP9.out.put 12 _ rfl rfl⟩
end Go.Proofs.YtmfnhjdeoklnlaaGreatDoor
