/- Joined by mergeQ.py: Q9, Q10 -/
import Derived.Test.YtbbgjjjeecfnoaaGreatDoorXQB
import Derived.Test.YtbbgjjjeecfnoaaGreatDoorXFB
import Derived.Test.YtbbgjjjeecfnoaaGreatDoorXFF
namespace Go.Proofs.YtbbgjjjeecfnoaaGreatDoor
open Go.RowKit Go.Sort
open Tess (Fil Tok Prs.next Prs.skip Prs.isT Prs.Endd Prs.Keeps)
theorem infoCond:(Tryz.prog.info? 147).map (fun i=>(i.zero,i.size,i.bytes))=some (some (.agg #[.int .i64 0,.int .i64 0,.int .i64 0]),3,24):=by kernel_rfl
set_option maxRecDepth 100000 in
set_option maxHeartbeats 2000000 in
theorem ops_any (w:World):Calls Tryz.prog 200 #[] w fun e w' => ∃ v,e = .returned v∧SlOf w' v (Tess.Prs.ops.map .string)∧Below w.heap.size w w':=by
 go_enter Tryz.func200,Tryz.ntmps200
 go_wp2
 go_ret
 obtain ⟨a1,a2,a3⟩:=laid1 w (.cells #[.string ⟨#[61]⟩,.string ⟨#[33,61]⟩,.string ⟨#[60]⟩,.string ⟨#[60,61]⟩,.string ⟨#[62]⟩,.string ⟨#[62,61]⟩] 9)
 refine ⟨_,rfl,⟨by show 6≤maxLen;decide,some ⟨w.heap.size,0,none⟩,6,rfl,fun _=>⟨_,_,rfl,by omega,fun j hj => ?_⟩⟩,a3⟩
 have hj:j < 6:=hj
 rw [cell_of_row _ _ (0 + j) _ _ _ a1]
 rcases (show j=0∨j=1∨j=2∨j=3∨j=4∨j=5 by omega) with rfl | rfl | rfl | rfl | rfl | rfl <;> rfl
structure CdEx (N:Nat) (x0 x1 x2 x3 x4 x5 x6 x7 x8 x9 xa xc xd:Value) (acc:List Tess.Cond) (qs:List Value) (W:World):Prop where
 o:∃ vb,qs=[x0,x1,x2,x3,x4,x5,x6,x7,x8,x9,xa,vb,xc,xd]∧W.ownsRow N 147 3 vb acc.length (acc.flatMap condF)∧(acc=[]→vb = .slice none 0 0)
theorem owns_steady {w W:World} {B N:Nat} {e:TypeId} {size:Nat} {v:Value} {n:Nat} {xs:List Value} (h:w.ownsRow N e size v n xs) (hg:w.grownBy W (some B)) (hB:B < N):W.ownsRow N e size v n xs:=by
 refine h.kept hg ?_
 cases hv:v.ownBlock with
 | none=>exact Or.inl rfl
 | some k=>refine Or.inr ?_;intro e;have:=(h.lt k hv).1;have:=Option.some.inj e;omega
theorem CdEx.steady {N B:Nat} {x0 x1 x2 x3 x4 x5 x6 x7 x8 x9 xa xc xd:Value} {w0:World} (hB:B < N) (acc:List Tess.Cond):Steady B w0 (CdEx N x0 x1 x2 x3 x4 x5 x6 x7 x8 x9 xa xc xd acc):=by
 intro qs W W' _ h hg
 obtain ⟨vb,h1,h2,h3⟩:=h.o
 exact ⟨vb,h1,owns_steady h2 hg hB,h3⟩
theorem cond_parts {ts r:List Tok} (ht:Prs.isT [Tess.Prs.wHash] ts=some r):Tess.Prs.cond ts=Tess.Prs.bindR (Tess.Prs.place r) Tess.Prs.cond2:=by
 unfold Tess.Prs.cond Tess.Prs.must Tess.Prs.isR
 rw [ht]
set_option maxRecDepth 100000 in
set_option maxHeartbeats 4000000 in
theorem cond_any {p:Nat→Prop} {B:Nat} {x0 x1 x2 x3 x4 x5 x6 x7 x8 x9 xa xc xd:Value} {L:Nat} (w0:World) (hp:∀ b,p b→b < w0.heap.size) (hB:B < w0.heap.size) (hL:L≤1000000) :
  Reads 270 #[.pointer (some ⟨B,0,none⟩)] p B w0 Tess.Prs.cond (CdEx w0.heap.size x0 x1 x2 x3 x4 x5 x6 x7 x8 x9 xa xc xd) (fun _=>True) L:=by
 intro acc ts v qs W h _ hG hE hlen
 obtain ⟨i0,hi,hz0,hz1,hz2⟩:=info_parts infoCond
 obtain ⟨vb,rfl,hown,hnil⟩:=hE.o
 have hl0:0 < ts.length:=List.length_pos_iff.2 h.ne
 have HM:=Lib.hid (must1_any Tess.Prs.wHash W h)
 have HG:=Lib.hid hG
 have HW:=Lib.hid hown
 clear hG hown h hE
 go_enter Tryz.func270,Tryz.ntmps270
 go_wp2_with (first
  | (go_at_call 140;refine HM.out.mono ?_;clear HM;rintro e w2 ⟨hG2,⟨r,v2,hT,rfl,hP2⟩ | ⟨hT,rfl,v2,hP2⟩⟩ <;> (have HG2:=Lib.hid hG2;have HP2:=Lib.hid hP2;have HT:=Lib.hid hT;clear hG2 hP2 hT))
  | (go_at_call 301;refine (pplace_any _ HP2.out).mono ?_;rintro e w3 ⟨n,err,r3,v3,rfl,hG3,hP3,⟨hpl,rfl⟩ | ⟨k,hpl,rfl⟩⟩ <;> (have HG3:=Lib.hid hG3;have HP3:=Lib.hid hP3;have HPL:=Lib.hid hpl;clear hG3 hP3 hpl)))
 rotate_left
 ·go_ret
  exact ⟨HG.out.transB (HG2.out.transB HG3.out),Or.inr ⟨k,by rw [cond_parts HT.out,HPL.out];rfl,rfl,trivial,_,_,_,HP3.out⟩⟩
 ·go_ret
  exact ⟨HG.out.transB HG2.out,Or.inr ⟨_,by unfold Tess.Prs.cond Tess.Prs.must Tess.Prs.isR;rw [HT.out];rfl,rfl,trivial,_,_,_,HP2.out⟩⟩
 have HN3:=Lib.hid (fun (W':World) (hb:Below w3.heap.size w3 W')=>pnext_any W' (HP3.out.below hb))
 have HF3:=Lib.hid (fun (W':World) (hb:Below w3.heap.size w3 W')=>fail_any W' (HP3.out.below hb))
 have HS3:=Lib.hid (fun (W':World) (hb:Below w3.heap.size w3 W')=>skip_any W' (HP3.out.below hb))
 unfold tkV tkF at HN3 HS3
 have HQ:RowKit.Hid (Tess.Prs.cond ts=Tess.Prs.cond2 n r3):=Lib.hid (by rw [cond_parts HT.out,HPL.out];rfl)
 clear HT HPL
 obtain ⟨i,hii⟩:∃ i:Int,i=if Tess.hasW Tess.Prs.ops (Prs.next r3).text then ((Tess.idxW Tess.Prs.ops (Prs.next r3).text:Nat):Int) else -1:=⟨_,rfl⟩
 have hir : -1≤i∧i≤5:=by
  rw [hii]
  split
  ·rename_i h
   have:Tess.idxW Tess.Prs.ops (Prs.next r3).text < 6:=by
    have h:=(Tess.hasW_iff _ _).1 h
    exact List.findIdx_lt_length_of_exists ⟨_,h,by simp⟩
   omega
  ·omega
 have HIX:=Lib.hid (fun (vo:Value) (W':World) (hv:SlOf W' vo (Tess.Prs.ops.map .string))=>(hii ▸ index_any vo Tess.Prs.ops (Prs.next r3).text W' hv:Calls Tryz.prog 180 #[vo,.string (Prs.next r3).text] W' fun e w'=>e = .returned (.int .i64 i)∧W'=w'))
 have hi2:0≤i→∃ m:Nat,i=m∧m=Tess.idxW Tess.Prs.ops (Prs.next r3).text∧Tess.hasW Tess.Prs.ops (Prs.next r3).text=true:=by
  intro h0
  rw [hii] at h0 ⊢
  split at h0
  ·rename_i h;rw [if_pos h];exact ⟨_,rfl,rfl,h⟩
  ·omega
 have hi3:i < 0→Tess.hasW Tess.Prs.ops (Prs.next r3).text=false:=by
  intro h0
  rw [hii] at h0
  split at h0
  ·omega
  ·rename_i h;simpa using h
 have HI2:=Lib.hid hi2
 have HI3:=Lib.hid hi3
 clear hi2 hi3 hii
 rcases (show (((Prs.next r3).kind≠5∧((((Prs.next r3).kind:Nat):Int) != 5)=true)∨(((Prs.next r3).kind=5∧((((Prs.next r3).kind:Nat):Int) != 5)=false)∧i = -1))∨(((Prs.next r3).kind=5∧((((Prs.next r3).kind:Nat):Int) != 5)=false)∧(0≤i∧(i + 1 == 0)=false)) by
  by_cases h5:(Prs.next r3).kind=5
  ·by_cases h0:0≤i
   ·exact Or.inr ⟨⟨h5,by rw [h5];rfl⟩,h0,by rw [beq_eq_false_iff_ne];omega⟩
   ·exact Or.inl (Or.inr ⟨⟨h5,by rw [h5];rfl⟩,by omega⟩)
  ·exact Or.inl (Or.inl ⟨h5,by rw [bne_iff_ne];omega⟩)) with (⟨h5,g5⟩ | ⟨⟨h5,g5⟩,h0⟩) | ⟨⟨h5,g5⟩,h0,g0⟩
 ·go_wp2_with (first
   | (go_at_call 200;refine (ops_any _).mono ?_;rintro e w4 ⟨vo,rfl,hvo,hB4⟩;have HV:=Lib.hid hvo;have HB4:=Lib.hid hB4;clear hvo hB4)
   | (go_at_call 216;first | (refine (HN3.out _ HB4.out).mono ?_;rintro e w5 ⟨rfl,hB5⟩;have HB5:=Lib.hid (Bt HB4.out hB5);have HV5:=Lib.hid (SlOf.below HV.out hB5);clear hB5 HV HB4) | (refine (HN3.out _ HB5.out).mono ?_;rintro e w6 ⟨rfl,hB6⟩;have HB6:=Lib.hid (Bt HB5.out hB6);clear hB6 HB5))
   | (go_at_call 180;refine (HIX.out _ _ HV5.out).mono ?_;rintro e w5' ⟨rfl,rfl⟩)
   | (go_at_call 215;refine (HF3.out _ HB6.out).mono ?_;rintro e w7 ⟨rfl,hB7⟩;have HB7:=Lib.hid (Bt HB6.out hB7);clear hB7))
  go_ret
  exact ⟨HG.out.transB ((HG2.out.transB HG3.out).trans_below HB7.out),Or.inr ⟨_,by rw [HQ.out];unfold Tess.Prs.cond2;rw [if_neg (fun h=>h5 h.1)];rfl,rfl,trivial,_,_,_,HP3.out.below HB7.out⟩⟩
 ·subst h0
  go_wp2_with (first
   | (go_at_call 200;refine (ops_any _).mono ?_;rintro e w4 ⟨vo,rfl,hvo,hB4⟩;have HV:=Lib.hid hvo;have HB4:=Lib.hid hB4;clear hvo hB4)
   | (go_at_call 216;first | (refine (HN3.out _ HB4.out).mono ?_;rintro e w5 ⟨rfl,hB5⟩;have HB5:=Lib.hid (Bt HB4.out hB5);have HV5:=Lib.hid (SlOf.below HV.out hB5);clear hB5 HV HB4) | (refine (HN3.out _ HB5.out).mono ?_;rintro e w6 ⟨rfl,hB6⟩;have HB6:=Lib.hid (Bt HB5.out hB6);clear hB6 HB5))
   | (go_at_call 180;refine (HIX.out _ _ HV5.out).mono ?_;rintro e w5' ⟨rfl,rfl⟩)
   | (go_at_call 215;refine (HF3.out _ HB6.out).mono ?_;rintro e w7 ⟨rfl,hB7⟩;have HB7:=Lib.hid (Bt HB6.out hB7);clear hB7))
  go_ret
  exact ⟨HG.out.transB ((HG2.out.transB HG3.out).trans_below HB7.out),Or.inr ⟨_,by rw [HQ.out];unfold Tess.Prs.cond2;rw [if_neg (fun h=>by rw [HI3.out (by decide)] at h;exact absurd h.2 (by decide))];rfl,rfl,trivial,_,_,_,HP3.out.below HB7.out⟩⟩
 ·go_wp2_with (first
   | (go_at_call 200;refine (ops_any _).mono ?_;rintro e w4 ⟨vo,rfl,hvo,hB4⟩;have HV:=Lib.hid hvo;have HB4:=Lib.hid hB4;clear hvo hB4)
   | (go_at_call 216;first | (refine (HN3.out _ HB4.out).mono ?_;rintro e w5 ⟨rfl,hB5⟩;have HB5:=Lib.hid (Bt HB4.out hB5);have HV5:=Lib.hid (SlOf.below HV.out hB5);clear hB5 HV HB4) | (refine (HN3.out _ HB5.out).mono ?_;rintro e w6 ⟨rfl,hB6⟩;have HB6:=Lib.hid (Bt HB5.out hB6);clear hB6 HB5))
   | (go_at_call 180;refine (HIX.out _ _ HV5.out).mono ?_;rintro e w5' ⟨rfl,rfl⟩)
   | (go_at_call 217;refine (HS3.out _ HB6.out).mono ?_;rintro e w7 ⟨rfl,v7,hP7,hG7⟩;have HP7:=Lib.hid hP7;have HG7:=Lib.hid (((HG2.out.transB HG3.out).trans_below HB6.out).transB hG7);clear hP7 hG7)
   | (go_at_call 268;refine (num1_any _ _ _ HP7.out).mono ?_;rintro e w8 ⟨m,err,r8,v8,rfl,hP8,hG8,hres⟩;
       have c8:=hP8.can.1.2.2.2.2.2.2.2.2.2.2.2.1;have z8:=hP8.can.2 12 (by decide);have h8s:=hP8.lt;
       have HP8:=Lib.hid hP8;have HG8:=Lib.hid (HG7.out.transB hG8);have HR:=Lib.hid hres;clear hP8 hG8 hres)
   | (at_builtin;refine wpList_append_own _ rfl _ _ 32 rfl w0.heap.size 147 i0 (.agg #[.int .i64 0,.int .i64 0,.int .i64 0]) 3 24 Tryz.underlying32 hi hz0 hz1 hz2 rfl (by decide) _ _ _ rfl (owns_below (owns_steady HW.out HG8.out hB) ((Below.refl _ _).alloc (Nat.le_refl _) _)) ⟨w8.heap.size,0,none⟩ 1 1 [.int .i64 n,.int .i64 (i + 1),.int .i64 m] rfl rfl ?c1 (by simp [Value.oneCell']) (by unfold maxLen;omega) (by omega) ?c2 ?_))
  case c1=>intro j u hj;rcases j with _ | _ | _ | j <;> simp at hj <;> subst hj <;> simp only [Addr.add] <;> exact cell_of_row _ _ _ _ _ _ (heap_alloc_new _ _)
  case c2=>have h1:=HG.out.size;have h2:=HG8.out.size;simp;omega
  intro v' w9 hown9 hgrow hnil9
  have hown8:=owns_steady HW.out HG8.out hB
  have hrow:∀ j,vb.ownBlock=some j→w0.heap.size≤j:=fun j e=>(hown8.lt j e).1
  have hG9:w0.grownBy w9 (some B):=(((HG.out.transB HG8.out).trans_below ((Below.refl _ _).alloc (Nat.le_refl _) _)).row hgrow hrow)
  have hP9:=(HP8.out.below ((Below.refl _ _).alloc (Nat.le_refl _) _)).later hp hB hgrow hrow
  have c9:=hP9.can.1.2.2.2.2.2.2.2.2.2.2.2.1
  have z9:=hP9.can.2 12 (by decide)
  have h9s:=hP9.lt
  have HV9:=Lib.hid hown9
  have HG9:=Lib.hid hG9
  have HP9:=Lib.hid hP9
  clear hown9 hgrow hnil9 hG9 hP9 hown8 c8 z8
  obtain ⟨g,cap,rfl⟩:∃ g cap,v' = .slice (some ⟨g,0,none⟩) (acc.length + 1) cap:=by
   rcases HV9.out.2 with ⟨_,h0⟩ | ⟨g,cap,cur,hv,_⟩
   ·omega
   ·exact ⟨g,cap,hv⟩
  go_wp2
  go_ret
  refine ⟨HG9.out.transB (grB_set _ _ _ _ h9s),?_⟩
  obtain ⟨m',rfl,hm,hw⟩:=HI2.out h0
  rcases HR.out with ⟨hn,rfl⟩ | ⟨_,k,hn,rfl⟩
  ·refine Or.inl ⟨⟨n,(m':Int) + 1,m⟩,r8,_,_,?_,rfl,HP9.out.put 12 _ rfl rfl,⟨_,rfl,?_,fun e=>by simp at e⟩⟩
   ·rw [HQ.out];unfold Tess.Prs.cond2;rw [if_pos ⟨h5,hw⟩,hn,hm];rfl
   ·have:=ownsRow_setCell_below HV9.out (a:=⟨B,12,none⟩) (by show B < w0.heap.size;exact hB) (.slice (some ⟨g,0,none⟩) (acc.length + 1) cap)
    rw [List.length_append,List.flatMap_append]
    exact this
  ·exact Or.inr ⟨k,by rw [HQ.out];unfold Tess.Prs.cond2;rw [if_pos ⟨h5,hw⟩,hn];rfl,rfl,trivial,_,_,_,HP9.out.put 12 _ rfl rfl⟩
end Go.Proofs.YtbbgjjjeecfnoaaGreatDoor
namespace Go.Proofs.YtbbgjjjeecfnoaaGreatDoor
open Go.RowKit Go.Sort
open Tess (Fil Tok Prs.next Prs.skip Prs.isT Prs.Endd Prs.Keeps)
theorem infoKey:(Tryz.prog.info? 150).map (fun i=>(i.zero,i.size,i.bytes))=some (some (.agg #[.bool false,.int .i64 0,.bool false]),3,24):=by kernel_rfl
def newRow (cs:List Value) (v:Value) (w:World):Prop:=∃ g,v = .slice (some ⟨g,0,none⟩) 1 1∧g < w.heap.size∧∀ j u,cs[j]? = some u→w.cell? ⟨g,j,none⟩=some u
theorem newRow_mono (cs:List Value):Flow.Spec.mono (.inr (newRow cs)):=fun _ _ _ ⟨g,h1,h2,h3⟩ hb=>⟨g,h1,Nat.lt_of_lt_of_le h2 hb.size,fun j u h=>(hb.cell (p:=⟨g,j,none⟩) h2).trans (h3 j u h)⟩
theorem newRow_mk (cs:List Value) (w:World) (t:TypeId):newRow cs (.slice (some ⟨w.heap.size,0,none⟩) 1 1) (w.alloc (.cells cs.toArray t)):=⟨_,rfl,by simp,fun j u h=>by rw [cell_of_row _ _ j _ _ _ (heap_alloc_new _ _)];simpa using h⟩
theorem is2_any {p:Nat→Prop} {B:Nat} {ts:List Tok} {v:Value} {qs:List Value} (x:ByteArray) {c:Nat} (w:World) (hc:c=w.heap.size) (h:PsAt p B ts v qs w) :
  Calls Tryz.prog 144 #[.pointer (some ⟨B,0,none⟩),.slice (some ⟨c,0,none⟩) 1 1] (w.alloc (.cells #[.string x] 9)) fun e w' => ∃ b r v',e = .returned (.bool b)∧w.grownBy w' (some B)∧PsAt p B r v' qs w' ∧
   ((b=true∧Prs.isT [x] ts=some r)∨(b=false∧Prs.isT [x] ts=none∧r=ts)):=by
 subst hc
 refine (is1_any x w h).mono ?_
 rintro e w' ⟨hG,⟨r,v',hT,rfl,hP⟩ | ⟨hT,rfl,v',hP⟩⟩
 ·exact ⟨true,r,v',rfl,hG,hP,Or.inl ⟨rfl,hT⟩⟩
 ·exact ⟨false,ts,v',rfl,hG,hP,Or.inr ⟨rfl,hT,rfl⟩⟩
structure KyEx (N:Nat) (x0 x1 x2 x3 x4 x5 x6 x7 x8 x9 xa xb xd:Value) (acc:List Tess.Key) (qs:List Value) (W:World):Prop where
 o:∃ vb,qs=[x0,x1,x2,x3,x4,x5,x6,x7,x8,x9,xa,xb,vb,xd]∧W.ownsRow N 150 3 vb acc.length (acc.flatMap keyF)∧(acc=[]→vb = .slice none 0 0)
theorem KyEx.steady {N B:Nat} {x0 x1 x2 x3 x4 x5 x6 x7 x8 x9 xa xb xd:Value} {w0:World} (hB:B < N) (acc:List Tess.Key):Steady B w0 (KyEx N x0 x1 x2 x3 x4 x5 x6 x7 x8 x9 xa xb xd acc):=by
 intro qs W W' _ h hg
 obtain ⟨vb,h1,h2,h3⟩:=h.o
 exact ⟨vb,h1,owns_steady h2 hg hB,h3⟩
section
variable {names:List ByteArray} {ts r r2:List Tok} {n:Int} {a:Bool}
theorem key_hash (ht:Prs.isT [Tess.Prs.wHash] ts=some r):Tess.Prs.key names ts=Tess.Prs.bindR (Tess.Prs.place r) fun a r2=>Tess.Prs.keyEnd true a r2:=by
 unfold Tess.Prs.key Tess.Prs.isR
 rw [ht]
theorem key_none (ht:Prs.isT [Tess.Prs.wHash] ts=none):Tess.Prs.key names ts=if (Prs.next ts).kind=2∧Tess.hasW names (Prs.next ts).text=true then Tess.Prs.keyEnd false (Tess.idxW names (Prs.next ts).text:Nat) (Prs.skip ts) else Tess.Prs.fail ts:=by
 unfold Tess.Prs.key Tess.Prs.isR
 rw [ht]
theorem keyEnd_told {b:Bool} (h:(b=true∧Prs.isT [Tess.Prs.wDesc] ts=some r)∨(b=false∧Prs.isT [Tess.Prs.wDesc] ts=none∧r=ts)):Tess.Prs.keyEnd a n ts = .ok (⟨a,n,b⟩,r):=by
 unfold Tess.Prs.keyEnd Tess.Prs.isR
 rcases h with ⟨rfl,h⟩ | ⟨rfl,h,rfl⟩ <;> rw [h]
end
theorem box3k {W:World} {G:Nat} {t:TypeId} {y0 y1 y2:Value} (h:W.heap[G]? = some (.cells #[y0,y1,y2] t (0,0))):(W.cell? ⟨G,0,none⟩=some y0∧W.cell? ⟨G,1,none⟩=some y1∧W.cell? ⟨G,2,none⟩=some y2)∧∀ i,W.frozen? ⟨G,i,none⟩=false:=
 ⟨⟨cell_of_row _ _ 0 _ _ _ h,cell_of_row _ _ 1 _ _ _ h,cell_of_row _ _ 2 _ _ _ h⟩,fun i=>frozen_of_row _ _ i _ _ h⟩
theorem setSize (w:World) (a:Addr) (v:Value):(w.setCell a v).heap.size=w.heap.size:=by simp [World.setCell]
set_option maxRecDepth 100000 in
set_option maxHeartbeats 8000000 in
theorem key_any {p:Nat→Prop} {B:Nat} {x0 x1 x2 x3 x4 x5 x6 x7 x8 x9 xa xb xd:Value} {L:Nat} (names:List ByteArray) (w0:World) (hp:∀ b,p b→b < w0.heap.size) (hB:B < w0.heap.size) (hL:L≤1000000)
  (hNm:∀ W,w0.grownBy W (some B)→SlOf W x1 (names.map .string)) :
  Reads 271 #[.pointer (some ⟨B,0,none⟩)] p B w0 (Tess.Prs.key names) (KyEx w0.heap.size x0 x1 x2 x3 x4 x5 x6 x7 x8 x9 xa xb xd) (fun _=>True) L:=by
 intro acc ts v qs W h _ hG hE hlen
 obtain ⟨i0,hi,hz0,hz1,hz2⟩:=info_parts infoKey
 obtain ⟨vb,rfl,hown,hnil⟩:=hE.o
 have hl0:0 < ts.length:=List.length_pos_iff.2 h.ne
 have hWs:=hG.size
 have hBW:=h.lt
 obtain ⟨k0,kS,kB⟩:=laid1 W (.cells #[.bool false,.int .i64 0,.bool false] 150)
 have HM:=Lib.hid (is1_any Tess.Prs.wHash _ (h.below kB))
 rw [kS] at HM
 have HG:=Lib.hid hG
 have HW:=Lib.hid hown
 have HK:=Lib.hid k0
 have HKB:=Lib.hid kB
 have HKS:=Lib.hid kS
 have HP:=Lib.hid h
 have HNM:=Lib.hid hNm
 have hpG:¬ p W.heap.size:=fun hq=>by have:=hp _ hq;omega
 clear hG hown h hE k0 kB kS hNm
 go_enter Tryz.func271,Tryz.ntmps271
 go_wp2_with (first
  | (go_at_call 144;refine HM.out.mono ?_;clear HM;rintro e w2 ⟨hG2,⟨r,v2,hT,rfl,hP2⟩ | ⟨hT,rfl,v2,hP2⟩⟩ <;>
      (have hk2:=(hG2.block _ (by rw [HKS.out];omega) (by intro e;have:=Option.some.inj e;omega)).trans HK.out
       have hw2s:=(Array.getElem?_eq_some_iff.1 hk2).1
       have c2:=(box3k hk2).1;have z2:=(box3k hk2).2 0;have z2b:=(box3k hk2).2 1
       have HP2:=Lib.hid hP2;have HG2:=Lib.hid ((grB_below HKB.out).transB hG2);have HT:=Lib.hid hT;have HK2:=Lib.hid hk2;clear hP2 hG2 hT hk2)))
 ·have HP3:=Lib.hid (HP2.out.set (g:=W.heap.size) 0 (.bool true) (by omega) hpG)
  have HK3:RowKit.Hid ((w2.setCell ⟨W.heap.size,0,none⟩ (.bool true)).heap[W.heap.size]? = some (.cells #[.bool true,.int .i64 0,.bool false] 150 (0,0))):=Lib.hid (heap_setCell_same _ _ _ _ _ _ HK2.out)
  have HG3:=Lib.hid (HG2.out.setN (g:=W.heap.size) 0 (.bool true) (Nat.le_refl _))
  clear c2 z2 z2b HP2 HG2
  go_wp2_with (first
  | (go_at_call 301;refine (pplace_any _ HP3.out).mono ?_;rintro e w4 ⟨n,err,r4,v4,rfl,hG4,hP4,⟨hpl,rfl⟩ | ⟨k,hpl,rfl⟩⟩ <;>
      (have hk4:=(hG4.block W.heap.size (by rw [setSize];omega) (by intro e;have:=Option.some.inj e;omega)).trans HK3.out
       have c4:=(box3k hk4).1;have z4:=(box3k hk4).2 1
       have hw4s:=(Array.getElem?_eq_some_iff.1 hk4).1
       have HG5:=Lib.hid ((HG3.out.transB hG4).setN (g:=W.heap.size) 1 (.int .i64 n) (Nat.le_refl _))
       have HP5:=Lib.hid (hP4.set (g:=W.heap.size) 1 (.int .i64 n) (by omega) hpG)
       have HK5:RowKit.Hid ((w4.setCell ⟨W.heap.size,1,none⟩ (.int .i64 n)).heap[W.heap.size]? = some (.cells #[.bool true,.int .i64 n,.bool false] 150 (0,0))):=Lib.hid (heap_setCell_same _ _ _ _ _ _ hk4)
       have HPL:=Lib.hid hpl;clear hG4 hP4 hpl hk4))
  | (go_at_call 144;refine (is2_any Tess.Prs.wDesc (w4.setCell ⟨W.heap.size,1,none⟩ (.int .i64 n)) (by rw [setSize]) HP5.out).mono ?_;rintro e w6 ⟨b,r6,v6,rfl,hG6,hP6,htd⟩;
      have hk6:=(hG6.block W.heap.size (by rw [setSize];omega) (by intro e;have:=Option.some.inj e;omega)).trans HK5.out;
      have c6:=(box3k hk6).1;have z6:=(box3k hk6).2 2;
      have HP6:=Lib.hid hP6;have HG6:=Lib.hid (HG5.out.transB hG6);have HTD:=Lib.hid htd;have HK6:=Lib.hid hk6;clear hP6 hG6 htd hk6))
  rotate_left
  ·go_ret
   exact ⟨HG.out.transB HG5.out,Or.inr ⟨k,by rw [key_hash HT.out,HPL.out];rfl,rfl,trivial,_,_,_,HP5.out⟩⟩
  obtain ⟨W7,hW7⟩:∃ W7,w6.setCell ⟨W.heap.size,2,none⟩ (.bool b)=W7:=⟨_,rfl⟩
  have hG7:=HG6.out.setN (g:=W.heap.size) 2 (.bool b) (Nat.le_refl _)
  have hP7:=HP6.out.set (g:=W.heap.size) 2 (.bool b) (by omega) hpG
  have hk7:(w6.setCell ⟨W.heap.size,2,none⟩ (.bool b)).heap[W.heap.size]? = some (.cells #[.bool true,.int .i64 n,.bool b] 150 (0,0)):=heap_setCell_same _ _ _ _ _ _ HK6.out
  rw [hW7] at hG7 hP7 hk7 ⊢
  obtain ⟨e0,e1,e2⟩:=(box3k hk7).1
  have f13:=hP7.can.1.2.2.2.2.2.2.2.2.2.2.2.2.1
  have h7B:=hP7.lt
  have h7G:=(Array.getElem?_eq_some_iff.1 hk7).1
  have HG7:=Lib.hid hG7
  have HP7:=Lib.hid hP7
  clear hG7 hP7 hk7 hW7
  refine FlowQ.wp_region 8 [8,9,10,11,12] (.pointer (some ⟨B,0,none⟩)) (Flow.specs [.inl undef,.inl ?_,.inl ?_,.inl ?_,.inl ?_,.inl ?_,.inl ?_,.inr (newRow [.bool true,.int .i64 n,.bool b])]) (by kernel_rfl) (by kernel_rfl) ?_ rfl (fun w' _=>by go_simp) ?_
  rotate_left 6
  ·refine Flow.specs_mono ?_
   repeat (first | exact Flow.lmono_nil | refine Flow.lmono_inl ?_ | refine Flow.lmono_inr (newRow_mono _) ?_)
  all_goals try simp only [Nat.reduceSub,List.take_succ_cons,List.take_zero]
  iterate 6 (refine Flow.tree_valK rfl (fun K hK=>⟨fun w hw hG => ?_,?_⟩);(have hcl:=Flow.bcell hw;clear hG hw;unfold Flow.Runs Flow.yields;go_simp;try rfl);go_simp;refine hK _ ?_;clear hK K)
  (refine Flow.tree_varK rfl (fun K hK=>⟨fun w hw hG => ?_,?_⟩);(clear hG hw;unfold Flow.Runs Flow.yields;go_simp;refine ⟨(Below.refl _ _).alloc (Nat.le_refl _) _,?_⟩);rotate_left;intro vz;go_simp;refine hK _ _ ?_;clear hK K;rotate_left)
  ·exact newRow_mk [.bool true,.int .i64 n,.bool b] _ _
  refine Flow.tree_nil fun w8 hw8 hG => ?_
  obtain ⟨gn,rfl,hgn,hcn⟩:=(show newRow [.bool true,.int .i64 n,.bool b] vz w8 by simpa [Flow.upd] using hG 7)
  have HW8:=Lib.hid hw8
  have HCN:=Lib.hid hcn
  have hw8s:=hw8.size
  clear hG hw8 hcn
  refine ⟨?_,?_⟩
  all_goals
   go_wp2_with (at_builtin;refine wpList_append_own _ rfl _ _ 33 rfl w0.heap.size 150 i0 (.agg #[.bool false,.int .i64 0,.bool false]) 3 24 Tryz.underlying33 hi hz0 hz1 hz2 rfl (by decide) _ _ _ rfl (owns_below (owns_steady HW.out HG7.out hB) HW8.out) ⟨gn,0,none⟩ 1 1 [.bool true,.int .i64 n,.bool b] rfl rfl ?c1 (by simp [Value.oneCell']) (by unfold maxLen;omega) (by omega) (by omega) ?_)
   case c1=>intro j u hj;rw [show (⟨gn,0,none⟩:Addr).add j=⟨gn,j,none⟩ by unfold Addr.add;split <;> simp_all];exact HCN.out j u hj
   intro v' w9 hown9 hgrow hnil9
   have hown8:=owns_steady HW.out HG7.out hB
   have hrow:∀ j,vb.ownBlock=some j→w0.heap.size≤j:=fun j e=>(hown8.lt j e).1
   have hG9:w0.grownBy w9 (some B):=((HG.out.transB HG7.out).trans_below HW8.out).row hgrow hrow
   have hP9:=(HP7.out.below HW8.out).later hp hB hgrow hrow
   have c9:=hP9.can.1.2.2.2.2.2.2.2.2.2.2.2.2.1
   have z9:=hP9.can.2 13 (by decide)
   have h9s:=hP9.lt
   have HV9:=Lib.hid hown9
   have HG9:=Lib.hid hG9
   have HP9:=Lib.hid hP9
   clear hown9 hgrow hnil9 hG9 hP9 hown8
   obtain ⟨g,cap,rfl⟩:∃ g cap,v' = .slice (some ⟨g,0,none⟩) (acc.length + 1) cap:=by
    rcases HV9.out.2 with ⟨_,h0⟩ | ⟨g,cap,cur,hv,_⟩
    ·omega
    ·exact ⟨g,cap,hv⟩
   go_wp2
   refine ⟨rfl,?_⟩
   go_wp2
   go_ret
   refine ⟨HG9.out.transB (grB_set _ _ _ _ h9s),Or.inl ⟨⟨true,n,b⟩,r6,_,_,by rw [key_hash HT.out,HPL.out];exact keyEnd_told HTD.out,rfl,HP9.out.put 13 _ rfl rfl,⟨_,rfl,?_,fun e=>by simp at e⟩⟩⟩
   have:=ownsRow_setCell_below HV9.out (a:=⟨B,13,none⟩) (by show B < w0.heap.size;exact hB) (.slice (some ⟨g,0,none⟩) (acc.length + 1) cap)
   rw [List.length_append,List.flatMap_append]
   exact this
 ·obtain ⟨i,hii⟩:∃ i:Int,i=if Tess.hasW names (Prs.next ts).text then ((Tess.idxW names (Prs.next ts).text:Nat):Int) else -1:=⟨_,rfl⟩
  have HIX:=Lib.hid (fun (W':World) (hg:W.grownBy W' (some B))=>(hii ▸ index_any x1 names (Prs.next ts).text W' (HNM.out W' (HG.out.transB hg)):Calls Tryz.prog 180 #[x1,.string (Prs.next ts).text] W' fun e w'=>e = .returned (.int .i64 i)∧W'=w'))
  have HI2:RowKit.Hid ((0≤i→i=(Tess.idxW names (Prs.next ts).text:Nat)∧Tess.hasW names (Prs.next ts).text=true)∧(i < 0→i = -1∧Tess.hasW names (Prs.next ts).text=false)):=Lib.hid (by
   rw [hii]
   split
   ·rename_i h;exact ⟨fun _=>⟨rfl,h⟩,fun h=>by omega⟩
   ·rename_i h;exact ⟨fun h=>by omega,fun _=>⟨rfl,by simpa using h⟩⟩)
  have HQ:=Lib.hid (key_none (names:=names) HT.out)
  have f2:=HP2.out.can.1.2.1
  have hB2:=HP2.out.lt
  have HN2:=Lib.hid (fun (W':World) (hb:Below w2.heap.size w2 W')=>pnext_any W' (HP2.out.below hb))
  clear hii HT c2 z2 z2b
  unfold tkV tkF at HN2
  refine Flow.wp_region_flow_tail 9 (Flow.specs [.inl ?_,.inl ?_,.inl ?_,.inl ?_,.inl ?_,.inl ?_,.inl (.agg #[.int .i64 (Prs.next ts).kind,.int .i64 (Prs.next ts).pos,.int .i64 (Prs.next ts).size,.string (Prs.next ts).text,.int .i64 (Prs.next ts).n]),.inl (.string (Prs.next ts).text),.inl (.int .i64 i)]) (by kernel_rfl) (by kernel_rfl) ?_ ?_
  rotate_left 6
  ·refine Flow.specs_mono ?_
   repeat (first | exact Flow.lmono_nil | refine Flow.lmono_inl ?_)
  all_goals try simp only [List.take_succ_cons,List.take_zero,List.drop_succ_cons,List.drop_zero]
  iterate 6 (refine Flow.tree_valK rfl (fun K hK=>⟨fun w hw hG => ?_,?_⟩);(have hcl:=Flow.bcell hw;clear hG hw;unfold Flow.Runs Flow.yields;go_simp;try rfl);go_simp;refine hK _ ?_;clear hK K)
  (refine Flow.tree_valK rfl (fun K hK=>⟨fun w hw hG => ?_,?_⟩);(have HWW:=Lib.hid hw;clear hG hw;unfold Flow.Runs Flow.yields;go_simp;refine (HN2.out _ HWW.out).mono ?_;rintro e w3 ⟨rfl,hb3⟩;exact ⟨rfl,hb3⟩);go_simp;refine hK _ ?_;clear hK K)
  iterate 1 (refine Flow.tree_valK rfl (fun K hK=>⟨fun w hw hG => ?_,?_⟩);(clear hG hw;unfold Flow.Runs Flow.yields;go_simp;try rfl);go_simp;refine hK _ ?_;clear hK K)
  (refine Flow.tree_valK rfl (fun K hK=>⟨fun w hw hG => ?_,?_⟩);(have HWW:=Lib.hid hw;clear hG hw;unfold Flow.Runs Flow.yields;go_simp;refine (HIX.out _ (HG2.out.trans_below HWW.out)).mono ?_;rintro e w3 ⟨rfl,rfl⟩;exact ⟨rfl,Below.refl _ _⟩);go_simp;refine hK _ ?_;clear hK K)
  refine Flow.tree_nil fun w3 hw3 hG => ?_
  clear hG
  have hk3:=(hw3.block W.heap.size hw2s).trans HK2.out
  have c3:=(box3k hk3).1
  have z3:=(box3k hk3).2 1
  have hw3s:=(Array.getElem?_eq_some_iff.1 hk3).1
  obtain ⟨W4,hW4⟩:∃ W4,w3.setCell ⟨W.heap.size,1,none⟩ (.int .i64 i)=W4:=⟨_,rfl⟩
  have hk4:(w3.setCell ⟨W.heap.size,1,none⟩ (.int .i64 i)).heap[W.heap.size]? = some (.cells #[.bool false,.int .i64 i,.bool false] 150 (0,0)):=heap_setCell_same _ _ _ _ _ _ hk3
  have hP4:=(HP2.out.below hw3).set (g:=W.heap.size) 1 (.int .i64 i) (by omega) hpG
  have hG4:=(HG2.out.trans_below hw3).setN (g:=W.heap.size) 1 (.int .i64 i) (Nat.le_refl _)
  rw [hW4] at hk4 hP4 hG4
  have HK4:=Lib.hid hk4
  have HP4:=Lib.hid hP4
  have HG4:=Lib.hid hG4
  have HN4:=Lib.hid (fun (W':World) (hb:Below W4.heap.size W4 W')=>pnext_any W' (hP4.below hb))
  have HF4:=Lib.hid (fun (W':World) (hb:Below W4.heap.size W4 W')=>fail_any W' (hP4.below hb))
  have HS4:=Lib.hid (fun (W':World) (hb:Below W4.heap.size W4 W')=>skip_any W' (hP4.below hb))
  unfold tkV tkF at HN4 HS4
  have hw4s:=(Array.getElem?_eq_some_iff.1 hk4).1
  go_wp2_with fail
  have cc:=(box3k hk4).1
  clear hk4 hP4 hG4 hk3 c3 z3 hw3 hW4 f2
  rcases (show (((Prs.next ts).kind≠2∧((((Prs.next ts).kind:Nat):Int) != 2)=true)∨(((Prs.next ts).kind=2∧((((Prs.next ts).kind:Nat):Int) != 2)=false)∧i < 0))∨(((Prs.next ts).kind=2∧((((Prs.next ts).kind:Nat):Int) != 2)=false)∧(0≤i∧¬ i < 0)) by
   by_cases h5:(Prs.next ts).kind=2
   ·by_cases h0:0≤i
    ·exact Or.inr ⟨⟨h5,by rw [h5];rfl⟩,h0,by omega⟩
    ·exact Or.inl (Or.inr ⟨⟨h5,by rw [h5];rfl⟩,by omega⟩)
   ·exact Or.inl (Or.inl ⟨h5,by rw [bne_iff_ne];omega⟩)) with (⟨h5,g5⟩ | ⟨⟨h5,g5⟩,h0⟩) | ⟨⟨h5,g5⟩,h0,g0⟩
  ·go_wp2_with (first
    | (go_at_call 216;refine (HN4.out _ (Below.refl _ _)).mono ?_;rintro e w5 ⟨rfl,hB5⟩;have HB5:=Lib.hid hB5;clear hB5)
    | (go_at_call 215;refine (HF4.out _ HB5.out).mono ?_;rintro e w7 ⟨rfl,hB7⟩;have HB7:=Lib.hid (Bt HB5.out hB7);clear hB7))
   go_ret
   exact ⟨HG.out.transB (HG4.out.trans_below HB7.out),Or.inr ⟨_,by rw [HQ.out,if_neg (fun h=>h5 h.1)];rfl,rfl,trivial,_,_,_,HP4.out.below HB7.out⟩⟩
  ·obtain ⟨rfl,hno⟩:=HI2.out.2 h0
   go_wp2_with (first
    | (go_at_call 216;refine (HN4.out _ (Below.refl _ _)).mono ?_;rintro e w5 ⟨rfl,hB5⟩;have cc5:=(box3k ((hB5.block _ hw4s).trans HK4.out)).1;have HB5:=Lib.hid hB5;clear hB5)
    | (go_at_call 215;refine (HF4.out _ HB5.out).mono ?_;rintro e w7 ⟨rfl,hB7⟩;have HB7:=Lib.hid (Bt HB5.out hB7);clear hB7))
   go_ret
   exact ⟨HG.out.transB (HG4.out.trans_below HB7.out),Or.inr ⟨_,by rw [HQ.out,if_neg (fun h=>by rw [hno] at h;exact absurd h.2 (by decide))];rfl,rfl,trivial,_,_,_,HP4.out.below HB7.out⟩⟩
  ·obtain ⟨hix,hyes⟩:=HI2.out.1 h0
   have HXX:=Lib.hid hix
   clear hix
   go_wp2_with (first
    | (go_at_call 216;refine (HN4.out _ (Below.refl _ _)).mono ?_;rintro e w5 ⟨rfl,hB5⟩;have cc5:=(box3k ((hB5.block _ hw4s).trans HK4.out)).1;have HB5:=Lib.hid hB5;clear hB5)
    | (go_at_call 217;refine (HS4.out _ HB5.out).mono ?_;rintro e w5b ⟨rfl,v5b,hP5,hG5⟩;
        have hk5:=(hG5.block W.heap.size (Nat.lt_of_lt_of_le hw4s HB5.out.size) (by intro e;have:=Option.some.inj e;omega)).trans ((HB5.out.block _ hw4s).trans HK4.out);
        have hw5s:=(Array.getElem?_eq_some_iff.1 hk5).1;
        have HP5:=Lib.hid hP5;have HG5:=Lib.hid ((HG4.out.trans_below HB5.out).transB hG5);have HK5:=Lib.hid hk5;clear hP5 hG5 hk5)
    | (go_at_call 144;refine (is2_any Tess.Prs.wDesc w5b rfl HP5.out).mono ?_;rintro e w6 ⟨b,r6,v6,rfl,hG6,hP6,htd⟩;
        have hk6:=(hG6.block W.heap.size hw5s (by intro e;have:=Option.some.inj e;omega)).trans HK5.out;
        have c6:=(box3k hk6).1;have z6:=(box3k hk6).2 2;
        have HP6:=Lib.hid hP6;have HG6:=Lib.hid (HG5.out.transB hG6);have HTD:=Lib.hid htd;have HK6:=Lib.hid hk6;clear hP6 hG6 htd hk6))
   obtain ⟨W7,hW7⟩:∃ W7,w6.setCell ⟨W.heap.size,2,none⟩ (.bool b)=W7:=⟨_,rfl⟩
   have hG7:=HG6.out.setN (g:=W.heap.size) 2 (.bool b) (Nat.le_refl _)
   have hP7:=HP6.out.set (g:=W.heap.size) 2 (.bool b) (by omega) hpG
   have hk7:(w6.setCell ⟨W.heap.size,2,none⟩ (.bool b)).heap[W.heap.size]? = some (.cells #[.bool false,.int .i64 i,.bool b] 150 (0,0)):=heap_setCell_same _ _ _ _ _ _ HK6.out
   rw [hW7] at hG7 hP7 hk7 ⊢
   obtain ⟨e0,e1,e2⟩:=(box3k hk7).1
   have f13:=hP7.can.1.2.2.2.2.2.2.2.2.2.2.2.2.1
   have h7B:=hP7.lt
   have h7G:=(Array.getElem?_eq_some_iff.1 hk7).1
   have HG7:=Lib.hid hG7
   have HP7:=Lib.hid hP7
   clear hG7 hP7 hk7 hW7
   refine FlowQ.wp_region 8 [8,9,10,11,12] (.pointer (some ⟨B,0,none⟩)) (Flow.specs [.inl undef,.inl ?_,.inl ?_,.inl ?_,.inl ?_,.inl ?_,.inl ?_,.inr (newRow [.bool false,.int .i64 i,.bool b])]) (by kernel_rfl) (by kernel_rfl) ?_ rfl (fun w' _=>by go_simp) ?_
   rotate_left 6
   ·refine Flow.specs_mono ?_
    repeat (first | exact Flow.lmono_nil | refine Flow.lmono_inl ?_ | refine Flow.lmono_inr (newRow_mono _) ?_)
   all_goals try simp only [Nat.reduceSub,List.take_succ_cons,List.take_zero]
   iterate 6 (refine Flow.tree_valK rfl (fun K hK=>⟨fun w hw hG => ?_,?_⟩);(have hcl:=Flow.bcell hw;clear hG hw;unfold Flow.Runs Flow.yields;go_simp;try rfl);go_simp;refine hK _ ?_;clear hK K)
   (refine Flow.tree_varK rfl (fun K hK=>⟨fun w hw hG => ?_,?_⟩);(clear hG hw;unfold Flow.Runs Flow.yields;go_simp;refine ⟨(Below.refl _ _).alloc (Nat.le_refl _) _,?_⟩);rotate_left;intro vz;go_simp;refine hK _ _ ?_;clear hK K;rotate_left)
   ·exact newRow_mk [.bool false,.int .i64 i,.bool b] _ _
   refine Flow.tree_nil fun w8 hw8 hG => ?_
   obtain ⟨gn,rfl,hgn,hcn⟩:=(show newRow [.bool false,.int .i64 i,.bool b] vz w8 by simpa [Flow.upd] using hG 7)
   have HW8:=Lib.hid hw8
   have HCN:=Lib.hid hcn
   have hw8s:=hw8.size
   clear hG hw8 hcn
   refine ⟨?_,?_⟩
   all_goals
    go_wp2_with (at_builtin;refine wpList_append_own _ rfl _ _ 33 rfl w0.heap.size 150 i0 (.agg #[.bool false,.int .i64 0,.bool false]) 3 24 Tryz.underlying33 hi hz0 hz1 hz2 rfl (by decide) _ _ _ rfl (owns_below (owns_steady HW.out HG7.out hB) HW8.out) ⟨gn,0,none⟩ 1 1 [.bool false,.int .i64 i,.bool b] rfl rfl ?c1 (by simp [Value.oneCell']) (by unfold maxLen;omega) (by omega) (by omega) ?_)
    case c1=>intro j u hj;rw [show (⟨gn,0,none⟩:Addr).add j=⟨gn,j,none⟩ by unfold Addr.add;split <;> simp_all];exact HCN.out j u hj
    intro v' w9 hown9 hgrow hnil9
    have hown8:=owns_steady HW.out HG7.out hB
    have hrow:∀ j,vb.ownBlock=some j→w0.heap.size≤j:=fun j e=>(hown8.lt j e).1
    have hG9:w0.grownBy w9 (some B):=((HG.out.transB HG7.out).trans_below HW8.out).row hgrow hrow
    have hP9:=(HP7.out.below HW8.out).later hp hB hgrow hrow
    have c9:=hP9.can.1.2.2.2.2.2.2.2.2.2.2.2.2.1
    have z9:=hP9.can.2 13 (by decide)
    have h9s:=hP9.lt
    have HV9:=Lib.hid hown9
    have HG9:=Lib.hid hG9
    have HP9:=Lib.hid hP9
    clear hown9 hgrow hnil9 hG9 hP9 hown8
    obtain ⟨g,cap,rfl⟩:∃ g cap,v' = .slice (some ⟨g,0,none⟩) (acc.length + 1) cap:=by
     rcases HV9.out.2 with ⟨_,h0⟩ | ⟨g,cap,cur,hv,_⟩
     ·omega
     ·exact ⟨g,cap,hv⟩
    go_wp2
    refine ⟨rfl,?_⟩
    go_wp2
    go_ret
    refine ⟨HG9.out.transB (grB_set _ _ _ _ h9s),Or.inl ⟨⟨false,i,b⟩,r6,_,_,by rw [HQ.out,if_pos ⟨h5,hyes⟩,← HXX.out];exact keyEnd_told HTD.out,rfl,HP9.out.put 13 _ rfl rfl,⟨_,rfl,?_,fun e=>by simp at e⟩⟩⟩
    have:=ownsRow_setCell_below HV9.out (a:=⟨B,13,none⟩) (by show B < w0.heap.size;exact hB) (.slice (some ⟨g,0,none⟩) (acc.length + 1) cap)
    rw [List.length_append,List.flatMap_append]
    exact this
end Go.Proofs.YtbbgjjjeecfnoaaGreatDoor
