/- Joined by mergeQ.py: Q12, Q13, Q14 -/
import Derived.Test.YtbbgjjjeecfnoaaGreatDoorXQ11
import Derived.Test.YtbbgjjjeecfnoaaGreatDoorXFB
import Derived.Maps.AppendAt
namespace Go.Proofs.YtbbgjjjeecfnoaaGreatDoor
open Go.RowKit Go.Sort
open Tess (Fil Tok Prs.next Prs.skip Prs.isT Prs.Endd Prs.Keeps)
structure StEx (N:Nat) (x0 x1 x2 x4 x5 x6 x7 x8 x9 xa xb xc xd:Value) (acc:List (List ByteArray)) (qs:List Value) (W:World):Prop where
 o:∃ vb us,qs=[x0,x1,x2,vb,x4,x5,x6,x7,x8,x9,xa,xb,xc,xd]∧Setl N (fun b=>N≤b∧vb.ownBlock≠some b) W vb us acc∧(acc=[]→vb = .slice none 0 0)∧∀ l ∈ acc,∀ x ∈ l,x.size≤maxLen
theorem Setl.steady {N B:Nat} {q:Nat→Prop} {W W':World} {lv:Value} {us:List Value} {ls:List (List ByteArray)} (h:Setl N q W lv us ls) (hg:W.grownBy W' (some B)) (hB:B < N) (hq:∀ b,q b→N≤b):Setl N q W' lv us ls:=
 ⟨owns_steady h.own hg hB,h.len,fun j hj hj'=>(h.at_ j hj hj').ag (Ag.grown hg fun g e hqg=>by have:=Option.some.inj e;have:=hq g hqg;omega)⟩
theorem StEx.steady {N B:Nat} {x0 x1 x2 x4 x5 x6 x7 x8 x9 xa xb xc xd:Value} {w0:World} (hB:B < N) (acc:List (List ByteArray)):Steady B w0 (StEx N x0 x1 x2 x4 x5 x6 x7 x8 x9 xa xb xc xd acc):=by
 intro qs W W' _ h hg
 obtain ⟨vb,us,h1,h2,h3,h4⟩:=h.o
 exact ⟨vb,us,h1,h2.steady hg hB (fun b hb=>hb.1),h3,h4⟩
section
variable {ts r:List Tok}
theorem set_close (h:Prs.isT [Tess.Prs.wClose] ts=some r):Tess.Prs.set ts = .ok ([],r):=by unfold Tess.Prs.set Tess.Prs.isR;rw [h]
theorem set_more (h:Prs.isT [Tess.Prs.wClose] ts=none):Tess.Prs.set ts=Tess.Prs.bindR (Tess.Prs.names ts) fun l r=>Tess.Prs.must Tess.Prs.wClose r fun r2 => .ok (l,r2):=by unfold Tess.Prs.set Tess.Prs.isR;rw [h]
end
set_option maxRecDepth 100000 in
set_option maxHeartbeats 8000000 in
theorem set_any {p:Nat→Prop} {B:Nat} {x0 x1 x2 x4 x5 x6 x7 x8 x9 xa xb xc xd:Value} {L:Nat} (w0:World) (hp:∀ b,p b→b < w0.heap.size) (hB:B < w0.heap.size) (hL:L≤1000000) :
  Reads 267 #[.pointer (some ⟨B,0,none⟩)] p B w0 Tess.Prs.set (StEx w0.heap.size x0 x1 x2 x4 x5 x6 x7 x8 x9 xa xb xc xd) (fun _=>True) L:=by
 intro acc ts v qs W h he hG hE hlen
 obtain ⟨j0,ji,jz0,jz1,jz2⟩:=info_parts infoSet
 obtain ⟨vb,us,rfl,hset,hnil,hms⟩:=hE.o
 have hl0:0 < ts.length:=List.length_pos_iff.2 h.ne
 have husl:=hset.len
 have hWs:=hG.size
 have hBW:=h.lt
 have HM:=Lib.hid (is1_any Tess.Prs.wClose W h)
 have HG:=Lib.hid hG
 have HW:=Lib.hid hset
 have HMS:=Lib.hid hms
 have HE:=Lib.hid he
 clear hG hset h hE hms he
 go_enter Tryz.func267,Tryz.ntmps267
 go_wp2_with (first
  | (go_at_call 144;refine HM.out.mono ?_;clear HM;rintro e w2 ⟨hG2,⟨r,v2,hT,rfl,hP2⟩ | ⟨hT,rfl,v2,hP2⟩⟩ <;>
      (have HG2:=Lib.hid hG2;have HP2:=Lib.hid hP2;have HT:=Lib.hid hT;have f4:=hP2.can.1.2.2.2.1;have f4z:=hP2.can.2 4 (by decide);have h2B:=hP2.lt;have h2s:=hG2.size;clear hG2 hP2 hT))
  | (go_at_call 266;refine (names_any _ HP2.out HE.out (by omega)).mono ?_;rintro e w3 ⟨hG3,⟨l,r3,v3,va,hnm,rfl,hP3,hva,hls⟩ | ⟨k,y,n,c,hnm,rfl,ts3,v3,qs3,hP3⟩⟩ <;>
      (try obtain ⟨ya,yn,yc,rfl⟩:=hva.shape
       have HG3:=Lib.hid (HG2.out.transB hG3);have HG3':=Lib.hid hG3;have HP3:=Lib.hid hP3;have HNM:=Lib.hid hnm;clear hG3 hP3 hnm))
  | (go_at_call 140;refine (must1_any Tess.Prs.wClose _ HP3.out).mono ?_;rintro e w4 ⟨hG4,⟨r4,v4,hT4,rfl,hP4⟩ | ⟨hT4,rfl,v4,hP4⟩⟩ <;>
      (have HG4:=Lib.hid (HG3.out.transB hG4);have HP4:=Lib.hid hP4;have HT4:=Lib.hid hT4;have f4:=hP4.can.1.2.2.2.1;have f4z:=hP4.can.2 4 (by decide);have h4B:=hP4.lt;have h4s:=hG4.size;have h3s:=HG3'.out.size;have HVA:=Lib.hid (hva.ag (Ag.grown hG4 fun g e=>by have:=Option.some.inj e;show ¬ (w2.heap.size≤g);omega));clear hG4 hP4 hT4))
  | (at_builtin;first
      | (refine wpList_append_own_at _ rfl _ _ 26 rfl w0.heap.size 22 j0 _ 1 24 Tryz.underlying26 ji jz0 jz1 jz2 rfl (by decide) _ us.length _ rfl (owns_below (HW.out.steady HG4.out hB (fun b hb=>hb.1)).own ((Below.refl _ _).alloc (Nat.le_refl _) _)) ⟨w4.heap.size,0,none⟩ 1 1 [.slice ya yn yc] rfl rfl (cell_one_new _ _ _) (by simp [Value.oneCell']) (by unfold maxLen;omega) (by omega) ?c2b ?_)
      | (refine wpList_append_own_at _ rfl _ _ 26 rfl w0.heap.size 22 j0 _ 1 24 Tryz.underlying26 ji jz0 jz1 jz2 rfl (by decide) _ us.length _ rfl (owns_below (HW.out.steady HG2.out hB (fun b hb=>hb.1)).own ((Below.refl _ _).alloc (Nat.le_refl _) _)) ⟨w2.heap.size,0,none⟩ 1 1 [.slice none 0 0] rfl rfl (cell_one_new _ _ _) (by simp [Value.oneCell']) (by unfold maxLen;omega) (by omega) ?c2 ?_)))
 case c2=>have:=HG.out.size;have:=HG2.out.size;simp;omega
 case c2b=>have:=HG.out.size;have:=HG4.out.size;simp;omega
 ·have hs':=(HW.out.steady HG2.out hB (fun b hb=>hb.1))
  have h1s:=HG.out.size
  have h2s':=HG2.out.size
  intro v' w9 hown9 hgrow _ hloc
  rw [← husl] at hown9
  rw [show w2.heap.size + 1=(w2.alloc (.cells #[.slice none 0 0] 22)).heap.size by simp] at hloc
  have hrow:∀ j,vb.ownBlock=some j→w0.heap.size≤j∧j < w2.heap.size:=fun j e=>hs'.own.lt j e
  have hS9:=Setl.more (L:=w2.heap.size) (x:=.slice none 0 0) (l:=[]) (hs'.below ((Below.refl _ _).alloc (Nat.le_refl _) (.cells #[.slice none 0 0] 22))) (SlP.nil _ _) (fun g e=>(hrow g e).2) (by omega) hown9 hgrow hloc
  have hG9:w0.grownBy w9 (some B):=(((HG.out.transB HG2.out).trans_below ((Below.refl _ _).alloc (Nat.le_refl _) _)).row hgrow (fun j e=>(hrow j e).1))
  have hP9:=(HP2.out.below ((Below.refl _ _).alloc (Nat.le_refl _) _)).later hp hB hgrow (fun j e=>(hrow j e).1)
  have c9:=hP9.can.1.2.2.2.1
  have z9:=hP9.can.2 4 (by decide)
  have h9s:=hP9.lt
  have HV9:=Lib.hid hown9
  have HS9:=Lib.hid hS9
  have HG9:=Lib.hid hG9
  have HP9:=Lib.hid hP9
  clear hown9 hgrow hloc hG9 hP9 hs' hS9 f4 f4z
  obtain ⟨g,cap,rfl⟩:∃ g cap,v' = .slice (some ⟨g,0,none⟩) (acc.length + 1) cap:=by
   rw [← husl]
   rcases HV9.out.2 with ⟨_,h0⟩ | ⟨g,cap,cur,hv,_⟩
   ·omega
   ·exact ⟨g,cap,hv⟩
  go_wp2
  go_ret
  refine ⟨HG9.out.transB (grB_set _ _ _ _ h9s),Or.inl ⟨[],r,_,_,set_close HT.out,rfl,HP9.out.put 4 _ rfl rfl,⟨_,us ++ [.slice none 0 0],rfl,HS9.out.set hB (fun b hb=>hb.1) _,(fun e=>by simp at e),fun l hl => ?_⟩⟩⟩
  rcases List.mem_append.1 hl with hl | hl
  ·exact HMS.out l hl
  ·rw [List.mem_singleton] at hl;subst hl;exact (fun x hx=>by cases hx)
 ·have hs':=(HW.out.steady HG4.out hB (fun b hb=>hb.1))
  have h1s:=HG.out.size
  have h2s':=HG4.out.size
  intro v' w9 hown9 hgrow _ hloc
  rw [← husl] at hown9
  rw [show w4.heap.size + 1=(w4.alloc (.cells #[.slice ya yn yc] 22)).heap.size by simp] at hloc
  have hrow:∀ j,vb.ownBlock=some j→w0.heap.size≤j∧j < w4.heap.size:=fun j e=>hs'.own.lt j e
  have hS9:=Setl.more (L:=w2.heap.size) (x:=.slice ya yn yc) (l:=l) (hs'.below ((Below.refl _ _).alloc (Nat.le_refl _) (.cells #[.slice ya yn yc] 22))) (HVA.out.ag (Ag.new _ ((Below.refl _ _).alloc (Nat.le_refl _) _))) (fun g e=>((HW.out.steady HG2.out hB (fun b hb=>hb.1)).own.lt g e).2) (by omega) hown9 hgrow hloc
  have hG9:w0.grownBy w9 (some B):=(((HG.out.transB HG4.out).trans_below ((Below.refl _ _).alloc (Nat.le_refl _) _)).row hgrow (fun j e=>(hrow j e).1))
  have hP9:=(HP4.out.below ((Below.refl _ _).alloc (Nat.le_refl _) _)).later hp hB hgrow (fun j e=>(hrow j e).1)
  have c9:=hP9.can.1.2.2.2.1
  have z9:=hP9.can.2 4 (by decide)
  have h9s:=hP9.lt
  have HV9:=Lib.hid hown9
  have HS9:=Lib.hid hS9
  have HG9:=Lib.hid hG9
  have HP9:=Lib.hid hP9
  clear hown9 hgrow hloc hG9 hP9 hs' hS9 f4 f4z
  obtain ⟨g,cap,rfl⟩:∃ g cap,v' = .slice (some ⟨g,0,none⟩) (acc.length + 1) cap:=by
   rw [← husl]
   rcases HV9.out.2 with ⟨_,h0⟩ | ⟨g,cap,cur,hv,_⟩
   ·omega
   ·exact ⟨g,cap,hv⟩
  go_wp2
  go_ret
  refine ⟨HG9.out.transB (grB_set _ _ _ _ h9s),Or.inl ⟨l,r4,_,_,by rw [set_more HT.out,bindR_ok HNM.out,must_ok HT4.out],rfl,HP9.out.put 4 _ rfl rfl,⟨_,us ++ [.slice ya yn yc],rfl,HS9.out.set hB (fun b hb=>hb.1) _,(fun e=>by simp at e),fun l hl => ?_⟩⟩⟩
  rcases List.mem_append.1 hl with hl | hl
  ·exact HMS.out l hl
  ·rw [List.mem_singleton] at hl;subst hl;exact hls
 ·go_ret
  exact ⟨HG.out.transB HG4.out,Or.inr ⟨_,by rw [set_more HT.out,bindR_ok HNM.out,must_no HT4.out],rfl,trivial,_,_,_,HP4.out⟩⟩
 ·go_ret
  exact ⟨HG.out.transB HG3.out,Or.inr ⟨k,by rw [set_more HT.out,bindR_err HNM.out],rfl,trivial,_,_,_,HP3.out⟩⟩
end Go.Proofs.YtbbgjjjeecfnoaaGreatDoor
namespace Go.Proofs.YtbbgjjjeecfnoaaGreatDoor
open Go.RowKit Go.Sort
open Tess (Fil Tok Prs.next Prs.skip Prs.isT Prs.Endd Prs.Keeps)
section
variable {ts r r2 r3 r4:List Tok} {l:List ByteArray}
theorem by_err {k:Nat} (h:Tess.Prs.names ts = .error k):Tess.Prs.by_ ts = .error k:=by unfold Tess.Prs.by_;rw [bindR_err h]
theorem by_cube (h:Tess.Prs.names ts = .ok (l,r)) (h1:Prs.isT [Tess.Prs.wCube] r=some r2):Tess.Prs.by_ ts = .ok ((l,2,[]),r2):=by
 unfold Tess.Prs.by_ Tess.Prs.isR;rw [bindR_ok h,h1]
theorem by_rollup (h:Tess.Prs.names ts = .ok (l,r)) (h1:Prs.isT [Tess.Prs.wCube] r=none) (h2:Prs.isT [Tess.Prs.wRollup] r=some r2):Tess.Prs.by_ ts = .ok ((l,3,[]),r2):=by
 unfold Tess.Prs.by_ Tess.Prs.isR;rw [bindR_ok h,h1];simp only;rw [h2]
theorem by_plain (h:Tess.Prs.names ts = .ok (l,r)) (h1:Prs.isT [Tess.Prs.wCube] r=none) (h2:Prs.isT [Tess.Prs.wRollup] r=none) (h3:Prs.isT [Tess.Prs.wSets] r=none):Tess.Prs.by_ ts = .ok ((l,1,[]),r):=by
 unfold Tess.Prs.by_ Tess.Prs.isR;rw [bindR_ok h,h1];simp only;rw [h2];simp only;rw [h3]
theorem by_sets (h:Tess.Prs.names ts = .ok (l,r)) (h1:Prs.isT [Tess.Prs.wCube] r=none) (h2:Prs.isT [Tess.Prs.wRollup] r=none) (h3:Prs.isT [Tess.Prs.wSets] r=some r2) :
  Tess.Prs.by_ ts=Tess.Prs.must Tess.Prs.wOpen r2 fun r3=>Tess.Prs.bindR (Tess.Prs.list Tess.Prs.wOpen Tess.Prs.set r3.length r3) fun s r4 => .ok ((l,4,s),r4):=by
 unfold Tess.Prs.by_ Tess.Prs.isR;rw [bindR_ok h,h1];simp only;rw [h2];simp only;rw [h3]
end
theorem PsAt.some_ {p:Nat→Prop} {B:Nat} {ts:List Tok} {v:Value} {qs:List Value} {w:World} (h:PsAt p B ts v qs w) (i:Nat) (hi:i < 15):∃ x,w.cell? ⟨B,i,none⟩=some x:=by
 have hn:=h.n
 have:=cell_of_row w B i _ _ _ h.k
 rw [this]
 exact ⟨(v :: qs)[i]'(by simp;omega),by simp⟩
theorem PsAt.putAt {p:Nat→Prop} {B:Nat} {ts:List Tok} {v:Value} {qs:List Value} {w:World} (h:PsAt p B ts v qs w) (i:Nat) (y:Value):PsAt p B ts v (qs.set i y) (w.setCell ⟨B,i + 1,none⟩ y):=
 h.put (i + 1) y (by simp) (by rw [List.length_set];exact h.n)
theorem is3_any {p:Nat→Prop} {B:Nat} {ts:List Tok} {v:Value} {qs:List Value} (x:ByteArray) {c:Nat} (w:World) (hc:c=w.heap.size) (h:PsAt p B ts v qs w) :
  Calls Tryz.prog 144 #[.pointer (some ⟨B,0,none⟩),.slice (some ⟨c,0,none⟩) 1 1] (w.alloc (.cells #[.string x] 9)) fun e w'=>w.grownBy w' (some B) ∧
   ((∃ r v',Prs.isT [x] ts=some r∧e = .returned (.bool true)∧PsAt p B r v' qs w')∨(Prs.isT [x] ts=none∧e = .returned (.bool false)∧∃ v',PsAt p B ts v' qs w')):=by
 subst hc
 exact is1_any x w h
theorem _root_.Go.SlP.grB {N B:Nat} {w w':World} {v:Value} {cs:List Value} (h:SlP (fun b=>N≤b) w v cs) (hg:w.grownBy w' (some B)) (hB:B < N):SlP (fun b=>N≤b) w' v cs:=h.ag (Ag.grown hg fun g e=>by have:=Option.some.inj e;omega)
set_option maxRecDepth 100000 in
set_option maxHeartbeats 8000000 in
theorem by_any {p:Nat→Prop} {B:Nat} {ts:List Tok} {v x0 x1 x4 x5 x6 x7 x8 x9 xa xb xc xd:Value} (w:World) (h:PsAt p B ts v [x0,x1,.int .i64 1,.slice none 0 0,x4,x5,x6,x7,x8,x9,xa,xb,xc,xd] w) (he:Prs.Endd ts) (hL:ts.length≤1000000) :
  Calls Tryz.prog 218 #[.pointer (some ⟨B,0,none⟩)] w fun e w'=>w.grownBy w' (some B) ∧
   ((∃ names mode sets r v' vb vs,Tess.Prs.by_ ts = .ok ((names,mode,sets),r)∧e = .returned .nilIface∧PsAt p B r v' [x0,vb,.int .i64 mode,vs,x4,x5,x6,x7,x8,x9,xa,xb,xc,xd] w'∧SlP (fun b=>w.heap.size≤b) w' vb (names.map .string)∧(∀ x ∈ names,x.size≤maxLen)∧SetsAt (fun b=>w.heap.size≤b) w' vs sets) ∨
    (∃ k,Tess.Prs.by_ ts = .error k∧e = .returned (errF k)∧∃ ts' v' qs',PsAt p B ts' v' qs' w')):=by
 have hlt:=h.lt
 have hb:=h.b
 have HN:=Lib.hid (names_any w h he hL)
 have HE:=Lib.hid he
 have HBN:=Lib.hid hb
 clear h he hb
 go_enter Tryz.func218,Tryz.ntmps218
 go_wp2_with (first
  | (go_at_call 266;refine HN.out.mono ?_;clear HN;rintro e w2 ⟨hG2,⟨l,r,v2,va,hnm,rfl,hP2,hva,hls⟩ | ⟨k,y,n,c,hnm,rfl,ts2,v2,qs2,hP2⟩⟩ <;> first
        | (obtain ⟨ya,yn,yc,rfl⟩:=hva.shape
           have f2:=hP2.can.1.2.1
           have f2z:=hP2.can.2 2 (by decide)
           have h2B:=hP2.lt
           have HG3:=Lib.hid (hG2.transB (grB_set w2 B 2 (.slice ya yn yc) h2B));have HP3:=Lib.hid (hP2.put 2 (.slice ya yn yc) rfl rfl);have HNM:=Lib.hid hnm;have HVA:=Lib.hid (hva.grB (grB_set w2 B 2 (.slice ya yn yc) h2B) hlt);clear hG2 hP2 hnm hva)
        | (obtain ⟨f2x,f2⟩:=hP2.some_ 2 (by decide)
           have f2z:=frozen_of_row w2 B 2 _ _ hP2.k
           have h2B:=hP2.lt
           have HG3:=Lib.hid (hG2.transB (grB_set w2 B 2 (.slice y n c) h2B));have HP2:=Lib.hid (hP2.putAt 1 (.slice y n c));have HNM:=Lib.hid hnm;clear hG2 hP2 hnm))
  | (go_at_call 144;refine (is3_any Tess.Prs.wCube (w2.setCell ⟨B,2,none⟩ (.slice ya yn yc)) (by rw [setSize]) HP3.out).mono ?_;rintro e w4 ⟨hGx,⟨rx,vx,hT,rfl,hPx⟩ | ⟨hT,rfl,vx,hPx⟩⟩ <;>
        (have f3:=hPx.can.1.2.2.1;have f3z:=hPx.can.2 3 (by decide);have hxB:=hPx.lt;have HP4:=Lib.hid hPx;have HG4:=Lib.hid (HG3.out.transB hGx);have HT4:=Lib.hid hT;have HVA:=Lib.hid (HVA.out.grB hGx hlt);clear hGx hPx hT HP3))
  | (go_at_call 144;refine (is3_any Tess.Prs.wRollup _ rfl HP4.out).mono ?_;rintro e w5 ⟨hGx,⟨rx,vx,hT,rfl,hPx⟩ | ⟨hT,rfl,vx,hPx⟩⟩ <;>
        (have f3:=hPx.can.1.2.2.1;have f3z:=hPx.can.2 3 (by decide);have hxB:=hPx.lt;have HP5:=Lib.hid hPx;have HG5:=Lib.hid (HG4.out.transB hGx);have HT5:=Lib.hid hT;have HVA:=Lib.hid (HVA.out.grB hGx hlt);clear hGx hPx hT HP4))
  | (go_at_call 144;refine (is3_any Tess.Prs.wSets _ rfl HP5.out).mono ?_;rintro e w6 ⟨hGx,⟨rx,vx,hT,rfl,hPx⟩ | ⟨hT,rfl,vx,hPx⟩⟩ <;>
        (have f3:=hPx.can.1.2.2.1;have f3z:=hPx.can.2 3 (by decide);have hxB:=hPx.lt;have HP6:=Lib.hid hPx;have HG6:=Lib.hid (HG5.out.transB hGx);have HT6:=Lib.hid hT;have HVA:=Lib.hid (HVA.out.grB hGx hlt);clear hGx hPx hT HP5))
  | (go_at_call 140;refine (must2_any Tess.Prs.wOpen (w6.setCell ⟨B,3,none⟩ (.int .i64 4)) (by rw [setSize]) (HP6.out.put 3 (.int .i64 4) rfl rfl)).mono ?_;rintro e w7 ⟨hG7,⟨r7,v7,hT7,rfl,hP7⟩ | ⟨hT7,rfl,v7,hP7⟩⟩ <;>
        (have HG7:=Lib.hid ((HG6.out.transB (grB_set w6 B 3 (.int .i64 4) hxB)).transB hG7);have HP7:=Lib.hid hP7;have HT7:=Lib.hid hT7;have HVA:=Lib.hid ((HVA.out.grB (grB_set w6 B 3 (.int .i64 4) hxB) hlt).grB hG7 hlt);clear hG7 hP7 hT7)))
 ·go_ret
  exact ⟨HG4.out.transB (grB_set w4 B 3 _ hxB),Or.inl ⟨l,2,[],rx,vx,.slice ya yn yc,.slice none 0 0,by_cube HNM.out HT4.out,rfl,HP4.out.put 3 _ rfl rfl,HVA.out.grB (grB_set w4 B 3 _ hxB) hlt,hls,SetsAt.nil _ _⟩⟩
 ·go_ret
  exact ⟨HG5.out.transB (grB_set w5 B 3 _ hxB),Or.inl ⟨l,3,[],rx,vx,.slice ya yn yc,.slice none 0 0,by_rollup HNM.out HT4.out HT5.out,rfl,HP5.out.put 3 _ rfl rfl,HVA.out.grB (grB_set w5 B 3 _ hxB) hlt,hls,SetsAt.nil _ _⟩⟩
 ·have k1:=Tess.Prs.names_keeps ts l _ HE.out HNM.out
  have k2:=k1.1.isT HT6.out
  have k3:=k2.1.isT HT7.out
  have hl1:=k1.2.length_le
  have hB7:=HP7.out.lt
  have h7s:=HG7.out.size
  have HM:=Lib.hid (list_set (p:=fun b=>p b∧b < w7.heap.size) Tess.Prs.wOpen Tess.Prs.set (StEx w7.heap.size x0 (.slice ya yn yc) (.int .i64 4) x4 x5 x6 x7 x8 x9 xa xb xc xd) (fun _=>True) 1000000 w7 w7
   HP7.out.ltP k3.1 Tess.Prs.set_keeps (grB_refl w7 B) ⟨_,[],rfl,⟨World.ownsRow_nil _ _ _ _,rfl,fun j hj=>absurd hj (Nat.not_lt_zero _)⟩,fun _=>rfl,fun l hl=>by cases hl⟩ (by have:=k2.2.1;have:=k3.2.1;omega) (StEx.steady hB7) (set_any w7 (fun b hb=>hb.2) hB7 (Nat.le_refl _)))
  have HBY:=Lib.hid ((by_sets HNM.out HT4.out HT5.out HT6.out).trans (must_ok HT7.out))
  clear k1 k2 k3 hl1
  go_wp2_with (
   go_at_call 141;refine HM.out.mono ?_;clear HM;rintro e w8 ⟨hG8,⟨ss,r8,v8,qs8,hl8,rfl,hP8,hE8⟩ | ⟨k,hl8,rfl,_,ts8,v8,qs8,hP8⟩⟩ <;>
    (have HG8:=Lib.hid hG8;have HP8:=Lib.hid (hP8.weak (fun b hb=>hb.1) HBN.out);have HL8:=Lib.hid hl8;clear hG8 hP8 hl8))
  ·go_ret
   obtain ⟨vb,us,rfl,hset,hnil,hms⟩:=hE8.o
   refine ⟨HG7.out.transB HG8.out,Or.inl ⟨l,4,ss,r8,v8,.slice ya yn yc,vb,by rw [HBY.out,bindR_ok HL8.out],rfl,HP8.out,HVA.out.grB HG8.out hlt,hls,?_⟩⟩
   refine hset.listed (fun b hb=>Nat.le_trans h7s hb.1) (fun b hb=>Nat.le_trans h7s hb) hms ?_ hnil
   rw [← hset.len]
   rcases hset.own.2 with ⟨_,h0⟩ | ⟨g,cap,cur,_,_,_,h1,h2,_⟩
   ·omega
   ·omega
  ·go_ret
   exact ⟨HG7.out.transB HG8.out,Or.inr ⟨k,by rw [HBY.out,bindR_err HL8.out],rfl,_,_,_,HP8.out⟩⟩
 ·go_ret
  exact ⟨HG7.out,Or.inr ⟨_,by rw [by_sets HNM.out HT4.out HT5.out HT6.out,must_no HT7.out],rfl,_,_,_,HP7.out⟩⟩
 ·go_ret
  exact ⟨HG6.out,Or.inl ⟨l,1,[],_,vx,.slice ya yn yc,.slice none 0 0,by_plain HNM.out HT4.out HT5.out HT6.out,rfl,HP6.out,HVA.out,hls,SetsAt.nil _ _⟩⟩
 ·go_ret
  exact ⟨HG3.out,Or.inr ⟨k,by_err HNM.out,rfl,_,_,_,HP2.out⟩⟩
end Go.Proofs.YtbbgjjjeecfnoaaGreatDoor
namespace Go.Proofs.YtbbgjjjeecfnoaaGreatDoor
open Go.RowKit Go.Sort
open Tess (Fil Tok Prs.next Prs.skip Prs.isT Prs.Endd Prs.Keeps)
theorem box6k {W:World} {G:Nat} {t:TypeId} {y0 y1 y2 y3 y4 y5:Value} (h:W.heap[G]? = some (.cells #[y0,y1,y2,y3,y4,y5] t (0,0))) :
  (W.cell? ⟨G,0,none⟩=some y0∧W.cell? ⟨G,1,none⟩=some y1∧W.cell? ⟨G,2,none⟩=some y2∧W.cell? ⟨G,3,none⟩=some y3∧W.cell? ⟨G,4,none⟩=some y4∧W.cell? ⟨G,5,none⟩=some y5)∧∀ i,W.frozen? ⟨G,i,none⟩=false:=
 ⟨⟨cell_of_row _ _ 0 _ _ _ h,cell_of_row _ _ 1 _ _ _ h,cell_of_row _ _ 2 _ _ _ h,cell_of_row _ _ 3 _ _ _ h,cell_of_row _ _ 4 _ _ _ h,cell_of_row _ _ 5 _ _ _ h⟩,fun i=>frozen_of_row _ _ i _ _ h⟩
structure WdF (N B:Nat) (c0:Int) (nm:ByteArray) (va:Value) (W:World):Prop where
 r:W.heap[N]? = some (.cells #[.int .i64 0,.string ⟨#[]⟩,.slice none 0 0,.int .i64 0,.int .i64 0,.slice none 0 0] 31 (0,0))
 f:W.heap[N + 1]? = some (.cells #[.int .i64 c0,.string nm,va,.int .i64 0,.int .i64 0,.slice none 0 0] 31 (0,0))
 a:W.heap[N + 2]? = some (.cells #[.pointer (some ⟨B,0,none⟩)] 124 (0,0))
 b:W.heap[N + 3]? = some (.cells #[.pointer (some ⟨N + 1,0,none⟩)] 398 (0,0))
structure WdEx (N B:Nat) (c0:Int) (nm:ByteArray) (qs0:List Value) (acc:List ByteArray) (qs:List Value) (W:World):Prop where
 q:qs=qs0
 o:∃ va,WdF N B c0 nm va W∧W.ownsRow (N + 4) 9 1 va acc.length (acc.map .string)∧(acc=[]→va = .slice none 0 0)
 s:∀ x ∈ acc,x.size≤maxLen
section
variable {N B:Nat} {c0:Int} {nm:ByteArray} {va:Value} {W W':World}
theorem WdF.lt (h:WdF N B c0 nm va W):N + 3 < W.heap.size:=(Array.getElem?_eq_some_iff.1 h.b).1
theorem WdF.step (h:WdF N B c0 nm va W) {row:Option Nat} (hg:W.grownBy W' row) (hr:∀ j,row=some j→j < N∨N + 4≤j):WdF N B c0 nm va W':=
 have:=h.lt
 ⟨(hg.block _ (by omega) (fun e=>by have:=hr _ e.symm;omega)).trans h.r,(hg.block _ (by omega) (fun e=>by have:=hr _ e.symm;omega)).trans h.f,(hg.block _ (by omega) (fun e=>by have:=hr _ e.symm;omega)).trans h.a,(hg.block _ (by omega) (fun e=>by have:=hr _ e.symm;omega)).trans h.b⟩
theorem WdF.stepB (h:WdF N B c0 nm va W) (hg:W.grownBy W' (some B)) (hB:B < N):WdF N B c0 nm va W':=h.step hg fun j e=>Or.inl (by have:=Option.some.inj e;omega)
theorem WdF.words (h:WdF N B c0 nm va W) (y:Value):WdF N B c0 nm y (W.setCell ⟨N + 1,2,none⟩ y):=
 ⟨(heap_setCell_other _ _ _ _ (by show N≠N + 1;omega)).trans h.r,heap_setCell_same _ _ _ _ _ _ h.f,(heap_setCell_other _ _ _ _ (by show N + 2≠N + 1;omega)).trans h.a,(heap_setCell_other _ _ _ _ (by show N + 3≠N + 1;omega)).trans h.b⟩
theorem WdF.kind (h:WdF N B c0 nm va W) (k:Int):WdF N B k nm va (W.setCell ⟨N + 1,0,none⟩ (.int .i64 k)):=
 ⟨(heap_setCell_other _ _ _ _ (by show N≠N + 1;omega)).trans h.r,heap_setCell_same _ _ _ _ _ _ h.f,(heap_setCell_other _ _ _ _ (by show N + 2≠N + 1;omega)).trans h.a,(heap_setCell_other _ _ _ _ (by show N + 3≠N + 1;omega)).trans h.b⟩
theorem WdEx.steady {qs0:List Value} {w0:World} (hB:B < N) (acc:List ByteArray):Steady B w0 (WdEx N B c0 nm qs0 acc):=by
 intro qs W W' _ h hg
 obtain ⟨va,h1,h2,h3⟩:=h.o
 exact ⟨h.q,⟨va,h1.stepB hg hB,owns_steady h2 hg (by omega),h3⟩,h.s⟩
end
set_option maxRecDepth 100000 in
theorem words_any (B F:Nat) (w:World):Calls Tryz.prog 324 #[.pointer (some ⟨B,0,none⟩),.pointer (some ⟨F,0,none⟩)] w fun e w'=>
  e = .returned (.func (.func 345) #[] #[.pointer (some ⟨w.heap.size,0,none⟩),.pointer (some ⟨w.heap.size + 1,0,none⟩)])∧(w.alloc (.cells #[.pointer (some ⟨B,0,none⟩)] 124)).alloc (.cells #[.pointer (some ⟨F,0,none⟩)] 398)=w':=by
 go_enter Tryz.func324,Tryz.ntmps324
 go_wp2
 go_ret
 exact ⟨rfl,rfl⟩
set_option maxRecDepth 100000 in
set_option maxHeartbeats 8000000 in
theorem words1_any {p:Nat→Prop} {B:Nat} {c0:Int} {nm:ByteArray} {qs0:List Value} {L:Nat} (w0:World) (hp:∀ b,p b→b < w0.heap.size) (hB:B < w0.heap.size) (hL:L≤1000000) :
  Reads 345 #[.pointer (some ⟨w0.heap.size + 2,0,none⟩),.pointer (some ⟨w0.heap.size + 3,0,none⟩)] p B w0 (Tess.Prs.take 4) (WdEx w0.heap.size B c0 nm qs0) (fun W => ∃ x n c,WdF w0.heap.size B c0 nm (.slice x n c) W) L:=by
 intro acc ts v qs W h _ hG hE hlen
 obtain ⟨i0,hi,hz0,hz1,hz2⟩:=info_parts infoStr
 obtain ⟨rfl,⟨va,hf,hown,hnil⟩,hsz⟩:=hE
 have hWs:=hG.size
 have hl0:0 < ts.length:=List.length_pos_iff.2 h.ne
 have hNW:=hf.lt
 have c1:=cell_of_row W (w0.heap.size + 2) 0 _ _ _ hf.a
 simp only [List.getElem?_toArray,List.getElem?_cons_zero] at c1
 have HT:=Lib.hid (take1_any 4 W h)
 have HG:=Lib.hid hG
 have HW:=Lib.hid hown
 have HF:=Lib.hid hf
 clear hG hown h hf
 go_enter Tryz.func345,Tryz.ntmps345
 go_wp2_with (
  go_at_call 145;refine HT.out.mono ?_;rintro e w2 ⟨y0,y1,y2,y3,y4,err,r,v2,rfl,hP2,hG2,hx3,hres⟩;have HP2:=Lib.hid hP2;have HG2:=Lib.hid hG2;have HR:=Lib.hid hres;clear hP2 hG2 hres)
 obtain ⟨W3,hW3⟩:∃ W3,w2.alloc (.cells #[.int .i64 y0,.int .i64 y1,.int .i64 y2,.string y3,.int .i64 y4] 128)=W3:=⟨_,rfl⟩
 obtain ⟨t0,tS,tB⟩:=laid1 w2 (.cells #[.int .i64 y0,.int .i64 y1,.int .i64 y2,.string y3,.int .i64 y4] 128)
 rw [hW3] at t0 tS tB ⊢
 have hf3:=HF.out.stepB (HG2.out.trans_below tB) hB
 have e3:=(can5 t0).1.2.2.2.1
 have e2:=(box6k hf3.f).1.2.2.1
 have k1:=cell_of_row W3 (w0.heap.size + 3) 0 _ _ _ hf3.b
 simp only [List.getElem?_toArray,List.getElem?_cons_zero] at k1
 have h3s:=hf3.lt
 have h3t:w2.heap.size < W3.heap.size:=by omega
 have h3F:w0.heap.size + 1 < W3.heap.size:=by omega
 have HF3:=Lib.hid hf3
 have HP3:=Lib.hid (HP2.out.below tB)
 have HG3:=Lib.hid (HG2.out.trans_below tB)
 clear hW3 t0 tS tB hf3
 refine FlowQ.wp_region 8 [8,9,10,11] (.pointer (some ⟨w0.heap.size + 1,0,none⟩)) (Flow.specs [.inl undef,.inl ?_,.inl ?_,.inl ?_,.inl ?_,.inl ?_,.inl ?_,.inr (newRow [.string y3])]) (by kernel_rfl) (by kernel_rfl) ?_ rfl (fun w' hw=>by have hcl:=Flow.bcell hw;clear hw;go_simp) ?_
 rotate_left 6
 ·refine Flow.specs_mono ?_
  repeat (first | exact Flow.lmono_nil | refine Flow.lmono_inl ?_ | refine Flow.lmono_inr (newRow_mono _) ?_)
 all_goals try simp only [Nat.reduceSub,List.take_succ_cons,List.take_zero]
 iterate 6 (refine Flow.tree_valK rfl (fun K hK=>⟨fun w hw hG => ?_,?_⟩);(have hcl:=Flow.bcell hw;clear hG hw;unfold Flow.Runs Flow.yields;go_simp;try rfl);go_simp;refine hK _ ?_;clear hK K)
 (refine Flow.tree_varK rfl (fun K hK=>⟨fun w hw hG => ?_,?_⟩);(clear hG hw;unfold Flow.Runs Flow.yields;go_simp;refine ⟨(Below.refl _ _).alloc (Nat.le_refl _) _,?_⟩);rotate_left;intro vz;go_simp;refine hK _ _ ?_;clear hK K;rotate_left)
 ·exact newRow_mk _ _ _
 refine Flow.tree_nil fun w8 hw8 hG => ?_
 obtain ⟨gn,rfl,hgn,hcn⟩:=(show newRow [.string y3] vz w8 by simpa [Flow.upd] using hG 7)
 have HW8:=Lib.hid hw8
 have HCN:=Lib.hid hcn
 have hw8s:=hw8.size
 clear hG hw8 hcn
 refine ⟨?_,?_⟩
 all_goals
  have k8:=(HW8.out.cell (p:=⟨w0.heap.size + 3,0,none⟩) (by show w0.heap.size + 3 < _;omega)).trans k1
  go_wp2_with (at_builtin;refine wpList_append_own _ rfl _ _ 22 rfl (w0.heap.size + 4) 9 i0 (.string ByteArray.empty) 1 16 Tryz.underlying22 hi hz0 hz1 hz2 rfl (by decide) _ _ _ rfl (owns_below (owns_steady HW.out HG3.out (by omega)) HW8.out) ⟨gn,0,none⟩ 1 1 [.string y3] rfl rfl ?c1 (by simp [Value.oneCell']) (by unfold maxLen;omega) (by omega) (by omega) ?_)
  case c1=>intro j u hj;rw [show (⟨gn,0,none⟩:Addr).add j=⟨gn,j,none⟩ by unfold Addr.add;split <;> simp_all];exact HCN.out j u hj
  intro v' w9 hown9 hgrow hnil9
  have hown8:=owns_steady HW.out HG3.out (by omega)
  have hrow:∀ j,va.ownBlock=some j→w0.heap.size + 4≤j:=fun j e=>(hown8.lt j e).1
  have hG9:w0.grownBy w9 (some B):=((HG.out.transB HG3.out).trans_below HW8.out).row hgrow (fun j e=>by have:=hrow j e;omega)
  have hP9:=(HP3.out.below HW8.out).later hp hB hgrow (fun j e=>by have:=hrow j e;omega)
  have hf9:=(HF3.out.stepB (grB_below HW8.out) hB).step hgrow (fun j e=>Or.inr (hrow j e))
  have c9:=(box6k hf9.f).1.2.2.1
  have z9:=(box6k hf9.f).2 2
  have k9:=cell_of_row w9 (w0.heap.size + 3) 0 _ _ _ hf9.b
  simp only [List.getElem?_toArray,List.getElem?_cons_zero] at k9
  have h9s:=hf9.lt
  have h9F:w0.heap.size + 1 < w9.heap.size:=by omega
  have HV9:=Lib.hid hown9
  have HF9:=Lib.hid hf9
  have HG9:=Lib.hid hG9
  have HP9:=Lib.hid hP9
  clear hown9 hgrow hnil9 hG9 hP9 hown8 hf9
  obtain ⟨g,cap,rfl⟩:∃ g cap,v' = .slice (some ⟨g,0,none⟩) (acc.length + 1) cap:=by
   rcases HV9.out.2 with ⟨_,h0⟩ | ⟨g,cap,cur,hv,_⟩
   ·omega
   ·exact ⟨g,cap,hv⟩
  go_wp2
  refine ⟨rfl,?_⟩
  go_wp2
  go_ret
  have hG10:=HG9.out.setN (g:=w0.heap.size + 1) 2 (.slice (some ⟨g,0,none⟩) (acc.length + 1) cap) (by omega)
  have hP10:=HP9.out.set (g:=w0.heap.size + 1) 2 (.slice (some ⟨g,0,none⟩) (acc.length + 1) cap) (by omega) (fun hq=>by have:=hp _ hq;omega)
  have hf10:=HF9.out.words (.slice (some ⟨g,0,none⟩) (acc.length + 1) cap)
  refine ⟨hG10,?_⟩
  rcases HR.out with ⟨ht,rfl⟩ | ⟨k,ht,rfl⟩
  ·refine Or.inl ⟨y3,r,_,_,ht,rfl,hP10,rfl,⟨_,hf10,?_,fun e=>by simp at e⟩,?_⟩
   ·have:=ownsRow_setCell_below HV9.out (a:=⟨w0.heap.size + 1,2,none⟩) (by show w0.heap.size + 1 < w0.heap.size + 4;omega) (.slice (some ⟨g,0,none⟩) (acc.length + 1) cap)
    rw [List.length_append,List.map_append]
    exact this
   ·intro x hx
    rcases List.mem_append.1 hx with hx | hx
    ·exact hsz x hx
    ·rw [List.mem_singleton] at hx;rw [hx];exact hx3
  ·exact Or.inr ⟨k,ht,rfl,⟨_,_,_,hf10⟩,_,_,_,hP10⟩
end Go.Proofs.YtbbgjjjeecfnoaaGreatDoor
