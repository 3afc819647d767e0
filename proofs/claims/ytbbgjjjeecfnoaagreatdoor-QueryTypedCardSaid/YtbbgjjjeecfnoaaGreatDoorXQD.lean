/- Joined by mergeQ.py: Q15, Q16, Q17 -/
import Derived.Test.YtbbgjjjeecfnoaaGreatDoorXQC
import Derived.Test.YtbbgjjjeecfnoaaGreatDoorXFF
namespace Go.Proofs.YtbbgjjjeecfnoaaGreatDoor
open Go.RowKit Go.Sort
open Tess (Fil Tok Prs.next Prs.skip Prs.isT Prs.Endd Prs.Keeps)
theorem words_at (B F N:Nat) (w:World) (hN:w.heap.size=N + 2):Calls Tryz.prog 324 #[.pointer (some ⟨B,0,none⟩),.pointer (some ⟨F,0,none⟩)] w fun e w'=>
  e = .returned (.func (.func 345) #[] #[.pointer (some ⟨N + 2,0,none⟩),.pointer (some ⟨N + 3,0,none⟩)])∧(w.alloc (.cells #[.pointer (some ⟨B,0,none⟩)] 124)).alloc (.cells #[.pointer (some ⟨F,0,none⟩)] 398)=w':=by
 have h:=words_any B F w
 rw [hN] at h
 exact h
section
variable {ts r r2 r3 r4:List Tok} {nm:ByteArray}
theorem asked_none (h:Prs.isT [Tess.Prs.wNone] ts=some r):Tess.Prs.asked nm ts = .ok (.mk 3 nm [] 0 0 [],r):=by unfold Tess.Prs.asked Tess.Prs.isR;rw [h]
theorem asked_prefix (h:Prs.isT [Tess.Prs.wNone] ts=none) (h2:Prs.isT [Tess.Prs.wPrefix] ts=some r):Tess.Prs.asked nm ts=Tess.Prs.bindR (Tess.Prs.take 4 r) fun w r2 => .ok (.mk 4 nm [w] 0 0 [],r2):=by
 unfold Tess.Prs.asked Tess.Prs.isR;rw [h];simp only;rw [h2];rfl
theorem asked_is (h:Prs.isT [Tess.Prs.wNone] ts=none) (h2:Prs.isT [Tess.Prs.wPrefix] ts=none) (h3:Prs.isT [Tess.Prs.wIs] ts=some r):Tess.Prs.asked nm ts=Tess.Prs.bindR (Tess.Prs.list Tess.Prs.wBar (Tess.Prs.take 4) r.length r) fun l r2 => .ok (.mk 2 nm l 0 0 [],r2):=by
 unfold Tess.Prs.asked Tess.Prs.isR;rw [h];simp only;rw [h2];simp only;rw [h3];rfl
theorem asked_between (h:Prs.isT [Tess.Prs.wNone] ts=none) (h2:Prs.isT [Tess.Prs.wPrefix] ts=none) (h3:Prs.isT [Tess.Prs.wIs] ts=none) (h4:Prs.isT [Tess.Prs.wBetween] ts=some r) :
  Tess.Prs.asked nm ts=Tess.Prs.bindR (Tess.Prs.take 4 r) fun a r2=>Tess.Prs.must Tess.Prs.wDots r2 fun r3=>Tess.Prs.bindR (Tess.Prs.take 4 r3) fun b r4 => .ok (.mk 5 nm [a,b] 0 0 [],r4):=by
 unfold Tess.Prs.asked Tess.Prs.isR;rw [h];simp only;rw [h2];simp only;rw [h3];simp only;rw [h4];rfl
theorem asked_no (h:Prs.isT [Tess.Prs.wNone] ts=none) (h2:Prs.isT [Tess.Prs.wPrefix] ts=none) (h3:Prs.isT [Tess.Prs.wIs] ts=none) (h4:Prs.isT [Tess.Prs.wBetween] ts=none):Tess.Prs.asked nm ts = .error (Prs.next ts).pos:=by
 unfold Tess.Prs.asked Tess.Prs.isR;rw [h];simp only;rw [h2];simp only;rw [h3];simp only;rw [h4];rfl
end
def FilOut (p:Nat→Prop) (B N n:Nat) (qs:List Value) (rd:List Tok→Tess.Prs.R Fil) (ts:List Tok) (e:Ending) (w':World):Prop:=
 ∃ k s a1 n1 m1 fr to a2 n2 m2 err,e = .returned (.tuple #[.agg #[.int .i64 k,.string s,.slice a1 n1 m1,.int .i64 fr,.int .i64 to,.slice a2 n2 m2],err]) ∧
   ((∃ f r v',rd ts = .ok (f,r)∧err = .nilIface∧PsAt p B r v' qs w'∧FilAt (fun b=>N≤b) n w' (.agg #[.int .i64 k,.string s,.slice a1 n1 m1,.int .i64 fr,.int .i64 to,.slice a2 n2 m2]) f) ∨
    (∃ j,rd ts = .error j∧err=errF j∧∃ ts' v' qs',PsAt p B ts' v' qs' w'))
theorem fil_leaf {q:Nat→Prop} {W:World} {va:Value} {ws:List ByteArray} {nm:ByteArray} (k a b:Int) (h:SlP q W va (ws.map .string)) (hs:∀ x ∈ ws,x.size≤maxLen) (hn:nm.size≤maxLen):FilAt q 1 W (.agg #[.int .i64 k,.string nm,va,.int .i64 a,.int .i64 b,.slice none 0 0]) (.mk k nm ws a b []):=
 ⟨va,none,0,rfl,hn,h,hs,Nat.zero_le _,fun _=>rfl,fun h=>absurd h (Nat.lt_irrefl 0)⟩
section
variable {p:Nat→Prop} {B:Nat} {k:Int} {nm:ByteArray} {va:Value} {w X W9:World}
theorem asked_end (hF:WdF w.heap.size B k nm va X) (hG:w.grownBy X (some B)) (hlt:B < w.heap.size) (hb:¬ p B)
  (hW:((((((X.setCell ⟨w.heap.size,0,none⟩ (.int .i64 k)).setCell ⟨w.heap.size,1,none⟩ (.string nm)).setCell ⟨w.heap.size,2,none⟩ va).setCell ⟨w.heap.size,3,none⟩ (.int .i64 0)).setCell ⟨w.heap.size,4,none⟩ (.int .i64 0)).setCell ⟨w.heap.size,5,none⟩ (.slice none 0 0))=W9) :
  W9.heap[w.heap.size]? = some (.cells #[.int .i64 k,.string nm,va,.int .i64 0,.int .i64 0,.slice none 0 0] 31 (0,0))∧w.grownBy W9 (some B) ∧
   (∀ ts v qs,PsAt (fun b=>p b∧b < w.heap.size) B ts v qs X→PsAt p B ts v qs W9)∧(∀ v cs,SlP (fun b=>w.heap.size + 4≤b) X v cs→SlP (fun b=>w.heap.size≤b) W9 v cs):=by
 refine ⟨hW ▸ set6 _ _ _ _ _ _ hF.r,hW ▸ (((((hG.setN 0 _ (Nat.le_refl _)).setN 1 _ (Nat.le_refl _)).setN 2 _ (Nat.le_refl _)).setN 3 _ (Nat.le_refl _)).setN 4 _ (Nat.le_refl _)).setN 5 _ (Nat.le_refl _),fun ts v qs h => ?_,fun v cs h => ?_⟩
 ·have n1:w.heap.size≠B:=by omega
  have n2:¬ ((fun b=>p b∧b < w.heap.size) w.heap.size):=fun h=>Nat.lt_irrefl _ h.2
  exact hW ▸ PsAt.weak (fun b hb=>hb.1) hb ((((((h.set 0 _ n1 n2).set 1 _ n1 n2).set 2 _ n1 n2).set 3 _ n1 n2).set 4 _ n1 n2).set 5 _ n1 n2)
 ·exact hW ▸ (h.ag (set6_ag _ _ _ _ _ _ _ (by show ¬ (w.heap.size + 4≤w.heap.size);omega))).weak fun b hb=>by have:w.heap.size + 4≤b:=hb;omega
end
set_option maxRecDepth 100000 in
set_option maxHeartbeats 8000000 in
theorem asked_any {p:Nat→Prop} {B:Nat} {ts:List Tok} {v:Value} {qs:List Value} (nm:ByteArray) (w:World) (h:PsAt p B ts v qs w) (he:Prs.Endd ts) (hL:ts.length≤1000000) (hnm:nm.size≤maxLen) :
  Calls Tryz.prog 298 #[.pointer (some ⟨B,0,none⟩),.string nm] w fun e w'=>w.grownBy w' (some B)∧FilOut p B w.heap.size 1 qs (Tess.Prs.asked nm) ts e w':=by
 have hlt:=h.lt
 obtain ⟨l0,l1,lS,lB⟩:=laid2 w (.cells #[.int .i64 0,.string ⟨#[]⟩,.slice none 0 0,.int .i64 0,.int .i64 0,.slice none 0 0] 31) (.cells #[.int .i64 0,.string nm,.slice none 0 0,.int .i64 0,.int .i64 0,.slice none 0 0] 31)
 obtain ⟨m0,m1,mS,mB⟩:=laid2 ((w.alloc (.cells #[.int .i64 0,.string ⟨#[]⟩,.slice none 0 0,.int .i64 0,.int .i64 0,.slice none 0 0] 31)).alloc (.cells #[.int .i64 0,.string nm,.slice none 0 0,.int .i64 0,.int .i64 0,.slice none 0 0] 31)) (.cells #[.pointer (some ⟨B,0,none⟩)] 124) (.cells #[.pointer (some ⟨w.heap.size + 1,0,none⟩)] 398)
 have HWA:=Lib.hid (words_at B (w.heap.size + 1) w.heap.size _ lS)
 have HB:=Lib.hid (Bt lB mB)
 have n0:=(mB.block _ (by rw [lS];omega)).trans l0
 have n1:=(mB.block _ (by rw [lS];omega)).trans l1
 rw [lS] at m0 m1
 have HF0:=Lib.hid (⟨n0,n1,m0,m1⟩:WdF w.heap.size B 0 nm (.slice none 0 0) _)
 have HP0:=Lib.hid (h.ltP.below HB.out)
 have HE:=Lib.hid he
 have HNB:=Lib.hid h.b
 clear h he l0 l1 lS lB m0 m1 mS mB n0 n1
 go_enter Tryz.func298,Tryz.ntmps298
 go_wp2_with (
  go_at_call 324;refine HWA.out.mono ?_;clear HWA;rintro e w2 ⟨rfl,hw2⟩;rw [hw2] at HF0 HP0 HB;clear hw2)
 go_wp2_with (first
  | (go_at_call 144;refine (is3_any Tess.Prs.wNone _ rfl HP0.out).mono ?_;rintro e w3 ⟨hGx,⟨rx,vx,hTx,rfl,hPx⟩ | ⟨hTx,rfl,vx,hPx⟩⟩ <;>
    (have hFx:=HF0.out.stepB hGx hlt
     have cF:=(box6k hFx.f).1;have zF:=(box6k hFx.f).2;have zR:=(box6k hFx.r).2;have cR:=(box6k hFx.r).1
     have hFs:=hFx.lt;have hRs:w.heap.size < w3.heap.size:=by omega
     have hFs1:w.heap.size + 1 < w3.heap.size:=by omega
     have HF3:=Lib.hid hFx;have HP3:=Lib.hid hPx;have HG3:=Lib.hid ((grB_below HB.out).transB hGx);have HT3:=Lib.hid hTx;clear hFx hPx hGx hTx HP0))
  | (go_at_call 144;refine (is3_any Tess.Prs.wPrefix _ rfl HP3.out).mono ?_;rintro e w4 ⟨hGx,⟨rx,vx,hTx,rfl,hPx⟩ | ⟨hTx,rfl,vx,hPx⟩⟩ <;>
    (have hFx:=HF3.out.stepB hGx hlt
     have cF:=(box6k hFx.f).1;have zF:=(box6k hFx.f).2;have zR:=(box6k hFx.r).2;have cR:=(box6k hFx.r).1
     have hFs:=hFx.lt;have hRs:w.heap.size < w4.heap.size:=by omega
     have hFs1:w.heap.size + 1 < w4.heap.size:=by omega
     have HF4:=Lib.hid hFx;have HP4:=Lib.hid hPx;have HG4:=Lib.hid (HG3.out.transB hGx);have HT4:=Lib.hid hTx;clear hFx hPx hGx hTx HP3))
  | (go_at_call 144;refine (is3_any Tess.Prs.wIs _ rfl HP4.out).mono ?_;rintro e w5 ⟨hGx,⟨rx,vx,hTx,rfl,hPx⟩ | ⟨hTx,rfl,vx,hPx⟩⟩ <;>
    (have hFx:=HF4.out.stepB hGx hlt
     have cF:=(box6k hFx.f).1;have zF:=(box6k hFx.f).2;have zR:=(box6k hFx.r).2;have cR:=(box6k hFx.r).1
     have hFs:=hFx.lt;have hRs:w.heap.size < w5.heap.size:=by omega
     have hFs1:w.heap.size + 1 < w5.heap.size:=by omega
     have HF5:=Lib.hid hFx;have HP5:=Lib.hid hPx;have HG5:=Lib.hid (HG4.out.transB hGx);have HT5:=Lib.hid hTx;clear hFx hPx hGx hTx HP4))
  | (go_at_call 144;refine (is3_any Tess.Prs.wBetween _ rfl HP5.out).mono ?_;rintro e w6 ⟨hGx,⟨rx,vx,hTx,rfl,hPx⟩ | ⟨hTx,rfl,vx,hPx⟩⟩ <;>
    (have hFx:=HF5.out.stepB hGx hlt
     have cF:=(box6k hFx.f).1;have zF:=(box6k hFx.f).2;have zR:=(box6k hFx.r).2;have cR:=(box6k hFx.r).1
     have hFs:=hFx.lt;have hRs:w.heap.size < w6.heap.size:=by omega
     have hFs1:w.heap.size + 1 < w6.heap.size:=by omega
     have HF6:=Lib.hid hFx;have HP6:=Lib.hid hPx;have HG6:=Lib.hid (HG5.out.transB hGx);have HT6:=Lib.hid hTx;clear hFx hPx hGx hTx HP5))
  | (go_at_call 345;refine (words1_any (p:=fun b=>p b∧b < w.heap.size) (c0:=0) (nm:=nm) (qs0:=qs) (L:=1000000) w (fun b hb=>hb.2) hlt (Nat.le_refl _) [] _ _ _ w4 HP4.out (HE.out.isT HT4.out).1 HG4.out ⟨rfl,⟨_,HF4.out,World.ownsRow_nil _ _ _ _,fun _=>rfl⟩,fun x hx=>by cases hx⟩ (by have:=(HE.out.isT HT4.out).2.1;simp only [List.length_nil];omega)).mono ?_;rintro e w7 ⟨hGx,⟨xw7,rxw7,vx,qsx,hTx,rfl,hPx,hEx⟩ | ⟨kw7,hTx,rfl,⟨y1,y2,y3,hFx⟩,tsx,vx,qsx,hPx⟩⟩ <;>
    (try (obtain ⟨hqx,⟨va,hFx,hOx,_⟩,hSx⟩:=hEx;rw [hqx] at hPx;clear hqx)
     try obtain ⟨y1,y2,y3,rfl⟩:=(SlP.owned hOx).shape
     have cF:=(box6k hFx.f).1;have zF:=(box6k hFx.f).2;have zR:=(box6k hFx.r).2;have cR:=(box6k hFx.r).1
     have hFs:=hFx.lt;have hRs:w.heap.size < w7.heap.size:=by omega
     have hFs1:w.heap.size + 1 < w7.heap.size:=by omega
     have HFw7:=Lib.hid hFx;have HPw7:=Lib.hid hPx;have HGw7:=Lib.hid hGx;have HTw7:=Lib.hid hTx;(try have HOw7:=Lib.hid hOx);clear hFx hPx hGx hTx))
  | (go_at_call 345;refine (words1_any (p:=fun b=>p b∧b < w.heap.size) (c0:=5) (nm:=nm) (qs0:=qs) (L:=1000000) w (fun b hb=>hb.2) hlt (Nat.le_refl _) [] _ _ _ (w6.setCell ⟨w.heap.size + 1,0,none⟩ (.int .i64 5)) (HP6.out.set (g:=w.heap.size + 1) 0 (.int .i64 5) (by omega) (fun h=>by have:=h.2;omega)) (HE.out.isT HT6.out).1 (HG6.out.setN (g:=w.heap.size + 1) 0 (.int .i64 5) (by omega)) ⟨rfl,⟨_,HF6.out.kind 5,World.ownsRow_nil _ _ _ _,fun _=>rfl⟩,fun x hx=>by cases hx⟩ (by have:=(HE.out.isT HT6.out).2.1;simp only [List.length_nil];omega)).mono ?_;rintro e w8 ⟨hGx,⟨xw8,rxw8,vx,qsx,hTx,rfl,hPx,hEx⟩ | ⟨kw8,hTx,rfl,⟨y1,y2,y3,hFx⟩,tsx,vx,qsx,hPx⟩⟩ <;>
    (try (obtain ⟨hqx,⟨va,hFx,hOx,_⟩,hSx⟩:=hEx;rw [hqx] at hPx;clear hqx)
     try obtain ⟨y1,y2,y3,rfl⟩:=(SlP.owned hOx).shape
     have cF:=(box6k hFx.f).1;have zF:=(box6k hFx.f).2;have zR:=(box6k hFx.r).2;have cR:=(box6k hFx.r).1
     have hFs:=hFx.lt;have hRs:w.heap.size < w8.heap.size:=by omega
     have hFs1:w.heap.size + 1 < w8.heap.size:=by omega
     have HFw8:=Lib.hid hFx;have HPw8:=Lib.hid hPx;have HGw8:=Lib.hid hGx;have HTw8:=Lib.hid hTx;(try have HOw8:=Lib.hid hOx);clear hFx hPx hGx hTx)))
 ·obtain ⟨W9,hW9⟩:∃ W9,(((((((w3.setCell ⟨w.heap.size + 1,0,none⟩ (.int .i64 3)).setCell ⟨w.heap.size,0,none⟩ (.int .i64 3)).setCell ⟨w.heap.size,1,none⟩ (.string nm)).setCell ⟨w.heap.size,2,none⟩ (.slice none 0 0)).setCell ⟨w.heap.size,3,none⟩ (.int .i64 0)).setCell ⟨w.heap.size,4,none⟩ (.int .i64 0)).setCell ⟨w.heap.size,5,none⟩ (.slice none 0 0))=W9:=⟨_,rfl⟩
  obtain ⟨k9,g9,p9,s9⟩:=asked_end (p:=p) (HF3.out.kind 3) (HG3.out.setN (g:=w.heap.size + 1) 0 (.int .i64 3) (by omega)) hlt HNB.out hW9
  rw [hW9]
  obtain ⟨⟨e0,e1,e2,e3,e4,e5⟩,_⟩:=box6k k9
  refine bodyPost_ret (v:=.tuple #[.agg #[.int .i64 3,.string nm,.slice none 0 0,.int .i64 0,.int .i64 0,.slice none 0 0],.nilIface]) (by simp [results,Tryz.results298,go_sem,e0,e1,e2,e3,e4,e5]) rfl ⟨g9,_,_,_,_,_,_,_,_,_,_,_,rfl,?_⟩
  exact Or.inl ⟨.mk 3 nm [] 0 0 [],_,_,asked_none HT3.out,rfl,p9 _ _ _ (HP3.out.set (g:=w.heap.size + 1) 0 (.int .i64 3) (by omega) (fun h=>by have:=h.2;omega)),fil_leaf 3 0 0 (s9 _ _ (SlP.nil _ _)) (fun x hx=>by cases hx) hnm⟩
 ·obtain ⟨W9,hW9⟩:∃ W9,(((((((w7.setCell ⟨w.heap.size + 1,0,none⟩ (.int .i64 4)).setCell ⟨w.heap.size,0,none⟩ (.int .i64 4)).setCell ⟨w.heap.size,1,none⟩ (.string nm)).setCell ⟨w.heap.size,2,none⟩ (.slice y1 y2 y3)).setCell ⟨w.heap.size,3,none⟩ (.int .i64 0)).setCell ⟨w.heap.size,4,none⟩ (.int .i64 0)).setCell ⟨w.heap.size,5,none⟩ (.slice none 0 0))=W9:=⟨_,rfl⟩
  obtain ⟨k9,g9,p9,s9⟩:=asked_end (p:=p) (HFw7.out.kind 4) (HGw7.out.setN (g:=w.heap.size + 1) 0 (.int .i64 4) (by omega)) hlt HNB.out hW9
  rw [hW9]
  obtain ⟨⟨e0,e1,e2,e3,e4,e5⟩,_⟩:=box6k k9
  refine bodyPost_ret (v:=.tuple #[.agg #[.int .i64 4,.string nm,.slice y1 y2 y3,.int .i64 0,.int .i64 0,.slice none 0 0],.nilIface]) (by simp [results,Tryz.results298,go_sem,e0,e1,e2,e3,e4,e5]) rfl ⟨g9,_,_,_,_,_,_,_,_,_,_,_,rfl,?_⟩
  exact Or.inl ⟨.mk 4 nm [xw7] 0 0 [],_,_,by rw [asked_prefix HT3.out HT4.out,bindR_ok HTw7.out],rfl,p9 _ _ _ (HPw7.out.set (g:=w.heap.size + 1) 0 (.int .i64 4) (by omega) (fun h=>by have:=h.2;omega)),fil_leaf 4 0 0 (s9 _ _ ((SlP.owned HOw7.out).ag (Ag.set _ _ _ (by show ¬ (w.heap.size + 4≤w.heap.size + 1);omega)))) (hSx) hnm⟩
 ·obtain ⟨W9,hW9⟩:∃ W9,(((((((w7.setCell ⟨w.heap.size + 1,0,none⟩ (.int .i64 4)).setCell ⟨w.heap.size,0,none⟩ (.int .i64 4)).setCell ⟨w.heap.size,1,none⟩ (.string nm)).setCell ⟨w.heap.size,2,none⟩ (.slice y1 y2 y3)).setCell ⟨w.heap.size,3,none⟩ (.int .i64 0)).setCell ⟨w.heap.size,4,none⟩ (.int .i64 0)).setCell ⟨w.heap.size,5,none⟩ (.slice none 0 0))=W9:=⟨_,rfl⟩
  obtain ⟨k9,g9,p9,s9⟩:=asked_end (p:=p) (HFw7.out.kind 4) (HGw7.out.setN (g:=w.heap.size + 1) 0 (.int .i64 4) (by omega)) hlt HNB.out hW9
  rw [hW9]
  obtain ⟨⟨e0,e1,e2,e3,e4,e5⟩,_⟩:=box6k k9
  refine bodyPost_ret (v:=.tuple #[.agg #[.int .i64 4,.string nm,.slice y1 y2 y3,.int .i64 0,.int .i64 0,.slice none 0 0],errF kw7]) (by simp [results,Tryz.results298,go_sem,e0,e1,e2,e3,e4,e5]) rfl ⟨g9,_,_,_,_,_,_,_,_,_,_,_,rfl,?_⟩
  exact Or.inr ⟨kw7,by rw [asked_prefix HT3.out HT4.out,bindR_err HTw7.out],rfl,_,_,_,p9 _ _ _ (HPw7.out.set (g:=w.heap.size + 1) 0 (.int .i64 4) (by omega) (fun h=>by have:=h.2;omega))⟩
 ·have HM:=Lib.hid (list_words (p:=fun b=>p b∧b < w.heap.size) Tess.Prs.wBar (Tess.Prs.take 4) (.pointer (some ⟨w.heap.size + 2,0,none⟩)) (.pointer (some ⟨w.heap.size + 3,0,none⟩)) (WdEx w.heap.size B 0 nm qs) (fun W => ∃ x n c,WdF w.heap.size B 0 nm (.slice x n c) W) 1000000 w w5
   HP5.out (HE.out.isT HT5.out).1 (Tess.Prs.take_keeps 4) HG5.out ⟨rfl,⟨_,HF5.out,World.ownsRow_nil _ _ _ _,fun _=>rfl⟩,fun x hx=>by cases hx⟩ (by have:=(HE.out.isT HT5.out).2.1;omega) (WdEx.steady hlt) (words1_any w (fun b hb=>hb.2) hlt (Nat.le_refl _)))
  go_wp2_with (
   go_at_call 141;refine HM.out.mono ?_;clear HM;rintro e w7 ⟨hGx,⟨ls,rxw7,vx,qsx,hTx,rfl,hPx,hEx⟩ | ⟨kw7,hTx,rfl,⟨y1,y2,y3,hFx⟩,tsx,vx,qsx,hPx⟩⟩ <;>
   (try (obtain ⟨hqx,⟨va,hFx,hOx,_⟩,hSx⟩:=hEx;rw [hqx] at hPx;clear hqx)
    try obtain ⟨y1,y2,y3,rfl⟩:=(SlP.owned hOx).shape
    have cF:=(box6k hFx.f).1;have zF:=(box6k hFx.f).2;have zR:=(box6k hFx.r).2;have cR:=(box6k hFx.r).1
    have hFs:=hFx.lt;have hRs:w.heap.size < w7.heap.size:=by omega
    have hFs1:w.heap.size + 1 < w7.heap.size:=by omega
    have HFw7:=Lib.hid hFx;have HPw7:=Lib.hid hPx;have HGw7:=Lib.hid hGx;have HTw7:=Lib.hid hTx;(try have HOw7:=Lib.hid hOx);clear hFx hPx hGx hTx))
  ·obtain ⟨W9,hW9⟩:∃ W9,(((((((w7.setCell ⟨w.heap.size + 1,0,none⟩ (.int .i64 2)).setCell ⟨w.heap.size,0,none⟩ (.int .i64 2)).setCell ⟨w.heap.size,1,none⟩ (.string nm)).setCell ⟨w.heap.size,2,none⟩ (.slice y1 y2 y3)).setCell ⟨w.heap.size,3,none⟩ (.int .i64 0)).setCell ⟨w.heap.size,4,none⟩ (.int .i64 0)).setCell ⟨w.heap.size,5,none⟩ (.slice none 0 0))=W9:=⟨_,rfl⟩
   obtain ⟨k9,g9,p9,s9⟩:=asked_end (p:=p) (HFw7.out.kind 2) (HGw7.out.setN (g:=w.heap.size + 1) 0 (.int .i64 2) (by omega)) hlt HNB.out hW9
   rw [hW9]
   obtain ⟨⟨e0,e1,e2,e3,e4,e5⟩,_⟩:=box6k k9
   refine bodyPost_ret (v:=.tuple #[.agg #[.int .i64 2,.string nm,.slice y1 y2 y3,.int .i64 0,.int .i64 0,.slice none 0 0],.nilIface]) (by simp [results,Tryz.results298,go_sem,e0,e1,e2,e3,e4,e5]) rfl ⟨g9,_,_,_,_,_,_,_,_,_,_,_,rfl,?_⟩
   exact Or.inl ⟨.mk 2 nm ls 0 0 [],_,_,by rw [asked_is HT3.out HT4.out HT5.out,bindR_ok HTw7.out],rfl,p9 _ _ _ (HPw7.out.set (g:=w.heap.size + 1) 0 (.int .i64 2) (by omega) (fun h=>by have:=h.2;omega)),fil_leaf 2 0 0 (s9 _ _ ((SlP.owned HOw7.out).ag (Ag.set _ _ _ (by show ¬ (w.heap.size + 4≤w.heap.size + 1);omega)))) (hSx) hnm⟩
  ·obtain ⟨W9,hW9⟩:∃ W9,(((((((w7.setCell ⟨w.heap.size + 1,0,none⟩ (.int .i64 2)).setCell ⟨w.heap.size,0,none⟩ (.int .i64 2)).setCell ⟨w.heap.size,1,none⟩ (.string nm)).setCell ⟨w.heap.size,2,none⟩ (.slice y1 y2 y3)).setCell ⟨w.heap.size,3,none⟩ (.int .i64 0)).setCell ⟨w.heap.size,4,none⟩ (.int .i64 0)).setCell ⟨w.heap.size,5,none⟩ (.slice none 0 0))=W9:=⟨_,rfl⟩
   obtain ⟨k9,g9,p9,s9⟩:=asked_end (p:=p) (HFw7.out.kind 2) (HGw7.out.setN (g:=w.heap.size + 1) 0 (.int .i64 2) (by omega)) hlt HNB.out hW9
   rw [hW9]
   obtain ⟨⟨e0,e1,e2,e3,e4,e5⟩,_⟩:=box6k k9
   refine bodyPost_ret (v:=.tuple #[.agg #[.int .i64 2,.string nm,.slice y1 y2 y3,.int .i64 0,.int .i64 0,.slice none 0 0],errF kw7]) (by simp [results,Tryz.results298,go_sem,e0,e1,e2,e3,e4,e5]) rfl ⟨g9,_,_,_,_,_,_,_,_,_,_,_,rfl,?_⟩
   exact Or.inr ⟨kw7,by rw [asked_is HT3.out HT4.out HT5.out,bindR_err HTw7.out],rfl,_,_,_,p9 _ _ _ (HPw7.out.set (g:=w.heap.size + 1) 0 (.int .i64 2) (by omega) (fun h=>by have:=h.2;omega))⟩
 ·have HEw8:=Lib.hid (Tess.Prs.take_keeps 4 _ _ _ (HE.out.isT HT6.out).1 HTw8.out)
  have HL8:=Lib.hid (HE.out.isT HT6.out).2.1
  go_wp2_with (first
  | (go_at_call 140;refine (must2_any Tess.Prs.wDots _ rfl HPw8.out).mono ?_;rintro e w9 ⟨hGx,⟨r9,v9,hTx,rfl,hPx⟩ | ⟨hTx,rfl,v9,hPx⟩⟩ <;>
    (have hFx:=HFw8.out.stepB hGx hlt
     have hOx:=owns_steady HOw8.out hGx (by omega)
     have cF:=(box6k hFx.f).1;have zF:=(box6k hFx.f).2;have zR:=(box6k hFx.r).2;have cR:=(box6k hFx.r).1
     have hFs:=hFx.lt;have hRs:w.heap.size < w9.heap.size:=by omega
     have hFs1:w.heap.size + 1 < w9.heap.size:=by omega
     have HF9:=Lib.hid hFx;have HP9:=Lib.hid hPx;have HG9:=Lib.hid (HGw8.out.transB hGx);have HT9:=Lib.hid hTx;have HO9:=Lib.hid hOx;clear hFx hPx hGx hTx hOx HPw8))
  | (go_at_call 345;refine (words1_any (p:=fun b=>p b∧b < w.heap.size) (c0:=5) (nm:=nm) (qs0:=qs) (L:=1000000) w (fun b hb=>hb.2) hlt (Nat.le_refl _) [xw8] _ _ _ w9 HP9.out (HEw8.out.1.isT HT9.out).1 HG9.out ⟨rfl,⟨_,HF9.out,HO9.out,fun e=>by cases e⟩,hSx⟩ (by have:=HL8.out;have:=(HEw8.out.1.isT HT9.out).2.1;have:=HEw8.out.2.length_le;simp only [List.length_cons,List.length_nil];omega)).mono ?_;rintro e w10 ⟨hGx,⟨xw10,rxw10,vx,qsx,hTx,rfl,hPx,hEx⟩ | ⟨kw10,hTx,rfl,⟨y1,y2,y3,hFx⟩,tsx,vx,qsx,hPx⟩⟩ <;>
    (try (obtain ⟨hqx,⟨va,hFx,hOx,_⟩,hSx⟩:=hEx;rw [hqx] at hPx;clear hqx)
     try obtain ⟨y1,y2,y3,rfl⟩:=(SlP.owned hOx).shape
     have cF:=(box6k hFx.f).1;have zF:=(box6k hFx.f).2;have zR:=(box6k hFx.r).2;have cR:=(box6k hFx.r).1
     have hFs:=hFx.lt;have hRs:w.heap.size < w10.heap.size:=by omega
     have hFs1:w.heap.size + 1 < w10.heap.size:=by omega
     have HFw10:=Lib.hid hFx;have HPw10:=Lib.hid hPx;have HGw10:=Lib.hid hGx;have HTw10:=Lib.hid hTx;(try have HOw10:=Lib.hid hOx);clear hFx hPx hGx hTx)))
  ·obtain ⟨W9,hW9⟩:∃ W9,((((((w10.setCell ⟨w.heap.size,0,none⟩ (.int .i64 5)).setCell ⟨w.heap.size,1,none⟩ (.string nm)).setCell ⟨w.heap.size,2,none⟩ (.slice y1 y2 y3)).setCell ⟨w.heap.size,3,none⟩ (.int .i64 0)).setCell ⟨w.heap.size,4,none⟩ (.int .i64 0)).setCell ⟨w.heap.size,5,none⟩ (.slice none 0 0))=W9:=⟨_,rfl⟩
   obtain ⟨k9,g9,p9,s9⟩:=asked_end (p:=p) (HFw10.out) (HGw10.out) hlt HNB.out hW9
   rw [hW9]
   obtain ⟨⟨e0,e1,e2,e3,e4,e5⟩,_⟩:=box6k k9
   refine bodyPost_ret (v:=.tuple #[.agg #[.int .i64 5,.string nm,.slice y1 y2 y3,.int .i64 0,.int .i64 0,.slice none 0 0],.nilIface]) (by simp [results,Tryz.results298,go_sem,e0,e1,e2,e3,e4,e5]) rfl ⟨g9,_,_,_,_,_,_,_,_,_,_,_,rfl,?_⟩
   exact Or.inl ⟨.mk 5 nm [xw8,xw10] 0 0 [],_,_,by rw [asked_between HT3.out HT4.out HT5.out HT6.out,bindR_ok HTw8.out,must_ok HT9.out,bindR_ok HTw10.out],rfl,p9 _ _ _ (HPw10.out),fil_leaf 5 0 0 (s9 _ _ (SlP.owned HOw10.out)) (hSx) hnm⟩
  ·obtain ⟨W9,hW9⟩:∃ W9,((((((w10.setCell ⟨w.heap.size,0,none⟩ (.int .i64 5)).setCell ⟨w.heap.size,1,none⟩ (.string nm)).setCell ⟨w.heap.size,2,none⟩ (.slice y1 y2 y3)).setCell ⟨w.heap.size,3,none⟩ (.int .i64 0)).setCell ⟨w.heap.size,4,none⟩ (.int .i64 0)).setCell ⟨w.heap.size,5,none⟩ (.slice none 0 0))=W9:=⟨_,rfl⟩
   obtain ⟨k9,g9,p9,s9⟩:=asked_end (p:=p) (HFw10.out) (HGw10.out) hlt HNB.out hW9
   rw [hW9]
   obtain ⟨⟨e0,e1,e2,e3,e4,e5⟩,_⟩:=box6k k9
   refine bodyPost_ret (v:=.tuple #[.agg #[.int .i64 5,.string nm,.slice y1 y2 y3,.int .i64 0,.int .i64 0,.slice none 0 0],errF kw10]) (by simp [results,Tryz.results298,go_sem,e0,e1,e2,e3,e4,e5]) rfl ⟨g9,_,_,_,_,_,_,_,_,_,_,_,rfl,?_⟩
   exact Or.inr ⟨kw10,by rw [asked_between HT3.out HT4.out HT5.out HT6.out,bindR_ok HTw8.out,must_ok HT9.out,bindR_err HTw10.out],rfl,_,_,_,p9 _ _ _ (HPw10.out)⟩
  ·obtain ⟨W9,hW9⟩:∃ W9,((((((w9.setCell ⟨w.heap.size,0,none⟩ (.int .i64 5)).setCell ⟨w.heap.size,1,none⟩ (.string nm)).setCell ⟨w.heap.size,2,none⟩ (.slice y1 y2 y3)).setCell ⟨w.heap.size,3,none⟩ (.int .i64 0)).setCell ⟨w.heap.size,4,none⟩ (.int .i64 0)).setCell ⟨w.heap.size,5,none⟩ (.slice none 0 0))=W9:=⟨_,rfl⟩
   obtain ⟨k9,g9,p9,s9⟩:=asked_end (p:=p) (HF9.out) (HG9.out) hlt HNB.out hW9
   rw [hW9]
   obtain ⟨⟨e0,e1,e2,e3,e4,e5⟩,_⟩:=box6k k9
   refine bodyPost_ret (v:=.tuple #[.agg #[.int .i64 5,.string nm,.slice y1 y2 y3,.int .i64 0,.int .i64 0,.slice none 0 0],errF (Prs.next rxw8).pos]) (by simp [results,Tryz.results298,go_sem,e0,e1,e2,e3,e4,e5]) rfl ⟨g9,_,_,_,_,_,_,_,_,_,_,_,rfl,?_⟩
   exact Or.inr ⟨_,by rw [asked_between HT3.out HT4.out HT5.out HT6.out,bindR_ok HTw8.out,must_no HT9.out],rfl,_,_,_,p9 _ _ _ (HP9.out)⟩
 ·obtain ⟨W9,hW9⟩:∃ W9,((((((w8.setCell ⟨w.heap.size,0,none⟩ (.int .i64 5)).setCell ⟨w.heap.size,1,none⟩ (.string nm)).setCell ⟨w.heap.size,2,none⟩ (.slice y1 y2 y3)).setCell ⟨w.heap.size,3,none⟩ (.int .i64 0)).setCell ⟨w.heap.size,4,none⟩ (.int .i64 0)).setCell ⟨w.heap.size,5,none⟩ (.slice none 0 0))=W9:=⟨_,rfl⟩
  obtain ⟨k9,g9,p9,s9⟩:=asked_end (p:=p) (HFw8.out) (HGw8.out) hlt HNB.out hW9
  rw [hW9]
  obtain ⟨⟨e0,e1,e2,e3,e4,e5⟩,_⟩:=box6k k9
  refine bodyPost_ret (v:=.tuple #[.agg #[.int .i64 5,.string nm,.slice y1 y2 y3,.int .i64 0,.int .i64 0,.slice none 0 0],errF kw8]) (by simp [results,Tryz.results298,go_sem,e0,e1,e2,e3,e4,e5]) rfl ⟨g9,_,_,_,_,_,_,_,_,_,_,_,rfl,?_⟩
  exact Or.inr ⟨kw8,by rw [asked_between HT3.out HT4.out HT5.out HT6.out,bindR_err HTw8.out],rfl,_,_,_,p9 _ _ _ (HPw8.out)⟩
 ·go_wp2_with (
   go_at_call 215;refine (fail_any _ HP6.out).mono ?_;rintro e w7 ⟨rfl,hBx⟩;
    have hFx:=HF6.out.stepB (grB_below (B:=B) hBx) hlt;
    have cF:=(box6k hFx.f).1;have zF:=(box6k hFx.f).2;have zR:=(box6k hFx.r).2;have cR:=(box6k hFx.r).1;
    have hFs:=hFx.lt;have hRs:w.heap.size < w7.heap.size:=(by omega);
    have hFs1:w.heap.size + 1 < w7.heap.size:=(by omega);
    have HF7:=Lib.hid hFx;have HP7:=Lib.hid (HP6.out.below hBx);have HG7:=Lib.hid (HG6.out.trans_below hBx);clear hFx hBx)
  ·obtain ⟨W9,hW9⟩:∃ W9,((((((w7.setCell ⟨w.heap.size,0,none⟩ (.int .i64 0)).setCell ⟨w.heap.size,1,none⟩ (.string nm)).setCell ⟨w.heap.size,2,none⟩ (.slice none 0 0)).setCell ⟨w.heap.size,3,none⟩ (.int .i64 0)).setCell ⟨w.heap.size,4,none⟩ (.int .i64 0)).setCell ⟨w.heap.size,5,none⟩ (.slice none 0 0))=W9:=⟨_,rfl⟩
   obtain ⟨k9,g9,p9,s9⟩:=asked_end (p:=p) (HF7.out) (HG7.out) hlt HNB.out hW9
   rw [hW9]
   obtain ⟨⟨e0,e1,e2,e3,e4,e5⟩,_⟩:=box6k k9
   refine bodyPost_ret (v:=.tuple #[.agg #[.int .i64 0,.string nm,.slice none 0 0,.int .i64 0,.int .i64 0,.slice none 0 0],errF (Prs.next ts).pos]) (by simp [results,Tryz.results298,go_sem,e0,e1,e2,e3,e4,e5]) rfl ⟨g9,_,_,_,_,_,_,_,_,_,_,_,rfl,?_⟩
   exact Or.inr ⟨_,asked_no HT3.out HT4.out HT5.out HT6.out,rfl,_,_,_,p9 _ _ _ (HP7.out)⟩
end Go.Proofs.YtbbgjjjeecfnoaaGreatDoor
namespace Go.Proofs.YtbbgjjjeecfnoaaGreatDoor
open Go.RowKit Go.Sort
open Tess (Fil Tok Prs.next Prs.skip Prs.isT Prs.Endd Prs.Keeps)
theorem result6 {p:Nat→Prop} {B:Nat} {w X W9:World} {t:TypeId} {z0 z1 z2 z3 z4 z5 y0 y1 y2 y3 y4 y5:Value} (hR:X.heap[w.heap.size]? = some (.cells #[z0,z1,z2,z3,z4,z5] t (0,0))) (hG:w.grownBy X (some B)) (hlt:B < w.heap.size) (hb:¬ p B)
  (hW:((((((X.setCell ⟨w.heap.size,0,none⟩ y0).setCell ⟨w.heap.size,1,none⟩ y1).setCell ⟨w.heap.size,2,none⟩ y2).setCell ⟨w.heap.size,3,none⟩ y3).setCell ⟨w.heap.size,4,none⟩ y4).setCell ⟨w.heap.size,5,none⟩ y5)=W9) :
  W9.heap[w.heap.size]? = some (.cells #[y0,y1,y2,y3,y4,y5] t (0,0))∧w.grownBy W9 (some B) ∧
   (∀ ts v qs,PsAt (fun b=>p b∧b < w.heap.size) B ts v qs X→PsAt p B ts v qs W9)∧(∀ n v f,FilAt (fun b=>w.heap.size + 1≤b) n X v f→FilAt (fun b=>w.heap.size≤b) n W9 v f):=by
 refine ⟨hW ▸ set6 _ _ _ _ _ _ hR,hW ▸ (((((hG.setN 0 _ (Nat.le_refl _)).setN 1 _ (Nat.le_refl _)).setN 2 _ (Nat.le_refl _)).setN 3 _ (Nat.le_refl _)).setN 4 _ (Nat.le_refl _)).setN 5 _ (Nat.le_refl _),fun ts v qs h => ?_,fun n v f h => ?_⟩
 ·have n1:w.heap.size≠B:=by omega
  have n2:¬ ((fun b=>p b∧b < w.heap.size) w.heap.size):=fun h=>Nat.lt_irrefl _ h.2
  exact hW ▸ PsAt.weak (fun b hb=>hb.1) hb ((((((h.set 0 _ n1 n2).set 1 _ n1 n2).set 2 _ n1 n2).set 3 _ n1 n2).set 4 _ n1 n2).set 5 _ n1 n2)
 ·exact hW ▸ (h.ag (set6_ag _ _ _ _ _ _ _ (by show ¬ (w.heap.size + 1≤w.heap.size);omega))).weak fun b hb=>by have:w.heap.size + 1≤b:=hb;omega
theorem fil_none (q:Nat→Prop) (W:World) (k a b:Int):FilAt q 1 W (.agg #[.int .i64 k,.string ⟨#[]⟩,.slice none 0 0,.int .i64 a,.int .i64 b,.slice none 0 0]) (.mk k ByteArray.empty [] a b []):=
 fil_leaf k a b (SlP.nil q W) (fun x hx=>by cases hx) (Nat.zero_le _)
section
variable {ts r r2 r3:List Tok} {a b:Int}
theorem time_err {k:Nat} (h:Tess.Prs.num 0 9223372036854775807 ts = .error k):Tess.Prs.time ts = .error k:=by unfold Tess.Prs.time;rw [bindR_err h]
theorem time_one (h:Tess.Prs.num 0 9223372036854775807 ts = .ok (a,r)):Tess.Prs.time ts=Tess.Prs.must Tess.Prs.wDots r fun r2=>Tess.Prs.bindR (Tess.Prs.num 0 9223372036854775807 r2) fun b r3 => .ok (.mk 6 ByteArray.empty [] a b [],r3):=by unfold Tess.Prs.time;rw [bindR_ok h]
end
set_option maxRecDepth 100000 in
set_option maxHeartbeats 8000000 in
theorem time_any {p:Nat→Prop} {B:Nat} {ts:List Tok} {v:Value} {qs:List Value} (w:World) (h:PsAt p B ts v qs w) :
  Calls Tryz.prog 299 #[.pointer (some ⟨B,0,none⟩)] w fun e w'=>w.grownBy w' (some B)∧FilOut p B w.heap.size 1 qs Tess.Prs.time ts e w':=by
 have hlt:=h.lt
 have HNB:=Lib.hid h.b
 have HL:=Lib.hid (laid1 w (.cells #[.int .i64 0,.string ⟨#[]⟩,.slice none 0 0,.int .i64 0,.int .i64 0,.slice none 0 0] 31))
 have HP:=Lib.hid (h.ltP.below HL.out.2.2)
 clear h
 go_enter Tryz.func299,Tryz.ntmps299
 go_wp2_with (first
  | (go_at_call 268;first
      | (refine (num1_any _ _ _ HP.out).mono ?_;rintro e w2 ⟨n,err,r,v2,rfl,hP2,hG2,⟨hn,rfl⟩ | ⟨_,k,hn,rfl⟩⟩ <;>
          (have hR:=(hG2.block _ (by rw [HL.out.2.1];omega) (by intro e;have:=Option.some.inj e;omega)).trans HL.out.1
           have cR:=(box6k hR).1;have zR:=(box6k hR).2;have hRs:w.heap.size < w2.heap.size:=(Array.getElem?_eq_some_iff.1 hR).1
           have HR2:=Lib.hid hR;have HP2:=Lib.hid hP2;have HG2:=Lib.hid ((grB_below HL.out.2.2).transB hG2);have HN2:=Lib.hid hn;clear hR hP2 hG2 hn HP))
      | (refine (num1_any _ _ _ HP3.out).mono ?_;rintro e w4 ⟨n4,err4,r4,v4,rfl,hP4,hG4,hres⟩;
           have hR:=(hG4.block _ hRs (by intro e;have:=Option.some.inj e;omega)).trans HR3.out;
           have cR:=(box6k hR).1;have zR:=(box6k hR).2;have hRs:w.heap.size < w4.heap.size:=(Array.getElem?_eq_some_iff.1 hR).1;
           have HR4:=Lib.hid hR;have HP4:=Lib.hid hP4;have HG4:=Lib.hid (HG3.out.transB hG4);have HN4:=Lib.hid hres;clear hR hP4 hG4 hres))
  | (go_at_call 140;refine (must2_any Tess.Prs.wDots _ rfl HP2.out).mono ?_;rintro e w3 ⟨hG3,⟨r3,v3,hT3,rfl,hP3⟩ | ⟨hT3,rfl,v3,hP3⟩⟩ <;>
      (have hR:=(hG3.block _ hRs (by intro e;have:=Option.some.inj e;omega)).trans HR2.out
       have cR:=(box6k hR).1;have zR:=(box6k hR).2;have hRs:w.heap.size < w3.heap.size:=(Array.getElem?_eq_some_iff.1 hR).1
       have HR3:=Lib.hid hR;have HP3:=Lib.hid hP3;have HG3:=Lib.hid (HG2.out.transB hG3);have HT3:=Lib.hid hT3;clear hR hP3 hG3 hT3)))
 ·obtain ⟨W9,hW9⟩:∃ W9,((((((w4.setCell ⟨w.heap.size,0,none⟩ (.int .i64 6)).setCell ⟨w.heap.size,1,none⟩ (.string ⟨#[]⟩)).setCell ⟨w.heap.size,2,none⟩ (.slice none 0 0)).setCell ⟨w.heap.size,3,none⟩ (.int .i64 n)).setCell ⟨w.heap.size,4,none⟩ (.int .i64 n4)).setCell ⟨w.heap.size,5,none⟩ (.slice none 0 0))=W9:=⟨_,rfl⟩
  obtain ⟨k9,g9,p9,s9⟩:=result6 (p:=p) HR4.out HG4.out hlt HNB.out hW9
  rw [hW9]
  obtain ⟨⟨e0,e1,e2,e3,e4,e5⟩,_⟩:=box6k k9
  refine bodyPost_ret (v:=.tuple #[.agg #[.int .i64 6,.string ⟨#[]⟩,.slice none 0 0,.int .i64 n,.int .i64 n4,.slice none 0 0],err4]) (by simp [results,Tryz.results299,go_sem,e0,e1,e2,e3,e4,e5]) rfl ⟨g9,_,_,_,_,_,_,_,_,_,_,_,rfl,?_⟩
  rcases HN4.out with ⟨h4,rfl⟩ | ⟨_,k,h4,rfl⟩
  ·exact Or.inl ⟨.mk 6 ByteArray.empty [] n n4 [],_,_,by rw [time_one HN2.out,must_ok HT3.out,bindR_ok h4],rfl,p9 _ _ _ HP4.out,fil_none _ _ _ _ _⟩
  ·exact Or.inr ⟨k,by rw [time_one HN2.out,must_ok HT3.out,bindR_err h4],rfl,_,_,_,p9 _ _ _ HP4.out⟩
 ·obtain ⟨W9,hW9⟩:∃ W9,((((((w3.setCell ⟨w.heap.size,0,none⟩ (.int .i64 0)).setCell ⟨w.heap.size,1,none⟩ (.string ⟨#[]⟩)).setCell ⟨w.heap.size,2,none⟩ (.slice none 0 0)).setCell ⟨w.heap.size,3,none⟩ (.int .i64 0)).setCell ⟨w.heap.size,4,none⟩ (.int .i64 0)).setCell ⟨w.heap.size,5,none⟩ (.slice none 0 0))=W9:=⟨_,rfl⟩
  obtain ⟨k9,g9,p9,s9⟩:=result6 (p:=p) HR3.out HG3.out hlt HNB.out hW9
  rw [hW9]
  obtain ⟨⟨e0,e1,e2,e3,e4,e5⟩,_⟩:=box6k k9
  refine bodyPost_ret (v:=.tuple #[.agg #[.int .i64 0,.string ⟨#[]⟩,.slice none 0 0,.int .i64 0,.int .i64 0,.slice none 0 0],errF (Prs.next r).pos]) (by simp [results,Tryz.results299,go_sem,e0,e1,e2,e3,e4,e5]) rfl ⟨g9,_,_,_,_,_,_,_,_,_,_,_,rfl,?_⟩
  exact Or.inr ⟨_,by rw [time_one HN2.out,must_no HT3.out],rfl,_,_,_,p9 _ _ _ HP3.out⟩
 ·obtain ⟨W9,hW9⟩:∃ W9,((((((w2.setCell ⟨w.heap.size,0,none⟩ (.int .i64 0)).setCell ⟨w.heap.size,1,none⟩ (.string ⟨#[]⟩)).setCell ⟨w.heap.size,2,none⟩ (.slice none 0 0)).setCell ⟨w.heap.size,3,none⟩ (.int .i64 0)).setCell ⟨w.heap.size,4,none⟩ (.int .i64 0)).setCell ⟨w.heap.size,5,none⟩ (.slice none 0 0))=W9:=⟨_,rfl⟩
  obtain ⟨k9,g9,p9,s9⟩:=result6 (p:=p) HR2.out HG2.out hlt HNB.out hW9
  rw [hW9]
  obtain ⟨⟨e0,e1,e2,e3,e4,e5⟩,_⟩:=box6k k9
  refine bodyPost_ret (v:=.tuple #[.agg #[.int .i64 0,.string ⟨#[]⟩,.slice none 0 0,.int .i64 0,.int .i64 0,.slice none 0 0],errF k]) (by simp [results,Tryz.results299,go_sem,e0,e1,e2,e3,e4,e5]) rfl ⟨g9,_,_,_,_,_,_,_,_,_,_,_,rfl,?_⟩
  exact Or.inr ⟨k,time_err HN2.out,rfl,_,_,_,p9 _ _ _ HP2.out⟩
theorem owns_setAt {W:World} {N:Nat} {e:TypeId} {size g m cap j:Nat} {xs:List Value} (h:W.ownsRow N e size (.slice (some ⟨g,0,none⟩) m cap) m xs) (y:Value):(W.setCell ⟨g,j,none⟩ y).ownsRow N e size (.slice (some ⟨g,0,none⟩) m cap) m (xs.set j y):=by
 refine ⟨by rw [List.length_set];exact h.1,?_⟩
 rcases h.2 with ⟨h0,_⟩ | ⟨g',cap',cur,hv,hb,hg,hcap,hm,hs,ht⟩
 ·cases h0
 ·cases hv
  refine Or.inr ⟨g,cap,cur.setIfInBounds j y,rfl,hb,heap_setCell_same _ _ _ _ _ _ hg,hcap,hm,by simpa using hs,?_⟩
  rw [Array.toList_setIfInBounds,List.take_set,ht]
theorem grownBy_setRow {W W':World} {row:Option Nat} {g j:Nat} (h:W.grownBy W' row) (hg:row=some g∨W.heap.size≤g) (y:Value):W.grownBy (W'.setCell ⟨g,j,none⟩ y) row:=
 ⟨h.os,h.tape,h.output,by have:=h.size;simpa [World.setCell] using this,fun k hk e=>(heap_setCell_other _ _ _ _ (by show k≠g;rintro rfl;rcases hg with hg | hg;exact e hg.symm;omega)).trans (h.block k hk e)⟩
theorem set_six (xs:List Value) (z0 z1 z2 z3 z4 z5 y0 y1 y2 y3 y4 y5:Value) :
  ((((((xs ++ [z0,z1,z2,z3,z4,z5]).set xs.length y0).set (xs.length + 1) y1).set (xs.length + 2) y2).set (xs.length + 3) y3).set (xs.length + 4) y4).set (xs.length + 5) y5=xs ++ [y0,y1,y2,y3,y4,y5]:=by
 induction xs with
 | nil=>rfl
 | cons x xs ih=>
   simp only [List.cons_append,List.length_cons,List.set_cons_succ,Nat.add_right_comm _ 1] at ih ⊢
   rw [ih]
theorem owns_six {W:World} {N:Nat} {e:TypeId} {g n cap:Nat} {xs:List Value} {z0 z1 z2 z3 z4 z5:Value} (h:W.ownsRow N e 6 (.slice (some ⟨g,0,none⟩) (n + 1) cap) (n + 1) (xs ++ [z0,z1,z2,z3,z4,z5])) (y0 y1 y2 y3 y4 y5:Value) (hx:xs.length=n * 6) :
  ((((((W.setCell ⟨g,n * 6,none⟩ y0).setCell ⟨g,n * 6 + 1,none⟩ y1).setCell ⟨g,n * 6 + 2,none⟩ y2).setCell ⟨g,n * 6 + 3,none⟩ y3).setCell ⟨g,n * 6 + 4,none⟩ y4).setCell ⟨g,n * 6 + 5,none⟩ y5).ownsRow N e 6 (.slice (some ⟨g,0,none⟩) (n + 1) cap) (n + 1) (xs ++ [y0,y1,y2,y3,y4,y5]):=by
 have:=owns_setAt (owns_setAt (owns_setAt (owns_setAt (owns_setAt (owns_setAt h y0 (j:=n * 6)) y1 (j:=n * 6 + 1)) y2 (j:=n * 6 + 2)) y3 (j:=n * 6 + 3)) y4 (j:=n * 6 + 4)) y5 (j:=n * 6 + 5)
 rw [← hx,set_six,hx] at this
 exact this
end Go.Proofs.YtbbgjjjeecfnoaaGreatDoor
namespace Go.Proofs.YtbbgjjjeecfnoaaGreatDoor
open Go.RowKit Go.Sort
open Tess (Fil Tok Prs.next Prs.skip Prs.isT Prs.Endd Prs.Keeps)
theorem setCell_swap (w:World) {g h i j:Nat} (x y:Value) (hn:g≠h):(w.setCell ⟨g,i,none⟩ x).setCell ⟨h,j,none⟩ y=(w.setCell ⟨h,j,none⟩ y).setCell ⟨g,i,none⟩ x:=by
 unfold World.setCell
 congr 1
 apply Array.ext_getElem?
 intro k
 simp only [Array.getElem?_modify]
 by_cases h1:g=k
 ·subst h1
  rw [if_neg (fun e=>hn e.symm)]
  simp [show h≠g from fun e=>hn e.symm]
 ·by_cases h2:h=k
  ·subst h2
   simp [hn]
  ·simp [h1,h2]
structure SvF (N B:Nat) (k:Int) (va:Value) (W:World):Prop where
 a:W.heap[N]? = some (.cells #[.pointer (some ⟨B,0,none⟩)] 124 (0,0))
 r:W.heap[N + 1]? = some (.cells #[.int .i64 0,.string ⟨#[]⟩,.slice none 0 0,.int .i64 0,.int .i64 0,.slice none 0 0] 31 (0,0))
 f:W.heap[N + 2]? = some (.cells #[.int .i64 k,.string ⟨#[]⟩,.slice none 0 0,.int .i64 0,.int .i64 0,va] 31 (0,0))
structure SvEx (N B:Nat) (k:Int) (d:Nat) (qs0:List Value) (acc:List Fil) (qs:List Value) (W:World):Prop where
 q:qs=qs0
 o:∃ ao cap us,SvF N B k (.slice ao us.length cap) W∧Fils (N + 3) (fun b=>N + 3≤b∧(Value.slice ao us.length cap).ownBlock≠some b) d W (.slice ao us.length cap) us acc
section
variable {N B d:Nat} {k:Int} {va:Value} {W W':World}
theorem SvF.lt (h:SvF N B k va W):N + 2 < W.heap.size:=(Array.getElem?_eq_some_iff.1 h.f).1
theorem SvF.step (h:SvF N B k va W) {row:Option Nat} (hg:W.grownBy W' row) (hr:∀ j,row=some j→j < N∨N + 3≤j):SvF N B k va W':=
 have:=h.lt
 ⟨(hg.block _ (by omega) (fun e=>by have:=hr _ e.symm;omega)).trans h.a,(hg.block _ (by omega) (fun e=>by have:=hr _ e.symm;omega)).trans h.r,(hg.block _ (by omega) (fun e=>by have:=hr _ e.symm;omega)).trans h.f⟩
theorem SvF.stepB (h:SvF N B k va W) (hg:W.grownBy W' (some B)) (hB:B < N):SvF N B k va W':=h.step hg fun j e=>Or.inl (by have:=Option.some.inj e;omega)
theorem SvF.list (h:SvF N B k va W) (y:Value):SvF N B k y (W.setCell ⟨N + 2,5,none⟩ y):=
 ⟨(heap_setCell_other _ _ _ _ (by show N≠N + 2;omega)).trans h.a,(heap_setCell_other _ _ _ _ (by show N + 1≠N + 2;omega)).trans h.r,heap_setCell_same _ _ _ _ _ _ h.f⟩
theorem SvF.kind (h:SvF N B k va W) (m:Int):SvF N B m va (W.setCell ⟨N + 2,0,none⟩ (.int .i64 m)):=
 ⟨(heap_setCell_other _ _ _ _ (by show N≠N + 2;omega)).trans h.a,(heap_setCell_other _ _ _ _ (by show N + 1≠N + 2;omega)).trans h.r,heap_setCell_same _ _ _ _ _ _ h.f⟩
theorem Fils.grB {q:Nat→Prop} {lv:Value} {us:List Value} {fs:List Fil} {M:Nat} (h:Fils M q d W lv us fs) (hg:W.grownBy W' (some B)) (hB:B < M) (hq:∀ b,q b→M≤b):Fils M q d W' lv us fs:=
 ⟨owns_steady h.own hg hB,h.len,fun j hj hj'=>(h.at_ j hj hj').ag (Ag.grown hg fun g e hqg=>by have:=Option.some.inj e;have:=hq g hqg;omega)⟩
theorem SvEx.steady {qs0:List Value} {w0:World} (hB:B < N) (acc:List Fil):Steady B w0 (SvEx N B k d qs0 acc):=by
 intro qs W W' _ h hg
 obtain ⟨ao,cap,us,h1,h2⟩:=h.o
 exact ⟨h.q,ao,cap,us,h1.stepB hg hB,h2.grB hg (by omega) (fun b hb=>hb.1)⟩
end
def Filts (f:Nat):Prop:=∀ (p:Nat→Prop) (B:Nat) (ts:List Tok) (v:Value) (qs:List Value) (W:World),PsAt p B ts v qs W→Prs.Endd ts→ts.length≤f →
 Calls Tryz.prog 269 #[.pointer (some ⟨B,0,none⟩)] W fun e w'=>W.grownBy w' (some B)∧FilOut p B W.heap.size f qs (Tess.Prs.filter f) ts e w'
set_option maxRecDepth 100000 in
set_option maxHeartbeats 8000000 in
theorem several1_any {p:Nat→Prop} {B f d:Nat} {k:Int} {qs0:List Value} {L:Nat} (IH:Filts f) (w0:World) (hp:∀ b,p b→b < w0.heap.size) (hB:B < w0.heap.size) (hL:L≤1000000) (hf:L≤f) (hd:d=f) :
  Reads 325 #[.pointer (some ⟨w0.heap.size,0,none⟩),.pointer (some ⟨w0.heap.size + 2,0,none⟩)] p B w0 (Tess.Prs.filter f) (SvEx w0.heap.size B k d qs0) (fun W => ∃ x n c,SvF w0.heap.size B k (.slice x n c) W) L:=by
 subst hd
 intro acc ts v qs W h he hG hE hlen
 obtain ⟨j0,ji,jz0,jz1,jz2⟩:=info_parts infoFil
 obtain ⟨rfl,ao,cap0,us,hf',hfs⟩:=hE
 have hl0:0 < ts.length:=List.length_pos_iff.2 h.ne
 have hul:us.length + ts.length≤L:=by have:=hfs.len;omega
 have hNW:=hf'.lt
 have hWs:=hG.size
 have c1:=cell_of_row W w0.heap.size 0 _ _ _ hf'.a
 simp only [List.getElem?_toArray,List.getElem?_cons_zero] at c1
 have HI:=Lib.hid (IH p B ts v qs W h he (by omega))
 have HG:=Lib.hid hG
 have HF:=Lib.hid hf'
 have HS:=Lib.hid hfs
 clear hG h hf' hfs he hlen
 go_enter Tryz.func325,Tryz.ntmps325
 go_wp2_with (
  go_at_call 269;refine HI.out.mono ?_;clear HI;rintro e w2 ⟨hG2,y0,y1,a1,n1,m1,y3,y4,a2,n2,m2,err,rfl,hres⟩;have HG2:=Lib.hid hG2;have HR:=Lib.hid hres;clear hG2 hres)
 obtain ⟨W3,hW3⟩:∃ W3,w2.alloc (.cells #[.int .i64 y0,.string y1,.slice a1 n1 m1,.int .i64 y3,.int .i64 y4,.slice a2 n2 m2] 31)=W3:=⟨_,rfl⟩
 obtain ⟨t0,tS,tB⟩:=laid1 w2 (.cells #[.int .i64 y0,.string y1,.slice a1 n1 m1,.int .i64 y3,.int .i64 y4,.slice a2 n2 m2] 31)
 rw [hW3] at t0 tS tB ⊢
 have hf3:=HF.out.stepB (HG2.out.trans_below tB) hB
 obtain ⟨e0,e1,e2,e3,e4,e5⟩:=(box6k t0).1
 have f5:=(box6k hf3.f).1.2.2.2.2.2
 have h3s:=hf3.lt
 have h3t:w2.heap.size < W3.heap.size:=by omega
 have HF3:=Lib.hid hf3
 have HG3:=Lib.hid (HG2.out.trans_below tB)
 have HTB:=Lib.hid tB
 clear hW3 t0 tS tB hf3
 refine FlowT.wp_region 5 [5,6,7,8,9] [6,8] 7 9 (Flow.specs [.inl ?_,.inl ?_,.inl ?_,.inl ?_,.inr (newRow [.int .i64 0,.string ⟨#[]⟩,.slice none 0 0,.int .i64 0,.int .i64 0,.slice none 0 0])]) (by kernel_rfl) (by kernel_rfl) ?_ rfl rfl rfl ?_
 rotate_left 4
 ·refine Flow.specs_mono ?_
  repeat (first | exact Flow.lmono_nil | refine Flow.lmono_inl ?_ | refine Flow.lmono_inr (newRow_mono _) ?_)
 all_goals try simp only [List.take_succ_cons,List.take_zero]
 iterate 4 (refine Flow.tree_valK rfl (fun K hK=>⟨fun w hw hG => ?_,?_⟩);(have hcl:=Flow.bcell hw;clear hG hw;unfold Flow.Runs Flow.yields;go_simp;try rfl);go_simp;refine hK _ ?_;clear hK K)
 (refine Flow.tree_varK rfl (fun K hK=>⟨fun w hw hG => ?_,?_⟩);(clear hG hw;unfold Flow.Runs Flow.yields;go_simp;refine ⟨(Below.refl _ _).alloc (Nat.le_refl _) _,?_⟩);rotate_left;intro vz;go_simp;refine hK _ _ ?_;clear hK K;rotate_left)
 ·exact newRow_mk _ _ _
 refine Flow.tree_nil fun w8 hw8 hG => ?_
 obtain ⟨gn,rfl,hgn,hcn⟩:=(show newRow [.int .i64 0,.string ⟨#[]⟩,.slice none 0 0,.int .i64 0,.int .i64 0,.slice none 0 0] vz w8 by simpa [Flow.upd] using hG 4)
 have HW8:=Lib.hid hw8
 have HCN:=Lib.hid hcn
 have hw8s:=hw8.size
 clear hG hw8 hcn
 refine wpList_append_own_at _ rfl _ _ 29 rfl (w0.heap.size + 3) 31 j0 _ 6 88 Tryz.underlying29 ji jz0 jz1 jz2 rfl (by decide) _ us.length _ rfl (owns_below ((HS.out.grB HG3.out (by omega) (fun b hb=>hb.1)).own) HW8.out) ⟨gn,0,none⟩ 1 1 [.int .i64 0,.string ⟨#[]⟩,.slice none 0 0,.int .i64 0,.int .i64 0,.slice none 0 0] rfl rfl ?c1 (by simp [Value.oneCell']) (by unfold maxLen;omega) (by omega) (by omega) ?_
 case c1=>intro j u hj;rw [show (⟨gn,0,none⟩:Addr).add j=⟨gn,j,none⟩ by unfold Addr.add;split <;> simp_all];exact HCN.out j u hj
 intro v' w9 hown9 hgrow _ hloc
 have hgrow:w8.grownBy w9 (Value.slice ao us.length cap0).ownBlock:=hgrow
 have hloc:v'.ownBlock=(Value.slice ao us.length cap0).ownBlock∨v'.ownBlock=some w8.heap.size:=hloc
 have hs8:=(HS.out.grB HG3.out (by omega) (fun b hb=>hb.1)).below HW8.out
 have hrow:∀ j,(Value.slice ao us.length cap0).ownBlock=some j→w0.heap.size + 3≤j∧j < w8.heap.size:=fun j e=>hs8.own.lt j e
 obtain ⟨g,cap,rfl⟩:∃ g cap,v' = .slice (some ⟨g,0,none⟩) (us.length + 1) cap:=by
  rcases hown9.2 with ⟨_,h0⟩ | ⟨g,cap,cur,hv,_⟩
  ·omega
  ·exact ⟨g,cap,hv⟩
 have hxl:(us.flatMap cells6).length=us.length * 6:=by have:=hs8.own.1;omega
 have hG9:w0.grownBy w9 (some B):=((HG.out.transB HG3.out).trans_below HW8.out).row hgrow (fun j e=>by have:=hrow j e;omega)
 have hf9:=(HF3.out.stepB (grB_below HW8.out) hB).step hgrow (fun j e=>Or.inr (hrow j e).1)
 have f9:=(box6k hf9.f).1.2.2.2.2.2
 have z9:=(box6k hf9.f).2 5
 have h9s:=hf9.lt
 obtain ⟨g',cap',hv',hgN,hg9,_,_,hcl⟩:=owns_cell_any hown9 (Nat.succ_pos _)
 cases hv'
 have d0:w9.cell? ⟨g,us.length * 6,none⟩=some (.int .i64 0):=by rw [hcl _ (by omega),List.getElem?_append_right (by omega),hxl];simp
 have d1:w9.cell? ⟨g,us.length * 6 + 1,none⟩=some (.string ⟨#[]⟩):=by rw [hcl _ (by omega),List.getElem?_append_right (by omega),hxl];simp
 have d2:w9.cell? ⟨g,us.length * 6 + 2,none⟩=some (.slice none 0 0):=by rw [hcl _ (by omega),List.getElem?_append_right (by omega),hxl];simp
 have d3:w9.cell? ⟨g,us.length * 6 + 3,none⟩=some (.int .i64 0):=by rw [hcl _ (by omega),List.getElem?_append_right (by omega),hxl];simp
 have d4:w9.cell? ⟨g,us.length * 6 + 4,none⟩=some (.int .i64 0):=by rw [hcl _ (by omega),List.getElem?_append_right (by omega),hxl];simp
 have d5:w9.cell? ⟨g,us.length * 6 + 5,none⟩=some (.slice none 0 0):=by rw [hcl _ (by omega),List.getElem?_append_right (by omega),hxl];simp
 have zg:∀ i,w9.frozen? ⟨g,i,none⟩=false:=by
  rcases hown9.2 with ⟨e,_⟩ | ⟨g2,cap2,cur,hv,_,hg2,_⟩
  ·cases e
  ·cases hv;exact fun i=>frozen_of_row _ _ i _ _ hg2
 have hgl:us.length < us.length + 1:=Nat.lt_succ_self _
 have hngO:g≠w0.heap.size + 2:=by omega
 have HOWN:=Lib.hid hown9
 have HGR:=Lib.hid hgrow
 have HLOC:=Lib.hid hloc
 have HF9:=Lib.hid hf9
 have HG9:=Lib.hid hG9
 have HS8:=Lib.hid hs8
 have HXL:=Lib.hid hxl
 clear hown9 hgrow hloc hf9 hG9 hs8 hxl hcl
 have hOg:w0.heap.size + 2≠g:=by omega
 obtain ⟨Wa,hWa⟩:∃ Wa,((((((w9.setCell ⟨g,us.length * 6,none⟩ (.int .i64 y0)).setCell ⟨g,us.length * 6 + 1,none⟩ (.string y1)).setCell ⟨g,us.length * 6 + 2,none⟩ (.slice a1 n1 m1)).setCell ⟨g,us.length * 6 + 3,none⟩ (.int .i64 y3)).setCell ⟨g,us.length * 6 + 4,none⟩ (.int .i64 y4)).setCell ⟨g,us.length * 6 + 5,none⟩ (.slice a2 n2 m2))=Wa:=⟨_,rfl⟩
 have hownA:=owns_six HOWN.out (.int .i64 y0) (.string y1) (.slice a1 n1 m1) (.int .i64 y3) (.int .i64 y4) (.slice a2 n2 m2) HXL.out
 have hrg:(Value.slice ao us.length cap0).ownBlock=some g∨w8.heap.size≤g:=by
  rcases HLOC.out with e | e
  ·exact Or.inl e.symm
  ·exact Or.inr (Nat.le_of_eq (Option.some.inj e).symm)
 have hgA:=grownBy_setRow (grownBy_setRow (grownBy_setRow (grownBy_setRow (grownBy_setRow (grownBy_setRow HGR.out hrg (.int .i64 y0) (j:=us.length * 6)) hrg (.string y1) (j:=us.length * 6 + 1)) hrg (.slice a1 n1 m1) (j:=us.length * 6 + 2)) hrg (.int .i64 y3) (j:=us.length * 6 + 3)) hrg (.int .i64 y4) (j:=us.length * 6 + 4)) hrg (.slice a2 n2 m2) (j:=us.length * 6 + 5)
 rw [hWa] at hownA hgA
 have hGA:w0.grownBy Wa (some B):=((HG.out.transB HG3.out).trans_below HW8.out).row hgA (fun j e=>by have:=hrow j e;omega)
 have hfA:=(HF3.out.stepB (grB_below HW8.out) hB).step hgA (fun j e=>Or.inr (hrow j e).1)
 have hPA:∀ ts v qs,PsAt p B ts v qs w2→PsAt p B ts v qs Wa:=fun ts v qs h=>((h.below HTB.out).below HW8.out).later hp hB hgA (fun j e=>by have:=hrow j e;omega)
 have hSA:∀ x,FilAt (fun b=>W.heap.size≤b) d w2 (.agg #[.int .i64 y0,.string y1,.slice a1 n1 m1,.int .i64 y3,.int .i64 y4,.slice a2 n2 m2]) x→Fils (w0.heap.size + 3) (fun b=>w0.heap.size + 3≤b∧(Value.slice (some ⟨g,0,none⟩) (us.length + 1) cap).ownBlock≠some b) d Wa (.slice (some ⟨g,0,none⟩) (us.length + 1) cap) (us ++ [.agg #[.int .i64 y0,.string y1,.slice a1 n1 m1,.int .i64 y3,.int .i64 y4,.slice a2 n2 m2]]) (acc ++ [x]):=fun x hx=>
  Fils.more (L:=W.heap.size) HS8.out ((hx.ag (Ag.new _ HTB.out)).ag (Ag.new _ HW8.out)) (fun j e=>(HS.out.own.lt j e).2) (by omega) hownA hgA HLOC.out
 have HWA:=Lib.hid hWa
 have HGA:=Lib.hid hGA
 have HFA:=Lib.hid hfA
 have HPA:=Lib.hid hPA
 have HSA:=Lib.hid hSA
 clear hownA hrg hgA hGA hfA hPA hSA hWa
 refine ⟨rfl,?_⟩
 refine ⟨_,.pointer (some ⟨g,us.length * 6,none⟩),rfl,rfl,(fun w=>by go_simp;intro h;omega),_,.pointer (some ⟨w0.heap.size + 2,5,none⟩),rfl,rfl,(fun w=>by go_simp),?_,?_⟩
 all_goals
  go_wp2
  refine ⟨rfl,?_⟩
  repeat rw [setCell_swap _ (.slice (some ⟨g,0,none⟩) (us.length + 1) cap) _ hOg]
  rw [HWA.out]
  go_wp2
  go_ret
  refine ⟨HGA.out.setN (g:=w0.heap.size + 2) 5 _ (by omega),?_⟩
  have hP:∀ ts v qs,PsAt p B ts v qs w2→PsAt p B ts v qs (Wa.setCell ⟨w0.heap.size + 2,5,none⟩ (.slice (some ⟨g,0,none⟩) (us.length + 1) cap)):=fun ts v qs h=>(HPA.out ts v qs h).set (g:=w0.heap.size + 2) 5 _ (by omega) (fun hq=>by have:=hp _ hq;omega)
  rcases HR.out with ⟨x,r,v2,ht,rfl,hPx,hx⟩ | ⟨j,ht,rfl,ts2,v2,qs2,hPx⟩
  ·refine Or.inl ⟨x,r,v2,_,ht,rfl,hP _ _ _ hPx,rfl,some ⟨g,0,none⟩,cap,us ++ [.agg #[.int .i64 y0,.string y1,.slice a1 n1 m1,.int .i64 y3,.int .i64 y4,.slice a2 n2 m2]],?_,?_⟩
   ·rw [List.length_append];exact HFA.out.list _
   ·rw [List.length_append];exact (HSA.out x hx).set (by omega) (fun b hb=>hb.1) _
  ·exact Or.inr ⟨j,ht,rfl,⟨_,_,_,HFA.out.list _⟩,_,_,_,hP _ _ _ hPx⟩
end Go.Proofs.YtbbgjjjeecfnoaaGreatDoor
