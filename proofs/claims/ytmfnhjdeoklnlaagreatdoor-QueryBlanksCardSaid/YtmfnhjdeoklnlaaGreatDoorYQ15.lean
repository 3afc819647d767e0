/- The parser's asked: walked. Written by genQ15.py. -/
import Derived.Test.YtmfnhjdeoklnlaaGreatDoorYQC
namespace Go.Proofs.YtmfnhjdeoklnlaaGreatDoor
open Go.RowKit Go.Sort
open Tess (Fil Tok Prs.next Prs.skip Prs.isT Prs.Endd Prs.Keeps)
theorem words_at (B F N:Nat) (w:World) (hN:w.heap.size=N + 2):Calls Tryz.prog 242 #[.pointer (some ⟨B,0,none⟩),.pointer (some ⟨F,0,none⟩)] w fun e w'=>
  e = .returned (.func (.func 259) #[] #[.pointer (some ⟨N + 2,0,none⟩),.pointer (some ⟨N + 3,0,none⟩)])∧(w.alloc (.cells #[.pointer (some ⟨B,0,none⟩)] 57)).alloc (.cells #[.pointer (some ⟨F,0,none⟩)] 276)=w':=by
 have h:=words_any B F w
 rw [hN] at h
 exact h
section
variable {ts r r2 r3 r4:List Tok} {nm:ByteArray}
theorem asked_none (h:Prs.isT [Tess.Prs.wNone] ts=some r):Tess.Prs.asked nm ts = .ok (.mk 3 nm [] 0 0 [],r):=by unfold Tess.Prs.asked Tess.Prs.isR;rw [h]
theorem asked_prefix (h:Prs.isT [Tess.Prs.wNone] ts=none) (h2:Prs.isT [Tess.Prs.wPrefix] ts=some r):Tess.Prs.asked nm ts=Tess.Prs.bindR (Tess.Prs.take 4 r) fun w r2 => .ok (.mk 4 nm [w] 0 0 [],r2):=by
 unfold Tess.Prs.asked Tess.Prs.isR;rw [h];simp only;rw [h2];rfl
theorem asked_is (h:Prs.isT [Tess.Prs.wNone] ts=none) (h2:Prs.isT [Tess.Prs.wPrefix] ts=none) (h3:Prs.isT [Tess.Prs.wIs] ts=some r):Tess.Prs.asked nm ts=Tess.Prs.bindR (Tess.Prs.list Tess.Prs.wBar (Tess.Prs.take 4) r.length r) fun l r2 => .ok (.mk 2 nm l 0 0 [],r2):=by
 unfold Tess.Prs.asked Tess.Prs.isR;rw [h];simp only;rw [h2];simp only;rw [h3];rfl
theorem asked_between (h:Prs.isT [Tess.Prs.wNone] ts=none) (h2:Prs.isT [Tess.Prs.wPrefix] ts=none) (h3:Prs.isT [Tess.Prs.wIs] ts=none) (h4:Prs.isT [Tess.Prs.wBetween] ts=some r) :
  Tess.Prs.asked nm ts=Tess.Prs.bindR (Tess.Prs.take 4 r) fun a r2=>Tess.Prs.must Tess.Prs.wDots r2 fun r3=>Tess.Prs.bindR (Tess.Prs.take 4 r3) fun b r4 => .ok (.mk 5 nm [a,b] 0 0 [],r4):=by
 unfold Tess.Prs.asked Tess.Prs.isR;rw [h];simp only;rw [h2];simp only;rw [h3];simp only;rw [h4];rfl
theorem asked_no (h:Prs.isT [Tess.Prs.wNone] ts=none) (h2:Prs.isT [Tess.Prs.wPrefix] ts=none) (h3:Prs.isT [Tess.Prs.wIs] ts=none) (h4:Prs.isT [Tess.Prs.wBetween] ts=none):Tess.Prs.asked nm ts = .error (Prs.next ts).pos:=by
 unfold Tess.Prs.asked Tess.Prs.isR;rw [h];simp only;rw [h2];simp only;rw [h3];simp only;rw [h4];rfl
end
def FilOut (p:Nat→Prop) (B N n:Nat) (qs:List Value) (rd:List Tok→Tess.Prs.R Fil) (ts:List Tok) (e:Ending) (w':World):Prop:=
 ∃ k s a1 n1 m1 fr to a2 n2 m2 err,e = .returned (.tuple #[.agg #[.int .i64 k,.string s,.slice a1 n1 m1,.int .i64 fr,.int .i64 to,.slice a2 n2 m2],err]) ∧
   ((∃ f r v',rd ts = .ok (f,r)∧err = .nilIface∧PsAt p B r v' qs w'∧FilAt (fun b=>N≤b) n w' (.agg #[.int .i64 k,.string s,.slice a1 n1 m1,.int .i64 fr,.int .i64 to,.slice a2 n2 m2]) f) ∨
    (∃ j,rd ts = .error j∧err=errF j∧∃ ts' v' qs',PsAt p B ts' v' qs' w'))
theorem fil_leaf {q:Nat→Prop} {W:World} {va:Value} {ws:List ByteArray} {nm:ByteArray} (k a b:Int) (h:SlP q W va (ws.map .string)) (hs:∀ x ∈ ws,x.size≤maxLen) (hn:nm.size≤maxLen):FilAt q 1 W (.agg #[.int .i64 k,.string nm,va,.int .i64 a,.int .i64 b,.slice none 0 0]) (.mk k nm ws a b []):=
 ⟨va,none,0,rfl,hn,h,hs,Nat.zero_le _,fun _=>rfl,fun h=>absurd h (Nat.lt_irrefl 0)⟩
section
variable {p:Nat→Prop} {B:Nat} {k:Int} {nm:ByteArray} {va:Value} {w X W9:World}
theorem asked_end (hF:WdF w.heap.size B k nm va X) (hG:w.grownBy X (some B)) (hlt:B < w.heap.size) (hb:¬ p B)
  (hW:((((((X.setCell ⟨w.heap.size,0,none⟩ (.int .i64 k)).setCell ⟨w.heap.size,1,none⟩ (.string nm)).setCell ⟨w.heap.size,2,none⟩ va).setCell ⟨w.heap.size,3,none⟩ (.int .i64 0)).setCell ⟨w.heap.size,4,none⟩ (.int .i64 0)).setCell ⟨w.heap.size,5,none⟩ (.slice none 0 0))=W9) :
  W9.heap[w.heap.size]? = some (.cells #[.int .i64 k,.string nm,va,.int .i64 0,.int .i64 0,.slice none 0 0] 29 (0,0))∧w.grownBy W9 (some B) ∧
   (∀ ts v qs,PsAt (fun b=>p b∧b < w.heap.size) B ts v qs X→PsAt p B ts v qs W9)∧(∀ v cs,SlP (fun b=>w.heap.size + 4≤b) X v cs→SlP (fun b=>w.heap.size≤b) W9 v cs):=by
 refine ⟨hW ▸ set6 _ _ _ _ _ _ hF.r,hW ▸ (((((hG.setN 0 _ (Nat.le_refl _)).setN 1 _ (Nat.le_refl _)).setN 2 _ (Nat.le_refl _)).setN 3 _ (Nat.le_refl _)).setN 4 _ (Nat.le_refl _)).setN 5 _ (Nat.le_refl _),fun ts v qs h => ?_,fun v cs h => ?_⟩
 ·have n1:w.heap.size≠B:=by omega
  have n2:¬ ((fun b=>p b∧b < w.heap.size) w.heap.size):=fun h=>Nat.lt_irrefl _ h.2
  exact hW ▸ PsAt.weak (fun b hb=>hb.1) hb ((((((h.set 0 _ n1 n2).set 1 _ n1 n2).set 2 _ n1 n2).set 3 _ n1 n2).set 4 _ n1 n2).set 5 _ n1 n2)
 ·exact hW ▸ (h.ag (set6_ag _ _ _ _ _ _ _ (by show ¬ (w.heap.size + 4≤w.heap.size);omega))).weak fun b hb=>by have:w.heap.size + 4≤b:=hb;omega
end
set_option maxRecDepth 100000 in
set_option maxHeartbeats 8000000 in
theorem asked_any {p:Nat→Prop} {B:Nat} {ts:List Tok} {v:Value} {qs:List Value} (nm:ByteArray) (w:World) (h:PsAt p B ts v qs w) (he:Prs.Endd ts) (hL:ts.length≤1000000) (hnm:nm.size≤maxLen) :
  Calls Tryz.prog 221 #[.pointer (some ⟨B,0,none⟩),.string nm] w fun e w'=>w.grownBy w' (some B)∧FilOut p B w.heap.size 1 qs (Tess.Prs.asked nm) ts e w':=by
 have hlt:=h.lt
 obtain ⟨l0,l1,lS,lB⟩:=laid2 w (.cells #[.int .i64 0,.string ⟨#[]⟩,.slice none 0 0,.int .i64 0,.int .i64 0,.slice none 0 0] 29) (.cells #[.int .i64 0,.string nm,.slice none 0 0,.int .i64 0,.int .i64 0,.slice none 0 0] 29)
 obtain ⟨m0,m1,mS,mB⟩:=laid2 ((w.alloc (.cells #[.int .i64 0,.string ⟨#[]⟩,.slice none 0 0,.int .i64 0,.int .i64 0,.slice none 0 0] 29)).alloc (.cells #[.int .i64 0,.string nm,.slice none 0 0,.int .i64 0,.int .i64 0,.slice none 0 0] 29)) (.cells #[.pointer (some ⟨B,0,none⟩)] 57) (.cells #[.pointer (some ⟨w.heap.size + 1,0,none⟩)] 276)
 have HWA:=Lib.hid (words_at B (w.heap.size + 1) w.heap.size _ lS)
 have HB:=Lib.hid (Bt lB mB)
 have n0:=(mB.block _ (by rw [lS];omega)).trans l0
 have n1:=(mB.block _ (by rw [lS];omega)).trans l1
 rw [lS] at m0 m1
 have HF0:=Lib.hid (⟨n0,n1,m0,m1⟩:WdF w.heap.size B 0 nm (.slice none 0 0) _)
 have HP0:=Lib.hid (h.ltP.below HB.out)
 have HE:=Lib.hid he
 have HNB:=Lib.hid h.b
 clear h he l0 l1 lS lB m0 m1 mS mB n0 n1
 go_enter Tryz.func221,Tryz.ntmps221
 go_wp2_with (
  go_at_call 242;refine HWA.out.mono ?_;clear HWA;rintro e w2 ⟨rfl,hw2⟩;rw [hw2] at HF0 HP0 HB;clear hw2)
 go_wp2_with (first
  | (go_at_call 74;refine (is3_any Tess.Prs.wNone _ rfl HP0.out).mono ?_;rintro e w3 ⟨hGx,⟨rx,vx,hTx,rfl,hPx⟩ | ⟨hTx,rfl,vx,hPx⟩⟩ <;>
    (have hFx:=HF0.out.stepB hGx hlt
     have cF:=(box6k hFx.f).1;have zF:=(box6k hFx.f).2;have zR:=(box6k hFx.r).2;have cR:=(box6k hFx.r).1
     have hFs:=hFx.lt;have hRs:w.heap.size < w3.heap.size:=by omega
     have hFs1:w.heap.size + 1 < w3.heap.size:=by omega
     have HF3:=Lib.hid hFx;have HP3:=Lib.hid hPx;have HG3:=Lib.hid ((grB_below HB.out).transB hGx);have HT3:=Lib.hid hTx;clear hFx hPx hGx hTx HP0))
  | (go_at_call 74;refine (is3_any Tess.Prs.wPrefix _ rfl HP3.out).mono ?_;rintro e w4 ⟨hGx,⟨rx,vx,hTx,rfl,hPx⟩ | ⟨hTx,rfl,vx,hPx⟩⟩ <;>
    (have hFx:=HF3.out.stepB hGx hlt
     have cF:=(box6k hFx.f).1;have zF:=(box6k hFx.f).2;have zR:=(box6k hFx.r).2;have cR:=(box6k hFx.r).1
     have hFs:=hFx.lt;have hRs:w.heap.size < w4.heap.size:=by omega
     have hFs1:w.heap.size + 1 < w4.heap.size:=by omega
     have HF4:=Lib.hid hFx;have HP4:=Lib.hid hPx;have HG4:=Lib.hid (HG3.out.transB hGx);have HT4:=Lib.hid hTx;clear hFx hPx hGx hTx HP3))
  | (go_at_call 74;refine (is3_any Tess.Prs.wIs _ rfl HP4.out).mono ?_;rintro e w5 ⟨hGx,⟨rx,vx,hTx,rfl,hPx⟩ | ⟨hTx,rfl,vx,hPx⟩⟩ <;>
    (have hFx:=HF4.out.stepB hGx hlt
     have cF:=(box6k hFx.f).1;have zF:=(box6k hFx.f).2;have zR:=(box6k hFx.r).2;have cR:=(box6k hFx.r).1
     have hFs:=hFx.lt;have hRs:w.heap.size < w5.heap.size:=by omega
     have hFs1:w.heap.size + 1 < w5.heap.size:=by omega
     have HF5:=Lib.hid hFx;have HP5:=Lib.hid hPx;have HG5:=Lib.hid (HG4.out.transB hGx);have HT5:=Lib.hid hTx;clear hFx hPx hGx hTx HP4))
  | (go_at_call 74;refine (is3_any Tess.Prs.wBetween _ rfl HP5.out).mono ?_;rintro e w6 ⟨hGx,⟨rx,vx,hTx,rfl,hPx⟩ | ⟨hTx,rfl,vx,hPx⟩⟩ <;>
    (have hFx:=HF5.out.stepB hGx hlt
     have cF:=(box6k hFx.f).1;have zF:=(box6k hFx.f).2;have zR:=(box6k hFx.r).2;have cR:=(box6k hFx.r).1
     have hFs:=hFx.lt;have hRs:w.heap.size < w6.heap.size:=by omega
     have hFs1:w.heap.size + 1 < w6.heap.size:=by omega
     have HF6:=Lib.hid hFx;have HP6:=Lib.hid hPx;have HG6:=Lib.hid (HG5.out.transB hGx);have HT6:=Lib.hid hTx;clear hFx hPx hGx hTx HP5))
  | (go_at_call 259;refine (words1_any (p:=fun b=>p b∧b < w.heap.size) (c0:=0) (nm:=nm) (qs0:=qs) (L:=1000000) w (fun b hb=>hb.2) hlt (Nat.le_refl _) [] _ _ _ w4 HP4.out (HE.out.isT HT4.out).1 HG4.out ⟨rfl,⟨_,HF4.out,World.ownsRow_nil _ _ _ _,fun _=>rfl⟩,fun x hx=>by cases hx⟩ (by have:=(HE.out.isT HT4.out).2.1;simp only [List.length_nil];omega)).mono ?_;rintro e w7 ⟨hGx,⟨xw7,rxw7,vx,qsx,hTx,rfl,hPx,hEx⟩ | ⟨kw7,hTx,rfl,⟨y1,y2,y3,hFx⟩,tsx,vx,qsx,hPx⟩⟩ <;>
    (try (obtain ⟨hqx,⟨va,hFx,hOx,_⟩,hSx⟩:=hEx;rw [hqx] at hPx;clear hqx)
     try obtain ⟨y1,y2,y3,rfl⟩:=(SlP.owned hOx).shape
     have cF:=(box6k hFx.f).1;have zF:=(box6k hFx.f).2;have zR:=(box6k hFx.r).2;have cR:=(box6k hFx.r).1
     have hFs:=hFx.lt;have hRs:w.heap.size < w7.heap.size:=by omega
     have hFs1:w.heap.size + 1 < w7.heap.size:=by omega
     have HFw7:=Lib.hid hFx;have HPw7:=Lib.hid hPx;have HGw7:=Lib.hid hGx;have HTw7:=Lib.hid hTx;(try have HOw7:=Lib.hid hOx);clear hFx hPx hGx hTx))
  | (go_at_call 259;refine (words1_any (p:=fun b=>p b∧b < w.heap.size) (c0:=5) (nm:=nm) (qs0:=qs) (L:=1000000) w (fun b hb=>hb.2) hlt (Nat.le_refl _) [] _ _ _ (w6.setCell ⟨w.heap.size + 1,0,none⟩ (.int .i64 5)) (HP6.out.set (g:=w.heap.size + 1) 0 (.int .i64 5) (by omega) (fun h=>by have:=h.2;omega)) (HE.out.isT HT6.out).1 (HG6.out.setN (g:=w.heap.size + 1) 0 (.int .i64 5) (by omega)) ⟨rfl,⟨_,HF6.out.kind 5,World.ownsRow_nil _ _ _ _,fun _=>rfl⟩,fun x hx=>by cases hx⟩ (by have:=(HE.out.isT HT6.out).2.1;simp only [List.length_nil];omega)).mono ?_;rintro e w8 ⟨hGx,⟨xw8,rxw8,vx,qsx,hTx,rfl,hPx,hEx⟩ | ⟨kw8,hTx,rfl,⟨y1,y2,y3,hFx⟩,tsx,vx,qsx,hPx⟩⟩ <;>
    (try (obtain ⟨hqx,⟨va,hFx,hOx,_⟩,hSx⟩:=hEx;rw [hqx] at hPx;clear hqx)
     try obtain ⟨y1,y2,y3,rfl⟩:=(SlP.owned hOx).shape
     have cF:=(box6k hFx.f).1;have zF:=(box6k hFx.f).2;have zR:=(box6k hFx.r).2;have cR:=(box6k hFx.r).1
     have hFs:=hFx.lt;have hRs:w.heap.size < w8.heap.size:=by omega
     have hFs1:w.heap.size + 1 < w8.heap.size:=by omega
     have HFw8:=Lib.hid hFx;have HPw8:=Lib.hid hPx;have HGw8:=Lib.hid hGx;have HTw8:=Lib.hid hTx;(try have HOw8:=Lib.hid hOx);clear hFx hPx hGx hTx)))
 ·obtain ⟨W9,hW9⟩:∃ W9,(((((((w3.setCell ⟨w.heap.size + 1,0,none⟩ (.int .i64 3)).setCell ⟨w.heap.size,0,none⟩ (.int .i64 3)).setCell ⟨w.heap.size,1,none⟩ (.string nm)).setCell ⟨w.heap.size,2,none⟩ (.slice none 0 0)).setCell ⟨w.heap.size,3,none⟩ (.int .i64 0)).setCell ⟨w.heap.size,4,none⟩ (.int .i64 0)).setCell ⟨w.heap.size,5,none⟩ (.slice none 0 0))=W9:=⟨_,rfl⟩
  obtain ⟨k9,g9,p9,s9⟩:=asked_end (p:=p) (HF3.out.kind 3) (HG3.out.setN (g:=w.heap.size + 1) 0 (.int .i64 3) (by omega)) hlt HNB.out hW9
  rw [hW9]
  obtain ⟨⟨e0,e1,e2,e3,e4,e5⟩,_⟩:=box6k k9
  refine bodyPost_ret (v:=.tuple #[.agg #[.int .i64 3,.string nm,.slice none 0 0,.int .i64 0,.int .i64 0,.slice none 0 0],.nilIface]) (by simp [results,Tryz.results221,go_sem,e0,e1,e2,e3,e4,e5]) rfl ⟨g9,_,_,_,_,_,_,_,_,_,_,_,rfl,?_⟩
  exact Or.inl ⟨.mk 3 nm [] 0 0 [],_,_,asked_none HT3.out,rfl,p9 _ _ _ (HP3.out.set (g:=w.heap.size + 1) 0 (.int .i64 3) (by omega) (fun h=>by have:=h.2;omega)),fil_leaf 3 0 0 (s9 _ _ (SlP.nil _ _)) (fun x hx=>by cases hx) hnm⟩
 ·obtain ⟨W9,hW9⟩:∃ W9,(((((((w7.setCell ⟨w.heap.size + 1,0,none⟩ (.int .i64 4)).setCell ⟨w.heap.size,0,none⟩ (.int .i64 4)).setCell ⟨w.heap.size,1,none⟩ (.string nm)).setCell ⟨w.heap.size,2,none⟩ (.slice y1 y2 y3)).setCell ⟨w.heap.size,3,none⟩ (.int .i64 0)).setCell ⟨w.heap.size,4,none⟩ (.int .i64 0)).setCell ⟨w.heap.size,5,none⟩ (.slice none 0 0))=W9:=⟨_,rfl⟩
  obtain ⟨k9,g9,p9,s9⟩:=asked_end (p:=p) (HFw7.out.kind 4) (HGw7.out.setN (g:=w.heap.size + 1) 0 (.int .i64 4) (by omega)) hlt HNB.out hW9
  rw [hW9]
  obtain ⟨⟨e0,e1,e2,e3,e4,e5⟩,_⟩:=box6k k9
  refine bodyPost_ret (v:=.tuple #[.agg #[.int .i64 4,.string nm,.slice y1 y2 y3,.int .i64 0,.int .i64 0,.slice none 0 0],.nilIface]) (by simp [results,Tryz.results221,go_sem,e0,e1,e2,e3,e4,e5]) rfl ⟨g9,_,_,_,_,_,_,_,_,_,_,_,rfl,?_⟩
  exact Or.inl ⟨.mk 4 nm [xw7] 0 0 [],_,_,by rw [asked_prefix HT3.out HT4.out,bindR_ok HTw7.out],rfl,p9 _ _ _ (HPw7.out.set (g:=w.heap.size + 1) 0 (.int .i64 4) (by omega) (fun h=>by have:=h.2;omega)),fil_leaf 4 0 0 (s9 _ _ ((SlP.owned HOw7.out).ag (Ag.set _ _ _ (by show ¬ (w.heap.size + 4≤w.heap.size + 1);omega)))) (hSx) hnm⟩
 ·obtain ⟨W9,hW9⟩:∃ W9,(((((((w7.setCell ⟨w.heap.size + 1,0,none⟩ (.int .i64 4)).setCell ⟨w.heap.size,0,none⟩ (.int .i64 4)).setCell ⟨w.heap.size,1,none⟩ (.string nm)).setCell ⟨w.heap.size,2,none⟩ (.slice y1 y2 y3)).setCell ⟨w.heap.size,3,none⟩ (.int .i64 0)).setCell ⟨w.heap.size,4,none⟩ (.int .i64 0)).setCell ⟨w.heap.size,5,none⟩ (.slice none 0 0))=W9:=⟨_,rfl⟩
  obtain ⟨k9,g9,p9,s9⟩:=asked_end (p:=p) (HFw7.out.kind 4) (HGw7.out.setN (g:=w.heap.size + 1) 0 (.int .i64 4) (by omega)) hlt HNB.out hW9
  rw [hW9]
  obtain ⟨⟨e0,e1,e2,e3,e4,e5⟩,_⟩:=box6k k9
  refine bodyPost_ret (v:=.tuple #[.agg #[.int .i64 4,.string nm,.slice y1 y2 y3,.int .i64 0,.int .i64 0,.slice none 0 0],errF kw7]) (by simp [results,Tryz.results221,go_sem,e0,e1,e2,e3,e4,e5]) rfl ⟨g9,_,_,_,_,_,_,_,_,_,_,_,rfl,?_⟩
  exact Or.inr ⟨kw7,by rw [asked_prefix HT3.out HT4.out,bindR_err HTw7.out],rfl,_,_,_,p9 _ _ _ (HPw7.out.set (g:=w.heap.size + 1) 0 (.int .i64 4) (by omega) (fun h=>by have:=h.2;omega))⟩
 ·have HM:=Lib.hid (list_words (p:=fun b=>p b∧b < w.heap.size) Tess.Prs.wBar (Tess.Prs.take 4) (.pointer (some ⟨w.heap.size + 2,0,none⟩)) (.pointer (some ⟨w.heap.size + 3,0,none⟩)) (WdEx w.heap.size B 0 nm qs) (fun W => ∃ x n c,WdF w.heap.size B 0 nm (.slice x n c) W) 1000000 w w5
   HP5.out (HE.out.isT HT5.out).1 (Tess.Prs.take_keeps 4) HG5.out ⟨rfl,⟨_,HF5.out,World.ownsRow_nil _ _ _ _,fun _=>rfl⟩,fun x hx=>by cases hx⟩ (by have:=(HE.out.isT HT5.out).2.1;omega) (WdEx.steady hlt) (words1_any w (fun b hb=>hb.2) hlt (Nat.le_refl _)))
  go_wp2_with (
   go_at_call 71;refine HM.out.mono ?_;clear HM;rintro e w7 ⟨hGx,⟨ls,rxw7,vx,qsx,hTx,rfl,hPx,hEx⟩ | ⟨kw7,hTx,rfl,⟨y1,y2,y3,hFx⟩,tsx,vx,qsx,hPx⟩⟩ <;>
   (try (obtain ⟨hqx,⟨va,hFx,hOx,_⟩,hSx⟩:=hEx;rw [hqx] at hPx;clear hqx)
    try obtain ⟨y1,y2,y3,rfl⟩:=(SlP.owned hOx).shape
    have cF:=(box6k hFx.f).1;have zF:=(box6k hFx.f).2;have zR:=(box6k hFx.r).2;have cR:=(box6k hFx.r).1
    have hFs:=hFx.lt;have hRs:w.heap.size < w7.heap.size:=by omega
    have hFs1:w.heap.size + 1 < w7.heap.size:=by omega
    have HFw7:=Lib.hid hFx;have HPw7:=Lib.hid hPx;have HGw7:=Lib.hid hGx;have HTw7:=Lib.hid hTx;(try have HOw7:=Lib.hid hOx);clear hFx hPx hGx hTx))
  ·obtain ⟨W9,hW9⟩:∃ W9,(((((((w7.setCell ⟨w.heap.size + 1,0,none⟩ (.int .i64 2)).setCell ⟨w.heap.size,0,none⟩ (.int .i64 2)).setCell ⟨w.heap.size,1,none⟩ (.string nm)).setCell ⟨w.heap.size,2,none⟩ (.slice y1 y2 y3)).setCell ⟨w.heap.size,3,none⟩ (.int .i64 0)).setCell ⟨w.heap.size,4,none⟩ (.int .i64 0)).setCell ⟨w.heap.size,5,none⟩ (.slice none 0 0))=W9:=⟨_,rfl⟩
   obtain ⟨k9,g9,p9,s9⟩:=asked_end (p:=p) (HFw7.out.kind 2) (HGw7.out.setN (g:=w.heap.size + 1) 0 (.int .i64 2) (by omega)) hlt HNB.out hW9
   rw [hW9]
   obtain ⟨⟨e0,e1,e2,e3,e4,e5⟩,_⟩:=box6k k9
   refine bodyPost_ret (v:=.tuple #[.agg #[.int .i64 2,.string nm,.slice y1 y2 y3,.int .i64 0,.int .i64 0,.slice none 0 0],.nilIface]) (by simp [results,Tryz.results221,go_sem,e0,e1,e2,e3,e4,e5]) rfl ⟨g9,_,_,_,_,_,_,_,_,_,_,_,rfl,?_⟩
   exact Or.inl ⟨.mk 2 nm ls 0 0 [],_,_,by rw [asked_is HT3.out HT4.out HT5.out,bindR_ok HTw7.out],rfl,p9 _ _ _ (HPw7.out.set (g:=w.heap.size + 1) 0 (.int .i64 2) (by omega) (fun h=>by have:=h.2;omega)),fil_leaf 2 0 0 (s9 _ _ ((SlP.owned HOw7.out).ag (Ag.set _ _ _ (by show ¬ (w.heap.size + 4≤w.heap.size + 1);omega)))) (hSx) hnm⟩
  ·obtain ⟨W9,hW9⟩:∃ W9,(((((((w7.setCell ⟨w.heap.size + 1,0,none⟩ (.int .i64 2)).setCell ⟨w.heap.size,0,none⟩ (.int .i64 2)).setCell ⟨w.heap.size,1,none⟩ (.string nm)).setCell ⟨w.heap.size,2,none⟩ (.slice y1 y2 y3)).setCell ⟨w.heap.size,3,none⟩ (.int .i64 0)).setCell ⟨w.heap.size,4,none⟩ (.int .i64 0)).setCell ⟨w.heap.size,5,none⟩ (.slice none 0 0))=W9:=⟨_,rfl⟩
   obtain ⟨k9,g9,p9,s9⟩:=asked_end (p:=p) (HFw7.out.kind 2) (HGw7.out.setN (g:=w.heap.size + 1) 0 (.int .i64 2) (by omega)) hlt HNB.out hW9
   rw [hW9]
   obtain ⟨⟨e0,e1,e2,e3,e4,e5⟩,_⟩:=box6k k9
   refine bodyPost_ret (v:=.tuple #[.agg #[.int .i64 2,.string nm,.slice y1 y2 y3,.int .i64 0,.int .i64 0,.slice none 0 0],errF kw7]) (by simp [results,Tryz.results221,go_sem,e0,e1,e2,e3,e4,e5]) rfl ⟨g9,_,_,_,_,_,_,_,_,_,_,_,rfl,?_⟩
   exact Or.inr ⟨kw7,by rw [asked_is HT3.out HT4.out HT5.out,bindR_err HTw7.out],rfl,_,_,_,p9 _ _ _ (HPw7.out.set (g:=w.heap.size + 1) 0 (.int .i64 2) (by omega) (fun h=>by have:=h.2;omega))⟩
 ·have HEw8:=Lib.hid (Tess.Prs.take_keeps 4 _ _ _ (HE.out.isT HT6.out).1 HTw8.out)
  have HL8:=Lib.hid (HE.out.isT HT6.out).2.1
  go_wp2_with (first
  | (go_at_call 70;refine (must2_any Tess.Prs.wDots _ rfl HPw8.out).mono ?_;rintro e w9 ⟨hGx,⟨r9,v9,hTx,rfl,hPx⟩ | ⟨hTx,rfl,v9,hPx⟩⟩ <;>
    (have hFx:=HFw8.out.stepB hGx hlt
     have hOx:=owns_steady HOw8.out hGx (by omega)
     have cF:=(box6k hFx.f).1;have zF:=(box6k hFx.f).2;have zR:=(box6k hFx.r).2;have cR:=(box6k hFx.r).1
     have hFs:=hFx.lt;have hRs:w.heap.size < w9.heap.size:=by omega
     have hFs1:w.heap.size + 1 < w9.heap.size:=by omega
     have HF9:=Lib.hid hFx;have HP9:=Lib.hid hPx;have HG9:=Lib.hid (HGw8.out.transB hGx);have HT9:=Lib.hid hTx;have HO9:=Lib.hid hOx;clear hFx hPx hGx hTx hOx HPw8))
  | (go_at_call 259;refine (words1_any (p:=fun b=>p b∧b < w.heap.size) (c0:=5) (nm:=nm) (qs0:=qs) (L:=1000000) w (fun b hb=>hb.2) hlt (Nat.le_refl _) [xw8] _ _ _ w9 HP9.out (HEw8.out.1.isT HT9.out).1 HG9.out ⟨rfl,⟨_,HF9.out,HO9.out,fun e=>by cases e⟩,hSx⟩ (by have:=HL8.out;have:=(HEw8.out.1.isT HT9.out).2.1;have:=HEw8.out.2.length_le;simp only [List.length_cons,List.length_nil];omega)).mono ?_;rintro e w10 ⟨hGx,⟨xw10,rxw10,vx,qsx,hTx,rfl,hPx,hEx⟩ | ⟨kw10,hTx,rfl,⟨y1,y2,y3,hFx⟩,tsx,vx,qsx,hPx⟩⟩ <;>
    (try (obtain ⟨hqx,⟨va,hFx,hOx,_⟩,hSx⟩:=hEx;rw [hqx] at hPx;clear hqx)
     try obtain ⟨y1,y2,y3,rfl⟩:=(SlP.owned hOx).shape
     have cF:=(box6k hFx.f).1;have zF:=(box6k hFx.f).2;have zR:=(box6k hFx.r).2;have cR:=(box6k hFx.r).1
     have hFs:=hFx.lt;have hRs:w.heap.size < w10.heap.size:=by omega
     have hFs1:w.heap.size + 1 < w10.heap.size:=by omega
     have HFw10:=Lib.hid hFx;have HPw10:=Lib.hid hPx;have HGw10:=Lib.hid hGx;have HTw10:=Lib.hid hTx;(try have HOw10:=Lib.hid hOx);clear hFx hPx hGx hTx)))
  ·obtain ⟨W9,hW9⟩:∃ W9,((((((w10.setCell ⟨w.heap.size,0,none⟩ (.int .i64 5)).setCell ⟨w.heap.size,1,none⟩ (.string nm)).setCell ⟨w.heap.size,2,none⟩ (.slice y1 y2 y3)).setCell ⟨w.heap.size,3,none⟩ (.int .i64 0)).setCell ⟨w.heap.size,4,none⟩ (.int .i64 0)).setCell ⟨w.heap.size,5,none⟩ (.slice none 0 0))=W9:=⟨_,rfl⟩
   obtain ⟨k9,g9,p9,s9⟩:=asked_end (p:=p) (HFw10.out) (HGw10.out) hlt HNB.out hW9
   rw [hW9]
   obtain ⟨⟨e0,e1,e2,e3,e4,e5⟩,_⟩:=box6k k9
   refine bodyPost_ret (v:=.tuple #[.agg #[.int .i64 5,.string nm,.slice y1 y2 y3,.int .i64 0,.int .i64 0,.slice none 0 0],.nilIface]) (by simp [results,Tryz.results221,go_sem,e0,e1,e2,e3,e4,e5]) rfl ⟨g9,_,_,_,_,_,_,_,_,_,_,_,rfl,?_⟩
   exact Or.inl ⟨.mk 5 nm [xw8,xw10] 0 0 [],_,_,by rw [asked_between HT3.out HT4.out HT5.out HT6.out,bindR_ok HTw8.out,must_ok HT9.out,bindR_ok HTw10.out],rfl,p9 _ _ _ (HPw10.out),fil_leaf 5 0 0 (s9 _ _ (SlP.owned HOw10.out)) (hSx) hnm⟩
  ·obtain ⟨W9,hW9⟩:∃ W9,((((((w10.setCell ⟨w.heap.size,0,none⟩ (.int .i64 5)).setCell ⟨w.heap.size,1,none⟩ (.string nm)).setCell ⟨w.heap.size,2,none⟩ (.slice y1 y2 y3)).setCell ⟨w.heap.size,3,none⟩ (.int .i64 0)).setCell ⟨w.heap.size,4,none⟩ (.int .i64 0)).setCell ⟨w.heap.size,5,none⟩ (.slice none 0 0))=W9:=⟨_,rfl⟩
   obtain ⟨k9,g9,p9,s9⟩:=asked_end (p:=p) (HFw10.out) (HGw10.out) hlt HNB.out hW9
   rw [hW9]
   obtain ⟨⟨e0,e1,e2,e3,e4,e5⟩,_⟩:=box6k k9
   refine bodyPost_ret (v:=.tuple #[.agg #[.int .i64 5,.string nm,.slice y1 y2 y3,.int .i64 0,.int .i64 0,.slice none 0 0],errF kw10]) (by simp [results,Tryz.results221,go_sem,e0,e1,e2,e3,e4,e5]) rfl ⟨g9,_,_,_,_,_,_,_,_,_,_,_,rfl,?_⟩
   exact Or.inr ⟨kw10,by rw [asked_between HT3.out HT4.out HT5.out HT6.out,bindR_ok HTw8.out,must_ok HT9.out,bindR_err HTw10.out],rfl,_,_,_,p9 _ _ _ (HPw10.out)⟩
  ·obtain ⟨W9,hW9⟩:∃ W9,((((((w9.setCell ⟨w.heap.size,0,none⟩ (.int .i64 5)).setCell ⟨w.heap.size,1,none⟩ (.string nm)).setCell ⟨w.heap.size,2,none⟩ (.slice y1 y2 y3)).setCell ⟨w.heap.size,3,none⟩ (.int .i64 0)).setCell ⟨w.heap.size,4,none⟩ (.int .i64 0)).setCell ⟨w.heap.size,5,none⟩ (.slice none 0 0))=W9:=⟨_,rfl⟩
   obtain ⟨k9,g9,p9,s9⟩:=asked_end (p:=p) (HF9.out) (HG9.out) hlt HNB.out hW9
   rw [hW9]
   obtain ⟨⟨e0,e1,e2,e3,e4,e5⟩,_⟩:=box6k k9
   refine bodyPost_ret (v:=.tuple #[.agg #[.int .i64 5,.string nm,.slice y1 y2 y3,.int .i64 0,.int .i64 0,.slice none 0 0],errF (Prs.next rxw8).pos]) (by simp [results,Tryz.results221,go_sem,e0,e1,e2,e3,e4,e5]) rfl ⟨g9,_,_,_,_,_,_,_,_,_,_,_,rfl,?_⟩
   exact Or.inr ⟨_,by rw [asked_between HT3.out HT4.out HT5.out HT6.out,bindR_ok HTw8.out,must_no HT9.out],rfl,_,_,_,p9 _ _ _ (HP9.out)⟩
 ·obtain ⟨W9,hW9⟩:∃ W9,((((((w8.setCell ⟨w.heap.size,0,none⟩ (.int .i64 5)).setCell ⟨w.heap.size,1,none⟩ (.string nm)).setCell ⟨w.heap.size,2,none⟩ (.slice y1 y2 y3)).setCell ⟨w.heap.size,3,none⟩ (.int .i64 0)).setCell ⟨w.heap.size,4,none⟩ (.int .i64 0)).setCell ⟨w.heap.size,5,none⟩ (.slice none 0 0))=W9:=⟨_,rfl⟩
  obtain ⟨k9,g9,p9,s9⟩:=asked_end (p:=p) (HFw8.out) (HGw8.out) hlt HNB.out hW9
  rw [hW9]
  obtain ⟨⟨e0,e1,e2,e3,e4,e5⟩,_⟩:=box6k k9
  refine bodyPost_ret (v:=.tuple #[.agg #[.int .i64 5,.string nm,.slice y1 y2 y3,.int .i64 0,.int .i64 0,.slice none 0 0],errF kw8]) (by simp [results,Tryz.results221,go_sem,e0,e1,e2,e3,e4,e5]) rfl ⟨g9,_,_,_,_,_,_,_,_,_,_,_,rfl,?_⟩
  exact Or.inr ⟨kw8,by rw [asked_between HT3.out HT4.out HT5.out HT6.out,bindR_err HTw8.out],rfl,_,_,_,p9 _ _ _ (HPw8.out)⟩
 ·go_wp2_with (
   go_at_call 134;refine (fail_any _ HP6.out).mono ?_;rintro e w7 ⟨rfl,hBx⟩;
    have hFx:=HF6.out.stepB (grB_below (B:=B) hBx) hlt;
    have cF:=(box6k hFx.f).1;have zF:=(box6k hFx.f).2;have zR:=(box6k hFx.r).2;have cR:=(box6k hFx.r).1;
    have hFs:=hFx.lt;have hRs:w.heap.size < w7.heap.size:=(by omega);
    have hFs1:w.heap.size + 1 < w7.heap.size:=(by omega);
    have HF7:=Lib.hid hFx;have HP7:=Lib.hid (HP6.out.below hBx);have HG7:=Lib.hid (HG6.out.trans_below hBx);clear hFx hBx)
  ·obtain ⟨W9,hW9⟩:∃ W9,((((((w7.setCell ⟨w.heap.size,0,none⟩ (.int .i64 0)).setCell ⟨w.heap.size,1,none⟩ (.string nm)).setCell ⟨w.heap.size,2,none⟩ (.slice none 0 0)).setCell ⟨w.heap.size,3,none⟩ (.int .i64 0)).setCell ⟨w.heap.size,4,none⟩ (.int .i64 0)).setCell ⟨w.heap.size,5,none⟩ (.slice none 0 0))=W9:=⟨_,rfl⟩
   obtain ⟨k9,g9,p9,s9⟩:=asked_end (p:=p) (HF7.out) (HG7.out) hlt HNB.out hW9
   rw [hW9]
   obtain ⟨⟨e0,e1,e2,e3,e4,e5⟩,_⟩:=box6k k9
   refine bodyPost_ret (v:=.tuple #[.agg #[.int .i64 0,.string nm,.slice none 0 0,.int .i64 0,.int .i64 0,.slice none 0 0],errF (Prs.next ts).pos]) (by simp [results,Tryz.results221,go_sem,e0,e1,e2,e3,e4,e5]) rfl ⟨g9,_,_,_,_,_,_,_,_,_,_,_,rfl,?_⟩
   exact Or.inr ⟨_,asked_no HT3.out HT4.out HT5.out HT6.out,rfl,_,_,_,p9 _ _ _ (HP7.out)⟩
end Go.Proofs.YtmfnhjdeoklnlaaGreatDoor
