/- Joined by mergeK.py: K59, H13, H15, H11p -/
import Derived.Test.YtaddkkkchkdgkaaGreatDoorWC42
import Derived.Test.YtaddkkkchkdgkaaGreatDoorWC41
import Derived.Test.YtaddkkkchkdgkaaGreatDoorWC20
import Derived.Test.YtaddkkkchkdgkaaGreatDoorWC08
import Derived.Test.YtaddkkkchkdgkaaGreatDoorWC04
import Derived.Test.YtaddkkkchkdgkaaGreatDoorWC07
namespace Go.Proofs.YtaddkkkchkdgkaaGreatDoor
open Go.RowKit Go.Sort Go.Shelf
open Tess (CK Pay PayOk CelOk CelsOk Que Fil groupsP)
theorem foldE_zero {s:Tess.Sch} {q:Que} {set:Int} (h:foldE s q set=0):Que.check s q=0∧∃ k:Nat,set=(k:Int)∧k < 2 ^ q.names.length:=by
 unfold foldE at h
 split at h
 ·rename_i hc;exact absurd h hc
 ·rename_i hc
  split at h
  ·cases h
  ·rename_i h2
   refine ⟨by simpa using hc,set.toNat,?_,?_⟩
   ·omega
   ·have:((2 ^ q.names.length:Nat):Int) > set:=by omega
    omega
set_option maxRecDepth 100000 in
set_option maxHeartbeats 8000000 in
theorem fold_any {T:Lib.PrintTabs} (a0 a1:Addr) (p:Nat→Prop) (n:Nat) (vs v vp:Value) (s:Tess.Sch) (q:Que) (set:Int) (pts:List (List (CK×Pay))) (va vb vS f0 f1 f2 f3 f4 f5 vh vo:Value) (w:World) (hV:Vars a0 a1 w) (hVn:∀ w',Below w.heap.size w w'→Vn T w') (hE:w.cell? ⟨0,0,none⟩=some (.iface 229 (.agg #[.pointer (some ⟨14,89,none⟩)]))) (hs:SchAt p w vs s) (hq:QueAt p n w v q va vb vS f0 f1 f2 f3 f4 f5 vh vo) (hn:n≤100) (hK:kindsOk q.fil) (hnm:q.names.length≤10) (hp:PartsAt p w vp pts) (hpl:pts.length≤13)
  (hok:Que.check s q=0→∀ C ∈ pts,CelsOk s C) (htot:(pts.flatten.map (·.2.n)).sum≤1000) :
  Calls Tryz.prog 15 #[vs,v,.int .i64 set,vp] w fun e w' => ∃ v',e = .returned (.tuple #[v',.int .i64 (foldE s q set:Nat)])∧GrpsAt (fun b=>w.heap.size≤b) w' v' (foldR s q set pts.flatten)∧Below w.heap.size w w':=by
 obtain ⟨s0,s1,rfl,_⟩:=id hs
 have hv:=hq.e
 subst hv
 obtain ⟨W0,hW0⟩:∃ W0,(w.alloc (.cells #[s0,s1,.int .i64 s.grain] 24)).alloc (.cells #[va,vb,.int .i64 q.mode,vS,.int .i64 q.every,f0,f1,f2,f3,f4,f5,vh,vo,.int .i64 q.limit] 35)=W0:=⟨_,rfl⟩
 obtain ⟨k0,k1,kS,kB⟩:=laid2 w (.cells #[s0,s1,.int .i64 s.grain] 24) (.cells #[va,vb,.int .i64 q.mode,vS,.int .i64 q.every,f0,f1,f2,f3,f4,f5,vh,vo,.int .i64 q.limit] 35)
 rw [hW0] at k0 k1 kS kB
 obtain ⟨⟨x0,x1,x2⟩,_⟩:=can3 k0
 obtain ⟨y0,y1,y2,y3,y4,y5,y6,y7,y8,y9,ya,yb,yc,yd⟩:=(can14 k1).1
 have hlt0:0 < w.heap.size:=World.block_lt_of_cell? _ _ hE
 have HE:=Lib.hid (fun W (hB:Below w.heap.size w W)=>(hB.cell (p:=⟨0,0,none⟩) hlt0).trans hE)
 have HB:=Lib.hid kB
 have ag:=Ag.new p kB
 by_cases h0:foldE s q set=0
 ·obtain ⟨hc,k,rfl,hk⟩:=foldE_zero h0
  have HF:=Lib.hid (foldGood_any (T:=T) a0 a1 p n s q k pts va vb vS f0 f1 f2 f3 f4 f5 vh vo s0 s1 vp W0 (hV.below kB) (fun w' hB=>hVn w' (Bt kB hB)) (hs.ag ag) (hq.ag ag) hn hK hnm (hp.ag ag) hpl hc hk (hok hc) htot)
  have hR:foldR s q (k:Int) pts.flatten=ofSet (k:Nat) (groupsP s q k pts.flatten):=by unfold foldR;rw [if_pos h0];rfl
  rw [hR,h0]
  obtain ⟨ap,cp,rfl,_⟩:=ListAt.open hp
  clear hs hq hp hV hVn hE hlt0 hok hK k0 k1 kB hR h0 ag
  go_enter Tryz.func15,Tryz.ntmps15
  go_wp2_with (fail)
  go_at_call 34
  refine HF.out.mono ?_
  rintro e w1 ⟨v,rfl,hG,hB1⟩
  have HG:=Lib.hid hG
  have HB1:=Lib.hid (Bt HB.out hB1)
  obtain ⟨ag,cg,rfl,_⟩:=ListAt.open hG
  clear hG hB1 x0 x1 x2 y0 y1 y2 y3 y4 y5 y6 y7 y8 y9 ya yb yc yd hW0
  go_wp2_with (fail)
  go_at_call 35
  refine (toldG_nil _).mono ?_
  rintro e w2 ⟨rfl,hB2⟩
  have HB2:=Lib.hid hB2
  clear hB2
  go_wp2_with (fail)
  go_ret2
  exact ⟨_,rfl,((HG.out.ag (Ag.new _ HB2.out)).weak fun b hb=>Nat.le_trans HB.out.size hb),Bt HB1.out HB2.out⟩
 ·have HF:=Lib.hid (foldBad_any a0 a1 p n s q set va vb vS f0 f1 f2 f3 f4 f5 vh vo s0 s1 vp W0 (hV.below kB) (hs.ag ag) (hq.ag ag) hn hK hnm h0)
  have hR:foldR s q set pts.flatten=[]:=by unfold foldR;rw [if_neg h0]
  rw [hR]
  obtain ⟨ap,cp,rfl,_⟩:=ListAt.open hp
  generalize foldE s q set=E at *
  clear hs hq hp hV hVn hE hlt0 hok hK k0 k1 kB hR h0 ag
  go_enter Tryz.func15,Tryz.ntmps15
  go_wp2_with (fail)
  go_at_call 34
  refine HF.out.mono ?_
  rintro e w1 ⟨rfl,hB1⟩
  have HB1:=Lib.hid (Bt HB.out hB1)
  have HT:=Lib.hid (toldG_any (E:Nat) w1 (HE.out w1 HB1.out))
  clear hB1 x0 x1 x2 y0 y1 y2 y3 y4 y5 y6 y7 y8 y9 ya yb yc yd hW0
  go_wp2_with (fail)
  go_at_call 35
  refine HT.out.mono ?_
  rintro e w2 ⟨rfl,hB2⟩
  have HB2:=Lib.hid (Bt HB1.out hB2)
  clear hB2
  go_wp2_with (fail)
  go_ret2
  exact ⟨_,rfl,ListAt.nil _ _ _ _,HB2.out⟩
end Go.Proofs.YtaddkkkchkdgkaaGreatDoor
namespace Go.Proofs.YtaddkkkchkdgkaaGreatDoor
open Go.RowKit Go.Sort Go.Shelf
open Tess (Fil Que)
attribute [local go_sem] Oper.semAt_some
end Go.Proofs.YtaddkkkchkdgkaaGreatDoor
namespace Go.Proofs.YtaddkkkchkdgkaaGreatDoor
open Go.RowKit Go.Sort Go.Maps
open Tess (Fil Que)
section
variable (x0 x2 x3 x4 x5 x6 x7 x8 x9 xa xb xc xd vb:Value)
end
def modeF (k:Nat):FuncId:=if k=1 then 81 else if k=2 then 82 else if k=3 then 83 else 84
def modesD (L:Array Value):DataW Value:=
 ((((DataW.map []).put (.int .i64 1) (.held (.func (.func 81) #[.agg L] #[]))).put (.int .i64 2) (.held (.func (.func 82) #[.agg L] #[]))).put (.int .i64 3) (.held (.func (.func 83) #[.agg L] #[]))).put (.int .i64 4) (.held (.func (.func 84) #[.agg L] #[]))
theorem zeroModeV (w:World):(zeroValue 111).run Tryz.prog w = .ok .nilFunc w:=by kernel_rfl
def ModesAt (L:Array Value) (w:World) (b:Nat):Prop:=w.ownsMap Tryz.prog 3 asIs b 4 (modesD L)
theorem ModesAt.look {L:Array Value} {w:World} {b:Nat} (h:ModesAt L w b) (k:Nat) (h1:1≤k) (h4:k≤4) :
  (Instr.lookup 112 (.map (some b)) (.int .i64 (k:Nat)) false).run Tryz.prog w = .ok (.func (.func (modeF k)) #[.agg L] #[]) w:=by
 obtain ⟨v,ps,hrun,hv⟩:=World.ownsMap.lookup h lawInt Tryz.underlying112 (zeroModeV w) (zd:=.held .nilFunc) (zp:=[]) rfl (keyOf_int_mk Tryz.underlying3 (WalkArith.wf_i64 (n:=((k:Nat):Int)) ⟨by omega,by omega⟩))
 unfold asIs at hv
 have h2:DataW.held v=(modesD L).atKey (.int .i64 (k:Nat)) (.held .nilFunc):=(Prod.ext_iff.1 (Option.some.inj hv)).1
 rw [hrun]
 have:v = .func (.func (modeF k)) #[.agg L] #[]:=by
  rcases (show k=1∨k=2∨k=3∨k=4 by omega) with rfl | rfl | rfl | rfl <;> exact DataW.held.inj h2
 rw [this]
end Go.Proofs.YtaddkkkchkdgkaaGreatDoor
