/- A text's query: query.Parse: walked. -/
import Derived.Test.YtbbgjjjeecfnoaaGreatDoorXQ41
import Derived.Test.YtbbgjjjeecfnoaaGreatDoorXQ21
namespace Go.Proofs.YtbbgjjjeecfnoaaGreatDoor
open Go.RowKit Go.Sort
open Tess (Tok Fil Que)
structure Vy (w:World):Prop where
 z:Vz w
 g0:w.cell? ⟨0,0,none⟩=some (.iface 287 (.agg #[.pointer (some ⟨17,96,none⟩)]))
theorem Vy.below {w w':World} (h:Vy w) (hb:Below w.heap.size w w'):Vy w':=⟨h.z.below hb,(hb.cell (World.block_lt_of_cell? w _ h.g0)).trans h.g0⟩
def ParsePost (w:World) (s:ByteArray) (e:Ending) (w':World):Prop:=∃ va vb vs f0 f1 f2 f3 f4 f5 vh vo,
 e = .returned (.tuple #[.agg #[va,vb,.int .i64 (Tess.Prs.parse s).1.mode,vs,.int .i64 (Tess.Prs.parse s).1.every,f0,f1,f2,f3,f4,f5,vh,vo,.int .i64 (Tess.Prs.parse s).1.limit],.int .i64 (Tess.Prs.parse s).2.1,.int .i64 (Tess.Prs.parse s).2.2]) ∧
 QueAt (fun b=>w.heap.size≤b) 1000000 w' (.agg #[va,vb,.int .i64 (Tess.Prs.parse s).1.mode,vs,.int .i64 (Tess.Prs.parse s).1.every,f0,f1,f2,f3,f4,f5,vh,vo,.int .i64 (Tess.Prs.parse s).1.limit]) (Tess.Prs.parse s).1 va vb vs f0 f1 f2 f3 f4 f5 vh vo∧Below w.heap.size w w'
theorem noQue_at (p:Nat→Prop) (w:World):QueAt p 1000000 w (.agg #[.slice none 0 0,.slice none 0 0,.int .i64 Tess.Prs.noQue.mode,.slice none 0 0,.int .i64 Tess.Prs.noQue.every,.int .i64 0,.string ByteArray.empty,.slice none 0 0,.int .i64 0,.int .i64 0,.slice none 0 0,.slice none 0 0,.slice none 0 0,.int .i64 Tess.Prs.noQue.limit]) Tess.Prs.noQue (.slice none 0 0) (.slice none 0 0) (.slice none 0 0) (.int .i64 0) (.string ByteArray.empty) (.slice none 0 0) (.int .i64 0) (.int .i64 0) (.slice none 0 0) (.slice none 0 0) (.slice none 0 0) where
 e:=rfl
 aggs:=RowsAt.nil _ _ _ _
 mets:=fun x hx=>by cases hx
 names:=SlP.nil _ _
 small:=fun x hx=>by cases hx
 sets:=SetsAt.nil _ _
 fil:=⟨_,_,_,rfl,Nat.zero_le _,SlP.nil _ _,(fun x hx=>by cases hx),Nat.zero_le _,fun _=>rfl,fun h=>absurd h (by decide)⟩
 conds:=RowsAt.nil _ _ _ _
 keys:=RowsAt.nil _ _ _ _
theorem FilAt.shapes {p:Nat→Prop} {n:Nat} {w:World} {v:Value} {f:Fil} (h:FilAt p n w v f):∃ wa wn wc a cap,v = .agg #[.int .i64 f.kind,.string f.name,.slice wa wn wc,.int .i64 f.frm,.int .i64 f.to,.slice a f.l.length cap]:=by
 cases n with
 | zero=>exact h.elim
 | succ n=>
   obtain ⟨vw,a,cap,hv,_,hs,_⟩:=h
   obtain ⟨x,y,z,rfl⟩:=hs.shape
   exact ⟨x,y,z,a,cap,hv⟩
theorem QueAt.shapes {p:Nat→Prop} {n:Nat} {w:World} {v:Value} {q:Que} {va vb vs f0 f1 f2 f3 f4 f5 vh vo:Value} (h:QueAt p n w v q va vb vs f0 f1 f2 f3 f4 f5 vh vo) :
  ∃ a1 c1 a2 c2 a3 c3 wa wn wc a4 c4 a5 c5 a6 c6,va = .slice a1 q.aggs.length c1∧vb = .slice a2 q.names.length c2∧vs = .slice a3 q.sets.length c3∧f0 = .int .i64 q.fil.kind∧f1 = .string q.fil.name∧f2 = .slice wa wn wc∧f3 = .int .i64 q.fil.frm∧f4 = .int .i64 q.fil.to∧f5 = .slice a4 q.fil.l.length c4∧vh = .slice a5 q.conds.length c5∧vo = .slice a6 q.keys.length c6:=by
 obtain ⟨a1,c1,h1,_⟩:=h.aggs
 obtain ⟨a2,c2,h2,_⟩:=sls_open h.names.1
 obtain ⟨a3,c3,h3,_⟩:=h.sets
 obtain ⟨wa,wn,wc,a4,c4,h4⟩:=FilAt.shapes h.fil
 obtain ⟨a5,c5,h5,_⟩:=h.conds
 obtain ⟨a6,c6,h6,_⟩:=h.keys
 simp only [Value.agg.injEq,Array.mk.injEq,List.cons.injEq,and_true] at h4
 obtain ⟨e0,e1,e2,e3,e4,e5⟩:=h4
 exact ⟨a1,c1,a2,c2,a3,c3,wa,wn,wc,a4,c4,a5,c5,a6,c6,h1,h2,h3,e0,e1,e2,e3,e4,e5,h5,h6⟩
theorem box14 {W:World} {B:Nat} {t:TypeId} {x0 x1 x2 x3 x4 x5 x6 x7 x8 x9 xa xb xc xd:Value} (y0 y1 y2 y3 y4 y5 y6 y7 y8 y9 ya yb yc yd:Value) (h:W.heap[B]? = some (.cells #[x0,x1,x2,x3,x4,x5,x6,x7,x8,x9,xa,xb,xc,xd] t (0,0))) :
  ∃ W3,((((((((((((((W.setCell ⟨B,0,none⟩ y0).setCell ⟨B,1,none⟩ y1).setCell ⟨B,2,none⟩ y2).setCell ⟨B,3,none⟩ y3).setCell ⟨B,4,none⟩ y4).setCell ⟨B,5,none⟩ y5).setCell ⟨B,6,none⟩ y6).setCell ⟨B,7,none⟩ y7).setCell ⟨B,8,none⟩ y8).setCell ⟨B,9,none⟩ y9).setCell ⟨B,10,none⟩ ya).setCell ⟨B,11,none⟩ yb).setCell ⟨B,12,none⟩ yc).setCell ⟨B,13,none⟩ yd)=W3∧W3.heap[B]? = some (.cells #[y0,y1,y2,y3,y4,y5,y6,y7,y8,y9,ya,yb,yc,yd] t (0,0))∧(∀ k,k≠B→W3.heap[k]? = W.heap[k]?)∧W3.heap.size=W.heap.size∧∀ w:World,Below w.heap.size w W→w.heap.size≤B→Below w.heap.size w W3:=by
 obtain ⟨W1,e0⟩:∃ V,W.setCell ⟨B,0,none⟩ y0=V:=⟨_,rfl⟩
 have h0:W1.heap[B]? = some (.cells #[y0,x1,x2,x3,x4,x5,x6,x7,x8,x9,xa,xb,xc,xd] t (0,0)):=e0 ▸ heap_setCell_same _ _ _ _ _ _ h
 have o0:∀ k,k≠B→W1.heap[k]? = W.heap[k]? := fun k hk=>e0 ▸ (heap_setCell_other _ _ _ _ hk)
 have s0:W1.heap.size=W.heap.size:=by rw [← e0];simp [World.setCell]
 have b0:∀ w:World,Below w.heap.size w W→w.heap.size≤B→Below w.heap.size w W1:=fun w hb hB=>e0 ▸ (hb).setCell hB _
 obtain ⟨W2,e1⟩:∃ V,W1.setCell ⟨B,1,none⟩ y1=V:=⟨_,rfl⟩
 have h1:W2.heap[B]? = some (.cells #[y0,y1,x2,x3,x4,x5,x6,x7,x8,x9,xa,xb,xc,xd] t (0,0)):=e1 ▸ heap_setCell_same _ _ _ _ _ _ h0
 have o1:∀ k,k≠B→W2.heap[k]? = W.heap[k]? := fun k hk=>e1 ▸ (heap_setCell_other _ _ _ _ hk).trans (o0 k hk)
 have s1:W2.heap.size=W.heap.size:=by rw [← e1];simp [World.setCell,s0]
 have b1:∀ w:World,Below w.heap.size w W→w.heap.size≤B→Below w.heap.size w W2:=fun w hb hB=>e1 ▸ (b0 w hb hB).setCell hB _
 obtain ⟨W3,e2⟩:∃ V,W2.setCell ⟨B,2,none⟩ y2=V:=⟨_,rfl⟩
 have h2:W3.heap[B]? = some (.cells #[y0,y1,y2,x3,x4,x5,x6,x7,x8,x9,xa,xb,xc,xd] t (0,0)):=e2 ▸ heap_setCell_same _ _ _ _ _ _ h1
 have o2:∀ k,k≠B→W3.heap[k]? = W.heap[k]? := fun k hk=>e2 ▸ (heap_setCell_other _ _ _ _ hk).trans (o1 k hk)
 have s2:W3.heap.size=W.heap.size:=by rw [← e2];simp [World.setCell,s1]
 have b2:∀ w:World,Below w.heap.size w W→w.heap.size≤B→Below w.heap.size w W3:=fun w hb hB=>e2 ▸ (b1 w hb hB).setCell hB _
 obtain ⟨W4,e3⟩:∃ V,W3.setCell ⟨B,3,none⟩ y3=V:=⟨_,rfl⟩
 have h3:W4.heap[B]? = some (.cells #[y0,y1,y2,y3,x4,x5,x6,x7,x8,x9,xa,xb,xc,xd] t (0,0)):=e3 ▸ heap_setCell_same _ _ _ _ _ _ h2
 have o3:∀ k,k≠B→W4.heap[k]? = W.heap[k]? := fun k hk=>e3 ▸ (heap_setCell_other _ _ _ _ hk).trans (o2 k hk)
 have s3:W4.heap.size=W.heap.size:=by rw [← e3];simp [World.setCell,s2]
 have b3:∀ w:World,Below w.heap.size w W→w.heap.size≤B→Below w.heap.size w W4:=fun w hb hB=>e3 ▸ (b2 w hb hB).setCell hB _
 obtain ⟨W5,e4⟩:∃ V,W4.setCell ⟨B,4,none⟩ y4=V:=⟨_,rfl⟩
 have h4:W5.heap[B]? = some (.cells #[y0,y1,y2,y3,y4,x5,x6,x7,x8,x9,xa,xb,xc,xd] t (0,0)):=e4 ▸ heap_setCell_same _ _ _ _ _ _ h3
 have o4:∀ k,k≠B→W5.heap[k]? = W.heap[k]? := fun k hk=>e4 ▸ (heap_setCell_other _ _ _ _ hk).trans (o3 k hk)
 have s4:W5.heap.size=W.heap.size:=by rw [← e4];simp [World.setCell,s3]
 have b4:∀ w:World,Below w.heap.size w W→w.heap.size≤B→Below w.heap.size w W5:=fun w hb hB=>e4 ▸ (b3 w hb hB).setCell hB _
 obtain ⟨W6,e5⟩:∃ V,W5.setCell ⟨B,5,none⟩ y5=V:=⟨_,rfl⟩
 have h5:W6.heap[B]? = some (.cells #[y0,y1,y2,y3,y4,y5,x6,x7,x8,x9,xa,xb,xc,xd] t (0,0)):=e5 ▸ heap_setCell_same _ _ _ _ _ _ h4
 have o5:∀ k,k≠B→W6.heap[k]? = W.heap[k]? := fun k hk=>e5 ▸ (heap_setCell_other _ _ _ _ hk).trans (o4 k hk)
 have s5:W6.heap.size=W.heap.size:=by rw [← e5];simp [World.setCell,s4]
 have b5:∀ w:World,Below w.heap.size w W→w.heap.size≤B→Below w.heap.size w W6:=fun w hb hB=>e5 ▸ (b4 w hb hB).setCell hB _
 obtain ⟨W7,e6⟩:∃ V,W6.setCell ⟨B,6,none⟩ y6=V:=⟨_,rfl⟩
 have h6:W7.heap[B]? = some (.cells #[y0,y1,y2,y3,y4,y5,y6,x7,x8,x9,xa,xb,xc,xd] t (0,0)):=e6 ▸ heap_setCell_same _ _ _ _ _ _ h5
 have o6:∀ k,k≠B→W7.heap[k]? = W.heap[k]? := fun k hk=>e6 ▸ (heap_setCell_other _ _ _ _ hk).trans (o5 k hk)
 have s6:W7.heap.size=W.heap.size:=by rw [← e6];simp [World.setCell,s5]
 have b6:∀ w:World,Below w.heap.size w W→w.heap.size≤B→Below w.heap.size w W7:=fun w hb hB=>e6 ▸ (b5 w hb hB).setCell hB _
 obtain ⟨W8,e7⟩:∃ V,W7.setCell ⟨B,7,none⟩ y7=V:=⟨_,rfl⟩
 have h7:W8.heap[B]? = some (.cells #[y0,y1,y2,y3,y4,y5,y6,y7,x8,x9,xa,xb,xc,xd] t (0,0)):=e7 ▸ heap_setCell_same _ _ _ _ _ _ h6
 have o7:∀ k,k≠B→W8.heap[k]? = W.heap[k]? := fun k hk=>e7 ▸ (heap_setCell_other _ _ _ _ hk).trans (o6 k hk)
 have s7:W8.heap.size=W.heap.size:=by rw [← e7];simp [World.setCell,s6]
 have b7:∀ w:World,Below w.heap.size w W→w.heap.size≤B→Below w.heap.size w W8:=fun w hb hB=>e7 ▸ (b6 w hb hB).setCell hB _
 obtain ⟨W9,e8⟩:∃ V,W8.setCell ⟨B,8,none⟩ y8=V:=⟨_,rfl⟩
 have h8:W9.heap[B]? = some (.cells #[y0,y1,y2,y3,y4,y5,y6,y7,y8,x9,xa,xb,xc,xd] t (0,0)):=e8 ▸ heap_setCell_same _ _ _ _ _ _ h7
 have o8:∀ k,k≠B→W9.heap[k]? = W.heap[k]? := fun k hk=>e8 ▸ (heap_setCell_other _ _ _ _ hk).trans (o7 k hk)
 have s8:W9.heap.size=W.heap.size:=by rw [← e8];simp [World.setCell,s7]
 have b8:∀ w:World,Below w.heap.size w W→w.heap.size≤B→Below w.heap.size w W9:=fun w hb hB=>e8 ▸ (b7 w hb hB).setCell hB _
 obtain ⟨W10,e9⟩:∃ V,W9.setCell ⟨B,9,none⟩ y9=V:=⟨_,rfl⟩
 have h9:W10.heap[B]? = some (.cells #[y0,y1,y2,y3,y4,y5,y6,y7,y8,y9,xa,xb,xc,xd] t (0,0)):=e9 ▸ heap_setCell_same _ _ _ _ _ _ h8
 have o9:∀ k,k≠B→W10.heap[k]? = W.heap[k]? := fun k hk=>e9 ▸ (heap_setCell_other _ _ _ _ hk).trans (o8 k hk)
 have s9:W10.heap.size=W.heap.size:=by rw [← e9];simp [World.setCell,s8]
 have b9:∀ w:World,Below w.heap.size w W→w.heap.size≤B→Below w.heap.size w W10:=fun w hb hB=>e9 ▸ (b8 w hb hB).setCell hB _
 obtain ⟨W11,e10⟩:∃ V,W10.setCell ⟨B,10,none⟩ ya=V:=⟨_,rfl⟩
 have h10:W11.heap[B]? = some (.cells #[y0,y1,y2,y3,y4,y5,y6,y7,y8,y9,ya,xb,xc,xd] t (0,0)):=e10 ▸ heap_setCell_same _ _ _ _ _ _ h9
 have o10:∀ k,k≠B→W11.heap[k]? = W.heap[k]? := fun k hk=>e10 ▸ (heap_setCell_other _ _ _ _ hk).trans (o9 k hk)
 have s10:W11.heap.size=W.heap.size:=by rw [← e10];simp [World.setCell,s9]
 have b10:∀ w:World,Below w.heap.size w W→w.heap.size≤B→Below w.heap.size w W11:=fun w hb hB=>e10 ▸ (b9 w hb hB).setCell hB _
 obtain ⟨W12,e11⟩:∃ V,W11.setCell ⟨B,11,none⟩ yb=V:=⟨_,rfl⟩
 have h11:W12.heap[B]? = some (.cells #[y0,y1,y2,y3,y4,y5,y6,y7,y8,y9,ya,yb,xc,xd] t (0,0)):=e11 ▸ heap_setCell_same _ _ _ _ _ _ h10
 have o11:∀ k,k≠B→W12.heap[k]? = W.heap[k]? := fun k hk=>e11 ▸ (heap_setCell_other _ _ _ _ hk).trans (o10 k hk)
 have s11:W12.heap.size=W.heap.size:=by rw [← e11];simp [World.setCell,s10]
 have b11:∀ w:World,Below w.heap.size w W→w.heap.size≤B→Below w.heap.size w W12:=fun w hb hB=>e11 ▸ (b10 w hb hB).setCell hB _
 obtain ⟨W13,e12⟩:∃ V,W12.setCell ⟨B,12,none⟩ yc=V:=⟨_,rfl⟩
 have h12:W13.heap[B]? = some (.cells #[y0,y1,y2,y3,y4,y5,y6,y7,y8,y9,ya,yb,yc,xd] t (0,0)):=e12 ▸ heap_setCell_same _ _ _ _ _ _ h11
 have o12:∀ k,k≠B→W13.heap[k]? = W.heap[k]? := fun k hk=>e12 ▸ (heap_setCell_other _ _ _ _ hk).trans (o11 k hk)
 have s12:W13.heap.size=W.heap.size:=by rw [← e12];simp [World.setCell,s11]
 have b12:∀ w:World,Below w.heap.size w W→w.heap.size≤B→Below w.heap.size w W13:=fun w hb hB=>e12 ▸ (b11 w hb hB).setCell hB _
 obtain ⟨W14,e13⟩:∃ V,W13.setCell ⟨B,13,none⟩ yd=V:=⟨_,rfl⟩
 have h13:W14.heap[B]? = some (.cells #[y0,y1,y2,y3,y4,y5,y6,y7,y8,y9,ya,yb,yc,yd] t (0,0)):=e13 ▸ heap_setCell_same _ _ _ _ _ _ h12
 have o13:∀ k,k≠B→W14.heap[k]? = W.heap[k]? := fun k hk=>e13 ▸ (heap_setCell_other _ _ _ _ hk).trans (o12 k hk)
 have s13:W14.heap.size=W.heap.size:=by rw [← e13];simp [World.setCell,s12]
 have b13:∀ w:World,Below w.heap.size w W→w.heap.size≤B→Below w.heap.size w W14:=fun w hb hB=>e13 ▸ (b12 w hb hB).setCell hB _
 refine ⟨W14,?_,h13,o13,s13,b13⟩
 rw [e0,e1,e2,e3,e4,e5,e6,e7,e8,e9,e10,e11,e12,e13]
abbrev que0:Obj:=.cells #[.slice none 0 0,.slice none 0 0,.int .i64 0,.slice none 0 0,.int .i64 0,.int .i64 0,.string ⟨#[]⟩,.slice none 0 0,.int .i64 0,.int .i64 0,.slice none 0 0,.slice none 0 0,.slice none 0 0,.int .i64 0] 35
abbrev par0 (v:Value):Obj:=.cells #[v,.slice none 0 0,.slice none 0 0,.int .i64 0,.slice none 0 0,.int .i64 0,.int .i64 0,.string ⟨#[]⟩,.slice none 0 0,.int .i64 0,.int .i64 0,.slice none 0 0,.slice none 0 0,.slice none 0 0,.int .i64 0] 135
set_option maxRecDepth 100000 in
set_option maxHeartbeats 8000000 in
theorem parse_any (s:ByteArray) (w:World) (hV:Vy w) (hs:s.size≤9223372036854775807) :
  Calls Tryz.prog 30 #[.string s] w (ParsePost w s):=by
 have HV:=Lib.hid hV
 clear hV
 by_cases hlen:4000 < s.size
 ·have HP:=Lib.hid (show Tess.Prs.parse s=(Tess.Prs.noQue,0,150) by unfold Tess.Prs.parse;rw [if_pos hlen])
  have hi:(4000:Int) < (s.size:Int):=by omega
  unfold ParsePost
  obtain ⟨l1,l2,l3⟩:=laid1 w que0
  obtain ⟨⟨c0,c1,c2,c3,c4,c5,c6,c7,c8,c9,ca,cb,cc,cd⟩,_⟩:=can14 l1
  have HB:=Lib.hid l3
  have HQ:=Lib.hid (noQue_at (fun b=>w.heap.size≤b) (w.alloc que0))
  clear l1 l2 l3
  go_enter Tryz.func30,Tryz.ntmps30
  go_wp2
  refine bodyPost_ret (v:=.tuple #[.agg #[.slice none 0 0,.slice none 0 0,.int .i64 0,.slice none 0 0,.int .i64 0,.int .i64 0,.string ⟨#[]⟩,.slice none 0 0,.int .i64 0,.int .i64 0,.slice none 0 0,.slice none 0 0,.slice none 0 0,.int .i64 0],.int .i64 0,.int .i64 150]) (by simp [results,Tryz.results30,go_sem,c0,c1,c2,c3,c4,c5,c6,c7,c8,c9,ca,cb,cc,cd]) rfl ?_
  rw [HP.out]
  exact ⟨_,_,_,_,_,_,_,_,_,_,_,rfl,HQ.out,HB.out⟩
 ·have HNE:=Lib.hid (show ∀ n,Tess.Prs.query (Tok.toks s) = .error n→Tess.Prs.parse s=(Tess.Prs.noQue,n,150) from fun n h=>by unfold Tess.Prs.parse;rw [if_neg hlen,h])
  have HNO:=Lib.hid (show ∀ q r,Tess.Prs.query (Tok.toks s) = .ok (q,r)→Tess.Prs.parse s=(q,0,0) from fun q r h=>by unfold Tess.Prs.parse;rw [if_neg hlen,h])
  have hi:¬ (4000:Int) < (s.size:Int):=by omega
  have HBD:=Lib.hid (Tok.toks_bd s)
  have HLN:=Lib.hid (Tok.toks_len s)
  have HEN:=Lib.hid (Tess.Prs.toks_endd s)
  have HCO:=Lib.hid (fun W (h:Vz W) (hc:W.cell? ⟨w.heap.size + 1,0,none⟩=some (.string s))=>collect_any s (by omega) (w.heap.size + 1) W h hc)
  obtain ⟨l1,l2,l3,l4⟩:=laid2 w que0 (.cells #[.string s] 9)
  obtain ⟨W0,hW0⟩:∃ W0,(w.alloc que0).alloc (.cells #[.string s] 9)=W0:=⟨_,rfl⟩
  rw [hW0] at l1 l2 l3 l4
  have HR0:=Lib.hid l1
  have hsb:=cell_of_row _ _ 0 _ _ _ l2
  simp only [List.getElem?_toArray,List.getElem?_cons_zero] at hsb
  have HSB:=Lib.hid hsb
  have HB0:=Lib.hid l4
  have HS0:=Lib.hid l3
  clear l1 l2 l3 l4 hsb
  go_enter Tryz.func30,Tryz.ntmps30
  go_wp2_with (first
   | (go_at_call 58;refine (tokens_any s _).mono ?_;rintro e w2 ⟨rfl,rfl⟩;simp only [World.size_alloc];rw [hW0])
   | (go_at_call 57;refine (HCO.out W0 (HV.out.below HB0.out).z HSB.out).mono ?_;rintro e w3 ⟨v,rfl,hR,hB⟩;have hR2:=hR;obtain ⟨xa,xc,rfl,_⟩:=hR2;have HR:=Lib.hid hR;have HB3:=Lib.hid hB;clear hR hB)
   | (go_at_call 60;fail))
  go_at_call 60
  obtain ⟨W4,hW4⟩:∃ W4,(w3.alloc (par0 (.slice xa (Tok.toks s).length xc))).alloc (.cells #[.int .i64 0] 137)=W4:=⟨_,rfl⟩
  obtain ⟨m1,m2,m3,m4⟩:=laid2 w3 (par0 (.slice xa (Tok.toks s).length xc)) (.cells #[.int .i64 0] 137)
  rw [hW4] at m1 m2 m3 m4
  have hB3:=HB3.out
  have hsz3:=hB3.size
  have hsz0:=HS0.out
  have hmx:maxLen=9223372036854775807:=by decide
  have hPS:PsAt (fun b=>w.heap.size + 2≤b∧b < w3.heap.size) w3.heap.size (Tok.toks s) (.slice xa (Tok.toks s).length xc) [.slice none 0 0,.slice none 0 0,.int .i64 0,.slice none 0 0,.int .i64 0,.int .i64 0,.string ⟨#[]⟩,.slice none 0 0,.int .i64 0,.int .i64 0,.slice none 0 0,.slice none 0 0,.slice none 0 0,.int .i64 0] W4:=
   ⟨m1,rfl,((HR.out.lt).weak fun b hb=>⟨by have h1:W0.heap.size≤b:=hb.1;omega,hb.2⟩).ag (Ag.new _ m4),fun t ht=>by
     obtain ⟨h1,h2⟩:=HBD.out t ht
     exact ⟨h1.k,by omega,by have:=h1.s;omega,by have:=h1.x;omega,h1.l,h1.u⟩,HEN.out.ne,fun h=>Nat.lt_irrefl _ h.2⟩
  have HQY:=Lib.hid (query_any W4 hPS HEN.out (by have:=HLN.out;omega))
  have HM2:=Lib.hid m2
  have HB4:=Lib.hid (Bt hB3 m4)
  have HS4:=Lib.hid m3
  clear hB3 m1 m2 m3 m4 hPS
  rw [hW4]
  refine HQY.out.mono ?_
  rintro e w5 ⟨hG,hres⟩
  have hsz4:=HS4.out
  have hlt4:w3.heap.size < W4.heap.size:=by omega
  have hrb:=(hG.block w.heap.size (by omega) (by simp;omega)).trans ((HB4.out.block w.heap.size (by omega)).trans HR0.out)
  have hfb:=(hG.block (w3.heap.size + 1) (by omega) (by simp)).trans HM2.out
  have HG:=Lib.hid hG
  clear hG HQY
  obtain ⟨⟨c0,c1,c2,c3,c4,c5,c6,c7,c8,c9,ca,cb,cc,cd⟩,zz⟩:=can14 hrb
  have z0:=zz 0 (by decide);have z1:=zz 1 (by decide);have z2:=zz 2 (by decide);have z3:=zz 3 (by decide);have z4:=zz 4 (by decide);have z5:=zz 5 (by decide);have z6:=zz 6 (by decide)
  have z7:=zz 7 (by decide);have z8:=zz 8 (by decide);have z9:=zz 9 (by decide);have za:=zz 10 (by decide);have zb:=zz 11 (by decide);have zc:=zz 12 (by decide);have zd:=zz 13 (by decide)
  clear zz
  rcases hres with ⟨q,r,v',va,vb,vs,f0,f1,f2,f3,f4,f5,vh,vo,hq,rfl,hP5,hQ5⟩ | ⟨k,hq,rfl⟩
  ·have hpar:=HNO.out q r hq
   unfold ParsePost
   rw [hpar]
   obtain ⟨a1,k1,a2,k2,a3,k3,wa,wn,wc,a4,k4,a5,k5,a6,k6,rfl,rfl,rfl,rfl,rfl,rfl,rfl,rfl,rfl,rfl,rfl⟩:=hQ5.shapes
   obtain ⟨⟨p0,p1,p2,p3,p4,p5,p6,p7,p8,p9,pa,pb,pc,pd⟩,_⟩:=hP5.can
   obtain ⟨W6,hW6,hk6,ho6,hs6,hb6⟩:=box14 (.slice a1 q.aggs.length k1) (.slice a2 q.names.length k2) (.int .i64 q.mode) (.slice a3 q.sets.length k3) (.int .i64 q.every) (.int .i64 q.fil.kind) (.string q.fil.name) (.slice wa wn wc) (.int .i64 q.fil.frm) (.int .i64 q.fil.to) (.slice a4 q.fil.l.length k4) (.slice a5 q.conds.length k5) (.slice a6 q.keys.length k6) (.int .i64 q.limit) hrb
   have HNIL:=Lib.hid (as_nil (.iface 140 (.pointer (some ⟨w3.heap.size + 1,0,none⟩))) w5)
   have HQ5:=Lib.hid hQ5
   have HK6:=Lib.hid hk6
   have HO6:=Lib.hid ho6
   have HB6:=Lib.hid hb6
   clear hQ5 hP5 hfb hrb hk6 ho6 hb6
   go_wp2_with (go_at_call 59;refine HNIL.out.mono ?_;rintro e w6 ⟨rfl,rfl⟩)
   obtain ⟨⟨p0,p1,p2,p3,p4,p5,p6,p7,p8,p9,pa,pb,pc,pd⟩,_⟩:=can14 HK6.out
   refine bodyPost_ret (v:=.tuple #[.agg #[.slice a1 q.aggs.length k1,.slice a2 q.names.length k2,.int .i64 q.mode,.slice a3 q.sets.length k3,.int .i64 q.every,.int .i64 q.fil.kind,.string q.fil.name,.slice wa wn wc,.int .i64 q.fil.frm,.int .i64 q.fil.to,.slice a4 q.fil.l.length k4,.slice a5 q.conds.length k5,.slice a6 q.keys.length k6,.int .i64 q.limit],.int .i64 0,.int .i64 0]) (by simp [results,Tryz.results30,go_sem,p0,p1,p2,p3,p4,p5,p6,p7,p8,p9,pa,pb,pc,pd]) rfl ?_
   unfold ParsePost
   rw [hpar]
   refine ⟨_,_,_,_,_,_,_,_,_,_,_,rfl,(HQ5.out.ag ⟨by omega,fun b _ hb=>HO6.out b fun e => ?_⟩).weak fun b hb => ?_,HB6.out w ?_ (Nat.le_refl _)⟩
   ·have:W4.heap.size≤b:=hb;omega
   ·have:W4.heap.size≤b:=hb;show w.heap.size≤b;omega
   ·exact ((HB0.out.trans (HB4.out.mono (by omega)))).grown HG.out (by omega) (fun j e=>by cases e;omega)
  ·have hpar:=HNE.out k hq
   have ht0:=cell_of_row _ _ 0 _ _ _ hfb
   have hf0:=frozen_of_row _ _ 0 _ _ hfb
   simp only [List.getElem?_toArray,List.getElem?_cons_zero] at ht0
   have hB5:Below w.heap.size w w5:=((HB0.out.trans (HB4.out.mono (by omega)))).grown HG.out (by omega) (fun j e=>by cases e;omega)
   have i1:=as_hit ⟨w3.heap.size + 1,0,none⟩ (k:Int) (.int .i64 0) w5 (HV.out.below hB5).g0 ht0 hf0
   have hlt:w3.heap.size + 1 < w5.heap.size:=World.block_lt_of_cell? _ _ ht0
   have i2:=i1.mono (R':=fun ev w'=>ev = .returned (.bool true)∧w'.cell? ⟨w3.heap.size + 1,0,none⟩=some (.int .i64 k)∧w5.grownBy w' (some (w3.heap.size + 1))) (by
    rintro e w' ⟨he,hw⟩
    refine ⟨he,?_,?_⟩
    ·rw [hw]
     refine World.cell?_setCell_same' _ _ _ ?_
     rw [World.cell?_alloc_lt _ _ ⟨w3.heap.size + 1,0,none⟩ (by simp;omega),World.cell?_alloc_lt _ _ ⟨w3.heap.size + 1,0,none⟩ (by simp;omega),World.cell?_alloc_lt _ _ ⟨w3.heap.size + 1,0,none⟩ (by simp;omega),World.cell?_alloc_lt _ _ ⟨w3.heap.size + 1,0,none⟩ hlt,ht0]
     rfl
    ·rw [hw]
     exact (grB_below (((((Below.refl w5.heap.size w5).alloc (by omega) _).alloc (by simp <;> omega) _).alloc (by simp <;> omega) _).alloc (by simp <;> omega) _)).transB (grB_set _ _ 0 _ (by simp;omega)))
   have HHIT:=Lib.hid i2
   have HRB:=Lib.hid hrb
   have HB5:=Lib.hid hB5
   have HNQ:=Lib.hid (fun W=>noQue_at (fun b=>w.heap.size≤b) W)
   clear i1 i2 ht0 hf0 hfb hrb hB5
   go_wp2_with (fail)
   go_at_call 59
   refine HHIT.out.mono ?_
   rintro e w6 ⟨rfl,hc6,hG6⟩
   have hrb6:=(hG6.block w.heap.size (by omega) (by simp;omega)).trans HRB.out
   have HB6:=Lib.hid (HB5.out.grown hG6 (by omega) (fun j e=>by cases e;omega))
   clear c0 c1 c2 c3 c4 c5 c6 c7 c8 c9 ca cb cc cd z0 z1 z2 z3 z4 z5 z6 z7 z8 z9 za zb zc zd hG6
   obtain ⟨⟨c0,c1,c2,c3,c4,c5,c6,c7,c8,c9,ca,cb,cc,cd⟩,zz⟩:=can14 hrb6
   have z0:=zz 0 (by decide);have z1:=zz 1 (by decide);have z2:=zz 2 (by decide);have z3:=zz 3 (by decide);have z4:=zz 4 (by decide);have z5:=zz 5 (by decide);have z6:=zz 6 (by decide)
   have z7:=zz 7 (by decide);have z8:=zz 8 (by decide);have z9:=zz 9 (by decide);have za:=zz 10 (by decide);have zb:=zz 11 (by decide);have zc:=zz 12 (by decide);have zd:=zz 13 (by decide)
   clear zz
   obtain ⟨W7,hW7,hk7,ho7,_,hb7⟩:=box14 (.slice none 0 0) (.slice none 0 0) (.int .i64 0) (.slice none 0 0) (.int .i64 0) (.int .i64 0) (.string ⟨#[]⟩) (.slice none 0 0) (.int .i64 0) (.int .i64 0) (.slice none 0 0) (.slice none 0 0) (.slice none 0 0) (.int .i64 0) hrb6
   have HK7:=Lib.hid hk7
   have HB7:=Lib.hid (hb7 w HB6.out (Nat.le_refl _))
   have hc7:W7.cell? ⟨w3.heap.size + 1,0,none⟩=some (.int .i64 k):=(World.cell?_of_block (a:=⟨w3.heap.size + 1,0,none⟩) (ho7 (w3.heap.size + 1) (by omega))).trans hc6
   clear hk7 hb7 ho7
   go_wp2_with (fail)
   go_region
   obtain ⟨⟨p0,p1,p2,p3,p4,p5,p6,p7,p8,p9,pa,pb,pc,pd⟩,_⟩:=can14 HK7.out
   go_wp2
   refine bodyPost_ret (v:=.tuple #[.agg #[.slice none 0 0,.slice none 0 0,.int .i64 0,.slice none 0 0,.int .i64 0,.int .i64 0,.string ⟨#[]⟩,.slice none 0 0,.int .i64 0,.int .i64 0,.slice none 0 0,.slice none 0 0,.slice none 0 0,.int .i64 0],.int .i64 k,.int .i64 150]) (by simp [results,Tryz.results30,go_sem,p0,p1,p2,p3,p4,p5,p6,p7,p8,p9,pa,pb,pc,pd]) rfl ?_
   unfold ParsePost
   rw [hpar]
   exact ⟨_,_,_,_,_,_,_,_,_,_,_,rfl,HNQ.out _,HB7.out.drew⟩
end Go.Proofs.YtbbgjjjeecfnoaaGreatDoor
