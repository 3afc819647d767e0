/- Joined by mergeK.py: H2c, H7, H8 -/
import Derived.Test.YtaddkkkchkdgkaaGreatDoorCC06
import Derived.Test.YtaddkkkchkdgkaaGreatDoorCC03
import Derived.Test.YtaddkkkchkdgkaaGreatDoorCC12
namespace Go.Proofs.YtaddkkkchkdgkaaGreatDoor
open Go.RowKit Go.Sort
def CapOk (v:Value) (n:Nat):Prop:=(match v with | .slice _ m _=>m=n | _=>False)∧(match v with | .slice _ _ c=>n≤c | _=>False)
theorem owns_cap {w:World} {base:Nat} {e:TypeId} {size:Nat} {v:Value} {n:Nat} {xs:List Value} (h:w.ownsRow base e size v n xs) (h0:n=0→v = .slice none 0 0):CapOk v n:=by
 rcases Nat.eq_zero_or_pos n with e0 | e0
 ·rw [h0 e0,e0];exact ⟨rfl,Nat.le_refl _⟩
 ·obtain ⟨g,Aa,hv,_,_,hc,_⟩:=oca h e0
  rw [hv];exact ⟨rfl,hc⟩
end Go.Proofs.YtaddkkkchkdgkaaGreatDoor
namespace Go.Proofs.YtaddkkkchkdgkaaGreatDoor
open Go.RowKit Go.Sort
open Tess (Fil Que)
set_option maxRecDepth 100000 in
set_option maxHeartbeats 2000000 in
theorem na2 (p:Nat→Prop) (v:Value) (l:List ByteArray) (w:World) (hv:SlP p w v (l.map .string)) (hs:∀ x ∈ l,x.size≤maxLen) :
  Calls Tryz.prog 27 #[v] w fun e w' => ∃ v',e = .returned v'∧SlP (fun b=>w.heap.size≤b) w' v' ((nN 30 10 l).map .string)∧CapOk v' (nN 30 10 l).length∧Below w.heap.size w w':=by
 obtain ⟨a,Ax,rfl,hl,hc⟩:=so2 hv.1
 have HC:=Hd hc
 have HS:=Hd hs
 clear hc hs hv
 obtain ⟨i0,hi,An,Ao,Al⟩:=info_parts iS2
 go_enter Tryz.func27,Tryz.ntmps27
 go_wp2
 go_loopw [3,4] (fun v i wr => ∃ k:Nat,k≤l.length∧k≤10∧i = .int .i64 k∧wr.ownsRow w.heap.size 9 1 v k (nV 30 10 l k)∧(k=0→v = .slice none 0 0)∧Below w.heap.size w wr) (fun _ i _=>10 - (intOf i).toNat)
 case atStart=>exact ⟨0,Nat.zero_le _,Nat.zero_le _,rfl,by simpa [nV] using World.ownsRow_nil w w.heap.size 9 1,fun _=>rfl,Below.refl _ _⟩
 case round=>
  obtain ⟨k,hk,Au,rfl,Aa,Ad,hB⟩:=hrel
  have HN:=Hd Ad
  clear Ad
  by_cases hlt:k < l.length∧k < 10
  ·obtain ⟨h1,h2⟩:=hlt
   obtain ⟨b,Ah,rfl,hb,Ak⟩:=HC.out k h1
   have Ay:wr.cell? ⟨b,Ah + k,none⟩=some (.string l[k]):=(hB.cell (p:=⟨b,Ah + k,none⟩) hb).trans Ak
   have Av:l[k].size≤9223372036854775807:=HS.out _ (List.getElem_mem h1)
   have HO:=Hd Aa
   have HB:=Hd hB
   have A0:b < wr.heap.size:=Nat.lt_of_lt_of_le hb HB.out.size
   obtain ⟨x,hx⟩:∃ x,x=cutN 30 l[k]:=⟨_,rfl⟩
   have HE:=Hd (ns3 30 10 l k h1 x hx.symm)
   have HX:=Hd hx
   clear hx Aa hB Ak hb
   generalize l[k]=xs at *
   go_wp2
   rcases (show ((30:Int) < (xs.size:Int)∧(¬ (xs.size:Int)≤30∧(30:Int)≤(xs.size:Int))∧min (xs.size:Int) 30=30)∨(¬ (30:Int) < (xs.size:Int)∧(xs.size:Int)≤30∧min (xs.size:Int) 30=(xs.size:Int)) by omega) with ⟨Ar,As,Af⟩ | ⟨Ar,As,Af⟩
   all_goals
    refine Flow.wrf 13 (Flow.sp3 [.inl ?_,.inl ?_,.inl ?_,.inl ?_,.inl ?_,.inl ?_,.inl ?_,.inl ?_,.inl ?_,.inl ?_,.inl ?_,.inl ?_,.inr (nO (.string x))]) (by kernel_rfl) (by kernel_rfl) ?_ ?_
    rotate_left 12
    ·refine Flow.sm2 ?_
     repeat (first | exact Flow.ln2 | refine Flow.li2 ?_ | refine Flow.li3 (nOm _) ?_)
    all_goals try simp only [List.take_succ_cons,List.take_zero,List.drop_succ_cons,List.drop_zero]
    iterate 12 (refine Flow.tvK rfl (fun K hK=>⟨fun w hw hG => ?_,?_⟩);(have Aw:=Flow.bc4 hw;clear hG hw;unfold Flow.Runs Flow.yields;go_simp;try rfl);go_simp;refine hK _ ?_;clear hK K)
    (refine Flow.tvK2 rfl (fun K hK=>⟨fun w hw hG => ?_,?_⟩);(clear hG hw;unfold Flow.Runs Flow.yields;go_simp;refine ⟨(Below.refl _ _).alloc (Nat.le_refl _) _,?_⟩;rw [HX.out]);rotate_left;intro vz;go_simp;refine hK _ _ ?_;clear hK K;rotate_left)
    ·first | exact nOm2 _ _ _ | (rw [cNs _ _ (by omega)];exact nOm2 _ _ _)
    refine Flow.tn2 fun w2 hw2 hG => ?_
    obtain ⟨gn,rfl,Az,Aq⟩:=(show nO (.string x) vz w2 by simpa [Flow.upd] using hG 12)
    clear hG
    have Aj:=Hd (ob2 HO.out hw2)
    have Ae:=HB.out.trans (hw2.mono HB.out.size)
    go_wp2_with (at_builtin;refine wpList_append_own _ rfl _ _ 22 rfl w.heap.size 9 i0 (.string ByteArray.empty) 1 16 Tryz.underlying22 hi An Ao Al rfl (by decide) _ _ _ rfl Aj.out ⟨gn,0,none⟩ 1 1 [.string x] rfl rfl ?_ ?_ ?_ ?_ ?_ ?_)
    ·intro j u hj;rcases j with _ | j <;> simp at hj;subst hj;simpa [Addr.add] using Aq
    ·simp [Value.oneCell']
    ·unfold maxLen;omega
    ·omega
    ·exact Ae.size
    intro v' w3 Ac Ab Ai
    have At:=Hd (Ae.grown Ab Ae.size (fun j e=>(Aj.out.lt j e).1))
    have Am:=Hd (jo2 Ac HE.out)
    clear Ac Ab Ae
    go_wp2
    go_roundw
    case rel=>exact ⟨k + 1,by omega,by omega,by go_num,Am.out,fun h=>by omega,At.out⟩
    case measure=>simp [intOf];omega
  ·have HE:=ne2 30 10 l k (by omega) hk Au
   have HP:=Hd (SlP.owned (HE ▸ Aa))
   have Ag:(nN 30 10 l).length=k:=by unfold nN;rw [List.length_map,List.length_take];omega
   have HQ:=Hd (owns_cap Aa HN.out)
   rw [← Ag] at HQ
   clear Ag
   have HB:=Hd hB
   clear Aa hB HE
   rcases (show (¬ (k:Int) < (l.length:Int))∨((k:Int) < (l.length:Int)∧¬ (k:Int) < 10) by omega) with Ap | ⟨Ag,Ap⟩
   all_goals
    clear hlt
    go_wp2
    go_ret
    exact ⟨_,rfl,HP.out,HQ.out,HB.out⟩
end Go.Proofs.YtaddkkkchkdgkaaGreatDoor
namespace Tess
open Go
def cA2 (a:Agg):Agg:=⟨a.kind,cutN 30 a.met⟩
def Que.few (q:Que):Que:=⟨(q.aggs.take 10).map cA2,(q.names.take 10).map (cutN 30),q.mode,(q.sets.take 10).map (fun l=>(l.take 10).map (cutN 30)),q.every,Fil.few q.fil,q.conds.take 10,q.keys.take 10,q.limit⟩
end Tess
namespace Go.Proofs.YtaddkkkchkdgkaaGreatDoor
open Go.RowKit Go.Sort
open Tess (Fil Que)
def pA2 (g:Nat):Nat→List Value→World→World
 | _,[],W=>W
 | i,y :: r,W=>pA2 g (i + 1) r (W.setCell ⟨g,i,none⟩ y)
def setArr:Nat→List Value→Array Value→Array Value
 | _,[],cs=>cs
 | i,y :: r,cs=>setArr (i + 1) r (cs.setIfInBounds i y)
theorem putAll_same {g:Nat} {t:TypeId} (ys:List Value):∀ (i:Nat) (W:World) (cs:Array Value),W.heap[g]? = some (.cells cs t (0,0))→(pA2 g i ys W).heap[g]? = some (.cells (setArr i ys cs) t (0,0)):=by
 induction ys with
 | nil=>intro i W cs h;exact h
 | cons y r ih=>intro i W cs h;exact ih (i + 1) _ _ (heap_setCell_same _ _ _ _ _ _ h)
theorem putAll_other {g k:Nat} (hk:k≠g) (ys:List Value):∀ (i:Nat) (W:World),(pA2 g i ys W).heap[k]? = W.heap[k]? := by
 induction ys with
 | nil=>intro i W;rfl
 | cons y r ih=>intro i W;exact (ih (i + 1) _).trans (heap_setCell_other _ _ _ _ hk)
theorem putAll_size {g:Nat} (ys:List Value):∀ (i:Nat) (W:World),(pA2 g i ys W).heap.size=W.heap.size:=by
 induction ys with
 | nil=>intro i W;rfl
 | cons y r ih=>intro i W;exact (ih (i + 1) _).trans (by simp [World.setCell])
theorem putAll_below {g B:Nat} {a:World} (hg:B≤g) (ys:List Value):∀ (i:Nat) (W:World),Below B a W→Below B a (pA2 g i ys W):=by
 induction ys with
 | nil=>intro i W h;exact h
 | cons y r ih=>intro i W h;exact ih (i + 1) _ (h.setCell hg _)
theorem putAll_ag {g:Nat} {q:Nat→Prop} (hq:¬ q g) (ys:List Value):∀ (i:Nat) (W:World),Ag q W (pA2 g i ys W):=by
 induction ys with
 | nil=>intro i W;exact Ag.refl _ _
 | cons y r ih=>intro i W;exact (Ag.set q W y hq).trans (ih (i + 1) _)
theorem put14 {W:World} {g:Nat} {t:TypeId} {x0 x1 x2 x3 x4 x5 x6 x7 x8 x9 xa xb xc xd:Value} (y0 y1 y2 y3 y4 y5 y6 y7 y8 y9 ya yb yc yd:Value) (h:W.heap[g]? = some (.cells #[x0,x1,x2,x3,x4,x5,x6,x7,x8,x9,xa,xb,xc,xd] t (0,0))) :
  ∃ W1,((((((((((((((W.setCell ⟨g,0,none⟩ y0).setCell ⟨g,1,none⟩ y1).setCell ⟨g,2,none⟩ y2).setCell ⟨g,3,none⟩ y3).setCell ⟨g,4,none⟩ y4).setCell ⟨g,5,none⟩ y5).setCell ⟨g,6,none⟩ y6).setCell ⟨g,7,none⟩ y7).setCell ⟨g,8,none⟩ y8).setCell ⟨g,9,none⟩ y9).setCell ⟨g,10,none⟩ ya).setCell ⟨g,11,none⟩ yb).setCell ⟨g,12,none⟩ yc).setCell ⟨g,13,none⟩ yd)=W1∧W1.heap[g]? = some (.cells #[y0,y1,y2,y3,y4,y5,y6,y7,y8,y9,ya,yb,yc,yd] t (0,0))∧(∀ k,k≠g→W1.heap[k]? = W.heap[k]?)∧W1.heap.size=W.heap.size∧(∀ B a,Below B a W→B≤g→Below B a W1)∧(∀ q:Nat→Prop,¬ q g→Ag q W W1):=by
 have e:pA2 g 0 [y0,y1,y2,y3,y4,y5,y6,y7,y8,y9,ya,yb,yc,yd] W=((((((((((((((W.setCell ⟨g,0,none⟩ y0).setCell ⟨g,1,none⟩ y1).setCell ⟨g,2,none⟩ y2).setCell ⟨g,3,none⟩ y3).setCell ⟨g,4,none⟩ y4).setCell ⟨g,5,none⟩ y5).setCell ⟨g,6,none⟩ y6).setCell ⟨g,7,none⟩ y7).setCell ⟨g,8,none⟩ y8).setCell ⟨g,9,none⟩ y9).setCell ⟨g,10,none⟩ ya).setCell ⟨g,11,none⟩ yb).setCell ⟨g,12,none⟩ yc).setCell ⟨g,13,none⟩ yd):=by simp only [pA2,Nat.reduceAdd]
 have e2:setArr 0 [y0,y1,y2,y3,y4,y5,y6,y7,y8,y9,ya,yb,yc,yd] #[x0,x1,x2,x3,x4,x5,x6,x7,x8,x9,xa,xb,xc,xd]=#[y0,y1,y2,y3,y4,y5,y6,y7,y8,y9,ya,yb,yc,yd]:=by simp [setArr]
 have h1:=putAll_same [y0,y1,y2,y3,y4,y5,y6,y7,y8,y9,ya,yb,yc,yd] 0 W _ h
 have h2:=fun k (hk:k≠g)=>putAll_other hk [y0,y1,y2,y3,y4,y5,y6,y7,y8,y9,ya,yb,yc,yd] 0 W
 have h3:=putAll_size (g:=g) [y0,y1,y2,y3,y4,y5,y6,y7,y8,y9,ya,yb,yc,yd] 0 W
 have h4:=fun B a (hb:Below B a W) (hg:B≤g)=>putAll_below hg [y0,y1,y2,y3,y4,y5,y6,y7,y8,y9,ya,yb,yc,yd] 0 W hb
 have h5:=fun (q:Nat→Prop) (hq:¬ q g)=>putAll_ag hq [y0,y1,y2,y3,y4,y5,y6,y7,y8,y9,ya,yb,yc,yd] 0 W
 rw [e] at h1 h2 h3 h4 h5
 rw [e2] at h1
 exact ⟨_,rfl,h1,h2,h3,h4,h5⟩
abbrev zQ:Array Value:=#[.slice none 0 0,.slice none 0 0,.int .i64 0,.slice none 0 0,.int .i64 0,.int .i64 0,.string ⟨#[]⟩,.slice none 0 0,.int .i64 0,.int .i64 0,.slice none 0 0,.slice none 0 0,.slice none 0 0,.int .i64 0]
structure Cq (w:World) (g:Nat) (bx:Array Value) (cs:Array Value) (W:World):Prop where
 k1:W.heap[w.heap.size]? = some (.cells bx 35 (0,0))
 k2:W.heap[w.heap.size + 1]? = some (.cells zQ 35 (0,0))
 k3:W.heap[g]? = some (.cells cs 35 (0,0))
 below:Below w.heap.size w W
 hg:w.heap.size + 2≤g
section
variable {w W W':World} {g:Nat} {bx cs:Array Value}
theorem Cq.lt (h:Cq w g bx cs W):g < W.heap.size:=(Array.getElem?_eq_some_iff.1 h.k3).1
theorem Cq.later (h:Cq w g bx cs W) (hb:Below W.heap.size W W'):Cq w g bx cs W':=
 have:=h.lt;have:=h.hg
 ⟨(hb.block _ (by omega)).trans h.k1,(hb.block _ (by omega)).trans h.k2,(hb.block _ (by omega)).trans h.k3,Bt h.below hb,h.hg⟩
theorem Cq.grown (h:Cq w g bx cs W) {o:Option Nat} (hg:W.grownBy W' o) (ho:∀ k,o=some k→g < k):Cq w g bx cs W':=
 have h1:=h.lt;have h2:=h.hg
 ⟨(hg.block _ (by omega) (fun e=>by have:=ho _ e.symm;omega)).trans h.k1,(hg.block _ (by omega) (fun e=>by have:=ho _ e.symm;omega)).trans h.k2,(hg.block _ (by omega) (fun e=>by have:=ho _ e.symm;omega)).trans h.k3,
   h.below.grown hg h.below.size (fun k e=>by have:=ho k e;omega),h.hg⟩
theorem Cq.set (h:Cq w g bx cs W) (i:Nat) (u:Value) (cs':Array Value) (hcs:cs.setIfInBounds i u=cs'):Cq w g bx cs' (W.setCell ⟨g,i,none⟩ u):=by
 have h2:=h.hg
 subst hcs
 refine ⟨(heap_setCell_other _ _ _ _ (by show _≠g;omega)).trans h.k1,(heap_setCell_other _ _ _ _ (by show _≠g;omega)).trans h.k2,?_,h.below.setCell (by show _≤g;omega) _,h.hg⟩
 have:=heap_setCell_same W g i cs 35 u h.k3
 exact this
end
theorem aggs_snoc (l:List Tess.Agg) (k:Nat) (h:k < l.length):((l.take k).map Tess.cA2).flatMap aggF ++ [.int .i64 l[k].kind,.string (cutN 30 l[k].met)]=((l.take (k + 1)).map Tess.cA2).flatMap aggF:=by
 rw [List.take_succ_eq_append_getElem h,List.map_append,List.flatMap_append];rfl
def isNames (l:List ByteArray) (v:Value) (s e:Nat) (W:World):Prop:=e≤W.heap.size∧SlP (fun b=>s≤b∧b < e) W v ((nN 30 10 l).map .string)∧CapOk v (nN 30 10 l).length
theorem isNames_mono (l:List ByteArray):FlX.Spec.mono (some (.inr (isNames l))):=fun _ _ _ _ _ ⟨h0,h,h1⟩ hb=>⟨Nat.le_trans h0 hb.size,SlP.ag h (Ag.new _ hb),h1⟩
def isFilX (n:Nat) (f:Fil) (v:Value) (s e:Nat) (W:World):Prop:=e≤W.heap.size∧FA2 (fun b=>s≤b∧b < e) n W v f
theorem isFilX_mono (n:Nat) (f:Fil):FlX.Spec.mono (some (.inr (isFilX n f))):=fun _ _ _ _ _ ⟨h0,h⟩ hb=>⟨Nat.le_trans h0 hb.size,FA2.ag h (Ag.new _ hb)⟩
def newAtX (cs:Array Value) (t:TypeId) (v:Value) (s e:Nat) (w:World):Prop:=∃ g,v = .pointer (some ⟨g,0,none⟩)∧s≤g∧g < e∧w.heap[g]? = some (.cells cs t (0,0))
theorem newAtX_mono (cs:Array Value) (t:TypeId):FlX.Spec.mono (some (.inr (newAtX cs t))):=fun _ _ _ _ _ ⟨g,h1,h2,h3,h4⟩ hb=>⟨g,h1,h2,h3,(hb.block g (Array.getElem?_eq_some_iff.1 h4).1).trans h4⟩
def isNamesF (N:Nat) (l:List ByteArray) (v:Value) (W:World):Prop:=SlP (fun b=>N≤b) W v ((nN 30 10 l).map .string)
theorem isNamesF_mono (N:Nat) (l:List ByteArray):Flow.Spec.mono (.inr (isNamesF N l)):=fun _ _ _ h hb=>SlP.ag h (Ag.new _ hb)
def newNames (N:Nat) (l:List ByteArray) (v:Value) (W:World):Prop:=∃ gn x,v = .slice (some ⟨gn,0,none⟩) 1 1∧gn < W.heap.size∧SlP (fun b=>N≤b) W x ((nN 30 10 l).map .string)∧W.cell? ⟨gn,0,none⟩=some x
theorem newNames_mono (N:Nat) (l:List ByteArray):Flow.Spec.mono (.inr (newNames N l)):=fun _ _ _ ⟨gn,x,h1,h2,h3,h4⟩ hb=>⟨gn,x,h1,Nat.lt_of_lt_of_le h2 hb.size,h3.ag (Ag.new _ hb),(hb.cell (p:=⟨gn,0,none⟩) h2).trans h4⟩
end Go.Proofs.YtaddkkkchkdgkaaGreatDoor
