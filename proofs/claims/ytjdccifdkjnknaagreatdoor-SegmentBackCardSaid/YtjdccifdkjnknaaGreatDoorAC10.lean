/- Frames parted: the program's. -/
import Derived.Test.YtjdccifdkjnknaaGreatDoorAC06
import Derived.Test.YtjdccifdkjnknaaGreatDoorAC01
import Derived.OwnWalkIn
import Derived.TacticsInMore
import Derived.LoopNIn
import Derived.LoopIn
import Derived.Shelf.Abstract
import Derived.Shelf.RegionOpen
namespace Go.Proofs.YtjdccifdkjnknaaGreatDoor
open Go.RowKit Go.Sort Go.Shelf
attribute [local go_sem] Oper.semAt_some
set_option maxHeartbeats 1000000 in
theorem frames_any (p:Option Addr) (w:World) :
  Calls Tryz.prog 80 #[.pointer p] w fun e w'=>e = .returned (.func (.func 127) #[] #[.pointer (some ⟨w.heap.size,0,none⟩)])∧w.alloc (.cells #[.pointer p] 121)=w':=by
 go_enter Tryz.func80,Tryz.ntmps80
 go_wp2
 go_ret
 exact ⟨rfl,rfl⟩
theorem fco {W:World} {B:Nat} {v:Value} {t:TypeId} (h:W.heap[B]? = some (.cells #[v] t (0,0))):W.cell? ⟨B,0,none⟩=some v∧W.frozen? ⟨B,0,none⟩=false:=by
 constructor <;> simp [World.cell?,World.frozen?,h]
theorem fhs {W:World} {B:Nat} {v:Value} {t:TypeId} (v':Value) (h:W.heap[B]? = some (.cells #[v] t (0,0))):(W.setCell ⟨B,0,none⟩ v').heap[B]? = some (.cells #[v'] t (0,0)):=by
 obtain ⟨Aa,hk⟩:=Array.getElem?_eq_some_iff.1 h
 show (W.heap.modify B _)[B]? = _
 rw [Array.getElem?_eq_getElem (by rw [Array.size_modify];exact Aa),Array.getElem_modify_self,hk]
 rfl
theorem fgB (W:World) (l:Nat) (o:Obj):W.grownBy (W.putObj l o) (some l):=
 ⟨rfl,rfl,rfl,by simp,fun k _ hk=>World.putObj_heap_other (fun e=>hk (by rw [e]))⟩
theorem oRn {W:World} {base:Nat} {e:TypeId} {size:Nat} {v:Value} {k:Nat} {xs:List Value} (h:W.ownsRow base e size v k xs) {j:Nat} {o:Obj} (hj:W.heap[j]? = some o) (hno:∀ cur,o ≠ .cells cur e (0,0)) :
  v.ownBlock=none∨v.ownBlock≠some j:=by
 rcases h.2 with ⟨rfl,_⟩ | ⟨g,Ab,cur,rfl,_,Aa,_⟩
 ·exact .inl rfl
 ·refine .inr fun e' => ?_
  have:g=j:=by simpa [Value.ownBlock] using e'
  subst this;rw [Aa] at hj;cases hj;exact hno cur rfl
theorem fhn {W:World} {B k:Nat} {u:Value} (h:k≠B):(W.setCell ⟨B,0,none⟩ u).heap[k]? = W.heap[k]? := Below.heap_setCell _ _ _ _ h
structure Sp (w:World) (rec:Loop) (cur:ByteArray) (out:List ByteArray) (v:Value) (e:Int) (wr:World):Prop where
 k0:wr.heap[w.heap.size]? = some (.cells #[v] 22 (0,0))
 k1:wr.heap[w.heap.size + 1]? = some (.cells #[.int .i64 e] 29 (0,0))
 k2:wr.heap[w.heap.size + 2]? = some (.cells #[.string cur] 125 (0,0))
 k3:wr.heap[w.heap.size + 3]? = some (.cells #[.pointer (some ⟨w.heap.size + 2,0,none⟩)] 121 (0,0))
 kD:wr.heap[w.heap.size + 4]? = some (.deferred (some []))
 kL:wr.heap[w.heap.size + 5]? = some (.loop rec)
 own:wr.ownsRow (w.heap.size + 6) 9 1 v out.length (strV out)
 below:Below w.heap.size w wr
 size:w.heap.size + 6≤wr.heap.size
section
variable {w W W':World} {rec rec':Loop} {cur cur':ByteArray} {out out':List ByteArray} {v v':Value} {e e':Int}
theorem Sp.under (h:Sp w rec cur out v e W) (hb:Below W.heap.size W W'):Sp w rec cur out v e W':=by
 have hs:=h.size
 exact ⟨(hb.block _ (by omega)).trans h.k0,(hb.block _ (by omega)).trans h.k1,(hb.block _ (by omega)).trans h.k2,(hb.block _ (by omega)).trans h.k3,(hb.block _ (by omega)).trans h.kD,(hb.block _ (by omega)).trans h.kL,
  ob2 h.own hb,Bt h.below hb,Nat.le_trans hs hb.size⟩
theorem Sp.set2 (h:Sp w rec cur out v e W) (cur':ByteArray):Sp w rec cur' out v e (W.setCell ⟨w.heap.size + 2,0,none⟩ (.string cur')):=
 ⟨(fhn (by omega)).trans h.k0,(fhn (by omega)).trans h.k1,fhs _ h.k2,(fhn (by omega)).trans h.k3,(fhn (by omega)).trans h.kD,(fhn (by omega)).trans h.kL,
   ownsRow_setCell_below h.own (by show _ + 2 < _;omega) _,h.below.setCell (by show _≤_ + 2;omega) _,by simpa [World.setCell] using h.size⟩
theorem Sp.set1 (h:Sp w rec cur out v e W) (e':Int):Sp w rec cur out v e' (W.setCell ⟨w.heap.size + 1,0,none⟩ (.int .i64 e')):=
 ⟨(fhn (by omega)).trans h.k0,fhs _ h.k1,(fhn (by omega)).trans h.k2,(fhn (by omega)).trans h.k3,(fhn (by omega)).trans h.kD,(fhn (by omega)).trans h.kL,
   ownsRow_setCell_below h.own (by show _ + 1 < _;omega) _,h.below.setCell (by show _≤_ + 1;omega) _,by simpa [World.setCell] using h.size⟩
theorem Sp.but (h:Sp w rec cur out v e W) (hs:Rf.SB (w.heap.size + 4 + 1) W W') (hl:W'.heap[w.heap.size + 4 + 1]? = some (.loop rec')):Sp w rec' cur out v e W':=
 ⟨(hs.block _ (by omega)).trans h.k0,(hs.block _ (by omega)).trans h.k1,(hs.block _ (by omega)).trans h.k2,(hs.block _ (by omega)).trans h.k3,(hs.block _ (by omega)).trans h.kD,hl,
   hs.owns h.own h.kL rfl,h.below.trans (hs.below (by omega)),by rw [hs.size];exact h.size⟩
theorem Sp.grown (h:Sp w rec cur out v e W) {o:Obj} (hg:(W.alloc o).grownBy W' v.ownBlock) {k:Nat} (hk:k < w.heap.size + 6):W'.heap[k]? = W.heap[k]? := by
 have hs:=h.size
 exact (hg.block k (by simp;omega) (fun e=>by have:=(h.own.lt k e.symm).1;omega)).trans (Below.heap_alloc _ _ _ (by omega))
theorem Sp.append (h:Sp w rec cur out v e W) {o:Obj} (hg:(W.alloc o).grownBy W' v.ownBlock) (hown:W'.ownsRow (w.heap.size + 6) 9 1 v' out'.length (strV out')):Sp w rec cur out' v' e (W'.setCell ⟨w.heap.size,0,none⟩ v'):=by
 have hs:=h.size
 have hb:Below w.heap.size w W':=(h.below.alloc h.below.size _).grown hg (by simp;omega) (fun k e=>by have:=(h.own.lt k e).1;omega)
 exact ⟨fhs _ ((h.grown hg (by omega)).trans h.k0),(fhn (by omega)).trans ((h.grown hg (by omega)).trans h.k1),(fhn (by omega)).trans ((h.grown hg (by omega)).trans h.k2),(fhn (by omega)).trans ((h.grown hg (by omega)).trans h.k3),
  (fhn (by omega)).trans ((h.grown hg (by omega)).trans h.kD),(fhn (by omega)).trans ((h.grown hg (by omega)).trans h.kL),
  ownsRow_setCell_below hown (by show w.heap.size < w.heap.size + 6;omega) _,hb.setCell (Nat.le_refl _) _,by have:=hg.size;simp [World.setCell] at *;omega⟩
end
def curLen (k:Nat) (wr:World):Nat:=match wr.cell? ⟨k,0,none⟩ with | some (.string c)=>c.size | _=>0
def SPO (s:ByteArray) (w:World) (e:Ending) (w':World):Prop:=
 ∃ v,e = .returned (.tuple #[v,.int .i64 ((Tess.sF s.size [] s).2:Nat)])∧w'.ownsRow 0 9 1 v (Tess.sF s.size [] s).1.length ((Tess.sF s.size [] s).1.map .string)∧Below w.heap.size w w'
set_option maxRecDepth 100000 in
set_option maxHeartbeats 1000000 in
theorem split_own (s:ByteArray) (w:World) (hs:s.size≤1000000):Calls Tryz.prog 32 #[.string s] w (SPO s w):=by
 obtain ⟨i0,hi,A7,A9,Bb⟩:=info_parts fiS
 refine (callsIn_wide (n:=5)).1 ?_
 refine callsIn_of_wp_marks Tryz.func32 rfl trivial ?_ rfl
 simp only [Tryz.ntmps32,List.size_toArray,List.length_cons,List.length_nil,Nat.reduceAdd,Nat.reduceSub,Array.replicate_succ,Array.replicate_zero,List.push_toArray,List.append_toArray,List.nil_append,List.cons_append]
 gi_wp2
 refine Rf.wIs ?_
 gi_wp2
 refine wpIn_label ?_
 gi_wp2_with (refine ⟨trivial,?_⟩;gi_at_call 80;refine (callsIn_wide.2 (frames_any _ _)).mono ?_;rintro e w' ⟨rfl,rfl⟩)
 obtain ⟨w0,Ai⟩:∃ w0,(((w.alloc (.cells #[.slice none 0 0] 22)).alloc (.cells #[.int .i64 0] 29)).alloc (.cells #[.string s] 125)).alloc (.cells #[.pointer (some ⟨w.heap.size + 1 + 1,0,none⟩)] 121)=w0:=⟨_,rfl⟩
 have hA:w0.heap.size=w.heap.size + 4:=by rw [← Ai];simp
 have Az:Below w.heap.size w w0:=by rw [← Ai];exact ((((Below.refl _ _).alloc (Nat.le_refl _) _).alloc (by simp) _).alloc (by simp <;> omega) _).alloc (by simp <;> omega) _
 have h0:w0.heap[w.heap.size]? = some (.cells #[.slice none 0 0] 22 (0,0)):=by rw [← Ai];exact (Below.heap_alloc _ _ _ (by simp <;> omega)).trans ((Below.heap_alloc _ _ _ (by simp <;> omega)).trans ((Below.heap_alloc _ _ _ (by simp)).trans (World.alloc_heap_new w _)))
 have h1:w0.heap[w.heap.size + 1]? = some (.cells #[.int .i64 0] 29 (0,0)):=by
  rw [← Ai];refine (Below.heap_alloc _ _ _ (by simp <;> omega)).trans ((Below.heap_alloc _ _ _ (by simp)).trans ?_)
  have:=World.alloc_heap_new (w.alloc (.cells #[.slice none 0 0] 22)) (.cells #[.int .i64 0] 29);rwa [World.size_alloc] at this
 have h2:w0.heap[w.heap.size + 2]? = some (.cells #[.string s] 125 (0,0)):=by
  rw [← Ai];refine (Below.heap_alloc _ _ _ (by simp)).trans ?_
  have:=World.alloc_heap_new ((w.alloc (.cells #[.slice none 0 0] 22)).alloc (.cells #[.int .i64 0] 29)) (.cells #[.string s] 125);rwa [World.size_alloc,World.size_alloc] at this
 have h3:w0.heap[w.heap.size + 3]? = some (.cells #[.pointer (some ⟨w.heap.size + 2,0,none⟩)] 121 (0,0)):=by
  rw [← Ai]
  have:=World.alloc_heap_new (((w.alloc (.cells #[.slice none 0 0] 22)).alloc (.cells #[.int .i64 0] 29)).alloc (.cells #[.string s] 125)) (.cells #[.pointer (some ⟨w.heap.size + 1 + 1,0,none⟩)] 121);rwa [World.size_alloc,World.size_alloc,World.size_alloc] at this
 simp only [Ai,Nat.add_assoc,Nat.reduceAdd]
 clear Ai
 refine Rf.rw3 (gf:=127) (lb:=#[.pointer (some ⟨w.heap.size + 3,0,none⟩)]) rfl (enters_of Tryz.func127 (by kernel_rfl) rfl) ?_
 intro fn W1 hL hD Ak Ba
 rw [hA] at hL hD Ba ⊢
 obtain ⟨Ac,Aj,hL⟩:∃ Ac:Loop,Ac=_∧W1.heap[w.heap.size + 4 + 1]? = some (.loop Ac):=⟨_,rfl,hL⟩
 have Al:=Hd Aj
 have Ar:Ac.state = .ready∧Ac.params.size=2∧Ac.pending=none:=by rw [Aj];exact ⟨rfl,rfl,rfl⟩
 clear Aj
 obtain ⟨Ar,A0,A2⟩:=Ar
 have k0:=(Ak.block _ (by omega)).trans h0
 have k1:=(Ak.block _ (by omega)).trans h1
 have k2:=(Ak.block _ (by omega)).trans h2
 have k3:=(Ak.block _ (by omega)).trans h3
 have hI:Sp w Ac s [] (.slice none 0 0) 0 W1:=⟨k0,k1,k2,k3,hD,hL,World.ownsRow_nil _ _ _ _,Bt Az Ak,by omega⟩
 clear Az Ak h0 h1 h2 h3 k0 k1 k2 k3 hD hL
 refine callsIn_of_wp Tryz.func127 rfl trivial ?_ rfl
 simp only [Tryz.ntmps127,List.size_toArray,List.length_cons,List.length_nil,Nat.reduceAdd,Nat.reduceSub,Array.replicate_succ,Array.replicate_zero,List.push_toArray,List.append_toArray,List.nil_append,List.cons_append]
 gi_wp2
 gi_loopw [3,4,5] (fun _ _ _ wr => ∃ (Aa:ByteArray) (out:List ByteArray) (f:Nat) (v:Value),Sp w Ac Aa out v 0 wr∧8 * out.length + Aa.size≤s.size∧Aa.size≤f∧Tess.sF f out Aa=Tess.sF s.size [] s) (fun _ _ _ wr=>curLen (w.heap.size + 2) wr)
 case atStart=>exact ⟨s,[],s.size,_,hI,by simp,Nat.le_refl _,rfl⟩
 case round=>
  obtain ⟨Aa,out,f,v,hS,Bf,hf,A1⟩:=hrel
  have Au:=Hd A1
  have HS:=Hd hS
  clear A1 hS
  obtain ⟨c3,z3⟩:=fco HS.out.k3
  obtain ⟨c2,z2⟩:=fco HS.out.k2
  by_cases hc0:Aa.size=0
  ·obtain rfl:=sn2 hc0
   have HZ:=Hd ((Tess.sFz f out _ hc0).symm.trans Au.out)
   gi_wp2
   go_end0
   refine ⟨⟨_,rfl⟩,Ac,HS.out.kL,by rw [Ar];decide,?_⟩
   intro W4 Af
   rw [A2]
   dsimp only
   obtain ⟨q0,y0⟩:=fco ((Af.block w.heap.size (by omega)).trans HS.out.k0)
   obtain ⟨q1,y1⟩:=fco ((Af.block (w.heap.size + 1) (by omega)).trans HS.out.k1)
   gi_wp2
   refine ⟨by simp,.inl ⟨_,_,rfl,run_takeDeferred ((Af.block (w.heap.size + 4) (by omega)).trans HS.out.kD),?_⟩⟩
   have A6:=(Af.block (w.heap.size + 4) (by omega)).trans HS.out.kD
   refine ⟨_,results_tmp2 rfl _ _ _,v,by rw [← HZ.out];rfl,?_,?_⟩
   ·rw [← HZ.out];exact ol2 ((Af.owns HS.out.own HS.out.kL rfl).kept (fgB _ _ _) (oRn (Af.owns HS.out.own HS.out.kL rfl) A6 (fun Aa e=>by cases e))) (Nat.zero_le _)
   ·exact (HS.out.below.trans (Af.below (by omega))).grown (fgB _ _ _) (by have:=HS.out.size;rw [Af.size];omega) (fun k e=>by cases e;omega)
  ·have Bj:=sn4 hc0
   have Be:curLen (w.heap.size + 2) wr=Aa.size:=by unfold curLen;rw [c2]
   by_cases he:(Tess.rd Aa).2.2=0
   ·obtain ⟨f',Bg,Am⟩:=Tess.sFs f out Aa hc0 hf he
    obtain ⟨Bh,Bk⟩:=Tess.rr3 Aa he
    have Ao:=Hd (Am.symm.trans Au.out)
    have Ag:=read_any Aa wr (by unfold maxLen;omega)
    unfold RP at Ag
    rw [he] at Ag
    generalize (Tess.rd Aa).1=b at *
    generalize (Tess.rd Aa).2.1=rest at *
    have HR:=Hd Ag
    clear Ag Am
    gi_wp2_with (refine ⟨trivial,?_⟩;gi_at_call 128;refine (callsIn_wide.2 HR.out).mono ?_;rintro e w2 ⟨rfl,Ad⟩;have As:=Hd Ad;have Bd:=HS.out.size;have At:=(Ad.cell (p:=⟨w.heap.size + 3,0,none⟩) (by show w.heap.size + 3 < _;omega)).trans c3;have Ay:=(Ad.frozen (p:=⟨w.heap.size + 3,0,none⟩) (by show w.heap.size + 3 < _;omega)).trans z3;have Aw:=(Ad.cell (p:=⟨w.heap.size + 2,0,none⟩) (by show w.heap.size + 2 < _;omega)).trans c2;have Ax:=(Ad.frozen (p:=⟨w.heap.size + 2,0,none⟩) (by show w.heap.size + 2 < _;omega)).trans z2;have hy:=run_yield (P:=Tryz.prog) (w:=w2.setCell ⟨w.heap.size + 2,0,none⟩ (.string rest)) (l:=w.heap.size + 4 + 1) (r:=Ac) (args:=#[.string b,.int .i64 0]) ((Below.heap_setCell _ _ _ _ (by show _≠w.heap.size + 2;omega)).trans ((Ad.block (w.heap.size + 5) (by omega)).trans HS.out.kL)) (by rw [A0];rfl))
    have An:=Hd ((HS.out.under As.out).set2 rest)
    clear Aw At Ax Ay c2 c3 z2 z3
    refine Rf.rw2 (r:=Ac) ?_
    have Av:=Al.out
    subst Av
    dsimp only
    gi_wp2_with (rw [Oper.semAt_eq _ _ _ (fun c h=>by cases h)];go_simp;try go_bits)
    refine ⟨An.out.kL,fun W4 hs4 hl4 => ?_⟩
    have Ae:=Hd (An.out.but hs4 hl4)
    obtain ⟨c0,z0⟩:=fco Ae.out.k0
    clear hs4 hl4 hy hL
    gi_wp2_with (first
     | (gi_at_builtin;refine wpListIn_append_own _ rfl _ _ 22 rfl (w.heap.size + 6) 9 i0 (.string ByteArray.empty) 1 16 Tryz.underlying22 hi A7 A9 Bb rfl (by decide) _ _ _ rfl (Ae.out.own.alloc _) ⟨W4.heap.size,0,none⟩ 1 1 [.string b] rfl rfl (cell_one_new _ _ _) (by simp [Value.oneCell']) (by unfold maxLen;omega) (by omega) (by have:=Ae.out.size;simp;omega) ?_;intro v' w3 Ab Aq _;obtain ⟨A4,Bc⟩:=fco ((Ae.out.grown Aq (by omega)).trans Ae.out.k0);obtain ⟨gg,cp,rfl,_⟩:=oc2 Ab (by omega);go_frame)
     | (rw [Oper.semAt_eq _ _ _ (fun c h=>by cases h)];go_simp;try go_bits))
    refine ⟨(Ae.out.append Aq (out':=out ++ [b]) (by simpa [strV] using Ab)).kL,fun W5 hs5 hl5 => ?_⟩
    have Ah:=Hd ((Ae.out.append Aq (out':=out ++ [b]) (by simpa [strV] using Ab)).but hs5 hl5)
    clear Aq Ab hs5 hl5 A4 Bc
    dsimp only
    gi_wp2
    go_roundw
    case rel=>exact ⟨rest,out ++ [b],f',_,Ah.out,by simp;omega,Bg,Ao.out⟩
    case measure=>
     obtain ⟨c5,_⟩:=fco Ah.out.k2
     rw [Be];unfold curLen;rw [c5];show rest.size < _;omega
   ·have Ao:=Hd ((Tess.sFe f out Aa hc0 hf he).symm.trans Au.out)
    have Ag:=read_any Aa wr (by unfold maxLen;omega)
    unfold RP at Ag
    have A8:(((Tess.rd Aa).2.2:Nat):Int)≠0:=by omega
    have Bi:((((Tess.rd Aa).2.2:Nat):Int) != 0)=true:=by rw [bne_iff_ne];exact A8
    generalize (Tess.rd Aa).1=b at *
    generalize (Tess.rd Aa).2.1=rest at *
    generalize (Tess.rd Aa).2.2=en at *
    have HR:=Hd Ag
    clear Ag
    gi_wp2_with (refine ⟨trivial,?_⟩;gi_at_call 128;refine (callsIn_wide.2 HR.out).mono ?_;rintro e w2 ⟨rfl,Ad⟩;have As:=Hd Ad;have Bd:=HS.out.size;have At:=(Ad.cell (p:=⟨w.heap.size + 3,0,none⟩) (by show w.heap.size + 3 < _;omega)).trans c3;have Ay:=(Ad.frozen (p:=⟨w.heap.size + 3,0,none⟩) (by show w.heap.size + 3 < _;omega)).trans z3;have Aw:=(Ad.cell (p:=⟨w.heap.size + 2,0,none⟩) (by show w.heap.size + 2 < _;omega)).trans c2;have Ax:=(Ad.frozen (p:=⟨w.heap.size + 2,0,none⟩) (by show w.heap.size + 2 < _;omega)).trans z2;have hy:=run_yield (P:=Tryz.prog) (w:=w2.setCell ⟨w.heap.size + 2,0,none⟩ (.string rest)) (l:=w.heap.size + 4 + 1) (r:=Ac) (args:=#[.string b,.int .i64 (en:Nat)]) ((Below.heap_setCell _ _ _ _ (by show _≠w.heap.size + 2;omega)).trans ((Ad.block (w.heap.size + 5) (by omega)).trans HS.out.kL)) (by rw [A0];rfl))
    have An:=Hd ((HS.out.under As.out).set2 rest)
    clear Aw At Ax Ay c2 c3 z2 z3
    refine Rf.rw2 (r:=Ac) ?_
    have Av:=Al.out
    subst Av
    dsimp only
    gi_wp2_with (rw [Oper.semAt_eq _ _ _ (fun c h=>by cases h)];go_simp;try go_bits)
    refine ⟨An.out.kL,fun W4 hs4 hl4 => ?_⟩
    have Ae:=Hd (An.out.but hs4 hl4)
    obtain ⟨c1,z1⟩:=fco Ae.out.k1
    clear hs4 hl4 hy hL
    gi_wp2_with (rw [Oper.semAt_eq _ _ _ (fun c h=>by cases h)];go_simp;try go_bits)
    refine ⟨(Ae.out.set1 en).kL,fun W5 hs5 hl5 => ?_⟩
    have Ah:=Hd ((Ae.out.set1 en).but hs5 hl5)
    clear hs5 hl5
    dsimp only
    gi_wp2
    refine bodyPost_ret (results_none (by rfl) _ _ _) rfl ?_
    refine ⟨⟨_,rfl⟩,_,Ah.out.kL,by simp,?_⟩
    intro W6 Ap
    dsimp only
    have A3:=(Ap.block (w.heap.size + 4) (by omega)).trans Ah.out.kD
    obtain ⟨q1,y1⟩:=fco ((Ap.block (w.heap.size + 1) (by omega)).trans Ah.out.k1)
    gi_wp2
    refine wpIn_wide.2 ?_
    go_quiet (fail)
    gi_wp2
    refine ⟨by simp,.inl ⟨_,_,rfl,run_takeDeferred A3,?_⟩⟩
    refine ⟨_,results_tmp2 rfl _ _ _,.slice none 0 0,by rw [← Ao.out];rfl,?_,?_⟩
    ·rw [← Ao.out];exact World.ownsRow_nil _ _ _ _
    ·have A5:Below w.heap.size w (W6.drewN nq):=(Ah.out.below.trans (Ap.below (by omega))).trans ⟨rfl,rfl,rfl,Nat.le_refl _,fun _ _=>rfl⟩
     exact A5.grown (fgB _ (w.heap.size + 4) (.deferred none)) (by have:=Ah.out.size;show _≤W6.heap.size;rw [Ap.size];omega) (fun k e=>by cases e;omega)
end Go.Proofs.YtjdccifdkjnknaaGreatDoor
