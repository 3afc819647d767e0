/- Joined by mergeK.py: D11, D15, D16, D17, D18, D12p, D12, D13, D14, D19p, D19, D20 -/
import Derived.Test.YtjdccifdkjnknaaGreatDoorAC12
import Derived.Test.YtjdccifdkjnknaaGreatDoorAC08
namespace Go.Proofs.YtjdccifdkjnknaaGreatDoor
open Go.RowKit Go.Sort Go.Shelf
variable {w w':World}
set_option maxHeartbeats 1000000 in
set_option maxRecDepth 100000 in
theorem cu2 (b:Nat) (w:World) (h0:w.cell? ⟨b,0,none⟩=some (.pointer (some ⟨b,0,none⟩))) :
  Calls Tryz.prog 92 #[.pointer (some ⟨b,0,none⟩)] w fun e w'=>e = .returned (.tuple #[])∧w'=w:=by
 obtain ⟨j,hj,_⟩:=Option.map_eq_some_iff.1 (show (Tryz.prog.info? 88).map (·.size)=some 2 by kernel_rfl)
 go_enter Tryz.func92,Tryz.ntmps92
 go_wp2
 rw [Lib.run_neq_ptr_same w _ Tryz.underlying85 hj]
 go_wp2
 go_end0
 exact ⟨rfl,rfl⟩
set_option maxHeartbeats 1000000 in
set_option maxRecDepth 100000 in
theorem cf2 (b:Nat) (w:World) (h0:w.cell? ⟨b,0,none⟩=some (.pointer none)) (hsh:w.shape? b=some (88,2)) (hfz:w.frozen? ⟨b,0,none⟩=false) :
  Calls Tryz.prog 92 #[.pointer (some ⟨b,0,none⟩)] w fun e w'=>e = .returned (.tuple #[])∧w'=w.setCell ⟨b,0,none⟩ (.pointer (some ⟨b,0,none⟩)):=by
 obtain ⟨j,hj,Aa⟩:=Option.map_eq_some_iff.1 (show (Tryz.prog.info? 88).map (·.size)=some 2 by kernel_rfl)
 go_enter Tryz.func92,Tryz.ntmps92
 go_wp2
 rw [Lib.run_to_unsafe w ⟨b,0,none⟩ Tryz.underlying85 Tryz.underlying194 hj (by rw [Aa];decide) hsh (Nat.zero_lt_succ 1)]
 simp only [Result.andThen]
 rw [Oper.upon_value]
 go_wp2
 rw [run_callFunc_extern Tryz.func140 (by kernel_rfl) (by kernel_rfl) (by kernel_rfl) (e:=Extern.AbiNoEscape.same) (by kernel_rfl)]
 rw [Lib.run_noEscape]
 simp only [Result.andThen]
 rw [Oper.upon_value]
 go_wp2
 rw [Lib.run_from_unsafe w ⟨b,0,none⟩ Tryz.underlying194 Tryz.underlying85 hj hsh (by kernel_rfl)]
 simp only [Result.andThen]
 rw [Oper.upon_value]
 go_wp2
 go_end0
 exact ⟨rfl,rfl⟩
theorem copy_any (B b:Nat) (bs:List Value) (w:World) (h:Lib.IsBuilder 88 5 B b bs w) :
  Calls Tryz.prog 92 #[.pointer (some ⟨b,0,none⟩)] w fun e w'=>e = .returned (.tuple #[])∧(Lib.BuilderAt 88 5 B b (.pointer (some ⟨b,0,none⟩)) bs w'∧Below B w w'):=by
 rcases h with h | h
 ·refine (cf2 b w h.cell0 h.shape h.frozen0).mono ?_
  rintro e w' ⟨rfl,rfl⟩
  exact ⟨rfl,h.used _,(Below.refl B w).setCell (p:=⟨b,0,none⟩) h.1 _⟩
 ·refine (cu2 b w h.cell0).mono ?_
  rintro e w' ⟨rfl,rfl⟩
  exact ⟨rfl,h,Below.refl B _⟩
set_option maxHeartbeats 2000000 in
set_option maxRecDepth 100000 in
theorem wSa (B b:Nat) (bs:List Value) (s:ByteArray) (w:World) (h:Lib.IsBuilder 88 5 B b bs w) (hlen:bs.length + s.size≤140737488355328) (hBw:B≤w.heap.size) :
  Calls Tryz.prog 41 #[.pointer (some ⟨b,0,none⟩),.string s] w fun e w'=>e = .returned (.tuple #[.int .i64 s.size,.nilIface])∧(Lib.BuilderAt 88 5 B b (.pointer (some ⟨b,0,none⟩)) (bs ++ Lib.strCells s) w'∧Below B w w'):=by
 obtain ⟨i0,hi,Ah,Ai,Ak⟩:=info_parts (P:=Tryz.prog) (e:=5) (z:=.int .u8 0) (size:=1) (bytes:=1) (by kernel_rfl)
 go_enter Tryz.func41,Tryz.ntmps41
 go_wp2_with (go_at_call 92;refine (copy_any B b bs _ h).mono ?_)
 rintro e w1 ⟨rfl,h1,Af⟩
 obtain ⟨hB,v,Ae,Ac,Al⟩:=h1
 have c0:w1.cell? ⟨b,0,none⟩=some (.pointer (some ⟨b,0,none⟩)):=by rw [Lib.cell_of_heap Ae];rfl
 have c1:w1.cell? ⟨b,1,none⟩=some v:=by rw [Lib.cell_of_heap Ae];rfl
 go_wp2_with (at_builtin;refine Lib.wpList_append_own_string _ rfl _ _ 86 9 rfl B 5 i0 Tryz.underlying86 Tryz.underlying9 hi Ah Ai Ak _ _ _ rfl Ac s rfl ?c3 ?c4 ?c5 ?_)
 case c3=>unfold maxLen;omega
 case c4=>omega
 case c5=>have:=Af.size;omega
 intro v' w2 Ab Aa _
 have Aj:b < w1.heap.size:=by
  rcases Nat.lt_or_ge b w1.heap.size with h' | h'
  ·exact h'
  ·simp [Array.getElem?_eq_none h'] at Ae
 have Ad:w2.heap[b]? = some (.cells #[.pointer (some ⟨b,0,none⟩),v] 88 (0,0)):=by
  rw [Aa.block b Aj (fun e=>Al e.symm)]
  exact Ae
 have d0:w2.cell? ⟨b,0,none⟩=some (.pointer (some ⟨b,0,none⟩)):=by rw [Lib.cell_of_heap Ad];rfl
 have d1:w2.cell? ⟨b,1,none⟩=some v:=by rw [Lib.cell_of_heap Ad];rfl
 have f1:w2.frozen? ⟨b,1,none⟩=false:=Lib.frozen_of_heap Ad 1
 obtain ⟨ao,n',Ag,rfl⟩:∃ ao n' Ag,v' = .slice ao n' Ag:=by
  rcases Ab.2 with ⟨hv,_⟩ | ⟨g,Ag,Am,hv,_⟩
  ·exact ⟨_,_,_,hv⟩
  ·exact ⟨_,_,_,hv⟩
 go_wp2
 go_ret2
 refine ⟨rfl,?_,?_⟩
 ·exact Lib.BuilderAt.put (T:=88) (e:=5) hB Ad (bs':=bs ++ Lib.strCells s) (by simpa [Lib.strCells_length] using Ab) (by decide)
 ·exact (Af.grown Aa (by have:=Af.size;omega) (fun k hk=>(Ac.lt k hk).1)).setCell (p:=⟨b,1,none⟩) hB _
end Go.Proofs.YtjdccifdkjnknaaGreatDoor
namespace Go.Proofs.YtjdccifdkjnknaaGreatDoor
open Go.RowKit Go.Sort Go.Shelf
def BRow (B b:Nat) (p:Value) (bs:List Value) (w:World):Prop:=∃ v,w.heap[b]? = some (.cells #[p,v] 88 (0,0))∧w.ownsRow B 5 1 v bs.length bs∧v.ownBlock≠some b
structure Kept (B b:Nat) (w w':World):Prop where
 os:w'.os=w.os
 tape:w'.tape=w.tape
 output:w'.output=w.output
 size:w.heap.size≤w'.heap.size
 block:∀ k,k < B→k≠b→w'.heap[k]? = w.heap[k]?
theorem Kept.refl (B b:Nat) (w:World):Kept B b w w:=⟨rfl,rfl,rfl,Nat.le_refl _,fun _ _ _=>rfl⟩
theorem Kept.trans {B b:Nat} {w w1 w2:World} (h:Kept B b w w1) (h':Kept B b w1 w2):Kept B b w w2:=⟨h'.os.trans h.os,h'.tape.trans h.tape,h'.output.trans h.output,Nat.le_trans h.size h'.size,fun k h1 h2=>(h'.block k h1 h2).trans (h.block k h1 h2)⟩
theorem Kept.setCell (B b:Nat) (w:World) (i:Nat) (v:Value):Kept B b w (w.setCell ⟨b,i,none⟩ v):=⟨rfl,rfl,rfl,by simp [World.setCell],fun k _ hk=>Below.heap_setCell _ _ _ _ hk⟩
theorem Kept.below {B b:Nat} {w w':World} (h:Kept B b w w') (hb:b < B):Below b w w':=⟨h.os,h.tape,h.output,h.size,fun k hk=>h.block k (by omega) (by omega)⟩
theorem copy_row (B b:Nat) (p:Value) (bs:List Value) (w:World) (hp:p = .pointer none∨p = .pointer (some ⟨b,0,none⟩)) (h:BRow B b p bs w) :
  Calls Tryz.prog 92 #[.pointer (some ⟨b,0,none⟩)] w fun e w'=>e = .returned (.tuple #[])∧BRow B b (.pointer (some ⟨b,0,none⟩)) bs w'∧Kept B b w w':=by
 obtain ⟨v,hb,Aa,Ab⟩:=h
 have c0:w.cell? ⟨b,0,none⟩=some p:=by simp [World.cell?,hb]
 rcases hp with rfl | rfl
 ·have Ac:b < w.heap.size:=(Array.getElem?_eq_some_iff.1 hb).1
  refine (cf2 b w c0 (by simp [World.shape?,hb]) (by simp [World.frozen?,hb])).mono ?_
  rintro e w' ⟨rfl,rfl⟩
  refine ⟨rfl,⟨v,?_,?_,Ab⟩,Kept.setCell _ _ _ _ _⟩
  ·simp [World.setCell,Array.getElem?_modify,hb]
  ·exact Aa.kept (row:=some b) ⟨rfl,rfl,rfl,by simp [World.setCell],fun k _ hk=>Below.heap_setCell _ _ _ _ (fun e=>hk (by simp [e]))⟩ (Or.inr Ab)
 ·refine (cu2 b w c0).mono ?_
  rintro e w' ⟨rfl,rfl⟩
  exact ⟨rfl,⟨v,hb,Aa,Ab⟩,Kept.refl _ _ _⟩
set_option maxHeartbeats 2000000 in
set_option maxRecDepth 100000 in
theorem wBr (B b:Nat) (p:Value) (bs:List Value) (c:Int) (w:World) (hp:p = .pointer none∨p = .pointer (some ⟨b,0,none⟩)) (h:BRow B b p bs w) (hlen:bs.length + 1≤140737488355328) (hBw:B≤w.heap.size) (hbB:b < B) :
  Calls Tryz.prog 142 #[.pointer (some ⟨b,0,none⟩),.int .u8 c] w fun e w'=>e = .returned .nilIface∧BRow B b (.pointer (some ⟨b,0,none⟩)) (bs ++ [.int .u8 c]) w'∧Kept B b w w':=by
 obtain ⟨i0,hi,Ai,Aj,Al⟩:=info_parts (P:=Tryz.prog) (e:=5) (z:=.int .u8 0) (size:=1) (bytes:=1) (by kernel_rfl)
 go_enter Tryz.func142,Tryz.ntmps142
 go_wp2_with (go_at_call 92;refine (copy_row B b p bs _ hp h).mono ?_)
 rintro e w1 ⟨rfl,h1,Ah⟩
 obtain ⟨v,Ag,Ad,Ao⟩:=h1
 have c0:w1.cell? ⟨b,0,none⟩=some (.pointer (some ⟨b,0,none⟩)):=by rw [Lib.cell_of_heap Ag];rfl
 have c1:w1.cell? ⟨b,1,none⟩=some v:=by rw [Lib.cell_of_heap Ag];rfl
 have An:=Hd Ah
 have Aq:=Ah.size
 clear Ah
 go_wp2_with (at_builtin;refine wpList_append_own _ rfl _ _ 86 rfl B 5 i0 (.int .u8 0) 1 1 Tryz.underlying86 hi Ai Aj Al rfl (by decide) _ _ _ rfl (Ad.alloc _) ⟨w1.heap.size,0,none⟩ 1 1 [.int .u8 c] rfl rfl ?c1 ?c2 ?c3 ?c4 ?c5 ?_)
 case c1=>
  intro j u hj
  match j,hj with
  | 0,hj=>simp at hj;subst hj;simp [Addr.add]
 case c2=>intro u hu;simp at hu;subst hu;rfl
 case c3=>unfold maxLen;omega
 case c4=>omega
 case c5=>simp;omega
 intro v' w2 Ab Aa _
 have Ak:b < w1.heap.size:=(Array.getElem?_eq_some_iff.1 Ag).1
 have Af:w2.heap[b]? = some (.cells #[.pointer (some ⟨b,0,none⟩),v] 88 (0,0)):=by
  rw [Aa.block b (by simp;omega) (fun e=>Ao e.symm),Lib.alloc_old w1 _ b Ak]
  exact Ag
 have d0:w2.cell? ⟨b,0,none⟩=some (.pointer (some ⟨b,0,none⟩)):=by rw [Lib.cell_of_heap Af];rfl
 have d1:w2.cell? ⟨b,1,none⟩=some v:=by rw [Lib.cell_of_heap Af];rfl
 have f1:w2.frozen? ⟨b,1,none⟩=false:=Lib.frozen_of_heap Af 1
 obtain ⟨g,Ac,rfl⟩:∃ g Ac,v' = .slice (some ⟨g,0,none⟩) (bs.length + 1) Ac:=by
  rcases Ab.2 with ⟨_,h0⟩ | ⟨g,Ac,Am,hv,_⟩
  ·omega
  ·exact ⟨g,Ac,hv⟩
 have HG:=Hd Aa
 have HO:=Hd Ab
 clear Aa Ab
 have Ae:g≠b:=by
  rcases HO.out.2 with ⟨hv,_⟩ | ⟨g',Ap,Am,hv,hg,_⟩
  ·cases hv
  ·cases hv;omega
 go_wp2
 go_ret
 refine ⟨rfl,⟨.slice (some ⟨g,0,none⟩) (bs.length + 1) Ac,?_,?_,?_⟩,?_⟩
 ·rw [show (w2.setCell ⟨b,1,none⟩ (.slice (some ⟨g,0,none⟩) (bs.length + 1) Ac)).heap[b]? = some (.cells #[.pointer (some ⟨b,0,none⟩),.slice (some ⟨g,0,none⟩) (bs.length + 1) Ac] 88 (0,0)) by simp [World.setCell,Array.getElem?_modify,Af]]
 ·rw [List.length_append]
  exact HO.out.kept (row:=some b) ⟨rfl,rfl,rfl,by simp [World.setCell],fun k _ hk=>Below.heap_setCell _ _ _ _ (fun e=>hk (by simp [e]))⟩ (Or.inr (by simpa [Value.ownBlock] using Ae))
 ·simpa [Value.ownBlock] using Ae
 ·refine (An.out.trans ?_).trans (Kept.setCell _ _ _ _ _)
  refine ⟨HG.out.os,HG.out.tape,HG.out.output,Nat.le_trans (by simp) HG.out.size,fun k hk hkb => ?_⟩
  rw [HG.out.block k (by simp;omega) ?_]
  ·exact Below.heap_alloc _ _ _ (by omega)
  ·intro e
   have:=(Ad.lt k e.symm).1
   omega
set_option maxHeartbeats 1000000 in
set_option maxRecDepth 100000 in
theorem string_row (B b:Nat) (p:Value) (l:List UInt8) (w:World) (h:BRow B b p (Lib.byteCells l) w) (h0:l≠[]) :
  Calls Tryz.prog 43 #[.pointer (some ⟨b,0,none⟩)] w fun e w'=>e = .returned (.string ⟨l.toArray⟩)∧Below B w w':=by
 obtain ⟨v,Ai,Ac,Am⟩:=h
 have Af:l.length≠0:=by simpa using h0
 rw [Lib.byteCells_length] at Ac
 obtain ⟨g,Aa,Ab,rfl,Ag,hg,Ak,Ae,Al,Ad⟩:∃ g Aa Ab,v = .slice (some ⟨g,0,none⟩) l.length Aa∧B≤g∧w.heap[g]? = some (.cells Ab 5 (0,0))∧l.length≤Aa∧Aa≤maxLen∧Ab.size=Aa * 1∧Ab.toList.take (l.length * 1)=Lib.byteCells l:=by
  rcases Ac.2 with ⟨_,hz⟩ | ⟨g,Aa,Ab,hv,r⟩
  ·exact absurd hz Af
  ·exact ⟨g,Aa,Ab,hv,r⟩
 have c1:w.drew.cell? ⟨b,1,none⟩=some (.slice (some ⟨g,0,none⟩) l.length Aa):=by
  have:w.drew.heap[b]? = some (.cells #[p,.slice (some ⟨g,0,none⟩) l.length Aa] 88 (0,0)):=Ai
  rw [Lib.cell_of_heap this];rfl
 have An:(Builtin.unsafeSliceData_ #[86] 138 #[.slice (some ⟨g,0,none⟩) l.length Aa]).run Tryz.prog w.drew = .ok (.pointer (some ⟨g,0,none⟩)) w.drew:=
  Lib.run_unsafeSliceData_row _ _ _ _ _ _ (by omega)
 have Aj:(Builtin.unsafeString_ #[138,3] 9 #[.pointer (some ⟨g,0,none⟩),.int .i64 l.length]).run Tryz.prog w.drew = .ok (.string ⟨l.toArray⟩) (w.drew.freeze ⟨g,0,none⟩ l.length):=by
  refine Lib.run_unsafeString_row w.drew 138 3 9 5 Tryz.underlying138 (by kernel_rfl) g Ab.size (by have Ah:w.drew.heap[g]? = some (.cells Ab 5 (0,0)):=hg;simp [World.shape?,Ah]) l h0 (by omega) (by unfold maxLen at Ae;omega) ?_
  intro j x hx
  have:=Ac.cells (g:=g) rfl j (.int .u8 x.toNat) (by simp [Lib.byteCells,hx])
  exact this
 go_enter Tryz.func43,Tryz.ntmps43
 go_wp2
 go_region
 all_goals (go_wp2;go_ret;exact ⟨rfl,Lib.below_freeze (Below.drew (Below.refl B w)) (p:=⟨g,0,none⟩) Ag _⟩)
end Go.Proofs.YtjdccifdkjnknaaGreatDoor
namespace Go.Rf
open Go Go.RowKit
variable {P:Program} {n:Nat}
theorem wIl {F:Fence} {c:Code} {Q:Exit→Act→World→Prop} {a:Act} {w:World} (h:c.wpIn F n P (Exit.then (fun a w=>c.wpIn F n P (Exit.then (fun _ _=>False) Q) a w) Q) a w):(Code.loop c).wpIn F n P Q a w:=by
 intro b k cs Ab hb hr
 obtain ⟨e,a₁,w₁,hq,Aa⟩:=h b (.inLoop c :: k) cs Ab hb hr
 have h0:(lone (b.atR a (.code (.loop c) :: k)) cs w).fenced P F:=fenced_calm hb hr rfl
 cases e with
 | normal=>
   obtain ⟨e₂,a₂,w₂,hq₂,harr₂⟩:=(show c.wpIn F n P (Exit.then (fun _ _=>False) Q) a₁ w₁ from hq) b (.inLoop c :: k) cs Ab hb hr
   cases e₂ with
   | normal=>exact hq₂.elim
   | exit id=>exact ⟨_,a₂,w₂,hq₂,.of_steps (StepsIn.trans (.head h0 stepR_loop Aa) (.one (fenced_calm hb hr rfl) stepR_inLoop)) (.pass (x:=.inLoop c) rfl (fun _ _ => .inl (by simp)) harr₂)⟩
   | goto l=>exact ⟨_,a₂,w₂,hq₂,.of_steps (StepsIn.trans (.head h0 stepR_loop Aa) (.one (fenced_calm hb hr rfl) stepR_inLoop)) (.pass (x:=.inLoop c) rfl (fun _ _ => .inl (by simp)) harr₂)⟩
   | ret=>exact ⟨_,a₂,w₂,hq₂,.of_steps (StepsIn.trans (.head h0 stepR_loop Aa) (.one (fenced_calm hb hr rfl) stepR_inLoop)) (.pass (x:=.inLoop c) rfl (fun _ _ => .inl (by simp)) harr₂)⟩
   | panic ch=>exact ⟨_,a₂,w₂,hq₂,.of_steps (StepsIn.trans (.head h0 stepR_loop Aa) (.one (fenced_calm hb hr rfl) stepR_inLoop)) (.pass (x:=.inLoop c) rfl (fun _ _ => .inl (by simp)) harr₂)⟩
   | outgrown=>exact ⟨_,a₂,w₂,hq₂,.of_steps (StepsIn.trans (.head h0 stepR_loop Aa) (.one (fenced_calm hb hr rfl) stepR_inLoop)) (.pass (x:=.inLoop c) rfl (fun _ _ => .inl (by simp)) harr₂)⟩
 | exit id=>exact ⟨_,a₁,w₁,hq,.of_steps (.one h0 stepR_loop) (.pass (x:=.inLoop c) rfl (fun _ _ => .inl (by simp)) Aa)⟩
 | goto l=>exact ⟨_,a₁,w₁,hq,.of_steps (.one h0 stepR_loop) (.pass (x:=.inLoop c) rfl (fun _ _ => .inl (by simp)) Aa)⟩
 | ret=>exact ⟨_,a₁,w₁,hq,.of_steps (.one h0 stepR_loop) (.pass (x:=.inLoop c) rfl (fun _ _ => .inl (by simp)) Aa)⟩
 | panic ch=>exact ⟨_,a₁,w₁,hq,.of_steps (.one h0 stepR_loop) (.pass (x:=.inLoop c) rfl (fun _ _ => .inl (by simp)) Aa)⟩
 | outgrown=>exact ⟨_,a₁,w₁,hq,.of_steps (.one h0 stepR_loop) (.pass (x:=.inLoop c) rfl (fun _ _ => .inl (by simp)) Aa)⟩
end Go.Rf
namespace Tess
def putL (n:Nat):List UInt8:=if n < 128 then [UInt8.ofNat n] else UInt8.ofNat (128 + n % 128) :: putL (n / 128)
termination_by n
decreasing_by omega
theorem pLl2 (n:Nat) (h:n < 128):putL n=[UInt8.ofNat n]:=by rw [putL,if_pos h]
theorem pLg (n:Nat) (h:¬ n < 128):putL n=UInt8.ofNat (128 + n % 128) :: putL (n / 128):=by rw [putL,if_neg h]
theorem pLl3 (n:Nat) (k:Nat) (h:n < 128 ^ (k + 1)):(putL n).length≤k + 1:=by
 induction k generalizing n with
 | zero=>rw [pLl2 n (by simpa using h)];simp
 | succ k ih=>
   by_cases h1:n < 128
   ·rw [pLl2 n h1];simp
   ·rw [pLg n h1,List.length_cons]
    have:=ih (n / 128) (by rw [Nat.pow_succ] at h;omega)
    omega
def putW (n:Nat):ByteArray:=⟨(putL n).toArray⟩
end Tess
namespace Go.Proofs.YtjdccifdkjnknaaGreatDoor
open Go.RowKit Go.Sort Go.Shelf
attribute [local go_sem] Oper.semAt_some
theorem ba4 (n:Int) (w:World) :
  Calls Tryz.prog 141 #[.int .u64 n] w fun e w'=>e = .returned (.func (.func 186) #[] #[.pointer (some ⟨w.heap.size,0,none⟩)])∧w.alloc (.cells #[.int .u64 n] 92)=w':=by
 go_enter Tryz.func141,Tryz.ntmps141
 go_wp2
 go_ret
 exact ⟨rfl,rfl⟩
structure Pp (w:World) (rec:Loop) (p:Value) (bs:List UInt8) (m:Nat) (W:World):Prop where
 hp:p = .pointer none∨p = .pointer (some ⟨w.heap.size,0,none⟩)
 kb:BRow (w.heap.size + 4) w.heap.size p (Lib.byteCells bs) W
 kn:W.heap[w.heap.size + 1]? = some (.cells #[.int .u64 m] 92 (0,0))
 kD:W.heap[w.heap.size + 2]? = some (.deferred (some []))
 kL:W.heap[w.heap.size + 3]? = some (.loop rec)
 size:w.heap.size + 4≤W.heap.size
 below:Below w.heap.size w W
def mea (k:Nat) (w:World):Nat:=((w.cell? ⟨k,0,none⟩).map fun v=>(intOf v).toNat).getD 0
theorem mea_at {k m:Nat} {w:World} {t:TypeId} (h:w.heap[k]? = some (.cells #[.int .u64 m] t (0,0))):mea k w=m:=by
 unfold mea;rw [(dco h).1];simp [intOf]
set_option maxRecDepth 100000 in
theorem or_bits (m:Nat):bits .or .u8 ((m:Int) % 256) 128=((128 + m % 128:Nat):Int):=by
 have Aa:∀ r:Fin 256,bits .or .u8 ((r.val:Nat):Int) 128=((128 + r.val % 128:Nat):Int):=by decide +kernel
 have:=Aa ⟨m % 256,Nat.mod_lt _ (by omega)⟩
 rw [show (128 + m % 128:Nat)=128 + (m % 256) % 128 by omega,← this]
 rfl
theorem BRow.is {B b:Nat} {p:Value} {bs:List Value} {w:World} (hp:p = .pointer none∨p = .pointer (some ⟨b,0,none⟩)) (h:BRow B b p bs w) (hb:b≤B):Lib.IsBuilder 88 5 b b bs w:=by
 obtain ⟨v,h1,h2,h3⟩:=h
 have h4:w.ownsRow b 5 1 v bs.length bs:=by
  refine ⟨h2.1,?_⟩
  rcases h2.2 with h | ⟨g,Ab,Aa,hv,hB,r⟩
  ·exact .inl h
  ·exact .inr ⟨g,Ab,Aa,hv,by omega,r⟩
 rcases hp with rfl | rfl
 ·exact .inl ⟨Nat.le_refl _,v,h1,h4,h3⟩
 ·exact .inr ⟨Nat.le_refl _,v,h1,h4,h3⟩
section
variable {w W W':World} {rec rec':Loop} {p:Value} {bs:List UInt8} {m:Nat}
theorem Pp.but (h:Pp w rec p bs m W) (hs:Rf.SB (w.heap.size + 2 + 1) W W') (hl:W'.heap[w.heap.size + 2 + 1]? = some (.loop rec')):Pp w rec' p bs m W':=by
 refine ⟨h.hp,?_,(hs.block _ (by omega)).trans h.kn,(hs.block _ (by omega)).trans h.kD,hl,by rw [hs.size];exact h.size,h.below.trans (hs.below (by omega))⟩
 obtain ⟨v,h1,h2,h3⟩:=h.kb
 exact ⟨v,(hs.block _ (by omega)).trans h1,hs.owns h2 h.kL rfl,h3⟩
theorem Pp.wrote {c:UInt8} (h:Pp w rec p bs m W) (hb:BRow (w.heap.size + 4) w.heap.size (.pointer (some ⟨w.heap.size,0,none⟩)) (Lib.byteCells bs ++ [.int .u8 c.toNat]) W') (hk:Kept (w.heap.size + 4) w.heap.size W W'):Pp w rec (.pointer (some ⟨w.heap.size,0,none⟩)) (bs ++ [c]) m W':=
 ⟨.inr rfl,by simpa [Lib.byteCells] using hb,(hk.block _ (by omega) (by omega)).trans h.kn,(hk.block _ (by omega) (by omega)).trans h.kD,(hk.block _ (by omega) (by omega)).trans h.kL,Nat.le_trans h.size hk.size,h.below.trans (hk.below (by omega))⟩
theorem Pp.setn (h:Pp w rec p bs m W) (m':Nat):Pp w rec p bs m' (W.setCell ⟨w.heap.size + 1,0,none⟩ (.int .u64 m')):=by
 refine ⟨h.hp,?_,dhs _ h.kn,(dhn (by omega)).trans h.kD,(dhn (by omega)).trans h.kL,by simpa [World.setCell] using h.size,h.below.setCell (by show _≤w.heap.size + 1;omega) _⟩
 obtain ⟨v,h1,h2,h3⟩:=h.kb
 refine ⟨v,(dhn (by omega)).trans h1,?_,h3⟩
 refine h2.kept (row:=some (w.heap.size + 1)) ⟨rfl,rfl,rfl,by simp [World.setCell],fun k _ hk=>Below.heap_setCell _ _ _ _ (fun e=>hk (by simp [e]))⟩ (Or.inr ?_)
 intro e
 have:=(h2.lt _ e).1
 omega
end
set_option maxRecDepth 100000 in
set_option maxHeartbeats 2000000 in
theorem put_one (g n:Nat) (w:World) (hc:w.cell? ⟨g,0,none⟩=some (.int .u64 n)) (hn:n < 18446744073709551616) :
  Calls Tryz.prog 93 #[.slice (some ⟨g,0,none⟩) 1 1] w fun e w'=>e = .returned (.string (Tess.putW n))∧Below w.heap.size w w':=by
 have hg:=World.block_lt_of_cell? _ _ hc
 have A4:=Tess.pLl3 n 9 (by omega)
 refine (callsIn_wide (n:=5)).1 ?_
 refine callsIn_of_wp_marks Tryz.func93 rfl trivial ?_ rfl
 simp only [Tryz.ntmps93,List.size_toArray,List.length_cons,List.length_nil,Nat.reduceAdd,Nat.reduceSub,Array.replicate_succ,Array.replicate_zero,List.push_toArray,List.append_toArray,List.nil_append,List.cons_append]
 gi_wp2
 refine Rf.wIl ?_
 gi_wp2_with (refine ⟨trivial,?_⟩;gi_at_call 141;refine (callsIn_wide.2 (ba4 _ _)).mono ?_;rintro e w' ⟨rfl,rfl⟩)
 obtain ⟨w0,Af⟩:∃ w0,((w.alloc (.cells #[.pointer none,.slice none 0 0] 88)).alloc (.cells #[.int .u64 n] 92))=w0:=⟨_,rfl⟩
 have hA:w0.heap.size=w.heap.size + 2:=by rw [← Af];simp
 have Ay:Below w.heap.size w w0:=by rw [← Af];exact ((Below.refl _ _).alloc (Nat.le_refl _) _).alloc (by simp) _
 have A3:w0.heap[w.heap.size]? = some (.cells #[.pointer none,.slice none 0 0] 88 (0,0)):=by rw [← Af];exact (Below.heap_alloc _ _ _ (by simp)).trans (World.alloc_heap_new w _)
 have Az:w0.heap[w.heap.size + 1]? = some (.cells #[.int .u64 n] 92 (0,0)):=by
  rw [← Af];have:=World.alloc_heap_new (w.alloc (.cells #[.pointer none,.slice none 0 0] 88)) (.cells #[.int .u64 n] 92);rwa [World.size_alloc] at this
 rw [Af]
 clear Af
 refine Rf.rw3 (gf:=186) (lb:=#[.pointer (some ⟨w.heap.size + 1,0,none⟩)]) rfl (enters_of Tryz.func186 (by kernel_rfl) rfl) ?_
 intro fn W2 hL hD Ah A9
 rw [hA] at hL hD A9 Ah ⊢
 obtain ⟨Aa,Ad,hL⟩:∃ Aa:Loop,Aa=_∧W2.heap[w.heap.size + 2 + 1]? = some (.loop Aa):=⟨_,rfl,hL⟩
 have Ag:=Hd Ad
 have Aw:Aa.state = .ready∧Aa.params.size=1∧Aa.pending=none:=by rw [Ad];exact ⟨rfl,rfl,rfl⟩
 clear Ad
 obtain ⟨Aw,A0,Bb⟩:=Aw
 have hI:Pp w Aa (.pointer none) [] n W2:=⟨.inl rfl,⟨_,(Ah.block _ (by omega)).trans A3,World.ownsRow_nil _ _ _ _,by simp [Value.ownBlock]⟩,(Ah.block _ (by omega)).trans Az,hD,hL,by omega,Ay.trans (Ah.mono (by omega))⟩
 clear Ay Ah A3 Az hD hL
 refine callsIn_of_wp Tryz.func186 rfl trivial ?_ rfl
 simp only [Tryz.ntmps186,List.size_toArray,List.length_cons,List.length_nil,Nat.reduceAdd,Nat.reduceSub,Array.replicate_succ,Array.replicate_zero,List.push_toArray,List.append_toArray,List.nil_append,List.cons_append]
 gi_wp2
 gi_loopw [3] (fun _ wr => ∃ (m:Nat) (p:Value) (bs:List UInt8),bs ++ Tess.putL m=Tess.putL n∧m < 18446744073709551616∧bs.length≤10∧Pp w Aa p bs m wr) (fun _ wr=>mea (w.heap.size + 1) wr)
 case atStart=>exact ⟨n,_,[],rfl,hn,by simp,hI⟩
 case round=>
  obtain ⟨m,p,bs,A2,hm,Bc,hS⟩:=hrel
  have Ar:=Hd A2
  have HS:=Hd hS
  have A7:=mea_at hS.kn
  obtain ⟨c1,z1⟩:=dco hS.kn
  clear A2 hS
  by_cases h128:128≤m
  ·have Aj:(128:Int)≤(m:Int):=by omega
   have Am:=or_bits m
   obtain ⟨c,Aq⟩:∃ c,c=128 + m % 128:=⟨_,rfl⟩
   rw [← Aq] at Am
   have A5:=Hd Aq
   have Ap:c < 256:=by omega
   clear Aq
   have Au:=run_yield (P:=Tryz.prog) (w:=wr) (l:=w.heap.size + 2 + 1) (r:=Aa) (args:=#[.int .u8 (c:Int)]) HS.out.kL (by rw [A0];rfl)
   gi_wp2
   refine Rf.rw2 (r:=Aa) ?_
   have At:=Ag.out
   subst At
   dsimp only
   gi_wp2_with (rw [Oper.semAt_eq _ _ _ (fun c h=>by cases h)];go_simp;try go_bits)
   refine ⟨HS.out.kL,fun W4 hs4 hl4 => ?_⟩
   have Ac:=Hd (HS.out.but hs4 hl4)
   clear hs4 hl4 Au hL
   gi_wp2_with (rw [Oper.semAt_eq _ _ _ (fun c h=>by cases h)];go_simp;try go_bits)
   refine ⟨trivial,?_⟩
   refine CallsIn.mono (CallsIn.inRound _ (callsIn_wide.2 (wBr (w.heap.size + 4) w.heap.size p (Lib.byteCells bs) c W4 Ac.out.hp Ac.out.kb (by rw [Lib.byteCells_length];omega) Ac.out.size (by omega)))) ?_
   rintro e w5 ⟨rfl,Ae,Ai⟩
   rw [show (c:Int)=((UInt8.ofNat c).toNat:Int) by rw [UInt8.toNat_ofNat'];omega] at Ae
   have An:=Hd (Ac.out.wrote Ae Ai)
   clear Ae Ai
   gi_wp2
   refine ⟨An.out.kL,fun W6 hs6 hl6 => ?_⟩
   have Ab:=Hd (An.out.but hs6 hl6)
   clear hs6 hl6
   dsimp only
   obtain ⟨c6,z6⟩:=dco Ab.out.kn
   gi_wp2
   have Ao:(m:Int) / 128=((m / 128:Nat):Int):=by omega
   have As:=congrArg List.length Ar.out
   rw [Tess.pLg m (by omega),List.length_append,List.length_cons] at As
   refine ⟨⟨m / 128,.pointer (some ⟨w.heap.size,0,none⟩),bs ++ [UInt8.ofNat c],?_,by omega,by rw [List.length_append,List.length_singleton];omega,?_⟩,?_⟩
   ·rw [← Ar.out,Tess.pLg m (by omega),A5.out];simp
   ·rw [Ao];exact Ab.out.setn (m / 128)
   ·rw [Ao,mea_at (Ab.out.setn (m / 128)).kn];omega
  ·have Aj:¬ (128:Int)≤(m:Int):=by omega
   obtain ⟨c,Aq⟩:∃ c,c=m:=⟨_,rfl⟩
   have Ap:c < 256:=by omega
   have Au:=run_yield (P:=Tryz.prog) (w:=wr) (l:=w.heap.size + 2 + 1) (r:=Aa) (args:=#[.int .u8 (m:Int)]) HS.out.kL (by rw [A0];rfl)
   gi_wp2
   refine Rf.rw2 (r:=Aa) ?_
   have At:=Ag.out
   subst At
   dsimp only
   gi_wp2_with (rw [Oper.semAt_eq _ _ _ (fun c h=>by cases h)];go_simp;try go_bits)
   refine ⟨HS.out.kL,fun W4 hs4 hl4 => ?_⟩
   have Ac:=Hd (HS.out.but hs4 hl4)
   clear hs4 hl4 Au hL
   gi_wp2_with (rw [Oper.semAt_eq _ _ _ (fun c h=>by cases h)];go_simp;try go_bits)
   refine ⟨trivial,?_⟩
   refine CallsIn.mono (CallsIn.inRound _ (callsIn_wide.2 (wBr (w.heap.size + 4) w.heap.size p (Lib.byteCells bs) m W4 Ac.out.hp Ac.out.kb (by rw [Lib.byteCells_length];omega) Ac.out.size (by omega)))) ?_
   rintro e w5 ⟨rfl,Ae,Ai⟩
   rw [show (m:Int)=((UInt8.ofNat m).toNat:Int) by rw [UInt8.toNat_ofNat'];omega] at Ae
   have An:=Hd (Ac.out.wrote Ae Ai)
   clear Ae Ai
   gi_wp2
   refine ⟨An.out.kL,fun W6 hs6 hl6 => ?_⟩
   have Ab:=Hd (An.out.but hs6 hl6)
   clear hs6 hl6
   dsimp only
   obtain ⟨c6,z6⟩:=dco Ab.out.kn
   gi_wp2
   go_end0
   refine ⟨⟨_,rfl⟩,_,Ab.out.kL,by simp,?_⟩
   intro W7 Al
   dsimp only
   have A1:BRow (w.heap.size + 4) w.heap.size (.pointer (some ⟨w.heap.size,0,none⟩)) (Lib.byteCells (Tess.putL n)) W7:=by
    obtain ⟨v,h1,h2,h3⟩:=Ab.out.kb
    rw [← Ar.out,Tess.pLl2 m (by omega)]
    exact ⟨v,(Al.block _ (by omega)).trans h1,Al.owns h2 Ab.out.kL rfl,h3⟩
   have Ak:=string_row (w.heap.size + 4) w.heap.size _ _ W7 A1 (by rw [← Ar.out,Tess.pLl2 m (by omega)];simp)
   have Ba:=(Al.block (w.heap.size + 2) (by omega)).trans Ab.out.kD
   have A8:=Hd (Ab.out.below.trans (Al.below (by omega)))
   have Bd:w.heap.size + 4≤W7.heap.size:=by rw [Al.size];exact Ab.out.size
   have A6:=Hd Ak
   clear Ak A1
   gi_wp2_with (refine ⟨trivial,?_⟩;gi_at_call 43;refine (callsIn_wide.2 A6.out).mono ?_;rintro e w8 ⟨rfl,Ax⟩;have Av:=Hd Ax;clear Ax)
   refine ⟨by simp,.inl ⟨_,_,rfl,run_takeDeferred ((Av.out.block _ (by omega)).trans Ba),?_⟩⟩
   refine ⟨_,results_tmp rfl _ _ _,rfl,?_⟩
   exact (A8.out.trans (Av.out.mono (by omega))).grown (dgB _ (w.heap.size + 2) (.deferred none)) (by have:=Av.out.size;omega) (fun k e=>by cases e;omega)
end Go.Proofs.YtjdccifdkjnknaaGreatDoor
namespace Tess
theorem pWs (n:Nat) (h:n < 18446744073709551616):(putW n).size≤10:=pLl3 n 9 (by omega)
end Tess
namespace Go.Proofs.YtjdccifdkjnknaaGreatDoor
open Go.RowKit Go.Sort Go.Shelf
theorem dpa (n:Nat) (w:World) (hn:n < 18446744073709551616):Calls Tryz.prog 42 #[.int .u64 n] w fun e w'=>e = .returned (.string (Tess.putW n))∧Below w.heap.size w w':=by
 obtain ⟨w0,Aa⟩:∃ w0,w0=w.alloc (.cells #[.int .u64 n] 92):=⟨_,rfl⟩
 have hp:=put_one w.heap.size n w0 (by rw [Aa];exact cell_new_sl w _ _) hn
 have Ac:Below w.heap.size w w0:=by rw [Aa];exact (Below.refl _ _).alloc (Nat.le_refl _) _
 have HW:=Hd Aa
 have HP:=Hd hp
 clear Aa hp
 go_enter Tryz.func42,Tryz.ntmps42
 go_wp2_with (go_at_call 93;rw [← HW.out];refine HP.out.mono ?_;rintro e w1 ⟨rfl,Ab⟩;have HB:=Hd Ab;clear Ab)
 go_ret
 exact ⟨rfl,Bt Ac HB.out⟩
end Go.Proofs.YtjdccifdkjnknaaGreatDoor
namespace Tess
def shr:List UInt8→List UInt8→Nat
 | x :: xs,y :: ys=>if x=y then shr xs ys + 1 else 0
 | _,_=>0
def shared (a b:ByteArray):Nat:=shr a.data.toList b.data.toList
theorem shr_at:∀ (k:Nat) (x y:List UInt8),k≤x.length→k≤y.length→x.take k=y.take k→(k=x.length∨k=y.length∨∃ (h1:k < x.length) (h2:k < y.length),x[k]≠y[k])→shr x y=k:=by
 intro k
 induction k with
 | zero=>
   intro x y _ _ _ h
   cases x with
   | nil=>rfl
   | cons a x=>
     cases y with
     | nil=>rfl
     | cons b y=>
       rcases h with h | h | ⟨h1,h2,h⟩
       ·simp at h
       ·simp at h
       ·simp only [List.getElem_cons_zero] at h
        simp [shr,h]
 | succ k ih=>
   intro x y h1 h2 ht h
   cases x with
   | nil=>simp at h1
   | cons a x=>
     cases y with
     | nil=>simp at h2
     | cons b y=>
       rw [List.take_succ_cons,List.take_succ_cons] at ht
       obtain ⟨rfl,Aa⟩:=List.cons.inj ht
       have:=ih x y (by simpa using h1) (by simpa using h2) Aa (by
        rcases h with h | h | ⟨g1,g2,h⟩
        ·left;simpa using h
        ·right;left;simpa using h
        ·right;right;exact ⟨by simpa using g1,by simpa using g2,by simpa using h⟩)
       simp [shr,this]
theorem sa5 (a b:ByteArray) (k:Nat) (h1:k≤a.size) (h2:k≤b.size) (ht:a.data.toList.take k=b.data.toList.take k) (h:k=a.size∨k=b.size∨∃ (h1:k < a.size) (h2:k < b.size),a[k]≠b[k]):shared a b=k:=by
 refine shr_at k _ _ (by simpa using h1) (by simpa using h2) ht ?_
 rcases h with h | h | ⟨g1,g2,h⟩
 ·left;simpa using h
 ·right;left;simpa using h
 ·right;right;exact ⟨by simpa using g1,by simpa using g2,fun e=>h (show a.data[k]=b.data[k] by simpa using e)⟩
theorem shr_le:∀ (x y:List UInt8),shr x y≤x.length∧shr x y≤y.length
 | [],_=>⟨Nat.zero_le _,Nat.zero_le _⟩
 | _ :: _,[]=>⟨Nat.zero_le _,Nat.zero_le _⟩
 | a :: x,b :: y=>by
   unfold shr
   have:=shr_le x y
   split <;> simp only [List.length_cons] <;> omega
theorem sl4 (a b:ByteArray):shared a b≤a.size∧shared a b≤b.size:=by
 have:=shr_le a.data.toList b.data.toList
 simpa [shared] using this
end Tess
namespace Go.Proofs.YtjdccifdkjnknaaGreatDoor
open Go.RowKit Go.Sort Go.Shelf
set_option maxHeartbeats 1000000 in
theorem shared_any (a b:ByteArray) (w:World) (ha:a.size≤maxLen) :
  Calls Tryz.prog 121 #[.string a,.string b] w fun e w'=>e = .returned (.int .i64 (Tess.shared a b:Nat))∧Below w.heap.size w w':=by
 unfold maxLen at ha
 go_enter Tryz.func121,Tryz.ntmps121
 go_wp2
 go_loopw [5] (fun i wr => ∃ k:Nat,k≤a.size∧k≤b.size∧i = .int .i64 k∧a.data.toList.take k=b.data.toList.take k∧Below w.heap.size w wr) (fun i _=>a.size - (intOf i).toNat)
 case atStart=>exact ⟨0,Nat.zero_le _,Nat.zero_le _,rfl,rfl,Below.refl _ _⟩
 case round=>
  obtain ⟨k,Ae,Ab,rfl,Ag,hB⟩:=hrel
  have HB:=Hd hB
  clear hB
  have HE:=Hd Ag
  clear Ag
  by_cases h1:k < a.size
  ·have Ac:(k:Int) < (a.size:Int):=by omega
   have Ah:decide ((k:Int) < (a.size:Int))=true:=decide_eq_true Ac
   by_cases h2:k < b.size
   ·have Ad:(k:Int) < (b.size:Int):=by omega
    have Aj:decide ((k:Int) < (b.size:Int))=true:=decide_eq_true Ad
    have Aa:(k:Int) < min (a.size:Int) (b.size:Int):=by omega
    have Af:decide ((k:Int) < min (a.size:Int) (b.size:Int))=true:=decide_eq_true Aa
    by_cases he:a[k]=b[k]
    ·have Ai:((a[k].toNat:Int) == (b[k].toNat:Int))=true:=by rw [he];simp
     have HX:=Hd he
     clear he
     go_wp2
     go_quiet (fail)
     go_wp2
     go_roundw
     case rel=>exact ⟨k + 1,by omega,by omega,by go_num,Tess.take_more a b k h1 h2 HE.out HX.out,below_drewN HB.out _⟩
     case measure=>simp [intOf];omega
    ·have Ak:a[k].toNat≠b[k].toNat:=fun e=>he (UInt8.toNat_inj.1 e)
     have Ai:((a[k].toNat:Int) == (b[k].toNat:Int))=false:=by rw [beq_eq_false_iff_ne];omega
     have HX:=Hd (Tess.sa5 a b k Ae Ab HE.out (.inr (.inr ⟨h1,h2,he⟩)))
     clear he
     go_wp2
     go_quiet (fail)
     go_wp2
     go_ret
     exact ⟨by rw [HX.out];rfl,below_drewN HB.out _⟩
   ·have Ad:¬ (k:Int) < (b.size:Int):=by omega
    have Aj:decide ((k:Int) < (b.size:Int))=false:=decide_eq_false Ad
    have Aa:¬ (k:Int) < min (a.size:Int) (b.size:Int):=by omega
    have Af:decide ((k:Int) < min (a.size:Int) (b.size:Int))=false:=decide_eq_false Aa
    have HX:=Hd (Tess.sa5 a b k Ae Ab HE.out (.inr (.inl (by omega))))
    go_wp2
    go_quiet (fail)
    go_wp2
    go_ret
    exact ⟨by rw [HX.out];rfl,below_drewN HB.out _⟩
  ·have Ac:¬ (k:Int) < (a.size:Int):=by omega
   have Ah:decide ((k:Int) < (a.size:Int))=false:=decide_eq_false Ac
   have Aa:¬ (k:Int) < min (a.size:Int) (b.size:Int):=by omega
   have Af:decide ((k:Int) < min (a.size:Int) (b.size:Int))=false:=decide_eq_false Aa
   have HX:=Hd (Tess.sa5 a b k Ae Ab HE.out (.inl (by omega)))
   go_wp2
   go_quiet (fail)
   go_wp2
   go_ret
   exact ⟨by rw [HX.out];rfl,below_drewN HB.out _⟩
end Go.Proofs.YtjdccifdkjnknaaGreatDoor
namespace Tess
open Go Go.Proofs
theorem bl2 (a b:ByteArray):bl a b=decide (a.toList < b.toList):=bytesLess_eq _ _
theorem bi2 (a:ByteArray):bl a a=false:=by rw [bl2];exact decide_eq_false (List.lt_irrefl _)
theorem bt2 {a b c:ByteArray} (h:bl a b=true) (h':bl b c=true):bl a c=true:=by
 rw [bl2] at *;exact decide_eq_true (List.lt_trans (of_decide_eq_true h) (of_decide_eq_true h'))
theorem toList_inj {a b:ByteArray} (h:a.toList=b.toList):a=b:=by
 rw [tl,tl] at h;exact ByteArray.ext (Array.toList_inj.1 h)
theorem ba3 {a b:ByteArray} (h:bl a b=false) (h':bl b a=false):a=b:=by
 rw [bl2] at *
 exact toList_inj (List.le_antisymm (List.not_lt.1 (of_decide_eq_false h')) (List.not_lt.1 (of_decide_eq_false h)))
def Asc (l:List ByteArray):Prop:=∀ i j,i < j→j < l.length→bl (l.getD i w0) (l.getD j w0)=true
theorem right_asc (l:List ByteArray) (h:right l=true):Asc l:=by
 rw [rp2,Bool.and_eq_true] at h
 have hc:=h.2
 unfold chainTo at hc
 rw [List.all_eq_true] at hc
 have step:∀ i,i + 1 < l.length→bl (l.getD i w0) (l.getD (i + 1) w0)=true:=fun i hi=>by
  have:=hc (i + 1) (List.mem_range.2 hi)
  unfold ord at this
  rw [Nat.add_sub_cancel] at this
  simpa using this
 intro i j Aa
 induction j with
 | zero=>omega
 | succ j ih=>
   intro hj
   by_cases e:i=j
   ·subst e;exact step i hj
   ·exact bt2 (ih (by omega) (by omega)) (step j hj)
theorem rl2 (l:List ByteArray) (h:right l=true):l.length≤1000:=by
 unfold right at h
 rw [Bool.and_eq_true] at h
 exact of_decide_eq_true h.2
theorem fIs (p:ByteArray→Bool) (l:List ByteArray):(∀ j,j < l.findIdx p→p (l.getD j w0)=false)∧(l.findIdx p < l.length→p (l.getD (l.findIdx p) w0)=true):=by
 constructor
 ·intro j hj
  have Aa:j < l.length:=Nat.lt_of_lt_of_le hj List.findIdx_le_length
  rw [getD_lt l j Aa]
  have:=List.not_of_lt_findIdx hj
  simpa using this
 ·intro h
  rw [getD_lt l _ h]
  exact List.findIdx_getElem
theorem ps3 (l:List ByteArray) (x:ByteArray):(∀ j,j < place l x→bl (l.getD j w0) x=true)∧(place l x < l.length→bl (l.getD (place l x) w0) x=false):=by
 have:=fIs (fun y => !bl y x) l
 refine ⟨fun j hj=>by have:=this.1 j hj;simpa using this,fun h => ?_⟩
 have:=this.2 h
 rw [Bool.not_eq_true'] at this
 exact this
theorem asc_behind {l:List ByteArray} (ha:Asc l) {x:ByteArray} {i j:Nat} (hij:i≤j) (hj:j < l.length) (h:bl (l.getD i w0) x=false):bl (l.getD j w0) x=false:=by
 rcases Nat.lt_or_ge i j with Aa | Ab
 ·by_cases hb:bl (l.getD j w0) x=true
  ·rw [bt2 (ha i j Aa hj) hb] at h;cases h
  ·simpa using hb
 ·rwa [show j=i by omega]
theorem bs_place (l:List ByteArray) (ha:Asc l) (x:ByteArray):Lib.bsGo (fun t=>Op.bytesLess (l.getD t w0).toList x.toList) l.length 0 l.length=place l x:=by
 obtain ⟨h1,h2⟩:=ps3 l x
 have Ac:place l x≤l.length:=List.findIdx_le_length
 have e:Lib.bsGo (fun t=>Op.bytesLess (l.getD t w0).toList x.toList) l.length 0 l.length=Lib.bsGo (fun t=>decide (t < l.length) && Op.bytesLess (l.getD t w0).toList x.toList) l.length 0 l.length:=by
  have Ab:∀ (f lo hi:Nat),hi≤l.length→Lib.bsGo (fun t=>Op.bytesLess (l.getD t w0).toList x.toList) f lo hi=Lib.bsGo (fun t=>decide (t < l.length) && Op.bytesLess (l.getD t w0).toList x.toList) f lo hi:=by
   intro f
   induction f with
   | zero=>intro lo hi _;rfl
   | succ f ih=>
     intro lo hi Aa
     unfold Lib.bsGo
     by_cases hlt:lo < hi
     ·simp only [hlt,if_true]
      have:decide ((lo + hi) / 2 < l.length)=true:=decide_eq_true (by omega)
      simp only [this,Bool.true_and]
      rw [ih _ _ Aa,ih _ _ (by omega)]
     ·simp only [hlt,if_false]
  exact Ab _ _ _ (Nat.le_refl _)
 rw [e]
 refine Lib.bsGo_spec _ _ (fun t ht => ?_) (fun t ht => ?_) _ _ _ (by omega) (Nat.zero_le _) Ac
 ·have:=h1 t ht
  rw [show decide (t < l.length)=true from decide_eq_true (by omega),Bool.true_and];exact this
 ·by_cases htl:t < l.length
  ·have:=asc_behind ha ht htl (h2 (by omega))
   rw [show decide (t < l.length)=true from decide_eq_true htl,Bool.true_and];exact this
  ·rw [show decide (t < l.length)=false from decide_eq_false htl];rfl
end Tess
namespace Go.Proofs.YtjdccifdkjnknaaGreatDoor
open Go.RowKit Go.Sort Go.Shelf
def Says (g:Nat) (cb:Array Value) (q:ByteArray→Bool) (w:World):Prop:=
 ∀ (x:ByteArray) (n:Nat) (os:Array Obj),Calls Tryz.prog g (#[.string x] ++ cb) (grow (w.drewN n) os) fun e w'=>e = .returned (.bool (q x))∧∃ k os',w'=grow ((grow (w.drewN n) os).drewN k) os'
theorem Says.later {g:Nat} {cb:Array Value} {q:ByteArray→Bool} {w w':World} (h:Says g cb q w) (n:Nat) (os:Array Obj) (hw:w'=grow (w.drewN n) os):Says g cb q w':=by
 subst hw
 intro x m Aa
 have e:grow ((grow (w.drewN n) os).drewN m) Aa=grow (w.drewN (n + m)) (os ++ Aa):=by
  show grow (grow ((w.drewN n).drewN m) os) Aa=_
  rw [grow_grow,World.drewN_drewN]
 rw [e];exact h x _ _
end Go.Proofs.YtjdccifdkjnknaaGreatDoor
namespace Go.Proofs.YtjdccifdkjnknaaGreatDoor
open Go.RowKit Go.Sort Go.Shelf
set_option maxHeartbeats 1000000 in
theorem bin_any (v:Value) (l:List ByteArray) (x:ByteArray) (w:World) (hv:SlOf w v (l.map .string)) (ha:Tess.Asc l) (hsz:l.length < 4611686018427387904) :
  Calls Tryz.prog 167 #[v,.string x] w fun e w'=>e = .returned (.tuple #[.int .i64 (Tess.place l x:Nat),.bool (decide (Tess.place l x < l.length) && decide (l.getD (Tess.place l x) Tess.w0=x))])∧Below w.heap.size w w':=by
 obtain ⟨a,Ab,rfl,Ae,hc⟩:=so2 hv
 by_cases h0:l.length=0
 ·have e0:l=[]:=List.length_eq_zero_iff.1 h0
  subst e0
  refine (Any2.slices_BinarySearch_string_empty Tryz.laysBin a Ab x w).mono ?_
  rintro e w' ⟨rfl,rfl⟩
  exact ⟨rfl,Below.refl _ _⟩
 ·obtain ⟨b,Ad,rfl,hb,_⟩:=hc 0 (by omega)
  have:=Any2.slices_BinarySearch_string Tryz.laysBin b Ad l.length Ab (fun i=>l.getD i Tess.w0) x w hsz (fun j hj=>by
   obtain ⟨b',Ac,he,_,Aa⟩:=hc j hj
   cases he
   show _=some (Value.string (l.getD j Tess.w0))
   rw [Tess.getD_lt l j hj];exact Aa)
  refine this.mono ?_
  rintro e w' ⟨rfl,q,rfl⟩
  rw [Tess.bs_place l ha x]
  exact ⟨by rw [Bool.decide_and],below_drewN (Below.refl _ _) _⟩
set_option maxHeartbeats 1000000 in
theorem find_any (v:Value) (l:List ByteArray) (x:ByteArray) (w:World) (hv:SlOf w v (l.map .string)):Calls Tryz.prog 124 #[v,.string x] w (FP l x w):=by
 have Ab:=dra v l w hv
 have HV:=Hd hv
 clear hv
 unfold FP Tess.findW
 cases hr:Tess.right l
 ·rw [hr] at Ab
  have HR:=Hd Ab
  clear Ab
  go_enter Tryz.func124,Tryz.ntmps124
  go_wp2_with (go_at_call 120;refine HR.out.mono ?_;rintro e w1 ⟨rfl,Aa⟩;have HB:=Hd Aa;clear Aa)
  go_ret2
  exact ⟨rfl,HB.out⟩
 ·rw [hr] at Ab
  have HR:=Hd Ab
  have Ac:=Tess.rl2 l hr
  have HA:=Hd (Tess.right_asc l hr)
  clear Ab
  go_enter Tryz.func124,Tryz.ntmps124
  go_wp2_with (first
   | (go_at_call 120;refine HR.out.mono ?_;rintro e w1 ⟨rfl,Aa⟩;have HB:=Hd Aa;clear Aa)
   | (go_at_call 167;refine (bin_any v l x _ (HV.out.below HB.out) HA.out (by omega)).mono ?_;rintro e w1 ⟨rfl,Aa⟩;have HB:=Hd (Bt HB.out Aa);clear Aa))
  go_ret2
  exact ⟨rfl,HB.out⟩
end Go.Proofs.YtjdccifdkjnknaaGreatDoor
namespace Tess
def lastOf (l:List ByteArray) (k:Nat):ByteArray:=if k=0 then w0 else l.getD (k - 1) w0
def one (a y:ByteArray):List UInt8:=putL (shared a y) ++ putL (y.size - shared a y) ++ y.data.toList.drop (shared a y)
def eT (l:List ByteArray):Nat→List UInt8
 | 0=>[]
 | k + 1=>eT l k ++ one (lastOf l k) (l.getD k w0)
def encL (l:List ByteArray):List UInt8:=putL l.length ++ eT l l.length
def encW (l:List ByteArray):ByteArray×Nat:=if right l then (⟨(encL l).toArray⟩,0) else (⟨#[]⟩,50)
theorem lOs (l:List ByteArray) (k:Nat):lastOf l (k + 1)=l.getD k w0:=by unfold lastOf;simp
theorem rs2 (l:List ByteArray) (h:right l=true) (i:Nat) (hi:i < l.length):(l.getD i w0).size≤100:=by
 unfold right rightTo at h
 rw [Bool.and_eq_true,List.all_eq_true] at h
 have:=h.1 i (List.mem_range.2 hi)
 unfold fits at this
 rw [Bool.and_eq_true] at this
 exact of_decide_eq_true this.1
theorem lOs2 (l:List ByteArray) (h:right l=true) (k:Nat) (hk:k≤l.length):(lastOf l k).size≤100:=by
 unfold lastOf
 split
 ·exact Nat.zero_le _
 ·exact rs2 l h _ (by omega)
theorem one_len (a y:ByteArray) (h:y.size≤100):(one a y).length≤120:=by
 unfold one
 have h1:=(sl4 a y).2
 have h2:=pLl3 (shared a y) 9 (by omega)
 have h3:=pLl3 (y.size - shared a y) 9 (by omega)
 simp only [List.length_append,List.length_drop,Array.length_toList]
 have:y.data.size=y.size:=rfl
 omega
theorem eTl (l:List ByteArray) (h:right l=true) (k:Nat) (hk:k≤l.length):(eT l k).length≤120 * k:=by
 induction k with
 | zero=>exact Nat.zero_le _
 | succ k ih=>
   have h1:=ih (by omega)
   have h2:=one_len (lastOf l k) (l.getD k w0) (rs2 l h k (by omega))
   show (eT l k ++ one (lastOf l k) (l.getD k w0)).length≤_
   rw [List.length_append]
   omega
def oneW (a y:ByteArray):ByteArray:=(putW (shared a y) ++ putW (y.size - shared a y)) ++ y.extract (shared a y) y.size
theorem oneW_list (a y:ByteArray):(oneW a y).data.toList=one a y:=by
 unfold oneW one putW
 simp [List.extract_eq_take_drop]
 exact List.take_of_length_le (by simp)
end Tess
namespace Go.Proofs.YtjdccifdkjnknaaGreatDoor
open Go.RowKit Go.Sort Go.Shelf
theorem bb4 {B b:Nat} {bs:List Value} {w w':World} (h:Lib.IsBuilder 88 5 B b bs w) (hb:Below w.heap.size w w'):Lib.IsBuilder 88 5 B b bs w':=by
 have Aa:∀ p,Lib.BuilderAt 88 5 B b p bs w→Lib.BuilderAt 88 5 B b p bs w':=fun p ⟨h1,v,h2,h3,h4⟩=>
  ⟨h1,v,(hb.block _ (Array.getElem?_eq_some_iff.1 h2).1).trans h2,ob2 h3 hb,h4⟩
 exact h.imp (Aa _) (Aa _)
theorem strCells_eq (s:ByteArray):Lib.strCells s=Lib.byteCells s.data.toList:=by
 unfold Lib.strCells Lib.byteCells
 first | rfl | simp
end Go.Proofs.YtjdccifdkjnknaaGreatDoor
namespace Go.Proofs.YtjdccifdkjnknaaGreatDoor
open Go.RowKit Go.Sort Go.Shelf
def EP (l:List ByteArray) (w:World) (e:Ending) (w':World):Prop:=e = .returned (.tuple #[.string (Tess.encW l).1,.int .i64 ((Tess.encW l).2:Nat)])∧Below w.heap.size w w'
set_option maxRecDepth 100000 in
set_option maxHeartbeats 4000000 in
theorem ea2 (v:Value) (l:List ByteArray) (w:World) (hv:SlOf w v (l.map .string)):Calls Tryz.prog 70 #[v] w (EP l w):=by
 have Ac:=dra v l w hv
 unfold EP Tess.encW
 cases hr:Tess.right l
 ·rw [hr] at Ac
  have HR:=Hd Ac
  clear Ac hv
  go_enter Tryz.func70,Tryz.ntmps70
  go_wp2_with (go_at_call 120;refine HR.out.mono ?_;rintro e w1 ⟨rfl,Ad⟩;have HB:=Hd Ad;clear Ad)
  go_ret2
  exact ⟨rfl,HB.out⟩
 ·rw [hr] at Ac
  have HR:=Hd Ac
  have Bo:=Tess.rl2 l hr
  have Bp:=Hd (Tess.rs2 l hr)
  have Bj:=Hd (Tess.lOs2 l hr)
  have Bi:=Hd (Tess.eTl l hr)
  obtain ⟨a,B0,rfl,Au,hc⟩:=so2 hv
  have HC:=Hd hc
  clear Ac hv hc hr
  have Bv:IntKind.u64.wrap (l.length:Int)=(l.length:Int):=by go_bits;first | trivial | omega
  have Bu:=Tess.pWs l.length (by omega)
  go_enter Tryz.func70,Tryz.ntmps70
  go_wp2_with (first
   | (go_at_call 120;refine HR.out.mono ?_;rintro e w1 ⟨rfl,Ad⟩;have HB:=Hd Ad;clear Ad)
   | (go_at_call 42;refine (dpa l.length _ (by omega)).mono ?_;rintro e w2 ⟨rfl,Aq⟩))
  have A2:Lib.IsBuilder 88 5 w.heap.size w1.heap.size (Lib.byteCells []) (w1.alloc (.cells #[.pointer none,.slice none 0 0] 88)):=.inl ⟨HB.out.size,.slice none 0 0,World.alloc_heap_new w1 _,World.ownsRow_nil _ _ _ _,by simp [Value.ownBlock]⟩
  have A9:=bb4 A2 Aq
  have Ak:Below w.heap.size w w2:=Bt (HB.out.alloc HB.out.size _) Aq
  clear A2 Aq
  refine (wSa w.heap.size w1.heap.size (Lib.byteCells []) (Tess.putW l.length) w2 A9 (by rw [Lib.byteCells_length];simp;omega) Ak.size).mono ?_
  rintro e w3 ⟨rfl,Ar,A7⟩
  rw [strCells_eq] at Ar
  have Ae:=Hd (show Lib.IsBuilder 88 5 w.heap.size w1.heap.size (Lib.byteCells (Tess.putL l.length ++ Tess.eT l 0)) w3 from .inr (by rw [show Tess.putL l.length ++ Tess.eT l 0=Tess.putL l.length from List.append_nil _];exact Ar))
  have Bb:=Hd (Ak.trans A7)
  clear Ar A7 A9 Ak
  go_wp2
  go_loopw [5,19] (fun s5 i wr => ∃ k:Nat,k≤l.length∧s5 = .string (Tess.lastOf l k)∧i = .int .i64 k∧Lib.IsBuilder 88 5 w.heap.size w1.heap.size (Lib.byteCells (Tess.putL l.length ++ Tess.eT l k)) wr∧Below w.heap.size w wr) (fun _ i _=>l.length - (intOf i).toNat)
  case atStart=>exact ⟨0,Nat.zero_le _,rfl,rfl,Ae.out,Bb.out⟩
  case round=>
   clear Ae Bb
   obtain ⟨k,hk,rfl,rfl,Ay,hB⟩:=hrel
   have Ae:=Hd Ay
   have Ai:=Hd hB
   clear Ay hB
   have Bs:=Bi.out k hk
   by_cases hlt:k < l.length
   ·obtain ⟨b,Bc,rfl,hb,Ab⟩:=HC.out k hlt
    have Bm:wr.cell? ⟨b,Bc + k,none⟩=some (.string l[k]):=(Ai.out.cell (p:=⟨b,Bc + k,none⟩) hb).trans Ab
    have Bg:(k:Int) < (l.length:Int):=by omega
    have Aa:=Bp.out k hlt
    have Ag:=Bj.out k hk
    rw [Tess.getD_lt l k hlt] at Aa
    have Aj:=Tess.getD_lt l k hlt
    obtain ⟨y,hy⟩:∃ y,y=l[k]:=⟨_,rfl⟩
    rw [← hy] at Bm Aa Aj
    obtain ⟨x,hx⟩:∃ x,x=Tess.lastOf l k:=⟨_,rfl⟩
    rw [← hx] at Ag
    have Bk:=(Tess.sl4 x y).2
    have Bn:=Tess.one_len x y Aa
    have Al:=Hd (Tess.oneW_list x y)
    have Av:=Hd Aj
    have Bl:=Hd hx
    rw [← hx]
    clear Ab hy Aj hx
    have c1:=fun W=>shared_any x y W (by unfold maxLen;omega)
    obtain ⟨n,hn⟩:∃ n,n=Tess.shared x y:=⟨_,rfl⟩
    rw [← hn] at c1 Bk
    have c2:=fun W=>dpa n W (by omega)
    have c3:=fun W=>dpa (y.size - n) W (by omega)
    have hA:=Tess.pWs n (by omega)
    have Ba:=Tess.pWs (y.size - n) (by omega)
    have Af:=Hd (show Tess.oneW x y=(Tess.putW n ++ Tess.putW (y.size - n)) ++ y.extract n y.size by unfold Tess.oneW;rw [← hn])
    clear hn
    obtain ⟨d,hd⟩:∃ d,d=y.size - n:=⟨_,rfl⟩
    rw [← hd] at c3 Ba Af
    have B2:(y.size:Int) - (n:Int)=(d:Int):=by omega
    have B3:d≤100:=by omega
    have By:(n:Int)≤(y.size:Int):=by omega
    clear hd
    obtain ⟨R,hR⟩:∃ R,R=y.extract n y.size:=⟨_,rfl⟩
    have Bz:R.size=y.size - n:=by rw [hR];simp
    obtain ⟨A,A3⟩:∃ A,A=Tess.putW n:=⟨_,rfl⟩
    obtain ⟨C,A6⟩:∃ C,C=Tess.putW d:=⟨_,rfl⟩
    rw [← A3] at c2 hA Af
    rw [← A6] at c3 Ba Af
    rw [← hR] at Af
    have Bx:y.extract n y.size=R:=hR.symm
    clear hR A3 A6
    have C1:=Hd c1
    have C2:=Hd c2
    have C3:=Hd c3
    clear c1 c2 c3
    have Bw:IntKind.u64.wrap (n:Int)=(n:Int):=by go_bits;first | trivial | omega
    have B1:IntKind.i64.wrap (d:Int)=(d:Int):=by go_bits;first | trivial | omega
    have Bd:IntKind.u64.wrap (d:Int)=(d:Int):=by go_bits;first | trivial | omega
    have A1:¬ 9223372036854775807 < A.size + C.size:=by omega
    have A8:¬ 9223372036854775807 < A.size + C.size + (y.size - n):=by omega
    go_wp2_with (go_at_call 121;refine (C1.out _).mono ?_;rintro e w4 ⟨rfl,A5⟩;have Aw:=Hd A5;clear A5)
    have Ap:=Hd (bb4 Ae.out Aw.out)
    have An:=Hd (Bt Ai.out Aw.out)
    refine Flow.wrf 14 (Flow.sp3 [.inl (.int .i64 n),.inl (.int .u64 n),.inl (.string A),.inl (.string y),.inl (.int .i64 (y.size:Nat)),.inl (.int .i64 n),.inl (.int .i64 d),.inl (.int .u64 d),.inl (.string C),.inl (.string (A ++ C)),.inl (.string y),.inl (.int .i64 n),.inl (.string R),.inl (.string ((A ++ C) ++ R))]) (by kernel_rfl) (by kernel_rfl) ?_ ?_
    ·apply Flow.sm2;intro s hs;simp only [List.mem_cons,List.not_mem_nil,or_false] at hs
     rcases hs with rfl | rfl | rfl | rfl | rfl | rfl | rfl | rfl | rfl | rfl | rfl | rfl | rfl | rfl
     all_goals exact Flow.mi _
    iterate 2 (refine Flow.tvK rfl (fun K hK=>⟨fun w hw hG => ?_,?_⟩);(clear hG hw;unfold Flow.Runs Flow.yields;go_simp);go_simp;refine hK _ ?_;clear hK K)
    (refine Flow.tvK rfl (fun K hK=>⟨fun w hw hG => ?_,?_⟩);(clear hG hw;unfold Flow.Runs Flow.yields;go_simp;exact Calls.mono (C2.out _) (fun e w' ⟨he,hb⟩=>⟨he,hb⟩));go_simp;refine hK _ ?_;clear hK K)
    iterate 5 (refine Flow.tvK rfl (fun K hK=>⟨fun w hw hG => ?_,?_⟩);(clear hG hw;unfold Flow.Runs Flow.yields;go_simp);go_simp;refine hK _ ?_;clear hK K)
    (refine Flow.tvK rfl (fun K hK=>⟨fun w hw hG => ?_,?_⟩);(clear hG hw;unfold Flow.Runs Flow.yields;go_simp;exact Calls.mono (C3.out _) (fun e w' ⟨he,hb⟩=>⟨he,hb⟩));go_simp;refine hK _ ?_;clear hK K)
    iterate 5 (refine Flow.tvK rfl (fun K hK=>⟨fun w hw hG => ?_,?_⟩);(clear hG hw;unfold Flow.Runs Flow.yields;go_simp);go_simp;refine hK _ ?_;clear hK K)
    refine Flow.tn2 fun w5 hw5 hG => ?_
    clear hG
    have Az:=bb4 Ap.out hw5
    have As:=Bt An.out hw5
    clear hw5
    simp only [List.drop_succ_cons,List.drop_zero]
    have Bh:(Lib.byteCells (Tess.putL l.length ++ Tess.eT l k)).length + (A ++ C ++ R).size≤140737488355328:=by
     rw [Lib.byteCells_length,List.length_append]
     have A0:(Tess.putL l.length).length=(Tess.putW l.length).size:=rfl
     have Bq:(A ++ C ++ R).size=A.size + C.size + R.size:=by simp
     omega
    have A4:=wSa w.heap.size w1.heap.size (Lib.byteCells (Tess.putL l.length ++ Tess.eT l k)) (A ++ C ++ R) w5 Az Bh As.size
    have Bf:=Hd A4
    have Br:=Hd As
    clear A4 As Az
    go_wp2_with (go_at_call 41;refine Bf.out.mono ?_;rintro e w6 ⟨rfl,Ax,Ah⟩;have Am:=Hd Ax;have Ao:=Hd (Br.out.trans Ah);clear Ax Ah)
    go_roundw
    case rel=>
     refine ⟨k + 1,by omega,by rw [Tess.lOs,Av.out],by go_num,.inr ?_,Ao.out⟩
     have:=Am.out
     rw [strCells_eq,← Af.out,Al.out] at this
     rw [show Tess.eT l (k + 1)=Tess.eT l k ++ Tess.one (Tess.lastOf l k) (l.getD k Tess.w0) from rfl,← Bl.out,Av.out,← List.append_assoc]
     unfold Lib.byteCells at *
     rw [List.map_append]
     exact this
    case measure=>simp [intOf];omega
   ·have Bg:¬ (k:Int) < (l.length:Int):=by omega
    obtain rfl:k=l.length:=by omega
    have At:=Any.Builder_String_any Tryz.lays169 Tryz.BE1 w.heap.size w1.heap.size (Tess.putL l.length ++ Tess.eT l l.length) wr Ae.out Ai.out.size
    have Be:=Hd At
    clear At
    go_wp2_with (go_at_call 43;refine Be.out.mono ?_;rintro e w6 ⟨rfl,Ah⟩;have Am:=Hd Ah;clear Ah)
    go_ret2
    exact ⟨rfl,Ai.out.trans Am.out⟩
end Go.Proofs.YtjdccifdkjnknaaGreatDoor
namespace Tess
def sW (l:List ByteArray) (k:Nat):ByteArray:=⟨(putL l.length ++ eT l k).toArray⟩
theorem sW_size (l:List ByteArray) (h:right l=true) (k:Nat) (hk:k≤l.length):(sW l k).size≤10 + 120 * k:=by
 have h1:=eTl l h k hk
 have h2:=pLl3 l.length 9 (by have:=rl2 l h;omega)
 show (putL l.length ++ eT l k).length≤_
 rw [List.length_append];omega
theorem sW_end (l:List ByteArray) (h:right l=true):encW l=(sW l l.length,0):=by unfold encW;rw [h];rfl
end Tess
namespace Go.Proofs.YtjdccifdkjnknaaGreatDoor
open Go.RowKit Go.Sort Go.Shelf
end Go.Proofs.YtjdccifdkjnknaaGreatDoor
