/- Joined by mergeK.py: F25, K10, K11, K13, K18, F26, F27, F29, F30, F31, F32, F36, F37 -/
import Derived.Test.YtjdccifdkjnknaaGreatDoorAC16
import Derived.Test.YtjdccifdkjnknaaGreatDoorAC03
import Derived.Test.YtjdccifdkjnknaaGreatDoorAC04
import Derived.Test.YtjdccifdkjnknaaGreatDoorAC09
import Derived.Deep.LoopGhost
import Derived.Shelf.SlSortCmp.QuietGrown
import Derived.Test.YtjdccifdkjnknaaGreatDoorAC11
import Derived.Laws.EntriesVeiled
namespace Go.Proofs.YtjdccifdkjnknaaGreatDoor
open Go.RowKit Go.Sort
open Tess (Fil)
def VA (p:Nat→Prop) (w:World) (v:Value) (l:List Tess.Val):Prop:=
 ∃ a cap,v = .slice a l.length cap∧l.length≤maxLen∧(∀ x ∈ l,x.s.size≤maxLen)∧(a=none→cap=0) ∧
   (0 < l.length→∃ b off,a=some ⟨b,off,none⟩∧b < w.heap.size∧p b∧∀ j (h:j < l.length),w.cell? ⟨b,off + j * 2,none⟩=some (.string l[j].s)∧w.cell? ⟨b,off + j * 2 + 1,none⟩=some (.bool l[j].null))
theorem VA.ag {p:Nat→Prop} {w w':World} {v:Value} {l:List Tess.Val} (h:VA p w v l) (hg:Ag p w w'):VA p w' v l:=by
 obtain ⟨a,Ab,hv,h1,h2,h3,h4⟩:=h
 refine ⟨a,Ab,hv,h1,h2,h3,fun hl => ?_⟩
 obtain ⟨b,Aa,ha,hb,hp,hc⟩:=h4 hl
 refine ⟨b,Aa,ha,Nat.lt_of_lt_of_le hb hg.1,hp,fun j hj => ?_⟩
 exact ⟨(hg.cell hb hp).trans (hc j hj).1,(hg.cell hb hp).trans (hc j hj).2⟩
theorem VA.weak {p q:Nat→Prop} {w:World} {v:Value} {l:List Tess.Val} (h:VA p w v l) (hpq:∀ b,p b→q b):VA q w v l:=by
 obtain ⟨a,Ab,hv,h1,h2,h3,h4⟩:=h
 refine ⟨a,Ab,hv,h1,h2,h3,fun hl => ?_⟩
 obtain ⟨b,Aa,ha,hb,hp,hc⟩:=h4 hl
 exact ⟨b,Aa,ha,hb,hpq b hp,hc⟩
end Go.Proofs.YtjdccifdkjnknaaGreatDoor
namespace Go.Proofs.YtjdccifdkjnknaaGreatDoor
open Go.RowKit Go.Sort
open Tess (CK Pay)
theorem addr_add (b off n:Nat):(⟨b,off,none⟩:Addr).add n=⟨b,off + n,none⟩:=by unfold Addr.add;split <;> simp_all
def LA {α:Type} (k:Nat) (R:World→List Value→α→Prop) (p:Nat→Prop) (w:World) (v:Value) (l:List α):Prop:=
 ∃ a cap,v = .slice a l.length cap∧l.length≤maxLen∧l.length≤cap∧(a=none→cap=0) ∧
   (0 < l.length→∃ b off,a=some ⟨b,off,none⟩∧b < w.heap.size∧p b∧∀ j (h:j < l.length),∃ cs,cs.length=k∧R w cs l[j]∧∀ i,i < k→w.cell? ⟨b,off + j * k + i,none⟩=cs[i]?)
section
variable {α:Type} {k:Nat} {R S:World→List Value→α→Prop} {p q:Nat→Prop} {w w':World} {v:Value} {l:List α}
theorem LA.ag (h:LA k R p w v l) (hg:Ag p w w') (hR:∀ cs x,x ∈ l→R w cs x→R w' cs x):LA k R p w' v l:=by
 obtain ⟨a,Ab,hv,h1,h2,h3,h4⟩:=h
 refine ⟨a,Ab,hv,h1,h2,h3,fun hl => ?_⟩
 obtain ⟨b,Aa,ha,hb,hp,hc⟩:=h4 hl
 refine ⟨b,Aa,ha,Nat.lt_of_lt_of_le hb hg.1,hp,fun j hj => ?_⟩
 obtain ⟨cs,e1,e2,e3⟩:=hc j hj
 exact ⟨cs,e1,hR _ _ (List.getElem_mem hj) e2,fun i hi=>(hg.cell hb hp).trans (e3 i hi)⟩
theorem LA.weak (h:LA k R p w v l) (hpq:∀ b,p b→q b) (hR:∀ cs x,x ∈ l→R w cs x→S w cs x):LA k S q w v l:=by
 obtain ⟨a,Ab,hv,h1,h2,h3,h4⟩:=h
 refine ⟨a,Ab,hv,h1,h2,h3,fun hl => ?_⟩
 obtain ⟨b,Aa,ha,hb,hp,hc⟩:=h4 hl
 refine ⟨b,Aa,ha,hb,hpq b hp,fun j hj => ?_⟩
 obtain ⟨cs,e1,e2,e3⟩:=hc j hj
 exact ⟨cs,e1,hR _ _ (List.getElem_mem hj) e2,e3⟩
theorem LA.nil (k:Nat) (R:World→List Value→α→Prop) (p:Nat→Prop) (w:World):LA k R p w (.slice none 0 0) []:=⟨none,0,rfl,Nat.zero_le _,Nat.zero_le _,fun _=>rfl,fun h=>absurd h (Nat.lt_irrefl 0)⟩
theorem LA.open (h:LA k R p w v l):∃ a cap,v = .slice a l.length cap∧l.length≤cap∧l.length≤maxLen∧(a=none→cap=0)∧∀ j (hj:j < l.length),∃ b off,a=some ⟨b,off,none⟩∧b < w.heap.size∧p b∧∃ cs,cs.length=k∧R w cs l[j]∧∀ i,i < k→w.cell? ⟨b,off + j * k + i,none⟩=cs[i]? := by
 obtain ⟨a,cap,hv,h1,h2,h3,h4⟩:=h
 refine ⟨a,cap,hv,h2,h1,h3,fun j hj => ?_⟩
 obtain ⟨b,off,ha,hb,hp,hc⟩:=h4 (by omega)
 exact ⟨b,off,ha,hb,hp,hc j hj⟩
theorem LA.slice (h:LA k R p w v l) (i j:Nat) (hij:i≤j) (hj:j≤l.length):∃ a cap,v = .slice a l.length cap∧l.length≤cap∧l.length≤maxLen∧LA k R p w (.slice (if cap=i then a else a.map (·.add (i * k))) (j - i) (cap - i)) ((l.take j).drop i):=by
 obtain ⟨a,cap,hv,h1,h2,h3,h4⟩:=h
 have e:((l.take j).drop i).length=j - i:=by simp;omega
 refine ⟨a,cap,hv,h2,h1,_,cap - i,by rw [e],by rw [e];omega,by rw [e];omega,fun hz => ?_,fun hl => ?_⟩
 ·split at hz
  ·omega
  ·cases a with
   | none=>have:=h3 rfl;omega
   | some x=>cases hz
 ·rw [e] at hl
  obtain ⟨b,Aa,ha,hb,hp,hc⟩:=h4 (by omega)
  rw [if_neg (by omega),ha]
  refine ⟨b,Aa + i * k,by rw [Option.map_some,addr_add],hb,hp,fun m hm => ?_⟩
  rw [e] at hm
  obtain ⟨cs,e1,e2,e3⟩:=hc (i + m) (by omega)
  refine ⟨cs,e1,by simpa using e2,fun n hn => ?_⟩
  rw [← e3 n hn,Nat.add_mul]
  congr 2
  omega
end
structure PayAt (p:Nat→Prop) (w:World) (vs vm vx:Value) (x:Pay):Prop where
 sums:RA 2 wF p w vs x.sums
 mins:RA 1 intF p w vm x.mins
 maxs:RA 1 intF p w vx x.maxs
def CA3 (p:Nat→Prop) (w:World) (cs:List Value) (x:CK×Pay):Prop:=∃ vd vs vm vx,cs=[.int .i64 x.1.1,vd,.int .i64 x.2.n,vs,vm,vx]∧VA p w vd (x.1.2.map Tess.valOf)∧PayAt p w vs vm vx x.2
def GrpAt (p:Nat→Prop) (w:World) (cs:List Value) (x:Int×CK×Pay):Prop:=∃ vd vs vm vx,cs=[.int .i64 x.1,.int .i64 x.2.1.1,vd,.int .i64 x.2.2.n,vs,vm,vx]∧VA p w vd (x.2.1.2.map Tess.valOf)∧PayAt p w vs vm vx x.2.2
section
variable {p q:Nat→Prop} {w w':World} {v vs vm vx:Value} {cs:List Value} {x:Pay} {c:CK×Pay} {g:Int×CK×Pay}
theorem PayAt.ag (h:PayAt p w vs vm vx x) (hg:Ag p w w'):PayAt p w' vs vm vx x:=⟨h.sums.ag hg,h.mins.ag hg,h.maxs.ag hg⟩
theorem PayAt.weak (h:PayAt p w vs vm vx x) (hpq:∀ b,p b→q b):PayAt q w vs vm vx x:=⟨h.sums.weak hpq,h.mins.weak hpq,h.maxs.weak hpq⟩
theorem CA3.ag (h:CA3 p w cs c) (hg:Ag p w w'):CA3 p w' cs c:=let ⟨_,_,_,_,e,h1,h2⟩:=h;⟨_,_,_,_,e,h1.ag hg,h2.ag hg⟩
theorem CA3.weak (h:CA3 p w cs c) (hpq:∀ b,p b→q b):CA3 q w cs c:=let ⟨_,_,_,_,e,h1,h2⟩:=h;⟨_,_,_,_,e,h1.weak hpq,h2.weak hpq⟩
theorem CA3.len (h:CA3 p w cs c):cs.length=6:=by obtain ⟨_,_,_,_,rfl,_⟩:=h;rfl
theorem GrpAt.ag (h:GrpAt p w cs g) (hg:Ag p w w'):GrpAt p w' cs g:=let ⟨_,_,_,_,e,h1,h2⟩:=h;⟨_,_,_,_,e,h1.ag hg,h2.ag hg⟩
theorem GrpAt.weak (h:GrpAt p w cs g) (hpq:∀ b,p b→q b):GrpAt q w cs g:=let ⟨_,_,_,_,e,h1,h2⟩:=h;⟨_,_,_,_,e,h1.weak hpq,h2.weak hpq⟩
def CA2 (p:Nat→Prop):World→Value→List (CK×Pay)→Prop:=LA 6 (CA3 p) p
def GA (p:Nat→Prop):World→Value→List (Int×CK×Pay)→Prop:=LA 7 (GrpAt p) p
theorem CA2.ag {l:List (CK×Pay)} (h:CA2 p w v l) (hg:Ag p w w'):CA2 p w' v l:=LA.ag h hg fun _ _ _ h=>h.ag hg
theorem CA2.weak {l:List (CK×Pay)} (h:CA2 p w v l) (hpq:∀ b,p b→q b):CA2 q w v l:=LA.weak h hpq fun _ _ _ h=>h.weak hpq
theorem GA.ag {l:List (Int×CK×Pay)} (h:GA p w v l) (hg:Ag p w w'):GA p w' v l:=LA.ag h hg fun _ _ _ h=>h.ag hg
theorem GA.weak {l:List (Int×CK×Pay)} (h:GA p w v l) (hpq:∀ b,p b→q b):GA q w v l:=LA.weak h hpq fun _ _ _ h=>h.weak hpq
end
end Go.Proofs.YtjdccifdkjnknaaGreatDoor
namespace Go.Proofs.YtjdccifdkjnknaaGreatDoor
open Go.RowKit Go.Sort
open Tess (CK Pay)
structure Nest {α:Type} (k:Nat) (R:(Nat→Prop)→World→List Value→α→Prop):Prop where
 ag:∀ {p:Nat→Prop} {w w':World} {cs:List Value} {x:α},R p w cs x→Ag p w w'→R p w' cs x
 weak:∀ {p q:Nat→Prop} {w:World} {cs:List Value} {x:α},R p w cs x→(∀ b,p b→q b)→R q w cs x
 lt:∀ {p:Nat→Prop} {w:World} {cs:List Value} {x:α},R p w cs x→R (fun b=>p b∧b < w.heap.size) w cs x
 len:∀ {p:Nat→Prop} {w:World} {cs:List Value} {x:α},R p w cs x→cs.length=k
 one:∀ {p:Nat→Prop} {w:World} {cs:List Value} {x:α},R p w cs x→∀ u ∈ cs,u.oneCell'=true
theorem VA.lt {p:Nat→Prop} {w:World} {v:Value} {l:List Tess.Val} (h:VA p w v l):VA (fun b=>p b∧b < w.heap.size) w v l:=by
 obtain ⟨a,Ab,hv,h1,h2,h3,h4⟩:=h
 refine ⟨a,Ab,hv,h1,h2,h3,fun hl => ?_⟩
 obtain ⟨b,Aa,ha,hb,hp,hc⟩:=h4 hl
 exact ⟨b,Aa,ha,hb,⟨hp,hb⟩,hc⟩
theorem VA.shape {p:Nat→Prop} {w:World} {v:Value} {l:List Tess.Val} (h:VA p w v l):∃ a c,v = .slice a l.length c:=let ⟨a,c,e,_⟩:=h;⟨a,c,e⟩
theorem PayAt.lt {p:Nat→Prop} {w:World} {vs vm vx:Value} {x:Pay} (h:PayAt p w vs vm vx x):PayAt (fun b=>p b∧b < w.heap.size) w vs vm vx x:=⟨h.sums.lt,h.mins.lt,h.maxs.lt⟩
theorem cn2:Nest 6 CA3 where
 ag h hg:=h.ag hg
 weak h hpq:=h.weak hpq
 lt h:=let ⟨_,_,_,_,e,h1,h2⟩:=h;⟨_,_,_,_,e,h1.lt,h2.lt⟩
 len h:=h.len
 one h u hu:=by
  obtain ⟨vd,vs,vm,vx,rfl,h1,h2⟩:=h
  obtain ⟨_,_,rfl⟩:=h1.shape
  obtain ⟨_,_,rfl⟩:=h2.sums.shape
  obtain ⟨_,_,rfl⟩:=h2.mins.shape
  obtain ⟨_,_,rfl⟩:=h2.maxs.shape
  simp only [List.mem_cons,List.not_mem_nil,or_false] at hu
  rcases hu with rfl | rfl | rfl | rfl | rfl | rfl <;> rfl
structure OwnL {α:Type} (N k:Nat) (t:TypeId) (R:(Nat→Prop)→World→List Value→α→Prop) (p:Nat→Prop) (W:World) (lv:Value) (us:List (List Value)) (ls:List α):Prop where
 own:W.ownsRow N t k lv us.length us.flatten
 len:us.length=ls.length
 at_:∀ j (h:j < ls.length) (h':j < us.length),R (fun b=>p b∧lv.ownBlock≠some b) W us[j] ls[j]
section
variable {α:Type} {N k:Nat} {t:TypeId} {R:(Nat→Prop)→World→List Value→α→Prop} {p q:Nat→Prop} {W W':World} {lv lv':Value} {us:List (List Value)} {ls:List α}
theorem OwnL.nil (W:World):OwnL N k t R p W (.slice none 0 0) [] []:=⟨World.ownsRow_nil _ _ _ _,rfl,fun j h=>absurd h (Nat.not_lt_zero j)⟩
theorem OwnL.below (hN:Nest k R) (h:OwnL N k t R p W lv us ls) (hb:Below W.heap.size W W'):OwnL N k t R p W' lv us ls:=
 ⟨ob2 h.own hb,h.len,fun j hj hj'=>hN.ag (h.at_ j hj hj') (Ag.new _ hb)⟩
theorem OwnL.weak (hN:Nest k R) (h:OwnL N k t R p W lv us ls) (hpq:∀ b,p b→q b):OwnL N k t R q W lv us ls:=
 ⟨h.own,h.len,fun j hj hj'=>hN.weak (h.at_ j hj hj') fun b hb=>⟨hpq b hb.1,hb.2⟩⟩
theorem OwnL.set (hN:Nest k R) (h:OwnL N k t R p W lv us ls) {g i:Nat} (hg:g < N) (hq:¬ p g) (u:Value):OwnL N k t R p (W.setCell ⟨g,i,none⟩ u) lv us ls:=
 ⟨ownsRow_setCell_below h.own (by show g < N;exact hg) _,h.len,fun j hj hj'=>hN.ag (h.at_ j hj hj') (Ag.set _ W u fun e=>hq e.1)⟩
theorem OwnL.more (hN:Nest k R) (h:OwnL N k t R p W lv us ls) {x:List Value} {y:α} (hx:R (fun b=>p b∧lv.ownBlock≠some b) W x y)
  (hown:W'.ownsRow N t k lv' (us.length + 1) (us.flatten ++ x)) (hg:W.grownBy W' lv.ownBlock) (hloc:lv'.ownBlock=lv.ownBlock∨lv'.ownBlock=some W.heap.size):OwnL N k t R p W' lv' (us ++ [x]) (ls ++ [y]):=by
 have Ac:Ag (fun b=>lv.ownBlock≠some b) W W':=Ag.grown hg fun g e=>by rw [e];simp
 have Ab:∀ {cs z},R (fun b=>p b∧lv.ownBlock≠some b) W cs z→R (fun b=>p b∧lv'.ownBlock≠some b) W' cs z:=fun h=>
  hN.weak (hN.ag (hN.lt h) (Ac.weak fun b hb=>hb.1.2)) fun b hb=>⟨hb.1.1,by
   rcases hloc with e | e
   ·rw [e];exact hb.1.2
   ·rw [e];intro e2;have:=Option.some.inj e2;have:=hb.2;omega⟩
 refine ⟨by simpa using hown,by simp [h.len],fun j hj hj' => ?_⟩
 by_cases hjl:j < us.length
 ·have Aa:j < ls.length:=by have:=h.len;omega
  rw [List.getElem_append_left hjl,List.getElem_append_left Aa]
  exact Ab (h.at_ j Aa hjl)
 ·have e1:j=us.length:=by simp at hj';omega
  have e2:j=ls.length:=by have:=h.len;omega
  rw [List.getElem_append_right (by omega),List.getElem_append_right (by omega)]
  simp only [e1,h.len,Nat.sub_self,List.getElem_cons_zero]
  exact Ab hx
theorem flatU {k:Nat} (us:List (List Value)) (h:∀ x ∈ us,x.length=k):∀ (j i:Nat) (hj:j < us.length),i < k→us.flatten[j * k + i]? = us[j][i]? := by
 have:=flatK (f:=fun x=>x) us h
 simpa [List.flatMap_id] using this
theorem OwnL.lens (hN:Nest k R) (h:OwnL N k t R p W lv us ls):∀ x ∈ us,x.length=k:=fun x hx=>by
 obtain ⟨j,hj,rfl⟩:=List.mem_iff_getElem.1 hx
 exact hN.len (h.at_ j (by have:=h.len;omega) hj)
theorem OwnL.ones (hN:Nest k R) (h:OwnL N k t R p W lv us ls):∀ u ∈ us.flatten,u.oneCell'=true:=fun u hu=>by
 obtain ⟨x,hx,hu⟩:=List.mem_flatten.1 hu
 obtain ⟨j,hj,rfl⟩:=List.mem_iff_getElem.1 hx
 exact hN.one (h.at_ j (by have:=h.len;omega) hj) u hu
theorem OwnL.listed (hN:Nest k R) (h:OwnL N k t R p W lv us ls) (hpq:∀ b,p b→q b) (hNq:∀ b,N≤b→q b) (hl:ls.length≤maxLen) (hn:ls=[]→lv = .slice none 0 0):LA k (R q) q W lv ls:=by
 have Ab:=h.len
 rcases Nat.eq_zero_or_pos us.length with h0 | h0
 ·have Ac:ls=[]:=List.eq_nil_of_length_eq_zero (by omega)
  rw [hn Ac,Ac]
  exact LA.nil _ _ _ _
 ·obtain ⟨g,Ag,hv,hb,Ae,Af,hm,hc⟩:=oca h.own h0
  refine ⟨_,Ag,by rw [hv,Ab],hl,by omega,(fun e=>by cases e),fun _=>⟨g,0,rfl,Ae,hNq g hb,fun j hj => ?_⟩⟩
  have Aa:j < us.length:=by omega
  refine ⟨us[j],h.lens hN _ (List.getElem_mem Aa),hN.weak (h.at_ j hj Aa) fun b hb=>hpq b hb.1,fun i hi => ?_⟩
  have Ad:j * k + i < us.length * k:=by
   have:=Nat.mul_le_mul_right k (show j + 1≤us.length from Aa)
   rw [Nat.succ_mul] at this;omega
  rw [Nat.zero_add,hc _ Ad]
  exact flatU us (h.lens hN) j i Aa hi
end
end Go.Proofs.YtjdccifdkjnknaaGreatDoor
namespace Go.Proofs.YtjdccifdkjnknaaGreatDoor
open Go.RowKit Go.Sort
open Tess (cmpV cV3)
theorem gm2 (w:World) (q n:Nat) (os os':Array Obj):grow ((grow (w.drewN q) os).drewN n) os'=grow (w.drewN (q + n)) (os ++ os'):=by
 show grow (grow ((w.drewN q).drewN n) os) os'=_
 rw [grow_grow,World.drewN_drewN]
theorem grow_two (w:World) (n:Nat) (A B:Obj):((w.drewN n).alloc A).alloc B=grow (w.drewN n) #[A,B]:=by rw [alloc_eq_grow,alloc_eq_grow,grow_grow];rfl
theorem grown2 (w:World) (A B:Obj):∃ q os,(w.alloc A).alloc B=grow (w.drewN q) os:=⟨0,#[A,B],grow_two w 0 A B⟩
set_option maxRecDepth 100000 in
theorem vCa2 (a b:Tess.Val) (w:World):Calls Tryz.prog 139 #[.agg #[.string a.s,.bool a.null],.agg #[.string b.s,.bool b.null]] w fun e w'=>e = .returned (.int .i64 (cmpV a b))∧∃ q os,w'=grow (w.drewN q) os:=by
 obtain ⟨x,m⟩:=a
 obtain ⟨y,n⟩:=b
 have HC:=fun w=>Tryz.strings_Compare x y w
 cases m <;> cases n
 all_goals
  go_enter Tryz.func139,Tryz.ntmps139
  go_wp2_with (go_at_call 185;refine (HC _).mono ?_;rintro e w2 ⟨rfl,rfl⟩)
  go_ret
  exact ⟨rfl,grown2 _ _ _⟩
def VC (w:World) (a:Option Addr) (l:List Tess.Val):Prop:=∀ j (h:j < l.length),∃ b off,a=some ⟨b,off,none⟩∧b < w.heap.size∧w.cell? ⟨b,off + j * 2,none⟩=some (.string l[j].s)∧w.cell? ⟨b,off + j * 2 + 1,none⟩=some (.bool l[j].null)
theorem VA.cells {p:Nat→Prop} {w:World} {v:Value} {l:List Tess.Val} (h:VA p w v l):∃ a cap,v = .slice a l.length cap∧l.length≤9223372036854775807∧VC w a l:=by
 obtain ⟨a,cap,hv,h1,_,_,h4⟩:=h
 exact ⟨a,cap,hv,h1,fun j hj=>let ⟨b,off,ha,hb,_,hc⟩:=h4 (by omega);⟨b,off,ha,hb,hc j hj⟩⟩
set_option maxRecDepth 100000 in
set_option maxHeartbeats 4000000 in
theorem cFa (a b:Option Addr) (c d:Nat) (l m:List Tess.Val) (w:World) (hm:m.length≤9223372036854775807) (ha:VC w a l) (hb:VC w b m) :
  Calls Tryz.prog 138 #[.slice a l.length c,.slice b m.length d,.func (.func 139) #[] #[]] w fun e w'=>e = .returned (.int .i64 (cV3 l m))∧∃ q os,w'=grow (w.drewN q) os:=by
 have HA:=Hd ha
 have HB:=Hd hb
 have HC:=Hd vCa2
 clear ha hb
 go_enter Tryz.func138,Tryz.ntmps138
 go_wp2
 go_loopg [13] l.length (fun kx i wr => ∃ (k q:Nat) (os:Array Obj),kx + k=l.length∧k≤m.length∧i = .int .i64 k∧Hid (cV3 l m=cV3 (l.drop k) (m.drop k))∧wr=grow (w.drewN q) os)
 case atStart=>exact ⟨0,0,#[],by omega,Nat.zero_le _,rfl,Hd rfl,by rw [grow_empty];rfl⟩
 case round=>
  obtain ⟨k,q,os,hk,As,rfl,HE,rfl⟩:=hrel
  by_cases h1:k < l.length
  ·obtain ⟨b1,o1,rfl,Ad,x0,x1⟩:=HA.out k h1
   by_cases h2:k < m.length
   ·obtain ⟨b2,o2,rfl,Al,y0,y1⟩:=HB.out k h2
    have u0:=cell_grown Ad x0 q os
    have u1:=cell_grown Ad x1 q os
    have v0:=cell_grown Al y0 q os
    have v1:=cell_grown Al y1 q os
    have HD:=Hd (Tess.cmpVL_drop h1 h2)
    have Ao:(k:Int) < (l.length:Int):=by omega
    have Ai:(k:Int) < (m.length:Int):=by omega
    clear x0 x1 y0 y1
    generalize l[k]=s at *
    generalize m[k]=t at *
    obtain ⟨W0,Aa⟩:∃ W0,grow (w.drewN q) os=W0:=⟨_,rfl⟩
    rw [Aa] at u0 u1 v0 v1 ⊢
    have Ar:b1 < W0.heap.size:=by rw [← Aa,size_grow];simp;omega
    have Ac:b2 < W0.heap.size:=by rw [← Aa,size_grow];simp;omega
    have Aq:=Hd Aa
    clear Aa
    obtain ⟨W1,Aj⟩:∃ W1,W0.alloc (.cells #[.string s.s,.bool s.null] 47)=W1:=⟨_,rfl⟩
    obtain ⟨W2,Ah⟩:∃ W2,W1.alloc (.cells #[.string t.s,.bool t.null] 47)=W2:=⟨_,rfl⟩
    obtain ⟨k1,Am,Ae⟩:=la2 W0 (.cells #[.string s.s,.bool s.null] 47)
    obtain ⟨k2,An,Ag⟩:=la2 W1 (.cells #[.string t.s,.bool t.null] 47)
    rw [Aj] at k1 Am Ae
    rw [Ah] at k2 An Ag
    have y0:=(Ae.cell (p:=⟨b2,o2 + k * 2,none⟩) Ac).trans v0
    have y1:=(Ae.cell (p:=⟨b2,o2 + k * 2 + 1,none⟩) Ac).trans v1
    obtain ⟨⟨z0,z1⟩,_⟩:=can2 ((Ag.block _ (by omega)).trans k1)
    obtain ⟨⟨z2,z3⟩,_⟩:=can2 k2
    have HG:=Hd (show W2=grow (w.drewN q) (os ++ #[.cells #[.string s.s,.bool s.null] 47] ++ #[.cells #[.string t.s,.bool t.null] 47]) by rw [← Ah,← Aj,← Aq.out,alloc_eq_grow,alloc_eq_grow,grow_grow,grow_grow,Array.append_assoc])
    clear k1 k2 Am An Ae Ag
    go_wp2_with (fail)
    refine (HC.out s t W2).mono ?_
    rintro e w2 ⟨rfl,nq,Ap,rfl⟩
    have Ak:=Hd (show ∃ q' Af,grow (W2.drewN nq) Ap=grow (w.drewN q') Af from ⟨_,_,by rw [HG.out,gm2]⟩)
    clear z0 z1 z2 z3 y0 y1 u0 u1 v0 v1 Aj Ah
    generalize grow (W2.drewN nq) Ap=W3 at *
    by_cases hc:cmpV s t=0
    ·have Ab:=Hd (HE.out.trans (by rw [HD.out,if_pos hc]))
     rw [hc]
     clear hc
     go_wp2
     go_roundg (l.length - (k + 1))
     case measure=>omega
     case rel=>
      obtain ⟨q',Af,e⟩:=Ak.out
      exact ⟨k + 1,q',Af,by omega,by omega,by go_num,Ab,e⟩
    ·have Ab:=Hd (HE.out.trans (by rw [HD.out,if_neg hc]))
     generalize cmpV s t=z at *
     go_wp2
     go_ret
     rw [Ab.out]
     exact ⟨rfl,Ak.out⟩
   ·have Ao:(k:Int) < (l.length:Int):=by omega
    have Ai:(m.length:Int)≤(k:Int):=by omega
    have u0:=cell_grown Ad x0 q os
    have u1:=cell_grown Ad x1 q os
    have Ab:=Hd (HE.out.trans (by rw [List.drop_eq_getElem_cons h1,List.drop_eq_nil_of_le (Nat.le_of_not_lt h2)];rfl:_=(1:Int)))
    clear x0 x1
    generalize l[k]=s at *
    obtain ⟨W0,Aa⟩:∃ W0,grow (w.drewN q) os=W0:=⟨_,rfl⟩
    rw [Aa] at u0 u1 ⊢
    have HG:=Hd (show W0.alloc (.cells #[.string s.s,.bool s.null] 47)=grow (w.drewN q) (os ++ #[.cells #[.string s.s,.bool s.null] 47]) by rw [← Aa,alloc_eq_grow,grow_grow])
    clear Aa
    go_wp2
    go_ret
    rw [Ab.out]
    exact ⟨rfl,_,_,HG.out⟩
  ·obtain rfl:k=l.length:=by omega
   have Ao:¬ (l.length:Int) < (l.length:Int):=by omega
   by_cases h2:l.length < m.length
   ·have Ai:(l.length:Int) < (m.length:Int):=by omega
    have Ab:=Hd (HE.out.trans (by rw [List.drop_length,List.drop_eq_getElem_cons h2];rfl:_=(-1:Int)))
    go_wp2
    go_ret
    rw [Ab.out]
    exact ⟨rfl,_,_,rfl⟩
   ·have Ai:¬ (l.length:Int) < (m.length:Int):=by omega
    have Ab:=Hd (HE.out.trans (by rw [List.drop_length,List.drop_eq_nil_of_le (Nat.le_of_not_lt h2)];rfl:_=(0:Int)))
    go_wp2
    go_ret
    rw [Ab.out]
    exact ⟨rfl,_,_,rfl⟩
set_option maxRecDepth 100000 in
theorem less_any (a b:Option Addr) (c d:Nat) (l m:List Tess.Val) (w:World) (hm:m.length≤9223372036854775807) (ha:VC w a l) (hb:VC w b m) :
  Calls Tryz.prog 91 #[.slice a l.length c,.slice b m.length d] w fun e w'=>e = .returned (.bool (Tess.Kl.lex Tess.vLt (l.map Tess.Val.c) (m.map Tess.Val.c)))∧∃ q os,w'=grow (w.drewN q) os:=by
 have H:=Hd (cFa a b c d l m w hm ha hb)
 rw [← Tess.cmpVL_lt]
 generalize cV3 l m=z at *
 clear ha hb
 go_enter Tryz.func91,Tryz.ntmps91
 go_wp2_with (go_at_call 138;refine H.out.mono ?_;rintro e w2 ⟨rfl,nq,Aa,rfl⟩)
 go_ret
 exact ⟨rfl,_,_,rfl⟩
theorem VC.grown {w:World} {a:Option Addr} {l:List Tess.Val} (h:VC w a l) (q:Nat) (os:Array Obj):VC (grow (w.drewN q) os) a l:=fun j hj=>by
 obtain ⟨b,off,ha,hb,h0,h1⟩:=h j hj
 exact ⟨b,off,ha,by rw [size_grow];simp;omega,cell_grown hb h0 q os,cell_grown hb h1 q os⟩
theorem ck_lt (t u:Int) (l m:List Tess.DV):Tess.ckLt (t,l) (u,m)=if t=u then Tess.Kl.lex Tess.vLt l m else decide (t < u):=by
 unfold Tess.ckLt Tess.Kl.pair Tess.iLt
 simp only
 split
 ·rename_i h;subst h;simp
 ·rename_i h
  rcases Int.lt_or_gt_of_ne h with h | h
  ·simp [h]
  ·rw [decide_eq_false (by omega:¬ t < u),decide_eq_true (by omega:u < t)];rfl
set_option maxRecDepth 100000 in
set_option maxHeartbeats 4000000 in
theorem aa (a b:Option Addr) (c d:Nat) (l m:List Tess.Val) (t u n o:Int) (a3 a4 a5 b3 b4 b5:Option Addr) (n3 n4 n5 c3 c4 c5 o3 o4 o5 d3 d4 d5:Nat) (w:World) (hm:m.length≤9223372036854775807) (ha:VC w a l) (hb:VC w b m) :
  Calls Tryz.prog 40 #[.agg #[.int .i64 t,.slice a l.length c,.int .i64 n,.slice a3 n3 c3,.slice a4 n4 c4,.slice a5 n5 c5],.agg #[.int .i64 u,.slice b m.length d,.int .i64 o,.slice b3 o3 d3,.slice b4 o4 d4,.slice b5 o5 d5]] w
   fun e w'=>e = .returned (.bool (Tess.ckLt (t,l.map Tess.Val.c) (u,m.map Tess.Val.c)))∧∃ q os,w'=grow (w.drewN q) os:=by
 have H:=Hd (fun W q os (e:W=grow (w.drewN q) os)=>less_any a b c d l m W hm (e ▸ ha.grown q os) (e ▸ hb.grown q os))
 clear ha hb
 rw [ck_lt]
 generalize Tess.Kl.lex Tess.vLt (l.map Tess.Val.c) (m.map Tess.Val.c)=r at *
 obtain ⟨W0,Aa⟩:∃ W0,(w.alloc (.cells #[.int .i64 t,.slice a l.length c,.int .i64 n,.slice a3 n3 c3,.slice a4 n4 c4,.slice a5 n5 c5] 80)).alloc (.cells #[.int .i64 u,.slice b m.length d,.int .i64 o,.slice b3 o3 d3,.slice b4 o4 d4,.slice b5 o5 d5] 56)=W0:=⟨_,rfl⟩
 obtain ⟨k0,k1,kS,kB⟩:=la3 w (.cells #[.int .i64 t,.slice a l.length c,.int .i64 n,.slice a3 n3 c3,.slice a4 n4 c4,.slice a5 n5 c5] 80) (.cells #[.int .i64 u,.slice b m.length d,.int .i64 o,.slice b3 o3 d3,.slice b4 o4 d4,.slice b5 o5 d5] 56)
 rw [Aa] at k0 k1 kS kB
 have HG:=Hd (show W0=grow (w.drewN 0) #[_,_] by rw [← Aa];exact grow_two w 0 _ _)
 obtain ⟨⟨x0,x1,_⟩,_⟩:=can6 k0
 obtain ⟨⟨y0,y1,_⟩,_⟩:=can6 k1
 clear k0 k1 kS kB
 by_cases h:t=u
 ·have ht:(t != u)=false:=by rw [bne_eq_false_iff_eq];exact h
  rw [if_pos h]
  clear h
  go_enter Tryz.func40,Tryz.ntmps40
  go_wp2_with (fail)
  refine (H.out W0 _ _ HG.out).mono ?_
  rintro e w2 ⟨rfl,nq,Ab,rfl⟩
  have Ac:=Hd (show ∃ q' os',grow (W0.drewN nq) Ab=grow (w.drewN q') os' from ⟨_,_,by rw [HG.out,gm2]⟩)
  clear x0 x1 y0 y1 Aa
  generalize grow (W0.drewN nq) Ab=W3 at *
  go_wp2
  go_ret
  exact ⟨rfl,Ac.out⟩
 ·have ht:(t != u)=true:=by rw [bne_iff_ne];exact h
  rw [if_neg h]
  clear h
  generalize hr:decide (t < u)=r'
  go_enter Tryz.func40,Tryz.ntmps40
  go_wp2
  go_ret
  exact ⟨rfl,_,_,HG.out⟩
end Go.Proofs.YtjdccifdkjnknaaGreatDoor
namespace Go.Proofs.YtjdccifdkjnknaaGreatDoor
open Go.RowKit Go.Sort Go.Shelf
open Tess (CK Pay)
set_option maxRecDepth 100000 in
set_option maxHeartbeats 4000000 in
theorem put1_any (bl bc bb off k cap i:Nat) (a b:Option Addr) (c d:Nat) (l m:List Tess.Val) (t u n o:Int) (a3 a4 a5 b3 b4 b5:Option Addr) (n3 n4 n5 c3 c4 c5 o3 o4 o5 d3 d4 d5:Nat) (W:World)
  (hi:i < k) (hm:m.length≤9223372036854775807)
  (hl:W.cell? ⟨bl,0,none⟩=some (.slice (some ⟨bb,off,none⟩) k cap))
  (e0:W.cell? ⟨bb,off + i * 6,none⟩=some (.int .i64 t)) (e1:W.cell? ⟨bb,off + i * 6 + 1,none⟩=some (.slice a l.length c)) (e2:W.cell? ⟨bb,off + i * 6 + 2,none⟩=some (.int .i64 n)) (e3:W.cell? ⟨bb,off + i * 6 + 3,none⟩=some (.slice a3 n3 c3)) (e4:W.cell? ⟨bb,off + i * 6 + 4,none⟩=some (.slice a4 n4 c4)) (e5:W.cell? ⟨bb,off + i * 6 + 5,none⟩=some (.slice a5 n5 c5))
  (f0:W.cell? ⟨bc,0,none⟩=some (.int .i64 u)) (f1:W.cell? ⟨bc,1,none⟩=some (.slice b m.length d)) (f2:W.cell? ⟨bc,2,none⟩=some (.int .i64 o)) (f3:W.cell? ⟨bc,3,none⟩=some (.slice b3 o3 d3)) (f4:W.cell? ⟨bc,4,none⟩=some (.slice b4 o4 d4)) (f5:W.cell? ⟨bc,5,none⟩=some (.slice b5 o5 d5))
  (ha:VC W a l) (hb:VC W b m) :
  Calls Tryz.prog 63 (#[.int .i64 i] ++ #[.pointer (some ⟨bl,0,none⟩),.pointer (some ⟨bc,0,none⟩)]) W fun e w'=>e = .returned (.bool (!Tess.ckLt (t,l.map Tess.Val.c) (u,m.map Tess.Val.c)))∧∃ q os,w'=grow (W.drewN q) os:=by
 have Ac:(i:Int) < (k:Int):=by omega
 have H:=Hd (fun q os=>aa a b c d l m t u n o a3 a4 a5 b3 b4 b5 n3 n4 n5 c3 c4 c5 o3 o4 o5 d3 d4 d5 (grow (W.drewN q) os) hm (ha.grown q os) (hb.grown q os))
 generalize Tess.ckLt (t,l.map Tess.Val.c) (u,m.map Tess.Val.c)=r at *
 go_enter Tryz.func63,Tryz.ntmps63
 go_wp2_with (fail)
 have ql:=fun k os=>cell_grown (World.block_lt_of_cell? _ _ hl) hl k os
 have q0:=fun k os=>cell_grown (World.block_lt_of_cell? _ _ e0) e0 k os
 have q1:=fun k os=>cell_grown (World.block_lt_of_cell? _ _ e1) e1 k os
 have q2:=fun k os=>cell_grown (World.block_lt_of_cell? _ _ e2) e2 k os
 have q3:=fun k os=>cell_grown (World.block_lt_of_cell? _ _ e3) e3 k os
 have q4:=fun k os=>cell_grown (World.block_lt_of_cell? _ _ e4) e4 k os
 have q5:=fun k os=>cell_grown (World.block_lt_of_cell? _ _ e5) e5 k os
 have r0:=fun k os=>cell_grown (World.block_lt_of_cell? _ _ f0) f0 k os
 have r1:=fun k os=>cell_grown (World.block_lt_of_cell? _ _ f1) f1 k os
 have r2:=fun k os=>cell_grown (World.block_lt_of_cell? _ _ f2) f2 k os
 have r3:=fun k os=>cell_grown (World.block_lt_of_cell? _ _ f3) f3 k os
 have r4:=fun k os=>cell_grown (World.block_lt_of_cell? _ _ f4) f4 k os
 have r5:=fun k os=>cell_grown (World.block_lt_of_cell? _ _ f5) f5 k os
 clear hl e0 e1 e2 e3 e4 e5 f0 f1 f2 f3 f4 f5 ha hb
 refine wp_region_quiet_grown (by kernel_rfl) (by kernel_rfl) ?_
 repeat (go_big_quiet_step (exact Calls.grown_of (H.out _ _)))
 refine wpQuiet_nil ?_
 intro _ Ab
 obtain ⟨⟨nq,Ad⟩,Aa⟩:=Ab
 subst Aa
 go_wp2
 go_ret
 exact ⟨rfl,_,_,rfl⟩
end Go.Proofs.YtjdccifdkjnknaaGreatDoor
namespace Go.Proofs.YtjdccifdkjnknaaGreatDoor
open Go.RowKit Go.Sort
open Tess (Fil)
theorem laid5 (w:World) (A B C D E:Obj):((((((w.alloc A).alloc B).alloc C).alloc D).alloc E)).heap[w.heap.size]? = some A∧((((((w.alloc A).alloc B).alloc C).alloc D).alloc E)).heap[w.heap.size + 1]? = some B∧((((((w.alloc A).alloc B).alloc C).alloc D).alloc E)).heap[w.heap.size + 2]? = some C ∧
  ((((((w.alloc A).alloc B).alloc C).alloc D).alloc E)).heap[w.heap.size + 3]? = some D∧((((((w.alloc A).alloc B).alloc C).alloc D).alloc E)).heap[w.heap.size + 4]? = some E∧((((((w.alloc A).alloc B).alloc C).alloc D).alloc E)).heap.size=w.heap.size + 5∧Below w.heap.size w ((((((w.alloc A).alloc B).alloc C).alloc D).alloc E)):=by
 obtain ⟨h1,h2,h3,h4,h5,h6⟩:=laid4 w A B C D
 obtain ⟨k1,k2,k4⟩:=la2 ((((w.alloc A).alloc B).alloc C).alloc D) E
 rw [h5] at k1 k2
 exact ⟨(k4.block _ (by omega)).trans h1,(k4.block _ (by omega)).trans h2,(k4.block _ (by omega)).trans h3,(k4.block _ (by omega)).trans h4,k1,k2,h6.trans (k4.mono (by omega))⟩
end Go.Proofs.YtjdccifdkjnknaaGreatDoor
namespace Go.Proofs.YtjdccifdkjnknaaGreatDoor
open Go.RowKit Go.Sort
open Tess (Fil)
theorem iV:(Tryz.prog.info? 47).map (fun i=>(i.zero,i.size,i.bytes))=some (some (.agg #[.string ByteArray.empty,.bool false]),2,24):=by kernel_rfl
def cV4 (x:Tess.Val):Tess.Val:=⟨cutN 110 x.s,x.null⟩
def cV2 (l:List Tess.Val):List Tess.Val:=(l.take 10).map cV4
def vC:List Tess.Val→List Value
 | []=>[]
 | x :: r => .string x.s :: .bool x.null :: vC r
theorem vCa3 (a b:List Tess.Val):vC (a ++ b)=vC a ++ vC b:=by
 induction a with
 | nil=>rfl
 | cons x r ih=>simp [vC,ih]
theorem vCl (a:List Tess.Val):(vC a).length=a.length * 2:=by
 induction a with
 | nil=>rfl
 | cons x r ih=>simp [vC,ih];omega
theorem vCa (a:List Tess.Val):∀ (j:Nat) (h:j < a.length),(vC a)[j * 2]? = some (.string a[j].s)∧(vC a)[j * 2 + 1]? = some (.bool a[j].null):=by
 induction a with
 | nil=>intro j h;simp at h
 | cons x r ih=>
   intro j h
   cases j with
   | zero=>simp [vC]
   | succ j=>
     have:=ih j (by simpa using h)
     rw [show (j + 1) * 2=j * 2 + 1 + 1 by omega]
     simpa [vC] using this
def nT (a b:Value) (v:Value) (w:World):Prop:=∃ g,v = .slice (some ⟨g,0,none⟩) 1 1∧g < w.heap.size∧w.cell? ⟨g,0,none⟩=some a∧w.cell? ⟨g,1,none⟩=some b
theorem nTm (a b:Value):Flow.Spec.mono (.inr (nT a b)):=fun _ _ _ ⟨g,h1,h2,h3,h4⟩ hb=>⟨g,h1,Nat.lt_of_lt_of_le h2 hb.size,(hb.cell (p:=⟨g,0,none⟩) h2).trans h3,(hb.cell (p:=⟨g,1,none⟩) h2).trans h4⟩
theorem nTm2 (a b:Value) (w:World) (t:TypeId):nT a b (.slice (some ⟨w.heap.size,0,none⟩) 1 1) (w.alloc (.cells #[a,b] t)):=⟨_,rfl,by simp,by simp,by simp⟩
theorem vals_snoc (l:List Tess.Val) (k:Nat) (h:k < l.length):vC ((l.take k).map cV4) ++ [.string (cutN 110 l[k].s),.bool l[k].null]=vC ((l.take (k + 1)).map cV4):=by
 rw [List.take_succ_eq_append_getElem h,List.map_append,vCa3];rfl
theorem vals_owned {w:World} {base:Nat} {t:TypeId} {v:Value} {l:List Tess.Val} (h:w.ownsRow base t 2 v l.length (vC l)) (hs:∀ x ∈ l,x.s.size≤maxLen) (hl:l.length≤maxLen) (hn:l=[]→v = .slice none 0 0):VA (fun b=>base≤b) w v l:=by
 rcases Nat.eq_zero_or_pos l.length with h0 | h0
 ·have:l=[]:=List.length_eq_zero_iff.1 h0
  subst this
  rw [hn rfl]
  exact ⟨_,_,rfl,by simp,hs,fun _=>rfl,fun h=>absurd h (by simp)⟩
 ·obtain ⟨g,Aa,hv,hb,hg,_,_,hc⟩:=oca h h0
  refine ⟨_,_,hv,hl,hs,(fun e=>by cases e),fun _=>⟨g,0,rfl,hg,hb,fun j hj => ?_⟩⟩
  have:=vCa l j hj
  exact ⟨by rw [Nat.zero_add,hc _ (by omega)];exact this.1,by rw [Nat.zero_add,hc _ (by omega)];exact this.2⟩
set_option maxRecDepth 100000 in
set_option maxHeartbeats 2000000 in
theorem vals_any (p:Nat→Prop) (v:Value) (l:List Tess.Val) (w:World) (hv:VA p w v l) :
  Calls Tryz.prog 31 #[v] w fun e w' => ∃ v',e = .returned v'∧VA (fun b=>w.heap.size≤b) w' v' (cV2 l)∧Below w.heap.size w w':=by
 obtain ⟨a,A4,rfl,hl,hs,_,hc⟩:=hv
 have hl:l.length≤9223372036854775807:=by unfold maxLen at hl;omega
 have HC:=Hd hc
 have HS:=Hd hs
 clear hc hs
 obtain ⟨i0,hi,Am,Ap,At⟩:=info_parts iV
 go_enter Tryz.func31,Tryz.ntmps31
 go_wp2
 go_loopw [3,4] (fun v i wr => ∃ k:Nat,k≤l.length∧k≤10∧i = .int .i64 k∧wr.ownsRow w.heap.size 47 2 v k (vC ((l.take k).map cV4))∧(k=0→v = .slice none 0 0)∧Below w.heap.size w wr) (fun _ i _=>10 - (intOf i).toNat)
 case atStart=>exact ⟨0,Nat.zero_le _,Nat.zero_le _,rfl,by simpa [vC] using World.ownsRow_nil w w.heap.size 47 2,fun _=>rfl,Below.refl _ _⟩
 case round=>
  obtain ⟨k,hk,Ay,rfl,Ab,Ae,hB⟩:=hrel
  have HN:=Hd Ae
  clear Ae
  by_cases hlt:k < l.length∧k < 10
  ·obtain ⟨h1,h2⟩:=hlt
   obtain ⟨b,Ag,rfl,hb,_,Ah⟩:=HC.out (by omega)
   have A0:wr.cell? ⟨b,Ag + k * 2,none⟩=some (.string l[k].s):=(hB.cell (p:=⟨b,Ag + k * 2,none⟩) hb).trans (Ah k h1).1
   have A1:wr.cell? ⟨b,Ag + k * 2 + 1,none⟩=some (.bool l[k].null):=(hB.cell (p:=⟨b,Ag + k * 2 + 1,none⟩) hb).trans (Ah k h1).2
   have Ax:l[k].s.size≤9223372036854775807:=HS.out _ (List.getElem_mem h1)
   have HO:=Hd Ab
   have HB:=Hd hB
   have A2:b < wr.heap.size:=Nat.lt_of_lt_of_le hb HB.out.size
   have HE:=Hd (vals_snoc l k h1)
   clear Ab hB Ah hb
   obtain ⟨x,hx⟩:∃ x,x=cutN 110 l[k].s:=⟨_,rfl⟩
   rw [← hx] at HE
   have HX:=Hd hx
   clear hx
   generalize l[k].s=xs at *
   generalize l[k].null=xb at *
   go_wp2
   rcases (show ((110:Int) < (xs.size:Int)∧(¬ (xs.size:Int)≤110∧(110:Int)≤(xs.size:Int))∧min (xs.size:Int) 110=110)∨(¬ (110:Int) < (xs.size:Int)∧(xs.size:Int)≤110∧min (xs.size:Int) 110=(xs.size:Int)) by omega) with ⟨Ao,As,Ai⟩ | ⟨Ao,As,Ai⟩
   all_goals
    refine Flow.wrf 21 (Flow.sp3 [.inl ?_,.inl ?_,.inl ?_,.inl ?_,.inl ?_,.inl ?_,.inl ?_,.inl ?_,.inl ?_,.inl ?_,.inl ?_,.inl ?_,.inl ?_,.inl ?_,.inl ?_,.inl ?_,.inl ?_,.inl ?_,.inl ?_,.inl ?_,.inr (nT (.string x) (.bool xb))]) (by kernel_rfl) (by kernel_rfl) ?_ ?_
    rotate_left 20
    ·refine Flow.sm2 ?_
     repeat (first | exact Flow.ln2 | refine Flow.li2 ?_ | refine Flow.li3 (nTm _ _) ?_)
    all_goals try simp only [List.take_succ_cons,List.take_zero,List.drop_succ_cons,List.drop_zero]
    iterate 20 (refine Flow.tvK rfl (fun K hK=>⟨fun w hw hG => ?_,?_⟩);(have A3:=Flow.bc4 hw;clear hG hw;unfold Flow.Runs Flow.yields;go_simp;try rfl);go_simp;refine hK _ ?_;clear hK K)
    (refine Flow.tvK2 rfl (fun K hK=>⟨fun w hw hG => ?_,?_⟩);(clear hG hw;unfold Flow.Runs Flow.yields;go_simp;refine ⟨(Below.refl _ _).alloc (Nat.le_refl _) _,?_⟩;rw [HX.out]);rotate_left;intro vz;go_simp;refine hK _ _ ?_;clear hK K;rotate_left)
    ·first | exact nTm2 _ _ _ _ | (rw [cNs _ _ (by omega)];exact nTm2 _ _ _ _)
    refine Flow.tn2 fun w2 hw2 hG => ?_
    obtain ⟨gn,rfl,Az,Ar,Aq⟩:=(show nT (.string x) (.bool xb) vz w2 by simpa [Flow.upd] using hG 20)
    clear hG
    have Aj:=Hd (ob2 HO.out hw2)
    have Af:=HB.out.trans (hw2.mono HB.out.size)
    go_wp2_with (at_builtin;refine wpList_append_own _ rfl _ _ 48 rfl w.heap.size 47 i0 (.agg #[.string ByteArray.empty,.bool false]) 2 24 Tryz.underlying48 hi Am Ap At rfl (by decide) _ _ _ rfl Aj.out ⟨gn,0,none⟩ 1 1 [.string x,.bool xb] rfl rfl ?_ ?_ ?_ ?_ ?_ ?_)
    ·intro j u hj;rcases j with _ | _ | j <;> simp at hj <;> subst hj;simpa [Addr.add] using Ar;simpa [Addr.add] using Aq
    ·simp [Value.oneCell']
    ·unfold maxLen;omega
    ·omega
    ·exact Af.size
    intro v' w3 Aa Ac Al
    have Ak:Below w.heap.size w w3:=Af.grown Ac Af.size (fun j e=>(Aj.out.lt j e).1)
    have Aa:w3.ownsRow w.heap.size 47 2 v' (k + 1) (vC ((l.take (k + 1)).map cV4)):=by rw [← HE.out,List.map_take];exact Aa
    have Au:=Hd Aa
    have Av:=Hd Ak
    clear Aa Ac Ak Af
    go_wp2
    go_roundw
    case rel=>exact ⟨k + 1,by omega,by omega,by go_num,Au.out,fun h=>by omega,Av.out⟩
    case measure=>simp [intOf];omega
  ·have he:(l.take k).map cV4=cV2 l:=by
    unfold cV2
    by_cases e:k=10
    ·rw [e]
    ·rw [List.take_of_length_le (by omega),List.take_of_length_le (by omega)]
   have Ad:(cV2 l).length=k:=by rw [← he];simp;omega
   rw [he] at Ab
   have HO:=Hd (vals_owned (l:=cV2 l) (by rw [Ad];exact Ab) (fun x hx=>by
    obtain ⟨y,_,rfl⟩:=List.mem_map.1 hx
    have:=cNs3 110 y.s
    show (cutN 110 y.s).size≤maxLen
    unfold maxLen;omega) (by unfold maxLen;omega) (fun h=>HN.out (by rw [← Ad,h];rfl)))
   have HB:=Hd hB
   clear Ab hB he Ad
   rcases (show (¬ (k:Int) < (l.length:Int))∨((k:Int) < (l.length:Int)∧¬ (k:Int) < 10) by omega) with An | ⟨Aw,An⟩
   all_goals
    clear hlt
    go_wp2
    go_ret
    exact ⟨_,rfl,HO.out,HB.out⟩
end Go.Proofs.YtjdccifdkjnknaaGreatDoor
namespace Go.Proofs.YtjdccifdkjnknaaGreatDoor
open Go.RowKit Go.Sort
open Tess (Fil)
def RA3 (p:Nat→Prop) (w:World) (v:Value) (t:Int) (l:List Tess.Val) (ns:List Int):Prop:=∃ vd a c,v = .agg #[.int .i64 t,vd,.slice a ns.length c]∧ns.length≤c∧VA p w vd l∧SlP p w (.slice a ns.length c) (ns.map (.int .i64))
theorem RA3.ag {p:Nat→Prop} {w w':World} {v:Value} {t:Int} {l:List Tess.Val} {ns:List Int} (h:RA3 p w v t l ns) (hg:Ag p w w'):RA3 p w' v t l ns:=let ⟨vd,a,c,h1,h0,h2,h3⟩:=h;⟨vd,a,c,h1,h0,h2.ag hg,h3.ag hg⟩
theorem RA3.weak {p q:Nat→Prop} {w:World} {v:Value} {t:Int} {l:List Tess.Val} {ns:List Int} (h:RA3 p w v t l ns) (hpq:∀ b,p b→q b):RA3 q w v t l ns:=let ⟨vd,a,c,h1,h0,h2,h3⟩:=h;⟨vd,a,c,h1,h0,h2.weak hpq,h3.weak hpq⟩
theorem slp_take {p:Nat→Prop} {w:World} {a:Option Addr} {n cap:Nat} {cs:List Value} (k:Nat) (h:SlP p w (.slice a n cap) cs):SlP p w (.slice a (min k n) cap) (cs.take k):=by
 obtain ⟨⟨h0,a',Ac,hv,hc⟩,hp,hn⟩:=h
 cases hv
 refine ⟨⟨by simp;omega,a,cap,by simp,fun hl => ?_⟩,fun hl b hb => ?_,fun n' c' e => ?_⟩
 ·simp at hl
  obtain ⟨b,Ab,ha,hb,Aa⟩:=hc (by omega)
  refine ⟨b,Ab,ha,hb,fun j hj => ?_⟩
  simp at hj
  rw [Aa j (by omega)];simp
 ·simp at hl
  exact hp (by omega) b (by cases a with | none=>exact hb | some x=>exact hb)
 ·cases e;exact hn _ _ rfl
def isVals (N:Nat) (l:List Tess.Val) (v:Value) (W:World):Prop:=VA (fun b=>N≤b) W v l
theorem isVals_mono (N:Nat) (l:List Tess.Val):Flow.Spec.mono (.inr (isVals N l)):=fun _ _ _ h hb=>VA.ag h (Ag.new _ hb)
def isRow (N:Nat) (t:Int) (l:List Tess.Val) (vn:Value) (v:Value) (W:World):Prop:=∃ vd,v = .agg #[.int .i64 t,vd,vn]∧VA (fun b=>N≤b) W vd l
theorem isRow_mono (N:Nat) (t:Int) (l:List Tess.Val) (vn:Value):Flow.Spec.mono (.inr (isRow N t l vn)):=fun _ _ _ ⟨vd,h1,h⟩ hb=>⟨vd,h1,VA.ag h (Ag.new _ hb)⟩
set_option maxRecDepth 100000 in
set_option maxHeartbeats 2000000 in
theorem fewRow_any (p:Nat→Prop) (v:Value) (t:Int) (l:List Tess.Val) (ns:List Int) (w:World) (hv:RA3 p w v t l ns) :
  Calls Tryz.prog 27 #[v] w fun e w' => ∃ v',e = .returned v'∧RA3 (fun b=>p b∨w.heap.size≤b) w' v' t (cV2 l) (ns.take 10)∧(∃ vd n,v' = .agg #[.int .i64 t,vd,n]∧VA (fun b=>w.heap.size≤b) w' vd (cV2 l))∧Below w.heap.size w w':=by
 obtain ⟨vd,na,nc,rfl,Ao,hd,hn⟩:=hv
 have Am:=Hd (fun W (hB:Below w.heap.size w W)=>vals_any p vd l W (hd.ag (Ag.new p hB)))
 obtain ⟨da,dc,rfl,_,_,_,_⟩:=hd
 have HN:=Hd (slp_take 10 hn)
 have Ar:ns.length≤9223372036854775807:=by have:=hn.1.1;simp at this;unfold maxLen at this;omega
 obtain ⟨m,hm⟩:∃ m,m=min 10 ns.length:=⟨_,rfl⟩
 have Ap:min (ns.length:Int) 10=(m:Int):=by omega
 have Aq:(m:Int)≤(nc:Int):=by omega
 have HM:=Hd hm
 clear hn hm
 obtain ⟨W0,Ah⟩:∃ W0,(w.alloc (.cells #[.int .i64 t,.slice da l.length dc,.slice na ns.length nc] 51)).alloc (.cells #[.int .i64 0,.slice none 0 0,.slice none 0 0] 51)=W0:=⟨_,rfl⟩
 obtain ⟨h0,h1,hS,hB⟩:=la3 w (.cells #[.int .i64 t,.slice da l.length dc,.slice na ns.length nc] 51) (.cells #[.int .i64 0,.slice none 0 0,.slice none 0 0] 51)
 rw [Ah] at h0 h1 hS hB
 go_enter Tryz.func27,Tryz.ntmps27
 go_wp2
 clear Ah
 have c0:=cell_of_row W0 w.heap.size 0 _ _ _ h0
 have c1:=cell_of_row W0 w.heap.size 1 _ _ _ h0
 have c2:=cell_of_row W0 w.heap.size 2 _ _ _ h0
 simp only [List.getElem?_toArray,List.getElem?_cons_succ,List.getElem?_cons_zero] at c0 c1 c2
 have s0:w.heap.size < W0.heap.size:=by omega
 have HB:=Hd hB
 have HS:=Hd hS
 have H1:=Hd h1
 clear h0 h1 hS hB
 refine Flow.wrf 13 (Flow.sp3 [.inl ?_,.inl ?_,.inl ?_,.inl ?_,.inr (isVals W0.heap.size (cV2 l)),.inl ?_,.inl ?_,.inl ?_,.inl ?_,.inl ?_,.inl ?_,.inl ?_,.inr (isRow W0.heap.size t (cV2 l) (.slice na m nc))]) (by kernel_rfl) (by kernel_rfl) ?_ ?_
 rotate_left 11
 ·refine Flow.sm2 ?_
  repeat (first | exact Flow.ln2 | refine Flow.li2 ?_ | refine Flow.li3 (isVals_mono _ _) ?_ | refine Flow.li3 (isRow_mono _ _ _ _) ?_)
 all_goals try simp only [List.take_succ_cons,List.take_zero,List.drop_succ_cons,List.drop_zero]
 iterate 4 (refine Flow.tvK rfl (fun K hK=>⟨fun w hw hG => ?_,?_⟩);(have An:=Flow.bc4 hw;clear hG hw;unfold Flow.Runs Flow.yields;go_simp;try rfl);go_simp;refine hK _ ?_;clear hK K)
 (refine Flow.tvK2 rfl (fun K hK=>⟨fun w hw hG => ?_,?_⟩);(have HW:=Hd hw;clear hG hw;unfold Flow.Runs Flow.yields;go_simp;refine (Am.out _ (Bt HB.out HW.out)).mono ?_;rintro e w3 ⟨v3,rfl,Aj,Al⟩;exact ⟨v3,rfl,Al,Aj.weak fun b hb=>Nat.le_trans HW.out.size hb⟩);intro vz;go_simp;refine hK _ _ ?_;clear hK K)
 iterate 7 (refine Flow.tvK rfl (fun K hK=>⟨fun w hw hG => ?_,?_⟩);(have An:=Flow.bc4 hw;clear hG hw;unfold Flow.Runs Flow.yields;go_simp;try rfl);go_simp;refine hK _ ?_;clear hK K)
 (refine Flow.tvK2 rfl (fun K hK=>⟨fun w hw hG => ?_,?_⟩);(have Af:=(show isVals W0.heap.size (cV2 l) vz w by simpa [Flow.upd] using hG 4 (by kernel_rfl));have Ak:=Hd Af;clear hG;obtain ⟨y0,y1,rfl,_⟩:=Af;unfold Flow.Runs Flow.yields;go_simp;exact ⟨_,rfl,Ak.out⟩);intro vy;go_simp;refine hK _ _ ?_;clear hK K)
 refine Flow.tn2 fun w2 hw2 hG => ?_
 obtain ⟨As,rfl,Ai⟩:=(show isRow W0.heap.size t (cV2 l) (.slice na m nc) vy w2 by simpa [Flow.upd] using hG 12)
 have Ab:=Hd Ai
 obtain ⟨y0,y1,rfl,_⟩:=Ai
 clear hG
 have Aa:=(hw2.block _ (by have:=HS.out;omega)).trans H1.out
 have Ae:=Hd (Bt HB.out hw2)
 have z0:=frozen_of_row w2 (w.heap.size + 1) 0 _ _ Aa
 have z1:=frozen_of_row w2 (w.heap.size + 1) 1 _ _ Aa
 have z2:=frozen_of_row w2 (w.heap.size + 1) 2 _ _ Aa
 have e0:=cell_of_row w2 (w.heap.size + 1) 0 _ _ _ Aa
 have e1:=cell_of_row w2 (w.heap.size + 1) 1 _ _ _ Aa
 have e2:=cell_of_row w2 (w.heap.size + 1) 2 _ _ _ Aa
 simp only [List.getElem?_toArray,List.getElem?_cons_succ,List.getElem?_cons_zero] at e0 e1 e2
 clear Aa hw2
 go_wp2
 have Ad:∀ q:Nat→Prop,¬ q (w.heap.size + 1)→Ag q w2 (((w2.setCell ⟨w.heap.size + 1,0,none⟩ (.int .i64 t)).setCell ⟨w.heap.size + 1,1,none⟩ (.slice y0 (cV2 l).length y1)).setCell ⟨w.heap.size + 1,2,none⟩ (.slice na m nc)):=
  fun q h1=>((Ag.set q _ _ h1).trans (Ag.set q _ _ h1)).trans (Ag.set q _ _ h1)
 have Ac:(ns.take 10).length=m:=by rw [List.length_take,HM.out]
 have hS:=HS.out
 refine bodyPost_ret (v:=.agg #[.int .i64 t,.slice y0 (cV2 l).length y1,.slice na m nc]) (by simp [results,Tryz.results27,go_sem,e0,e1,e2]) rfl ⟨_,rfl,⟨_,na,nc,by rw [Ac],by omega,?_,?_⟩,⟨_,⟨_,rfl⟩,((Ab.out.ag (Ad _ (by omega))).weak fun b hb=>by omega)⟩,?_⟩
 ·exact ((Ab.out.ag (Ad _ (by omega))).weak fun b hb => .inr (by omega))
 ·have h:=(HN.out.lt.ag (Ag.new _ Ae.out)).ag (Ad _ (by rintro ⟨_,h⟩;omega))
  rw [← HM.out] at h
  rw [Ac,List.map_take]
  exact h.weak fun b hb => .inl hb.1
 ·exact ((Ae.out.setCell (by show _≤w.heap.size + 1;omega) _).setCell (by show _≤w.heap.size + 1;omega) _).setCell (by show _≤w.heap.size + 1;omega) _
end Go.Proofs.YtjdccifdkjnknaaGreatDoor
namespace Go.Proofs.YtjdccifdkjnknaaGreatDoor
open Go.RowKit Go.Sort
open Tess (Fil)
set_option maxRecDepth 100000 in
theorem isValue_any (x:ByteArray) (b:Bool) (w:World):Calls Tryz.prog 110 #[.agg #[.string x,.bool b]] w fun e w'=>e = .returned (.bool (Tess.vO ⟨x,b⟩))∧Below w.heap.size w w':=by
 obtain ⟨W0,Aa⟩:∃ W0,w.alloc (.cells #[.string x,.bool b] 47)=W0:=⟨_,rfl⟩
 obtain ⟨h0,hS,hB⟩:=la2 w (.cells #[.string x,.bool b] 47)
 rw [Aa] at h0 hS hB
 have c0:=cell_of_row W0 w.heap.size 0 _ _ _ h0
 have c1:=cell_of_row W0 w.heap.size 1 _ _ _ h0
 simp only [List.getElem?_toArray,List.getElem?_cons_succ,List.getElem?_cons_zero] at c0 c1
 have HB:=Hd hB
 clear h0 hB hS
 have e:decide ((x.size:Int)≤100)=decide (x.size≤100):=decide_eq_decide.2 (by omega)
 cases b
 ·go_enter Tryz.func110,Tryz.ntmps110
  go_wp2
  go_ret
  exact ⟨by simp only [Tess.vO];rfl,HB.out⟩
 ·clear e
  have hE:ByteArray.empty.toList=[]:=by rw [ByteArray.toList_eq];rfl
  by_cases hx:x.toList=[]
  ·have HX:=Hd (show x=ByteArray.empty from str_inj (hx.trans hE.symm))
   clear hE
   go_enter Tryz.func110,Tryz.ntmps110
   go_wp2
   go_ret
   exact ⟨by simp [Tess.vO,HX.out],HB.out⟩
  ·have HX:=Hd (show x≠ByteArray.empty from fun e=>hx (by rw [e];exact hE))
   clear hE
   go_enter Tryz.func110,Tryz.ntmps110
   go_wp2
   go_ret
   exact ⟨by simp [Tess.vO,HX.out],HB.out⟩
theorem iOa (x:ByteArray) (b:Bool) (w:World):Calls Tryz.prog 109 #[.agg #[.string x,.bool b]] w fun e w'=>e = .returned (.bool (!Tess.vO ⟨x,b⟩))∧Below w.heap.size w w':=by
 obtain ⟨W0,Ab⟩:∃ W0,w.alloc (.cells #[.string x,.bool b] 47)=W0:=⟨_,rfl⟩
 obtain ⟨h0,hS,hB⟩:=la2 w (.cells #[.string x,.bool b] 47)
 rw [Ab] at h0 hS hB
 have c0:=cell_of_row W0 w.heap.size 0 _ _ _ h0
 have c1:=cell_of_row W0 w.heap.size 1 _ _ _ h0
 simp only [List.getElem?_toArray,List.getElem?_cons_succ,List.getElem?_cons_zero] at c0 c1
 have HB:=Hd hB
 have HI:=Hd (isValue_any x b W0)
 clear h0 hB hS
 generalize Tess.vO ⟨x,b⟩=r at *
 go_enter Tryz.func109,Tryz.ntmps109
 go_wp2_with (go_at_call 110;refine HI.out.mono ?_;rintro e w2 ⟨rfl,Aa⟩;have Ac:=Hd (Bt HB.out Aa);clear Aa)
 go_ret
 exact ⟨rfl,Ac.out⟩
set_option maxHeartbeats 1000000 in
theorem io2 (p:Nat→Prop) (v:Value) (l:List Tess.Val) (w:World) (hv:VA p w v l) :
  Calls Tryz.prog 153 #[v,.func (.func 109) #[] #[]] w fun e w' => ∃ i:Int,e = .returned (.int .i64 i)∧decide (0≤i)=(l.any fun x => !Tess.vO x)∧Below w.heap.size w w':=by
 obtain ⟨a,Ag,rfl,Ae,_,_,hc⟩:=hv
 have HC:=Hd hc
 have Ae:l.length≤9223372036854775807:=by unfold maxLen at Ae;omega
 clear hc
 go_enter Tryz.func153,Tryz.ntmps153
 go_wp2
 go_loopw [8] (fun i wr => ∃ k:Nat,k≤l.length∧i = .int .i64 k∧(∀ j (hj:j < l.length),j < k→(!Tess.vO l[j])=false)∧Below w.heap.size w wr) (fun i _=>l.length - (intOf i).toNat)
 case atStart=>exact ⟨0,Nat.zero_le _,rfl,fun j _ h=>absurd h (Nat.not_lt_zero _),Below.refl _ _⟩
 case round=>
  obtain ⟨k,hk,rfl,Aa,hB⟩:=hrel
  have HA:=Hd Aa
  have HB:=Hd hB
  clear Aa hB
  by_cases hlt:k < l.length
  ·obtain ⟨b,Ac,rfl,hb,_,hg⟩:=HC.out (by omega)
   have e0:wr.cell? ⟨b,Ac + k * 2,none⟩=some (.string l[k].s):=(HB.out.cell (p:=⟨b,Ac + k * 2,none⟩) hb).trans (hg k hlt).1
   have e1:wr.cell? ⟨b,Ac + k * 2 + 1,none⟩=some (.bool l[k].null):=(HB.out.cell (p:=⟨b,Ac + k * 2 + 1,none⟩) hb).trans (hg k hlt).2
   clear hg
   have HX:=Hd (fun W=>iOa l[k].s l[k].null W)
   have Af:(k:Int) < (l.length:Int):=by omega
   cases hyx : !Tess.vO l[k]
   ·rw [show (!Tess.vO ⟨l[k].s,l[k].null⟩)=_ from hyx] at HX
    have HY:=Hd hyx
    clear hyx
    go_wp2_with (go_at_call 109;refine (HX.out _).mono ?_;rintro e w2 ⟨rfl,Ab⟩;have Ad:=Hd Ab;clear Ab)
    go_roundw
    case rel=>
     refine ⟨k + 1,by omega,by go_num,fun j hj hjk => ?_,Bt HB.out Ad.out⟩
     by_cases hjk':j < k
     ·exact HA.out j hj hjk'
     ·obtain rfl:j=k:=by omega
      exact HY.out
    case measure=>simp [intOf];omega
   ·rw [show (!Tess.vO ⟨l[k].s,l[k].null⟩)=_ from hyx] at HX
    have HY:=Hd hyx
    clear hyx
    go_wp2_with (go_at_call 109;refine (HX.out _).mono ?_;rintro e w2 ⟨rfl,Ab⟩;have Ad:=Hd Ab;clear Ab)
    go_ret
    refine ⟨(k:Int),rfl,?_,Bt HB.out Ad.out⟩
    rw [decide_eq_true (by omega),eq_comm,List.any_eq_true]
    exact ⟨l[k],List.getElem_mem hlt,HY.out⟩
  ·have Af:¬ (k:Int) < (l.length:Int):=by omega
   go_wp2
   go_ret
   refine ⟨-1,rfl,?_,HB.out⟩
   rw [decide_eq_false (by omega),eq_comm,List.any_eq_false]
   intro y hy
   obtain ⟨j,hj,rfl⟩:=List.getElem_of_mem hy
   rw [HA.out j hj (by omega)];simp
theorem co2 (p:Nat→Prop) (v:Value) (l:List Tess.Val) (w:World) (hv:VA p w v l) :
  Calls Tryz.prog 111 #[v,.func (.func 109) #[] #[]] w fun e w'=>e = .returned (.bool (!l.all Tess.vO))∧Below w.heap.size w w':=by
 have HI:=Hd (io2 p v l w hv)
 obtain ⟨a,Aa,rfl,_⟩:=hv
 go_enter Tryz.func111,Tryz.ntmps111
 go_wp2_with (go_at_call 153;refine HI.out.mono ?_;rintro e w2 ⟨i,rfl,hi,hB⟩;have HH:=Hd hi;have HB:=Hd hB;clear hi hB)
 go_ret
 refine ⟨?_,HB.out⟩
 rw [show (!l.all Tess.vO)=l.any fun x => !Tess.vO x by simp [List.all_eq_not_any_not],← HH.out];rfl
end Go.Proofs.YtjdccifdkjnknaaGreatDoor
namespace Go.Proofs.YtjdccifdkjnknaaGreatDoor
open Go.RowKit Go.Sort
open Tess (Fil)
set_option maxRecDepth 100000 in
set_option maxHeartbeats 2000000 in
theorem sFa (p:Nat→Prop) (vs vr:Value) (s:Tess.Sch) (t:Int) (l:List Tess.Val) (ns:List Int) (w:World) (hs:SA p w vs s) (hr:RA3 p w vr t l ns) :
  Calls Tryz.prog 57 #[vs,vr] w fun e w'=>e = .returned (.bool (Tess.rowFits s t l ns.length))∧Below w.heap.size w w':=by
 have HR:=Hd (fun W (hB:Below w.heap.size w W)=>sRa vs s p W (hs.ag (Ag.new p hB)))
 obtain ⟨vd,vm,rfl,hd,hm,_,_⟩:=hs
 obtain ⟨ad,Ad,rfl,_⟩:=sl3 hd
 obtain ⟨am,Ae,rfl,_⟩:=sl3 hm
 obtain ⟨Ah,na,nc,rfl,_,hv,_⟩:=hr
 have HC:=Hd (fun W (hB:Below w.heap.size w W)=>co2 p Ah l W (hv.ag (Ag.new p hB)))
 obtain ⟨da,dc,rfl,_⟩:=hv
 clear hd hm
 obtain ⟨W0,Aj⟩:∃ W0,(w.alloc (.cells #[.slice ad s.dims.length Ad,.slice am s.mets.length Ae,.int .i64 s.grain] 24)).alloc (.cells #[.int .i64 t,.slice da l.length dc,.slice na ns.length nc] 51)=W0:=⟨_,rfl⟩
 obtain ⟨h0,h1,hS,hB⟩:=la3 w (.cells #[.slice ad s.dims.length Ad,.slice am s.mets.length Ae,.int .i64 s.grain] 24) (.cells #[.int .i64 t,.slice da l.length dc,.slice na ns.length nc] 51)
 rw [Aj] at h0 h1 hS hB
 obtain ⟨⟨x0,x1,x2⟩,_⟩:=can3 h0
 have H0:=Hd h0
 have H1:=Hd h1
 have HB:=Hd hB
 have HS:=Hd hS
 have Aa:∀ W,Below W0.heap.size W0 W→W.heap[w.heap.size]? = _∧W.heap[w.heap.size + 1]? = _:=fun W hW=>⟨(hW.block _ (by omega)).trans h0,(hW.block _ (by omega)).trans h1⟩
 have Ai:=Hd Aa
 clear h0 h1 hS hB Aa
 have HE:RowKit.Hid (Tess.rowFits s t l ns.length=(Tess.sO s && decide (0≤t) && decide (t≤1000000000000) && decide (l.length=s.dims.length) && decide (ns.length=s.mets.length) && l.all Tess.vO)):=Hd rfl
 cases hok:Tess.sO s
 ·rw [hok] at HR HE
  go_enter Tryz.func57,Tryz.ntmps57
  go_wp2_with (go_at_call 23;refine (HR.out _ HB.out).mono ?_;rintro e w2 ⟨rfl,Ac⟩;have Ab:=Hd (Bt HB.out Ac);clear Ac)
  go_ret
  exact ⟨by rw [HE.out];rfl,Ab.out⟩
 ·rw [hok,Bool.true_and] at HE
  rw [hok] at HR
  go_enter Tryz.func57,Tryz.ntmps57
  go_wp2_with (fail)
  go_at_call 23
  refine (HR.out _ HB.out).mono ?_
  rintro e w2 ⟨rfl,Ac⟩
  obtain ⟨q0,q1⟩:=Ai.out w2 Ac
  have Ab:=Hd (Bt HB.out Ac)
  clear Ac x0 x1 x2 hok HR
  obtain ⟨⟨x0,x1,x2⟩,_⟩:=can3 q0
  obtain ⟨⟨y0,y1,y2⟩,_⟩:=can3 q1
  clear q0 q1
  by_cases h1:0≤t
  ·have d1:decide (0≤t)=true:=decide_eq_true h1
   rw [d1] at HE
   by_cases h2:t≤1000000000000
   ·have d2:decide (t≤1000000000000)=true:=decide_eq_true h2
    rw [d2] at HE
    by_cases h3:l.length=s.dims.length
    ·have d3:((l.length:Int) == (s.dims.length:Int))=true:=beq_iff_eq.2 (by omega)
     rw [decide_eq_true h3] at HE
     by_cases h4:ns.length=s.mets.length
     ·have d4:((ns.length:Int) == (s.mets.length:Int))=true:=beq_iff_eq.2 (by omega)
      rw [decide_eq_true h4] at HE
      clear h3 h4
      generalize l.all Tess.vO=r at HC HE
      go_wp2_with (go_at_call 111;refine (HC.out _ Ab.out).mono ?_;rintro e w3 ⟨rfl,Af⟩;have Ak:=Hd (Bt Ab.out Af);clear Af)
      go_ret
      exact ⟨by rw [HE.out];simp,Ak.out⟩
     ·have d4:((ns.length:Int) == (s.mets.length:Int))=false:=beq_eq_false_iff_ne.2 (by omega)
      rw [decide_eq_false h4] at HE
      clear h3 h4
      go_wp2
      go_ret
      exact ⟨by rw [HE.out];simp,Ab.out⟩
    ·have d3:((l.length:Int) == (s.dims.length:Int))=false:=beq_eq_false_iff_ne.2 (by omega)
     rw [decide_eq_false h3] at HE
     clear h3
     go_wp2
     go_ret
     exact ⟨by rw [HE.out];simp,Ab.out⟩
   ·have d2:decide (t≤1000000000000)=false:=decide_eq_false h2
    rw [d2] at HE
    go_wp2
    go_ret
    exact ⟨by rw [HE.out];simp,Ab.out⟩
  ·have d1:decide (0≤t)=false:=decide_eq_false h1
   rw [d1] at HE
   go_wp2
   go_ret
   exact ⟨by rw [HE.out];simp,Ab.out⟩
end Go.Proofs.YtjdccifdkjnknaaGreatDoor
