/- Joined by mergeK.py: F38, F39, K14, K15 -/
import Derived.Test.YtjdccifdkjnknaaGreatDoorAC17
import Derived.Lib.SliceRun
import Derived.Test.YtjdccifdkjnknaaGreatDoorAC04
namespace Go.Proofs.YtjdccifdkjnknaaGreatDoor
open Go.RowKit Go.Sort
open Tess (Fil)
open Tess.Fil (spanOk gO2 sF2 spanHas)
set_option maxRecDepth 100000 in
theorem iTa (t:Int) (w:World):Calls Tryz.prog 112 #[.int .i64 t] w fun e w'=>e = .returned (.bool (decide (0≤t) && decide (t < 1000000000001)))∧w=w':=by
 by_cases h1:0≤t
 ·have d1:decide (0≤t)=true:=decide_eq_true h1
  rw [d1,Bool.true_and]
  generalize hr:decide (t < 1000000000001)=r
  go_enter Tryz.func112,Tryz.ntmps112
  go_wp2
  go_ret
  exact ⟨rfl,rfl⟩
 ·have d1:decide (0≤t)=false:=decide_eq_false h1
  rw [d1,Bool.false_and]
  go_enter Tryz.func112,Tryz.ntmps112
  go_wp2
  go_ret
  exact ⟨rfl,rfl⟩
set_option maxRecDepth 100000 in
theorem gCa (t g:Int) (w:World) (ht:0≤t∧t≤1000000000000) (hg:1≤g∧g≤1000000000):Calls Tryz.prog 58 #[.int .i64 t,.int .i64 g] w fun e w'=>e = .returned (.tuple #[.int .i64 (t - t % g),.int .i64 0])∧Below w.heap.size w w':=by
 have HT:=Hd (iTa t w)
 rw [decide_eq_true ht.1,decide_eq_true (show t < 1000000000001 by omega)] at HT
 have HG:=Hd (areGrains1 w.heap.size g (w.alloc (.cells #[.int .i64 g] 2)) (cob (la2 w _).1).1)
 rw [show gO2 g=true by unfold gO2;rw [decide_eq_true hg.1,decide_eq_true hg.2];rfl] at HG
 have HB:=Hd (la2 w (.cells #[.int .i64 g] 2)).2.2
 obtain ⟨Aa,Ac⟩:=ht
 obtain ⟨Ab,Af⟩:=hg
 have Ad:0≤t % g:=Int.emod_nonneg _ (by omega)
 have Ag:t % g≤t:=by
  have:=Int.mul_nonneg (show 0≤g by omega) (Int.ediv_nonneg Aa (show 0≤g by omega))
  rw [Int.emod_def];omega
 have Ae:(g == 0)=false:=beq_eq_false_iff_ne.2 (by omega)
 go_enter Tryz.func58,Tryz.ntmps58
 go_wp2_with (first | (go_at_call 112;refine HT.out.mono ?_;rintro e w2 ⟨rfl,rfl⟩) | (go_at_call 113;refine HG.out.mono ?_;rintro e w2 ⟨rfl,rfl⟩))
 refine bodyPost_ret (v:=.tuple #[.int .i64 (t - t % g),.int .i64 0]) (by simp [results,Tryz.results58,go_sem]) rfl ⟨rfl,HB.out⟩
theorem infoI64:(Tryz.prog.info? 2).map (fun i=>(i.zero,i.size,i.bytes))=some (some (.int .i64 0),1,8):=by kernel_rfl
theorem iW:(Tryz.prog.info? 100).map (fun i=>(i.zero,i.size,i.bytes))=some (some (.agg #[.int .i64 0,.int .u64 0]),2,16):=by kernel_rfl
set_option maxRecDepth 100000 in
theorem cIa (a:Option Addr) (n cap:Nat) (xs:List Value) (w:World) (hn:n≤1000000) (hx:xs.length=n * 1) (hnil:a=none→n=0∧cap=0) (hc:∀ ad,a=some ad→∀ j u,xs[j]? = some u→w.cell? (ad.add j)=some u) (h1:∀ u ∈ xs,u.oneCell'=true) :
  Calls Tryz.prog 116 #[.slice a n cap] w fun e w' => ∃ v',e = .returned v'∧w'.ownsRow w.heap.size 2 1 v' n xs∧(v' = .slice none 0 0∨∃ g c,v' = .slice (some ⟨g,0,none⟩) n c)∧Below w.heap.size w w':=by
 obtain ⟨i0,hi,Ac,Ae,Ag⟩:=info_parts infoI64
 have q:∀ (w:World) (a:Option Addr) (n c n' c':Nat),(binOp .eql 49 (.slice a n c) (.slice none n' c')).run Tryz.prog w = .ok (.bool a.isNone) w:=fun w a n c n' c'=>Lib.run_eql_slice_nil w _ _ a n c n' c' Tryz.underlying49
 cases a with
 | none=>
   obtain ⟨rfl,rfl⟩:=hnil rfl
   have Aj:xs=[]:=List.eq_nil_of_length_eq_zero (by simpa using hx)
   subst Aj
   clear hc h1 hnil hx
   go_enter Tryz.func116,Tryz.ntmps116
   go_wp2
   go_ret
   exact ⟨_,rfl,World.ownsRow_nil _ _ _ _,.inl rfl,Below.refl _ _⟩
 | some ad=>
   obtain ⟨hA,hS,hB⟩:=la2 w (.cells #[] 2)
   have HO:=Hd (show (w.alloc (.cells #[] 2)).ownsRow w.heap.size 2 1 (.slice (some ⟨w.heap.size,0,none⟩) 0 0) 0 [] from ⟨rfl,.inr ⟨w.heap.size,0,#[],rfl,Nat.le_refl _,hA,Nat.le_refl _,by decide,rfl,rfl⟩⟩)
   have HC:=Hd (show ∀ j u,xs[j]? = some u→(w.alloc (.cells #[] 2)).cell? (ad.add j)=some u from fun j u hj=>by
    have h:=hc ad rfl j u hj
    rw [← h]
    exact hB.cell (World.block_lt_of_cell? w _ h))
   have HB:=Hd hB
   have HX:=Hd hx
   have HH:=Hd h1
   clear hA hS hB hc hnil hx h1
   go_enter Tryz.func116,Tryz.ntmps116
   go_wp2_with (have Af:=HO;clear Af;at_builtin;refine wpList_append_own_at _ rfl _ _ 49 rfl w.heap.size 2 i0 _ 1 8 Tryz.underlying49 hi Ac Ae Ag rfl (by decide) _ 0 [] rfl HO.out ad n cap xs rfl HX.out HC.out HH.out ?_ ?_ ?_ ?_)
   ·unfold maxLen;omega
   ·omega
   ·simp
   intro v3 w3 Aa Ab _ Ad
   try simp only [Nat.zero_add,List.nil_append] at Aa
   have Ai:=Hd Aa
   have Ak:=Hd (HB.out.grown Ab (by simp) (fun g e=>(HO.out.lt g e).1))
   have Ah:=Hd (show v3 = .slice none 0 0∨∃ g c,v3 = .slice (some ⟨g,0,none⟩) n c from by
    rcases Aa.2 with ⟨e,_⟩ | ⟨g,c,_,e,_⟩
    ·exact .inl e
    ·exact .inr ⟨g,c,e⟩)
   clear Aa Ab Ad
   go_wp2
   go_ret
   exact ⟨_,rfl,Ai.out,Ah.out,Ak.out⟩
set_option maxRecDepth 100000 in
theorem cWa (a:Option Addr) (n cap:Nat) (xs:List Value) (w:World) (hn:n≤1000000) (hx:xs.length=n * 2) (hnil:a=none→n=0∧cap=0) (hc:∀ ad,a=some ad→∀ j u,xs[j]? = some u→w.cell? (ad.add j)=some u) (h1:∀ u ∈ xs,u.oneCell'=true) :
  Calls Tryz.prog 115 #[.slice a n cap] w fun e w' => ∃ v',e = .returned v'∧w'.ownsRow w.heap.size 100 2 v' n xs∧(v' = .slice none 0 0∨∃ g c,v' = .slice (some ⟨g,0,none⟩) n c)∧Below w.heap.size w w':=by
 obtain ⟨i0,hi,Ac,Ae,Ag⟩:=info_parts iW
 have q:∀ (w:World) (a:Option Addr) (n c n' c':Nat),(binOp .eql 54 (.slice a n c) (.slice none n' c')).run Tryz.prog w = .ok (.bool a.isNone) w:=fun w a n c n' c'=>Lib.run_eql_slice_nil w _ _ a n c n' c' Tryz.underlying54
 cases a with
 | none=>
   obtain ⟨rfl,rfl⟩:=hnil rfl
   have Aj:xs=[]:=List.eq_nil_of_length_eq_zero (by simpa using hx)
   subst Aj
   clear hc h1 hnil hx
   go_enter Tryz.func115,Tryz.ntmps115
   go_wp2
   go_ret
   exact ⟨_,rfl,World.ownsRow_nil _ _ _ _,.inl rfl,Below.refl _ _⟩
 | some ad=>
   obtain ⟨hA,hS,hB⟩:=la2 w (.cells #[] 100)
   have HO:=Hd (show (w.alloc (.cells #[] 100)).ownsRow w.heap.size 100 2 (.slice (some ⟨w.heap.size,0,none⟩) 0 0) 0 [] from ⟨rfl,.inr ⟨w.heap.size,0,#[],rfl,Nat.le_refl _,hA,Nat.le_refl _,by decide,rfl,rfl⟩⟩)
   have HC:=Hd (show ∀ j u,xs[j]? = some u→(w.alloc (.cells #[] 100)).cell? (ad.add j)=some u from fun j u hj=>by
    have h:=hc ad rfl j u hj
    rw [← h]
    exact hB.cell (World.block_lt_of_cell? w _ h))
   have HB:=Hd hB
   have HX:=Hd hx
   have HH:=Hd h1
   clear hA hS hB hc hnil hx h1
   go_enter Tryz.func115,Tryz.ntmps115
   go_wp2_with (have Af:=HO;clear Af;at_builtin;refine wpList_append_own_at _ rfl _ _ 54 rfl w.heap.size 100 i0 _ 2 16 Tryz.underlying54 hi Ac Ae Ag rfl (by decide) _ 0 [] rfl HO.out ad n cap xs rfl HX.out HC.out HH.out ?_ ?_ ?_ ?_)
   ·unfold maxLen;omega
   ·omega
   ·simp
   intro v3 w3 Aa Ab _ Ad
   try simp only [Nat.zero_add,List.nil_append] at Aa
   have Ai:=Hd Aa
   have Ak:=Hd (HB.out.grown Ab (by simp) (fun g e=>(HO.out.lt g e).1))
   have Ah:=Hd (show v3 = .slice none 0 0∨∃ g c,v3 = .slice (some ⟨g,0,none⟩) n c from by
    rcases Aa.2 with ⟨e,_⟩ | ⟨g,c,_,e,_⟩
    ·exact .inl e
    ·exact .inr ⟨g,c,e⟩)
   clear Aa Ab Ad
   go_wp2
   go_ret
   exact ⟨_,rfl,Ai.out,Ah.out,Ak.out⟩
set_option maxRecDepth 100000 in
theorem cVa (a:Option Addr) (n cap:Nat) (xs:List Value) (w:World) (hn:n≤1000000) (hx:xs.length=n * 2) (hnil:a=none→n=0∧cap=0) (hc:∀ ad,a=some ad→∀ j u,xs[j]? = some u→w.cell? (ad.add j)=some u) (h1:∀ u ∈ xs,u.oneCell'=true) :
  Calls Tryz.prog 114 #[.slice a n cap] w fun e w' => ∃ v',e = .returned v'∧w'.ownsRow w.heap.size 47 2 v' n xs∧(v' = .slice none 0 0∨∃ g c,v' = .slice (some ⟨g,0,none⟩) n c)∧Below w.heap.size w w':=by
 obtain ⟨i0,hi,Ac,Ae,Ag⟩:=info_parts iV
 have q:∀ (w:World) (a:Option Addr) (n c n' c':Nat),(binOp .eql 48 (.slice a n c) (.slice none n' c')).run Tryz.prog w = .ok (.bool a.isNone) w:=fun w a n c n' c'=>Lib.run_eql_slice_nil w _ _ a n c n' c' Tryz.underlying48
 cases a with
 | none=>
   obtain ⟨rfl,rfl⟩:=hnil rfl
   have Aj:xs=[]:=List.eq_nil_of_length_eq_zero (by simpa using hx)
   subst Aj
   clear hc h1 hnil hx
   go_enter Tryz.func114,Tryz.ntmps114
   go_wp2
   go_ret
   exact ⟨_,rfl,World.ownsRow_nil _ _ _ _,.inl rfl,Below.refl _ _⟩
 | some ad=>
   obtain ⟨hA,hS,hB⟩:=la2 w (.cells #[] 47)
   have HO:=Hd (show (w.alloc (.cells #[] 47)).ownsRow w.heap.size 47 2 (.slice (some ⟨w.heap.size,0,none⟩) 0 0) 0 [] from ⟨rfl,.inr ⟨w.heap.size,0,#[],rfl,Nat.le_refl _,hA,Nat.le_refl _,by decide,rfl,rfl⟩⟩)
   have HC:=Hd (show ∀ j u,xs[j]? = some u→(w.alloc (.cells #[] 47)).cell? (ad.add j)=some u from fun j u hj=>by
    have h:=hc ad rfl j u hj
    rw [← h]
    exact hB.cell (World.block_lt_of_cell? w _ h))
   have HB:=Hd hB
   have HX:=Hd hx
   have HH:=Hd h1
   clear hA hS hB hc hnil hx h1
   go_enter Tryz.func114,Tryz.ntmps114
   go_wp2_with (have Af:=HO;clear Af;at_builtin;refine wpList_append_own_at _ rfl _ _ 48 rfl w.heap.size 47 i0 _ 2 24 Tryz.underlying48 hi Ac Ae Ag rfl (by decide) _ 0 [] rfl HO.out ad n cap xs rfl HX.out HC.out HH.out ?_ ?_ ?_ ?_)
   ·unfold maxLen;omega
   ·omega
   ·simp
   intro v3 w3 Aa Ab _ Ad
   try simp only [Nat.zero_add,List.nil_append] at Aa
   have Ai:=Hd Aa
   have Ak:=Hd (HB.out.grown Ab (by simp) (fun g e=>(HO.out.lt g e).1))
   have Ah:=Hd (show v3 = .slice none 0 0∨∃ g c,v3 = .slice (some ⟨g,0,none⟩) n c from by
    rcases Aa.2 with ⟨e,_⟩ | ⟨g,c,_,e,_⟩
    ·exact .inl e
    ·exact .inr ⟨g,c,e⟩)
   clear Aa Ab Ad
   go_wp2
   go_ret
   exact ⟨_,rfl,Ai.out,Ah.out,Ak.out⟩
end Go.Proofs.YtjdccifdkjnknaaGreatDoor
namespace Go.Proofs.YtjdccifdkjnknaaGreatDoor
open Go.RowKit Go.Sort
open Tess (Fil)
def CO2 (w:World) (size:Nat) (v:Value):Prop:=∃ (a:Option Addr) (n cap:Nat) (xs:List Value),v = .slice a n cap∧n≤1000000∧xs.length=n * size∧(a=none→n=0∧cap=0)∧(∀ ad,a=some ad→∀ j u,xs[j]? = some u→w.cell? (ad.add j)=some u)∧∀ u ∈ xs,u.oneCell'=true
theorem CO2.below {w w':World} {size:Nat} {v:Value} (h:CO2 w size v) (hb:Below w.heap.size w w'):CO2 w' size v:=by
 obtain ⟨a,n,Aa,xs,h1,h2,h3,h4,h5,h6⟩:=h
 exact ⟨a,n,Aa,xs,h1,h2,h3,h4,fun ad e j u hj=>(hb.cell (World.block_lt_of_cell? w _ (h5 ad e j u hj))).trans (h5 ad e j u hj),h6⟩
theorem CO2.shape {w:World} {size:Nat} {v:Value} (h:CO2 w size v):∃ a n c,v = .slice a n c:=let ⟨a,n,c,_,h1,_⟩:=h;⟨a,n,c,h1⟩
theorem CO2.nil (w:World) (size:Nat):CO2 w size (.slice none 0 0):=⟨none,0,0,[],rfl,Nat.zero_le _,by simp,(fun _=>⟨rfl,rfl⟩),(fun _ e=>by cases e),(fun u hu=>by cases hu)⟩
theorem vals_clone {w:World} {base:Nat} {t:TypeId} {v:Value} {l:List Tess.Val} (h:w.ownsRow base t 2 v l.length (vC l)) (hs:∀ x ∈ l,x.s.size≤maxLen) (hl:l.length≤maxLen) (hsh:v = .slice none 0 0∨∃ g c,v = .slice (some ⟨g,0,none⟩) l.length c):VA (fun b=>base≤b) w v l:=by
 rcases Nat.eq_zero_or_pos l.length with h0 | h0
 ·rcases hsh with rfl | ⟨g,c,rfl⟩
  ·exact ⟨none,0,by rw [h0],hl,hs,fun _=>rfl,fun h=>by omega⟩
  ·exact ⟨_,c,rfl,hl,hs,(fun e=>by cases e),fun h=>by omega⟩
 ·obtain ⟨g,Aa,hv,hb,hg,_,_,hc⟩:=oca h h0
  refine ⟨_,_,hv,hl,hs,(fun e=>by cases e),fun _=>⟨g,0,rfl,hg,hb,fun j hj => ?_⟩⟩
  have:=vCa l j hj
  exact ⟨by rw [Nat.zero_add,hc _ (by omega)];exact this.1,by rw [Nat.zero_add,hc _ (by omega)];exact this.2⟩
theorem vCg (l:List Tess.Val):∀ (j:Nat) (u:Value),(vC l)[j]? = some u→∃ k,∃ h:k < l.length,(j=k * 2∧u = .string l[k].s)∨(j=k * 2 + 1∧u = .bool l[k].null):=by
 intro j u hj
 have Aa:j < l.length * 2:=by
  obtain ⟨h,_⟩:=List.getElem?_eq_some_iff.1 hj
  rwa [vCl] at h
 refine ⟨j / 2,by omega,?_⟩
 have:=vCa l (j / 2) (by omega)
 rcases Nat.mod_two_eq_zero_or_one j with h | h
 ·refine .inl ⟨by omega,?_⟩
  rw [show j=j / 2 * 2 by omega,this.1] at hj
  exact (Option.some.inj hj).symm
 ·refine .inr ⟨by omega,?_⟩
  rw [show j=j / 2 * 2 + 1 by omega,this.2] at hj
  exact (Option.some.inj hj).symm
theorem cloneV_any (p:Nat→Prop) (v:Value) (l:List Tess.Val) (w:World) (hv:VA p w v l) (hl:l.length≤1000000) :
  Calls Tryz.prog 114 #[v] w fun e w' => ∃ v',e = .returned v'∧VA (fun b=>w.heap.size≤b) w' v' l∧Below w.heap.size w w':=by
 obtain ⟨a,Ae,rfl,Ad,hs,Ab,hc⟩:=hv
 refine (cVa a l.length Ae (vC l) w hl (vCl l) (fun e=>⟨?_,Ab e⟩) (fun ad e j u hj => ?_) (fun u hu => ?_)).mono ?_
 ·rcases Nat.eq_zero_or_pos l.length with h | h
  ·exact h
  ·obtain ⟨b,Ac,ha,_⟩:=hc h
   rw [e] at ha;cases ha
 ·obtain ⟨k,hk,h⟩:=vCg l j u hj
  obtain ⟨b,Ac,ha,_,_,Aa⟩:=hc (by omega)
  rw [e] at ha
  cases ha
  rw [show (⟨b,Ac,none⟩:Addr).add j=⟨b,Ac + j,none⟩ by unfold Addr.add;split <;> simp_all]
  rcases h with ⟨rfl,rfl⟩ | ⟨rfl,rfl⟩
  ·exact (Aa k hk).1
  ·exact (Aa k hk).2
 ·obtain ⟨j,hj⟩:=List.getElem?_of_mem hu
  obtain ⟨k,hk,h⟩:=vCg l j u hj
  rcases h with ⟨_,rfl⟩ | ⟨_,rfl⟩ <;> rfl
 ·rintro e w' ⟨v',rfl,h1,h2,h3⟩
  exact ⟨v',rfl,vals_clone h1 hs Ad h2,h3⟩
theorem two13 {w W:World} {B:Nat} {t:TypeId} {x0 x1 x2 x3 x4 x5:Value} (y1 y3:Value) (h:W.heap[B]? = some (.cells #[x0,x1,x2,x3,x4,x5] t (0,0))) (hb:Below w.heap.size w W) (hB:w.heap.size≤B) :
  ∃ W3,((W.setCell ⟨B,1,none⟩ y1).setCell ⟨B,3,none⟩ y3)=W3∧W3.heap[B]? = some (.cells #[x0,y1,x2,y3,x4,x5] t (0,0))∧(∀ k,k≠B→W3.heap[k]? = W.heap[k]?)∧W3.heap.size=W.heap.size∧Below w.heap.size w W3:=
 ⟨_,rfl,heap_setCell_same _ _ _ _ _ _ (heap_setCell_same _ _ _ _ _ _ h),fun _ hk=>(heap_setCell_other _ _ _ _ hk).trans (heap_setCell_other _ _ _ _ hk),by simp [World.setCell],(hb.setCell hB _).setCell hB _⟩
theorem two45 {w W:World} {B:Nat} {t:TypeId} {x0 x1 x2 x3 x4 x5:Value} (y4 y5:Value) (h:W.heap[B]? = some (.cells #[x0,x1,x2,x3,x4,x5] t (0,0))) (hb:Below w.heap.size w W) (hB:w.heap.size≤B) :
  ∃ W3,((W.setCell ⟨B,4,none⟩ y4).setCell ⟨B,5,none⟩ y5)=W3∧W3.heap[B]? = some (.cells #[x0,x1,x2,x3,y4,y5] t (0,0))∧(∀ k,k≠B→W3.heap[k]? = W.heap[k]?)∧W3.heap.size=W.heap.size∧Below w.heap.size w W3:=
 ⟨_,rfl,heap_setCell_same _ _ _ _ _ _ (heap_setCell_same _ _ _ _ _ _ h),fun _ hk=>(heap_setCell_other _ _ _ _ hk).trans (heap_setCell_other _ _ _ _ hk),by simp [World.setCell],(hb.setCell hB _).setCell hB _⟩
end Go.Proofs.YtjdccifdkjnknaaGreatDoor
namespace Go.Proofs.YtjdccifdkjnknaaGreatDoor
open Go.RowKit Go.Sort
open Tess (CK Pay)
theorem flat_at {α:Type} {k:Nat} {f:α→List Value} (hk:0 < k) {l:List α} (h:∀ x ∈ l,(f x).length=k) {j:Nat} {u:Value} (hj:(l.flatMap f)[j]? = some u):∃ q i,∃ hq:q < l.length,i < k∧j=q * k + i∧(f l[q])[i]? = some u:=by
 have Aa:∀ l:List α,(∀ x ∈ l,(f x).length=k)→(l.flatMap f).length=l.length * k:=fun l=>by
  induction l with
  | nil=>intro _;simp
  | cons a r ih=>intro h;rw [List.flatMap_cons,List.length_append,ih fun x hx=>h x (List.mem_cons_of_mem _ hx),h a (List.mem_cons_self),List.length_cons,Nat.succ_mul];omega
 obtain ⟨Ab,_⟩:=List.getElem?_eq_some_iff.1 hj
 rw [Aa l h] at Ab
 have hq:j / k < l.length:=Nat.div_lt_of_lt_mul (by rw [Nat.mul_comm];exact Ab)
 have hi:j % k < k:=Nat.mod_lt _ hk
 have e:j=j / k * k + j % k:=by rw [Nat.mul_comm];exact (Nat.div_add_mod j k).symm
 refine ⟨j / k,j % k,hq,hi,e,?_⟩
 rw [← flatK l h (j / k) (j % k) hq hi,← e];exact hj
def blkN:Value→Option Nat
 | .slice (some a) (_ + 1) _=>some a.block
 | _=>none
def Fr (w:World) (v:Value):Prop:=∀ b,blkN v=some b→∃ cur T,w.heap[b]? = some (.cells cur T (0,0))
theorem Fr.same {w w':World} {v:Value} (h:Fr w v) (hs:∀ b,blkN v=some b→w'.heap[b]? = w.heap[b]?):Fr w' v:=fun b hb=>let ⟨c,T,e⟩:=h b hb;⟨c,T,(hs b hb).trans e⟩
theorem Fr.below {w w':World} {v:Value} (h:Fr w v) (hb:Below w.heap.size w w'):Fr w' v:=fun b hv=>let ⟨c,T,e⟩:=h b hv;⟨c,T,(hb.block _ (Array.getElem?_eq_some_iff.1 e).1).trans e⟩
def Clones (F:FuncId) (T:TypeId) (k:Nat):Prop:=∀ (a:Option Addr) (n cap:Nat) (xs:List Value) (w:World),n≤1000000→xs.length=n * k→(a=none→n=0∧cap=0)→(∀ ad,a=some ad→∀ j u,xs[j]? = some u→w.cell? (ad.add j)=some u)→(∀ u ∈ xs,u.oneCell'=true) →
 Calls Tryz.prog F #[.slice a n cap] w fun e w' => ∃ v',e = .returned v'∧w'.ownsRow w.heap.size T k v' n xs∧(v' = .slice none 0 0∨∃ g c,v' = .slice (some ⟨g,0,none⟩) n c)∧Below w.heap.size w w'
theorem cr2 {α:Type} {F:FuncId} {T:TypeId} {k:Nat} {f:α→List Value} (hk:0 < k) (hf:∀ x,(f x).length=k) (h1:∀ x,∀ u ∈ f x,u.oneCell'=true) (H:Clones F T k) {p:Nat→Prop} {w:World} {v:Value} {l:List α} (hv:RA k f p w v l) (hl:l.length≤1000000) :
  Calls Tryz.prog F #[v] w fun e w' => ∃ v',e = .returned v'∧(RA k f (fun b=>w.heap.size≤b∧b < w'.heap.size) w' v' l∧Fr w' v')∧Below w.heap.size w w':=by
 obtain ⟨a,Ak,rfl,h2,h3,Ac,hc⟩:=hv
 have Ab:(l.flatMap f).length=l.length * k:=by
  clear hc hl h2 h3
  induction l with
  | nil=>simp
  | cons a r ih=>rw [List.flatMap_cons,List.length_append,ih,hf,List.length_cons,Nat.succ_mul];omega
 refine (H a l.length Ak (l.flatMap f) w hl Ab (fun e=>⟨?_,Ac e⟩) (fun ad e j u hj => ?_) (fun u hu => ?_)).mono ?_
 ·rcases Nat.eq_zero_or_pos l.length with h | h
  ·exact h
  ·obtain ⟨b,Ai,ha,_⟩:=hc h
   rw [e] at ha;cases ha
 ·obtain ⟨q,i,hq,hi,rfl,he⟩:=flat_at hk (fun x _=>hf x) hj
  obtain ⟨b,Ai,ha,_,_,Aa⟩:=hc (by omega)
  rw [e] at ha
  cases ha
  rw [addr_add,← Nat.add_assoc,Aa q hq i hi,he]
 ·obtain ⟨x,_,hx⟩:=List.mem_flatMap.1 hu
  exact h1 x u hx
 ·rintro e w' ⟨v',rfl,ho,Am,hb⟩
  refine ⟨v',rfl,?_,hb⟩
  rcases ho.2 with ⟨rfl,h0⟩ | ⟨g,Aj,An,rfl,hg,hh,Ad,hm,_⟩
  ·have:l=[]:=List.eq_nil_of_length_eq_zero h0
   subst this
   exact ⟨RA.nil _ _ _ _,fun b hb=>by cases hb⟩
  ·have Ae:g < w'.heap.size:=(Array.getElem?_eq_some_iff.1 hh).1
   refine ⟨⟨_,_,rfl,h2,Ad,(fun e=>by cases e),fun h0=>⟨g,0,rfl,Ae,⟨hg,Ae⟩,fun j hj i hi => ?_⟩⟩,fun b hb => ?_⟩
   rotate_left
   ·unfold blkN at hb
    split at hb
    ·rename_i a' n' c' heq
     simp only [Value.slice.injEq,Option.some.injEq] at heq
     obtain ⟨rfl,_,_⟩:=heq
     cases hb;exact ⟨_,_,hh⟩
    ·cases hb
   obtain ⟨g',Ah,Ag,_,_,_,_,Al⟩:=oca ho h0
   cases Ag
   have Af:j * k + i < l.length * k:=by
    have:=Nat.mul_le_mul_right k (show j + 1≤l.length from hj)
    rw [Nat.succ_mul] at this;omega
   rw [Nat.zero_add,Al _ Af]
   exact flatK l (fun x _=>hf x) j i hj hi
theorem wFo (n:Int):∀ u ∈ wF n,u.oneCell'=true:=fun u hu=>by
 simp only [wF,List.mem_cons,List.not_mem_nil,or_false] at hu
 rcases hu with rfl | rfl <;> rfl
theorem intF_one (n:Int):∀ u ∈ intF n,u.oneCell'=true:=fun u hu=>by
 simp only [intF,List.mem_cons,List.not_mem_nil,or_false] at hu
 rw [hu];rfl
theorem cloneI6 {p:Nat→Prop} {w:World} {v:Value} {l:List Int} (hv:RA 1 intF p w v l) (hl:l.length≤1000000) :
  Calls Tryz.prog 116 #[v] w fun e w' => ∃ v',e = .returned v'∧(RA 1 intF (fun b=>w.heap.size≤b∧b < w'.heap.size) w' v' l∧Fr w' v')∧Below w.heap.size w w':=
 cr2 (k:=1) (f:=intF) (by omega) (fun _=>rfl) intF_one (fun a n cap xs w h1 h2 h3 h4 h5=>cIa a n cap xs w h1 h2 h3 h4 h5) hv hl
theorem cloneW6 {p:Nat→Prop} {w:World} {v:Value} {l:List Int} (hv:RA 2 wF p w v l) (hl:l.length≤1000000) :
  Calls Tryz.prog 115 #[v] w fun e w' => ∃ v',e = .returned v'∧(RA 2 wF (fun b=>w.heap.size≤b∧b < w'.heap.size) w' v' l∧Fr w' v')∧Below w.heap.size w w':=
 cr2 (k:=2) (f:=wF) (by omega) (fun _=>rfl) wFo (fun a n cap xs w h1 h2 h3 h4 h5=>cWa a n cap xs w h1 h2 h3 h4 h5) hv hl
def muts (cs:List Value):List Nat:=cs.filterMap blkN
theorem RA.blk {α:Type} {k:Nat} {f:α→List Value} {p:Nat→Prop} {w:World} {v:Value} {l:List α} (h:RA k f p w v l) {b:Nat} (hb:blkN v=some b):p b:=by
 obtain ⟨a,Ab,rfl,_,_,_,hc⟩:=h
 cases l with
 | nil=>cases a <;> cases hb
 | cons x l=>
   obtain ⟨b',Aa,rfl,_,hp,_⟩:=hc (by simp)
   cases hb;exact hp
theorem VA.blk {p:Nat→Prop} {w:World} {v:Value} {l:List Tess.Val} (h:VA p w v l) {b:Nat} (hb:blkN v=some b):p b:=by
 obtain ⟨a,Ab,rfl,_,_,_,hc⟩:=h
 cases l with
 | nil=>cases a <;> cases hb
 | cons x l=>
   obtain ⟨b',Aa,rfl,_,hp,_⟩:=hc (by simp)
   cases hb;exact hp
def Free (w:World) (cs:List Value):Prop:=∀ v ∈ cs.drop 3,Fr w v
def isValsX (l:List Tess.Val) (v:Value) (s e:Nat) (W:World):Prop:=VA (fun b=>s≤b∧b < e) W v l
theorem iVX (l:List Tess.Val):FlX.Spec.mono (some (.inr (isValsX l))):=fun _ _ _ _ _ h hb=>VA.ag h (Ag.new _ hb)
def iWX2 (l:List Int) (v:Value) (s e:Nat) (W:World):Prop:=RA 2 wF (fun b=>s≤b∧b < e) W v l∧Fr W v
theorem iWX (l:List Int):FlX.Spec.mono (some (.inr (iWX2 l))):=fun _ _ _ _ _ h hb=>⟨RA.ag h.1 (Ag.new _ hb),h.2.below hb⟩
def iIX (l:List Int) (v:Value) (s e:Nat) (W:World):Prop:=RA 1 intF (fun b=>s≤b∧b < e) W v l∧Fr W v
theorem iIX2 (l:List Int):FlX.Spec.mono (some (.inr (iIX l))):=fun _ _ _ _ _ h hb=>⟨RA.ag h.1 (Ag.new _ hb),h.2.below hb⟩
theorem apart4 {v1 v3 v4 v5:Value} {t n:Int} {p1 p3 p4 p5:Nat→Prop} (h1:∀ b,blkN v1=some b→p1 b) (h3:∀ b,blkN v3=some b→p3 b) (h4:∀ b,blkN v4=some b→p4 b) (h5:∀ b,blkN v5=some b→p5 b)
  (d:∀ b,¬ (p1 b∧p3 b)∧¬ (p1 b∧p4 b)∧¬ (p1 b∧p5 b)∧¬ (p3 b∧p4 b)∧¬ (p3 b∧p5 b)∧¬ (p4 b∧p5 b)):(muts [.int .i64 t,v1,.int .i64 n,v3,v4,v5]).Nodup:=by
 unfold muts
 rw [List.nodup_iff_pairwise_ne,List.pairwise_filterMap]
 have e1:∀ z b,¬ blkN (.int .i64 z)=some b:=fun _ _ e=>by cases e
 have Aa:∀ {u v:Value} {p q:Nat→Prop},(∀ b,blkN u=some b→p b)→(∀ b,blkN v=some b→q b)→(∀ b,¬ (p b∧q b))→∀ b,blkN u=some b→∀ b',blkN v=some b'→b≠b':=fun hu hv hd b hb b' Ab e=>hd b ⟨hu b hb,by rw [e];exact hv b' Ab⟩
 have Af:=Aa h1 h3 fun b=>(d b).1
 have Ac:=Aa h1 h4 fun b=>(d b).2.1
 have Ae:=Aa h1 h5 fun b=>(d b).2.2.1
 have Ad:=Aa h3 h4 fun b=>(d b).2.2.2.1
 have Ag:=Aa h3 h5 fun b=>(d b).2.2.2.2.1
 have Ah:=Aa h4 h5 fun b=>(d b).2.2.2.2.2
 simp only [List.pairwise_cons,List.mem_cons,List.not_mem_nil,or_false,forall_eq_or_imp,forall_eq,List.Pairwise.nil,and_true]
 refine ⟨⟨?_,?_,?_,?_,?_⟩,⟨?_,Af,Ac,Ae⟩,⟨?_,?_,?_⟩,⟨Ad,Ag⟩,Ah,fun _ h=>h.elim⟩
 all_goals first | (intro b hb;exact absurd hb (e1 _ _)) | (intro b hb b' Ab;exact absurd Ab (e1 _ _))
set_option maxRecDepth 100000 in
set_option maxHeartbeats 8000000 in
theorem own6_any (p:Nat→Prop) (cs:List Value) (x:CK×Pay) (w:World) (h:CA3 p w cs x) (hl:x.1.2.length≤1000000∧x.2.sums.length≤1000000∧x.2.mins.length≤1000000∧x.2.maxs.length≤1000000) :
  Calls Tryz.prog 60 #[.agg cs.toArray] w fun e w' => ∃ cs',e = .returned (.agg cs'.toArray)∧CA3 (fun b=>w.heap.size≤b) w' cs' x∧(muts cs').Nodup∧Free w' cs'∧Below w.heap.size w w':=by
 obtain ⟨vd,vs,vn,vx,rfl,hd,hs,hn,hx⟩:=h
 obtain ⟨⟨t,ds⟩,c,sl,nl,xl⟩:=x
 simp only at hd hs hn hx hl ⊢
 have Ax:(ds.map Tess.valOf).length≤1000000:=by rw [List.length_map];exact hl.1
 obtain ⟨l,A3⟩:∃ l,ds.map Tess.valOf=l:=⟨_,rfl⟩
 rw [A3] at hd Ax
 have Bo:=Hd A3
 clear A3
 have HD:=Hd (fun W (hB:Below w.heap.size w W)=>cloneV_any p vd l W (hd.ag (Ag.new p hB)) Ax)
 have HS:=Hd (fun W (hB:Below w.heap.size w W)=>cloneW6 (hs.ag (Ag.new p hB)) hl.2.1)
 have HN:=Hd (fun W (hB:Below w.heap.size w W)=>cloneI6 (hn.ag (Ag.new p hB)) hl.2.2.1)
 have HX:=Hd (fun W (hB:Below w.heap.size w W)=>cloneI6 (hx.ag (Ag.new p hB)) hl.2.2.2)
 obtain ⟨ad,cd,rfl⟩:=hd.shape
 obtain ⟨sa,cs,rfl⟩:=hs.shape
 obtain ⟨an,cn,rfl⟩:=hn.shape
 obtain ⟨ax,cx,rfl⟩:=hx.shape
 clear hs hn hx hd hl Ax
 obtain ⟨W0,A6⟩:∃ W0,((w.alloc (.cells #[.int .i64 t,.slice ad l.length cd,.int .i64 c,.slice sa sl.length cs,.slice an nl.length cn,.slice ax xl.length cx] 80)).alloc (.cells #[.int .i64 0,.slice none 0 0,.int .i64 0,.slice none 0 0,.slice none 0 0,.slice none 0 0] 56)).alloc (.cells #[.int .i64 t,.slice ad l.length cd,.int .i64 c,.slice sa sl.length cs,.slice an nl.length cn,.slice ax xl.length cx] 56)=W0:=⟨_,rfl⟩
 obtain ⟨h0,h1,h2,hS,hB⟩:=laid3 w (.cells #[.int .i64 t,.slice ad l.length cd,.int .i64 c,.slice sa sl.length cs,.slice an nl.length cn,.slice ax xl.length cx] 80) (.cells #[.int .i64 0,.slice none 0 0,.int .i64 0,.slice none 0 0,.slice none 0 0,.slice none 0 0] 56) (.cells #[.int .i64 t,.slice ad l.length cd,.int .i64 c,.slice sa sl.length cs,.slice an nl.length cn,.slice ax xl.length cx] 56)
 rw [A6] at h0 h1 h2 hS hB
 rw [show w.heap.size + 2=w.heap.size + 1 + 1 by omega] at h2
 have H0:=Hd h0
 have H1:=Hd h1
 have H2:=Hd h2
 have HB:=Hd hB
 have Aa:=Hd hS
 go_enter Tryz.func60,Tryz.ntmps60
 go_wp2_with (fail)
 clear A6 h1 h2 hB
 obtain ⟨⟨c0,c1,c2,c3,c4,c5⟩,_⟩:=can6 h0
 have Bu:w.heap.size < W0.heap.size:=by omega
 clear h0 hS
 refine FlX.wrf 9 (FlX.sp3 [some (.inl ?_),some (.inl ?_),some (.inl ?_),some (.inr (isValsX l)),some (.inl ?_),some (.inl ?_),some (.inl ?_),some (.inr (iWX2 sl)),some (.inl ?_)]) (by kernel_rfl) (by kernel_rfl) ?_ ?_
 rotate_left 7
 ·refine FlX.sm2 ?_
  repeat (first | exact FlX.ln2 | refine FlX.li2 ?_ | refine FlX.li3 (iVX _) ?_ | refine FlX.li3 (iWX _) ?_)
 all_goals try simp only [List.take_succ_cons,List.take_zero,List.drop_succ_cons,List.drop_zero]
 iterate 3 (refine FlX.tvK rfl (fun K hK=>⟨fun w hw hG => ?_,?_⟩);(have A5:=Flow.bc4 hw;clear hG hw;unfold FlX.RV Flow.yields;go_simp;try rfl);go_simp;refine hK _ ?_;clear hK K)
 (refine FlX.tvK2 rfl (fun K hK=>⟨fun w hw hG => ?_,?_⟩);(have HW:=Hd hw;clear hG hw;unfold FlX.RR2 Flow.yields;go_simp;refine (HD.out _ (Bt HB.out HW.out)).mono ?_;rintro e w3 ⟨v3,rfl,Ad,Ab⟩;exact ⟨v3,rfl,Ab,Ad.lt⟩);intro vz;go_simp;refine hK _ _ ?_;clear hK K)
 iterate 3 (refine FlX.tvK rfl (fun K hK=>⟨fun w hw hG => ?_,?_⟩);(have A5:=Flow.bc4 hw;clear hG hw;unfold FlX.RV Flow.yields;go_simp;try rfl);go_simp;refine hK _ ?_;clear hK K)
 (refine FlX.tvK2 rfl (fun K hK=>⟨fun w hw hG => ?_,?_⟩);(have HW:=Hd hw;clear hG hw;unfold FlX.RR2 Flow.yields;go_simp;refine (HS.out _ (Bt HB.out HW.out)).mono ?_;rintro e w3 ⟨v3,rfl,Ad,Ab⟩;exact ⟨v3,rfl,Ab,Ad⟩);intro vy;go_simp;refine hK _ _ ?_;clear hK K)
 (refine FlX.tvK rfl (fun K hK=>⟨fun w hw hG => ?_,?_⟩);(clear hG hw;unfold FlX.RV Flow.yields;go_simp;try rfl);go_simp;refine hK _ ?_;clear hK K)
 refine FlX.tn2 fun w2 hw2 hG => ?_
 obtain ⟨I,hI⟩:=hG
 have A8:=(show isValsX l vz _ _ w2 by simpa [FlX.upd] using hI.holds 3)
 have Af:=(show iWX2 sl vy _ _ w2 by simpa [FlX.upd] using hI.holds 7)
 have Am:=hI.apart 3 7 (by decide)
 have Aj:=hI.le 3
 have Ai:=hI.le 7
 clear hI
 generalize (I 3).1=s3 at *
 generalize (I 3).2=e3 at *
 generalize (I 7).1=s7 at *
 generalize (I 7).2=e7 at *
 clear I
 have Bd:=Hd (show VA _ w2 vz l from A8)
 have Ap:=Hd (show RA 2 wF _ w2 vy sl from Af.1)
 have Bm:=Hd Af.2
 obtain ⟨za,zc,rfl⟩:=Bd.out.shape
 obtain ⟨ya,yc,rfl⟩:=Ap.out.shape
 have Bb:=Bt HB.out hw2
 have A7:=(hw2.block _ (by have:=Aa.out;omega)).trans H0.out
 have Bc:=(hw2.block _ (by have:=Aa.out;omega)).trans H1.out
 have At:=(hw2.block _ (by have:=Aa.out;omega)).trans H2.out
 have Bn:=hw2.size
 obtain ⟨_,f0,f1,f2,f3,f4,f5⟩:=can6 At
 obtain ⟨W3,Bi,k2,ko,ks,kB⟩:=two13 (.slice za l.length zc) (.slice ya sl.length yc) At Bb (by omega)
 have Bg:=Hd k2
 have Bp:=Hd ((ko w.heap.size (by omega)).trans A7)
 have Bj:=Hd ((ko (w.heap.size + 1) (by omega)).trans Bc)
 have Au:=Hd kB
 have A2:=Hd (Bd.out.ag (w':=W3) ⟨by rw [ks];exact Nat.le_refl _,fun b _ hb=>ko b (by have:=Aa.out;omega)⟩)
 have Al:=Hd (Ap.out.ag (w':=W3) ⟨by rw [ks];exact Nat.le_refl _,fun b _ hb=>ko b (by have:=Aa.out;omega)⟩)
 have A0:=Hd (Bm.out.same (w':=W3) fun b hb=>ko b (by have:=Ap.out.blk hb;have:=Aa.out;omega))
 have Ab:w.heap.size < W3.heap.size:=by have:=Aa.out;omega
 have Bl:=Hd (show W0.heap.size≤W3.heap.size by omega)
 have HI:=Hd (show (e3≤s7∨e7≤s3)∧W0.heap.size≤s3∧W0.heap.size≤s7∧e3≤W3.heap.size∧e7≤W3.heap.size from ⟨Am,Aj.1,Ai.1,by rw [ks];exact Aj.2.2,by rw [ks];exact Ai.2.2⟩)
 clear A7 Bc At k2 ko kB hw2 Bb c0 c1 c2 c3 c4 c5 ks Bn A8 Af Am Aj Ai
 obtain ⟨⟨c0,c1,c2,c3,c4,c5⟩,_⟩:=can6 Bp.out
 go_wp2_with (fail)
 refine FlX.wrf 9 (FlX.sp3 [some (.inl ?_),some (.inl ?_),some (.inl ?_),some (.inr (iIX nl)),some (.inl ?_),some (.inl ?_),some (.inl ?_),some (.inr (iIX xl)),some (.inl ?_)]) (by kernel_rfl) (by kernel_rfl) ?_ ?_
 rotate_left 7
 ·refine FlX.sm2 ?_
  repeat (first | exact FlX.ln2 | refine FlX.li2 ?_ | refine FlX.li3 (iIX2 _) ?_)
 all_goals try simp only [List.take_succ_cons,List.take_zero,List.drop_succ_cons,List.drop_zero]
 iterate 3 (refine FlX.tvK rfl (fun K hK=>⟨fun w hw hG => ?_,?_⟩);(have A5:=Flow.bc4 hw;clear hG hw;unfold FlX.RV Flow.yields;go_simp;try rfl);go_simp;refine hK _ ?_;clear hK K)
 (refine FlX.tvK2 rfl (fun K hK=>⟨fun w hw hG => ?_,?_⟩);(have HW:=Hd hw;clear hG hw;unfold FlX.RR2 Flow.yields;go_simp;refine (HN.out _ (Bt Au.out HW.out)).mono ?_;rintro e w3 ⟨v3,rfl,Ad,Ab⟩;exact ⟨v3,rfl,Ab,Ad⟩);intro vy;go_simp;refine hK _ _ ?_;clear hK K)
 iterate 3 (refine FlX.tvK rfl (fun K hK=>⟨fun w hw hG => ?_,?_⟩);(have A5:=Flow.bc4 hw;clear hG hw;unfold FlX.RV Flow.yields;go_simp;try rfl);go_simp;refine hK _ ?_;clear hK K)
 (refine FlX.tvK2 rfl (fun K hK=>⟨fun w hw hG => ?_,?_⟩);(have HW:=Hd hw;clear hG hw;unfold FlX.RR2 Flow.yields;go_simp;refine (HX.out _ (Bt Au.out HW.out)).mono ?_;rintro e w3 ⟨v3,rfl,Ad,Ab⟩;exact ⟨v3,rfl,Ab,Ad⟩);intro vx;go_simp;refine hK _ _ ?_;clear hK K)
 (refine FlX.tvK rfl (fun K hK=>⟨fun w hw hG => ?_,?_⟩);(clear hG hw;unfold FlX.RV Flow.yields;go_simp;try rfl);go_simp;refine hK _ ?_;clear hK K)
 refine FlX.tn2 fun w4 hw4 hG => ?_
 obtain ⟨I,hI⟩:=hG
 have Af:=(show iIX nl vy _ _ w4 by simpa [FlX.upd] using hI.holds 3)
 have Aw:=(show iIX xl vx _ _ w4 by simpa [FlX.upd] using hI.holds 7)
 have Am:=hI.apart 3 7 (by decide)
 have Aj:=hI.le 3
 have Ai:=hI.le 7
 clear hI
 generalize (I 3).1=s4 at *
 generalize (I 3).2=e4 at *
 generalize (I 7).1=s5 at *
 generalize (I 7).2=e5 at *
 clear I
 have Ar:=Hd (show RA 1 intF _ w4 vy nl from Af.1)
 have Bf:=Hd Af.2
 have Bh:=Hd Aw.2
 have Ay:=Hd (show RA 1 intF _ w4 vx xl from Aw.1)
 obtain ⟨qa,qc,rfl⟩:=Ar.out.shape
 obtain ⟨ra,rc,rfl⟩:=Ay.out.shape
 clear c0 c1 c2 c3 c4 c5 Bi f0 f1 f2 f3 f4 f5 Af Aw
 have A9:=Bt Au.out hw4
 have Bs:=hw4.size
 have Br:=Aa.out
 have Bx:=Bl.out
 have Av:=(hw4.block _ (by omega)).trans Bg.out
 have Ba:=(hw4.block _ (by omega)).trans Bj.out
 obtain ⟨_,f0,f1,f2,f3,f4,f5⟩:=can6 Av
 obtain ⟨W5,Bv,k2,ko,An,kB⟩:=two45 (.slice qa nl.length qc) (.slice ra xl.length rc) Av A9 (by omega)
 obtain ⟨⟨c0,c1,c2,c3,c4,c5⟩,_⟩:=can6 k2
 have k1:=(ko (w.heap.size + 1) (by omega)).trans Ba
 obtain ⟨_,g0,g1,g2,g3,g4,g5⟩:=can6 k1
 have hi:=HI.out
 have Ak:=Hd ((A2.out.ag (Ag.new _ hw4)).ag (w':=W5) ⟨by rw [An];exact Nat.le_refl _,fun b _ hb=>ko b (by omega)⟩)
 have Ac:=Hd ((Al.out.ag (Ag.new _ hw4)).ag (w':=W5) ⟨by rw [An];exact Nat.le_refl _,fun b _ hb=>ko b (by omega)⟩)
 have Ah:=Hd (Ar.out.ag (w':=W5) ⟨by rw [An];exact Nat.le_refl _,fun b _ hb=>ko b (by omega)⟩)
 have Ae:=Hd (Ay.out.ag (w':=W5) ⟨by rw [An];exact Nat.le_refl _,fun b _ hb=>ko b (by omega)⟩)
 have A4:=Hd ((A0.out.below hw4).same (w':=W5) fun b hb=>ko b (by have:=Al.out.blk hb;omega))
 have Aq:=Hd (Bf.out.same (w':=W5) fun b hb=>ko b (by have:=Ar.out.blk hb;omega))
 have A1:=Hd (Bh.out.same (w':=W5) fun b hb=>ko b (by have:=Ay.out.blk hb;omega))
 have Ao:=Hd k1
 have Az:=Hd kB
 have Bw:W3.heap.size≤W5.heap.size:=by omega
 have HJ:=Hd (show (e4≤s5∨e5≤s4)∧W3.heap.size≤s4∧W3.heap.size≤s5 from ⟨Am,Aj.1,Ai.1⟩)
 clear Av Ba k2 ko kB k1 hw4 A9 Am Aj Ai hi
 go_wp2_with (fail)
 have q1:=set6 (.int .i64 t) (.slice za l.length zc) (.int .i64 c) (.slice ya sl.length yc) (.slice qa nl.length qc) (.slice ra xl.length rc) Ao.out
 have qB:=sb2 (.int .i64 t) (.slice za l.length zc) (.int .i64 c) (.slice ya sl.length yc) (.slice qa nl.length qc) (.slice ra xl.length rc) Az.out (show w.heap.size≤w.heap.size + 1 by omega)
 obtain ⟨⟨e0,e1,e2,Bq,Be,Bk⟩,_⟩:=can6 q1
 have hi:=HI.out
 have hj:=HJ.out
 have qA:∀ W6,W6=((((((W5.setCell ⟨w.heap.size + 1,0,none⟩ (.int .i64 t)).setCell ⟨w.heap.size + 1,1,none⟩ (.slice za l.length zc)).setCell ⟨w.heap.size + 1,2,none⟩ (.int .i64 c)).setCell ⟨w.heap.size + 1,3,none⟩ (.slice ya sl.length yc)).setCell ⟨w.heap.size + 1,4,none⟩ (.slice qa nl.length qc)).setCell ⟨w.heap.size + 1,5,none⟩ (.slice ra xl.length rc))→Ag (fun b=>W0.heap.size≤b) W5 W6:=fun W6 e=>by
  rw [e]
  exact ⟨by rw [ss4];exact Nat.le_refl _,fun b _ hb=>so6 _ _ _ _ _ _ (by omega)⟩
 refine bodyPost_ret (v:=.agg #[.int .i64 t,.slice za l.length zc,.int .i64 c,.slice ya sl.length yc,.slice qa nl.length qc,.slice ra xl.length rc]) (by simp [results,Tryz.results60,go_sem,e0,e1,e2,Bq,Be,Bk]) rfl ⟨[.int .i64 t,.slice za l.length zc,.int .i64 c,.slice ya sl.length yc,.slice qa nl.length qc,.slice ra xl.length rc],rfl,⟨_,_,_,_,rfl,?_,?_,?_,?_⟩,?_,?_,qB⟩
 ·show VA _ _ _ (ds.map Tess.valOf)
  rw [Bo.out]
  exact (Ak.out.weak fun b hb=>by omega).ag (qA _ rfl) |>.weak fun b hb=>by omega
 ·exact (Ac.out.weak fun b hb=>by omega).ag (qA _ rfl) |>.weak fun b hb=>by omega
 ·exact (Ah.out.weak fun b hb=>by omega).ag (qA _ rfl) |>.weak fun b hb=>by omega
 ·exact (Ae.out.weak fun b hb=>by omega).ag (qA _ rfl) |>.weak fun b hb=>by omega
 ·exact apart4 (fun b hb=>Ak.out.blk hb) (fun b hb=>Ac.out.blk hb) (fun b hb=>Ah.out.blk hb) (fun b hb=>Ae.out.blk hb) fun b=>by omega
 ·have As:∀ b,W0.heap.size≤b→((((((W5.setCell ⟨w.heap.size + 1,0,none⟩ (.int .i64 t)).setCell ⟨w.heap.size + 1,1,none⟩ (.slice za l.length zc)).setCell ⟨w.heap.size + 1,2,none⟩ (.int .i64 c)).setCell ⟨w.heap.size + 1,3,none⟩ (.slice ya sl.length yc)).setCell ⟨w.heap.size + 1,4,none⟩ (.slice qa nl.length qc)).setCell ⟨w.heap.size + 1,5,none⟩ (.slice ra xl.length rc)).heap[b]? = W5.heap[b]? := fun b hb=>so6 _ _ _ _ _ _ (by omega)
  intro v hv
  simp only [List.drop_succ_cons,List.drop_zero,List.mem_cons,List.not_mem_nil,or_false] at hv
  rcases hv with rfl | rfl | rfl
  ·exact A4.out.same fun b hb=>As b (by have:=Ac.out.blk hb;omega)
  ·exact Aq.out.same fun b hb=>As b (by have:=Ah.out.blk hb;omega)
  ·exact A1.out.same fun b hb=>As b (by have:=Ae.out.blk hb;omega)
end Go.Proofs.YtjdccifdkjnknaaGreatDoor
namespace Go.Proofs.YtjdccifdkjnknaaGreatDoor
open Go.RowKit Go.Sort
open Tess (CK Pay)
structure Tch (S:Nat→Prop) (w w':World):Prop where
 os:w'.os=w.os
 tape:w'.tape=w.tape
 output:w'.output=w.output
 size:w.heap.size≤w'.heap.size
 block:∀ b,b < w.heap.size→¬ S b→w'.heap[b]? = w.heap[b]?
theorem Tch.refl (S:Nat→Prop) (w:World):Tch S w w:=⟨rfl,rfl,rfl,Nat.le_refl _,fun _ _ _=>rfl⟩
theorem Tch.trans {S:Nat→Prop} {a b c:World} (h:Tch S a b) (k:Tch S b c):Tch S a c:=
 ⟨k.os.trans h.os,k.tape.trans h.tape,k.output.trans h.output,Nat.le_trans h.size k.size,fun x hx hs=>(k.block x (Nat.lt_of_lt_of_le hx h.size) hs).trans (h.block x hx hs)⟩
theorem Tch.new {S:Nat→Prop} {a b:World} (h:Below a.heap.size a b):Tch S a b:=⟨h.os,h.tape,h.output,h.size,fun x hx _=>h.block x hx⟩
theorem Tch.set {S:Nat→Prop} (w:World) (a:Addr) (v:Value) (h:S a.block):Tch S w (w.setCell a v):=
 ⟨rfl,rfl,rfl,by simp [World.setCell],fun b _ hb=>heap_setCell_other w a b v (fun e=>hb (e ▸ h))⟩
theorem Tch.below {S:Nat→Prop} {N:Nat} {w w':World} (h:Tch S w w') (hN:N≤w.heap.size) (hS:∀ b,S b→N≤b):Below N w w':=
 ⟨h.os,h.tape,h.output,h.size,fun b hb=>h.block b (by omega) fun e=>by have:=hS b e;omega⟩
theorem Tch.ag {S p:Nat→Prop} {w w':World} (h:Tch S w w') (hp:∀ b,p b→¬ S b):Ag p w w':=⟨h.size,fun b hb hpb=>h.block b hb (hp b hpb)⟩
theorem Tch.weak {S S':Nat→Prop} {w w':World} (h:Tch S w w') (hS:∀ b,S b→S' b):Tch S' w w':=⟨h.os,h.tape,h.output,h.size,fun b hb hn=>h.block b hb fun e=>hn (hS b e)⟩
def mix (f:Int→Int→Int):Nat→List Int→List Int→List Int
 | 0,l,_=>l
 | _ + 1,[],_=>[]
 | _ + 1,l,[]=>l
 | k + 1,a :: l,b :: m=>f a b :: mix f k l m
theorem ml2 (f:Int→Int→Int):∀ (k:Nat) (l m:List Int),(mix f k l m).length=l.length
 | 0,_,_=>rfl
 | _ + 1,[],_=>rfl
 | _ + 1,_ :: _,[]=>rfl
 | k + 1,a :: l,b :: m=>by rw [mix,List.length_cons,ml2 f k l m,List.length_cons]
theorem mix_at (f:Int→Int→Int):∀ (k:Nat) (l m:List Int) (h:k < l.length) (h':k < (mix f k l m).length),(mix f k l m)[k]=l[k]
 | 0,_,_,_,_=>rfl
 | k + 1,[],_,h,_=>by simp at h
 | k + 1,_ :: _,[],_,_=>rfl
 | k + 1,a :: l,b :: m,h,h'=>by
   simp only [mix,List.getElem_cons_succ]
   exact mix_at f k l m (by simpa using h) (by simpa [mix] using h')
theorem ms4 (f:Int→Int→Int):∀ (k:Nat) (l m:List Int) (h:k < l.length) (h':k < m.length),mix f (k + 1) l m=(mix f k l m).set k (f l[k] m[k])
 | k,[],_,h,_=>by simp at h
 | k,_ :: _,[],_,h=>by simp at h
 | 0,a :: l,b :: m,_,_=>by simp [mix]
 | k + 1,a :: l,b :: m,h,h'=>by
   rw [mix,ms4 f k l m (by simpa using h) (by simpa using h'),mix]
   simp
theorem ma3 (f:Int→Int→Int):∀ (l m:List Int),l.length=m.length→mix f l.length l m=List.zipWith f l m
 | [],_,_=>by simp [mix]
 | _ :: _,[],h=>by simp at h
 | a :: l,b :: m,h=>by rw [List.length_cons,mix,ma3 f l m (by simpa using h),List.zipWith_cons_cons]
theorem RA.sM {α:Type} {k:Nat} {f:α→List Value} {p:Nat→Prop} {w:World} {v:Value} {l:List α} (h:RA k f p w v l) {M:Nat} (hl:l.length=M):∃ a c,v = .slice a M c∧M≤c∧M≤9223372036854775807∧∀ j (hj:j < l.length),∃ b off,a=some ⟨b,off,none⟩∧b < w.heap.size∧p b∧∀ i,i < k→w.cell? ⟨b,off + j * k + i,none⟩=(f l[j])[i]? := by
 obtain ⟨a,c,hv,h1,h2,_,h4⟩:=h
 subst hl
 refine ⟨a,c,hv,h2,by unfold maxLen at h1;omega,fun j hj => ?_⟩
 obtain ⟨b,off,ha,hb,hp,hc⟩:=h4 (by omega)
 exact ⟨b,off,ha,hb,hp,hc j hj⟩
theorem bNs {b off n c:Nat} (h:0 < n):blkN (.slice (some ⟨b,off,none⟩) n c)=some b:=by
 cases n with
 | zero=>omega
 | succ n=>rfl
theorem RA.set1 {p:Nat→Prop} {w:World} {b off c:Nat} {l:List Int} (h:RA 1 intF p w (.slice (some ⟨b,off,none⟩) l.length c) l) (hf:Fr w (.slice (some ⟨b,off,none⟩) l.length c)) {k:Nat} (hk:k < l.length) (x:Int) :
  RA 1 intF p (w.setCell ⟨b,off + k,none⟩ (.int .i64 x)) (.slice (some ⟨b,off,none⟩) l.length c) (l.set k x)∧Fr (w.setCell ⟨b,off + k,none⟩ (.int .i64 x)) (.slice (some ⟨b,off,none⟩) l.length c):=by
 obtain ⟨Ab,T,hc⟩:=hf b (bNs (by omega))
 have hn:=heap_setCell_same w b (off + k) Ab T (.int .i64 x) hc
 obtain ⟨a,c',hv,h1,h2,h3,h4⟩:=h
 cases hv
 obtain ⟨b',Ad,ha,hb,hp,Aa⟩:=h4 (by omega)
 cases ha
 refine ⟨⟨_,_,by rw [List.length_set],by rw [List.length_set];exact h1,by rw [List.length_set];exact h2,h3,fun _=>⟨b,off,rfl,by simp [World.setCell];exact hb,hp,fun j hj i hi => ?_⟩⟩,fun g hg => ?_⟩
 ·rw [List.length_set] at hj
  obtain rfl:i=0:=by omega
  have h0:=Aa j hj 0 hi
  rw [cell_of_row _ _ _ _ _ _ hc] at h0
  rw [cell_of_row _ _ _ _ _ _ hn,Array.getElem?_setIfInBounds]
  simp only [Nat.mul_one,Nat.add_zero] at h0 ⊢
  by_cases e:j=k
  ·subst e
   have Ac:off + j < Ab.size:=(Array.getElem?_eq_some_iff.1 (by rw [h0];rfl:Ab[off + j]? = some _)).1
   rw [if_pos rfl,if_pos Ac]
   simp [intF]
  ·rw [if_neg (by omega),h0,List.getElem_set_ne (by omega)]
 ·rw [bNs (by omega)] at hg
  cases hg
  exact ⟨_,_,hn⟩
theorem RA.set2 {p:Nat→Prop} {w:World} {b off c:Nat} {l:List Int} (h:RA 2 wF p w (.slice (some ⟨b,off,none⟩) l.length c) l) (hf:Fr w (.slice (some ⟨b,off,none⟩) l.length c)) {k:Nat} (hk:k < l.length) (x:Int) :
  RA 2 wF p ((w.setCell ⟨b,off + k * 2,none⟩ (.int .i64 (wHi x))).setCell ⟨b,off + k * 2 + 1,none⟩ (.int .u64 (wLo x))) (.slice (some ⟨b,off,none⟩) l.length c) (l.set k x)∧Fr ((w.setCell ⟨b,off + k * 2,none⟩ (.int .i64 (wHi x))).setCell ⟨b,off + k * 2 + 1,none⟩ (.int .u64 (wLo x))) (.slice (some ⟨b,off,none⟩) l.length c):=by
 obtain ⟨Ab,T,hc⟩:=hf b (bNs (by omega))
 have hn:=heap_setCell_same _ b (off + k * 2 + 1) _ T (.int .u64 (wLo x)) (heap_setCell_same w b (off + k * 2) Ab T (.int .i64 (wHi x)) hc)
 obtain ⟨a,c',hv,h1,h2,h3,h4⟩:=h
 cases hv
 obtain ⟨b',Ac,ha,hb,hp,Aa⟩:=h4 (by omega)
 cases ha
 refine ⟨⟨_,_,by rw [List.length_set],by rw [List.length_set];exact h1,by rw [List.length_set];exact h2,h3,fun _=>⟨b,off,rfl,by simp [World.setCell];exact hb,hp,fun j hj i hi => ?_⟩⟩,fun g hg => ?_⟩
 ·rw [List.length_set] at hj
  have h0:=Aa j hj i hi
  rw [cell_of_row _ _ _ _ _ _ hc] at h0
  rw [cell_of_row _ _ _ _ _ _ hn,Array.getElem?_setIfInBounds,Array.getElem?_setIfInBounds]
  have hl:∃ u,(wF l[j])[i]? = some u:=by
   rcases (by omega:i=0∨i=1) with rfl | rfl <;> exact ⟨_,rfl⟩
  obtain ⟨u,hu⟩:=hl
  rw [hu] at h0
  have Ad:off + j * 2 + i < Ab.size:=(Array.getElem?_eq_some_iff.1 h0).1
  by_cases e:j=k
  ·subst e
   rcases (by omega:i=0∨i=1) with rfl | rfl
   ·rw [if_neg (by omega),if_pos (by omega),if_pos (by omega)];simp [wF]
   ·rw [if_pos (by omega),if_pos (by simp;omega)];simp [wF]
  ·rw [if_neg (by omega),if_neg (by omega),h0,List.getElem_set_ne (by omega),hu]
 ·rw [bNs (by omega)] at hg
  cases hg
  exact ⟨_,_,hn⟩
end Go.Proofs.YtjdccifdkjnknaaGreatDoor
