/- Joined by mergeK.py: K44, K45, K46, FlP -/
import Derived.Test.YtaddkkkchkdgkaaGreatDoorCC25
import Derived.Test.YtaddkkkchkdgkaaGreatDoorCC26
import Derived.Test.YtaddkkkchkdgkaaGreatDoorCC01
namespace Go.Proofs.YtaddkkkchkdgkaaGreatDoor
open Go.RowKit Go.Sort
open Tess (CK Pay PO)
def oR2 (V:ByteArray→RowV) (b:Nat):Prop:=∀ s r,V s=some r→b≠r.1
structure GS (T:Lib.PrintTabs) (N gb mb:Nat) (W:World) (v:Value) (us:List (List Value)) (V:ByteArray→RowV) (L:List Grp):Prop where
 gbN:gb < N
 mbN:mb < N
 ne:gb≠mb
 NW:N≤W.heap.size
 box:W.heap[gb]? = some (.cells #[v,.map (some mb)] 101 (0,0))
 own:OwnL N 7 56 GA2 (fun b=>N≤b∧oR2 V b) W v us L
 nil:L=[]→v = .slice none 0 0
 map:MI mb L.length V W
 rows:∀ s,(V s=none∧idxF T s 0 L=[])∨∃ r,V s=some r∧idxF T s 0 L≠[]∧r.2.1=(idxF T s 0 L).length∧W.ownsRow N 3 1 (valO (some r)) r.2.1 ((idxF T s 0 L).map fun i => .int .i64 (i:Nat))
 apart:∀ s s' r r',s≠s'→V s=some r→V s'=some r'→r.1≠r'.1
def GS.S (gb mb:Nat) (v:Value) (V:ByteArray→RowV) (b:Nat):Prop:=b=gb∨b=mb∨v.ownBlock=some b∨∃ s r,V s=some r∧r.1=b
section
variable {T:Lib.PrintTabs} {N gb mb:Nat} {W W':World} {v:Value} {us:List (List Value)} {V:ByteArray→RowV} {L:List Grp}
theorem valO_own (r:Nat×Nat×Nat):(valO (some r)).ownBlock=some r.1:=rfl
theorem GS.rL2 (h:GS T N gb mb W v us V L) {s:ByteArray} {r:Nat×Nat×Nat} (hr:V s=some r):N≤r.1∧r.1 < W.heap.size:=by
 rcases h.rows s with ⟨e,_⟩ | ⟨r',e,_,_,ho⟩
 ·rw [e] at hr;cases hr
 ·rw [e] at hr;cases hr
  exact ho.lt _ (valO_own r)
theorem GS.rowOwn (h:GS T N gb mb W v us V L) {s:ByteArray} {r:Nat×Nat×Nat} (hr:V s=some r):v.ownBlock≠some r.1:=by
 rcases h.rows s with ⟨e,_⟩ | ⟨r',e,_,_,ho⟩
 ·rw [e] at hr;cases hr
 ·rw [e] at hr;cases hr
  exact fun e'=>on3 h.own.own ho (by decide) _ e' (valO_own r)
theorem GS.below (h:GS T N gb mb W v us V L) (hb:Below W.heap.size W W'):GS T N gb mb W' v us V L where
 gbN:=h.gbN
 mbN:=h.mbN
 ne:=h.ne
 NW:=Nat.le_trans h.NW hb.size
 box:=(hb.block _ (Array.getElem?_eq_some_iff.1 h.box).1).trans h.box
 own:=h.own.below gn2 hb
 nil:=h.nil
 map:=h.map.keep (hb.block _ (by have:=h.NW;have:=h.mbN;omega))
 rows:=fun s=>(h.rows s).imp id fun ⟨r,h1,h2,h3,h4⟩=>⟨r,h1,h2,h3,ob2 h4 hb⟩
 apart:=h.apart
theorem GS.more {w3 w5 w6 w7 w8:World} {s:ByteArray} {r':Nat×Nat×Nat} {v':Value} {cs:List Value} {x:Grp} (h:GS T N gb mb w3 v us V L) (hx:nG T x=s)
  (h1:w3.grownBy w5 (valO (V s)).ownBlock) (hn':r'.2.1=(idxF T s 0 L).length + 1) (ho:w5.ownsRow N 3 1 (valO (some r')) r'.2.1 ((idxF T s 0 L).map (fun i=>Value.int .i64 (i:Nat)) ++ [.int .i64 (L.length:Nat)])) (hl:(valO (V s)).ownBlock=some r'.1∨w3.heap.size≤r'.1)
  (h2:w5.grownBy w6 (some mb)) (hm:MI mb (L.length + 1) (fun s'=>if s'=s then some r' else V s') w6)
  (h3:Below w6.heap.size w6 w7) (hc:GA2 (fun b=>w6.heap.size≤b) w7 cs x)
  (h4:w7.grownBy w8 v.ownBlock) (ho':w8.ownsRow N 56 7 v' (us.length + 1) (us.flatten ++ cs)) (hl':v'.ownBlock=v.ownBlock∨v'.ownBlock=some w7.heap.size) :
  GS T N gb mb (w8.setCell ⟨gb,0,none⟩ v') v' (us ++ [cs]) (fun s'=>if s'=s then some r' else V s') (L ++ [x]):=by
 have NW:=h.NW
 have gN:=h.gbN
 have mN:=h.mbN
 have At:=h1.size
 have As:=h2.size
 have Ar:=h3.size
 have Au:=h4.size
 have Al:=ho.lt _ (valO_own r')
 have Ae:∀ b,v.ownBlock=some b→N≤b∧b < w3.heap.size:=fun b hb=>h.own.own.lt b hb
 have Aa:∀ b,(valO (V s)).ownBlock=some b→∃ r,V s=some r∧r.1=b:=fun b hb=>by
  cases e:V s with
  | none=>rw [e] at hb;cases hb
  | some r=>rw [e] at hb;exact ⟨r,rfl,Option.some.inj hb⟩
 have Ab:∀ b,b < w3.heap.size→(valO (V s)).ownBlock≠some b→b≠mb→w7.heap[b]? = w3.heap[b]? := fun b hb h5 h6=>
  (h3.block b (by omega)).trans ((h2.block b (by omega) (fun e=>h6 (Option.some.inj e))).trans (h1.block b hb (fun e=>h5 e.symm)))
 have Ac:∀ b,b < w3.heap.size→(valO (V s)).ownBlock≠some b→b≠mb→v.ownBlock≠some b→w8.heap[b]? = w3.heap[b]? := fun b hb h5 h6 h7=>
  (h4.block b (by omega) (fun e=>h7 e.symm)).trans (Ab b hb h5 h6)
 have Aj:(valO (V s)).ownBlock≠some gb:=fun e=>by
  obtain ⟨r,h5,h6⟩:=Aa _ e
  have:=(h.rL2 h5).1
  omega
 have Am:∀ b,v.ownBlock=some b→(valO (V s)).ownBlock≠some b:=fun b hb e=>by
  obtain ⟨r,h5,h6⟩:=Aa _ e
  exact h.rowOwn h5 (by rw [h6];exact hb)
 have Ak:v.ownBlock≠some gb:=fun e=>by have:=(Ae _ e).1;omega
 have Af:w7.ownsRow N 56 7 v us.length us.flatten:=ok2 h.own.own fun b hb=>Ab b (Ae b hb).2 (Am b hb) (by have:=(Ae b hb).1;omega)
 have Aq:OwnL N 7 56 GA2 (fun b=>N≤b∧oR2 (fun s'=>if s'=s then some r' else V s') b) w7 v us L:=by
  refine ⟨Af,h.own.len,fun j hj hj' => ?_⟩
  have:=gn2.lt (h.own.at_ j hj hj')
  refine gn2.weak (gn2.ag this (w':=w7) ⟨by omega,fun b hb hp=>Ab b hb (fun e => ?_) (by omega)⟩) fun b hb=>⟨⟨hb.1.1.1,fun s' r hr => ?_⟩,hb.1.2⟩
  ·obtain ⟨r,h5,h6⟩:=Aa _ e
   exact hp.1.1.2 s r h5 h6.symm
  ·by_cases e:s'=s
   ·simp only [if_pos e,Option.some.injEq] at hr
    subst hr
    rcases hl with h5 | h5
    ·obtain ⟨r,h6,h7⟩:=Aa _ h5
     rw [← h7];exact hb.1.1.2 s r h6
    ·have:=hb.2
     omega
   ·simp only [if_neg e] at hr
    exact hb.1.1.2 s' r hr
 have An:GA2 (fun b=>(N≤b∧oR2 (fun s'=>if s'=s then some r' else V s') b)∧v.ownBlock≠some b) w7 cs x:=gn2.weak hc fun b hb=>by
  refine ⟨⟨by omega,fun s' r hr => ?_⟩,fun e=>by have:=(Ae b e).2;omega⟩
  by_cases e:s'=s
  ·simp only [if_pos e,Option.some.injEq] at hr
   subst hr
   omega
  ·simp only [if_neg e] at hr
   have:=(h.rL2 hr).2
   omega
 have Ap:=Aq.more gn2 An ho' h4 hl'
 have Ad:∀ b,b≠gb→(w8.setCell ⟨gb,0,none⟩ v').heap[b]? = w8.heap[b]? := fun b hb=>heap_setCell_other _ _ _ _ hb
 have Ag:=(Ac gb (by omega) Aj h.ne Ak).trans h.box
 exact {
  gbN:=gN
  mbN:=mN
  ne:=h.ne
  NW:=by rw [sCs];omega
  box:=heap_setCell_same w8 gb 0 _ _ v' Ag
  own:=Ap.set gn2 gN (fun e=>by omega) v'
  nil:=fun e=>absurd e (by simp)
  map:=by
   rw [List.length_append]
   refine hm.keep ((Ad mb h.ne.symm).trans ((h4.block mb (by omega) (fun e => ?_)).trans (h3.block mb (by omega))))
   have:=(Ae mb e.symm).1
   omega
  rows:=fun s'=>by
   rw [idxF_snoc]
   by_cases e:s'=s
   ·subst e
    refine .inr ⟨r',if_pos rfl,by rw [if_pos hx];simp,by rw [if_pos hx,List.length_append];exact hn',?_⟩
    rw [if_pos hx,List.map_append,Nat.zero_add]
    refine ok2 ho fun b hb => ?_
    have Ah:r'.1=b:=Option.some.inj hb
    subst Ah
    rw [Ad _ (by omega),h4.block _ (by omega) (fun e => ?_),h3.block _ (by omega),h2.block _ (by omega) (fun e=>by have:=Option.some.inj e;omega)]
    rcases hl with h5 | h5
    ·exact Am _ e.symm h5
    ·have:=(Ae _ e.symm).2;omega
   ·rw [if_neg (show ¬ nG T x=s' from fun e'=>e (by rw [← e',hx]))]
    simp only [if_neg e,List.append_nil]
    rcases h.rows s' with h5 | ⟨r,h5,h6,h7,h8⟩
    ·exact .inl h5
    ·refine .inr ⟨r,h5,h6,h7,ok2 h8 fun b hb => ?_⟩
     have Ah:r.1=b:=Option.some.inj hb
     subst Ah
     have Ai:=h.rL2 h5
     rw [Ad _ (by omega)]
     refine Ac _ Ai.2 (fun e' => ?_) (by omega) (h.rowOwn h5)
     obtain ⟨r2,h9,Ao⟩:=Aa _ e'
     exact h.apart s' s r r2 e h5 h9 Ao.symm
  apart:=fun s1 s2 r1 r2 hne hr1 hr2=>by
   by_cases e1:s1=s
   ·have e2:¬ s2=s:=fun e=>hne (by rw [e1,e])
    simp only [if_pos e1,Option.some.injEq] at hr1
    simp only [if_neg e2] at hr2
    subst hr1
    have Ai:=(h.rL2 hr2).2
    rcases hl with h5 | h5
    ·obtain ⟨r,h6,h7⟩:=Aa _ h5
     rw [← h7];exact h.apart s s2 r r2 (fun e=>e2 e.symm) h6 hr2
    ·omega
   ·simp only [if_neg e1] at hr1
    by_cases e2:s2=s
    ·simp only [if_pos e2,Option.some.injEq] at hr2
     subst hr2
     have Ai:=(h.rL2 hr1).2
     rcases hl with h5 | h5
     ·obtain ⟨r,h6,h7⟩:=Aa _ h5
      rw [← h7];exact h.apart s1 s r1 r e1 hr1 h6
     ·omega
    ·simp only [if_neg e2] at hr2
     exact h.apart s1 s2 r1 r2 hne hr1 hr2 }
end
end Go.Proofs.YtaddkkkchkdgkaaGreatDoor
namespace Go.Proofs.YtaddkkkchkdgkaaGreatDoor
open Go.RowKit Go.Sort
open Tess (CK Pay PO)
theorem ss2 (u r:List Value) (hu:u.length=7) (m:Nat) (y:Value):(u ++ r).set (m + 7) y=u ++ r.set m y:=by
 rw [List.set_append,if_neg (by omega),show m + 7 - u.length=m by omega]
theorem fs2 (y0 y1 y2 y3 y4 y5 y6:Value):∀ (us:List (List Value)) (k:Nat),(∀ u ∈ us,u.length=7)→k < us.length→(((((((us.flatten.set (k * 7) y0).set (k * 7 + 1) y1).set (k * 7 + 2) y2).set (k * 7 + 3) y3).set (k * 7 + 4) y4).set (k * 7 + 5) y5).set (k * 7 + 6) y6)=(us.set k [y0,y1,y2,y3,y4,y5,y6]).flatten
 | [],k,_,hk=>by simp at hk
 | u :: us,0,h,_=>by
   have hu:=h u (by simp)
   match u,hu with
   | [a0,a1,a2,a3,a4,a5,a6],_=>simp
 | u :: us,k + 1,h,hk=>by
   have hu:=h u (by simp)
   have ih:=fs2 y0 y1 y2 y3 y4 y5 y6 us k (fun v hv=>h v (by simp [hv])) (by simpa using hk)
   rw [List.flatten_cons,List.set_cons_succ,List.flatten_cons,← ih]
   have e:∀ i,k * 7 + 7 + i=k * 7 + i + 7:=fun i=>by omega
   have e0:(k + 1) * 7=k * 7 + 7:=by omega
   rw [e0,e,e,e,e,e,e,ss2 _ _ hu,ss2 _ _ hu,ss2 _ _ hu,ss2 _ _ hu,ss2 _ _ hu,ss2 _ _ hu,ss2 _ _ hu]
def set7 (W:World) (g k:Nat) (y0 y1 y2 y3 y4 y5 y6:Value):World:=(((((((W.setCell ⟨g,k * 7,none⟩ y0).setCell ⟨g,k * 7 + 1,none⟩ y1).setCell ⟨g,k * 7 + 2,none⟩ y2).setCell ⟨g,k * 7 + 3,none⟩ y3).setCell ⟨g,k * 7 + 4,none⟩ y4).setCell ⟨g,k * 7 + 5,none⟩ y5).setCell ⟨g,k * 7 + 6,none⟩ y6)
theorem so5 {W:World} {g k b:Nat} {y0 y1 y2 y3 y4 y5 y6:Value} (h:b≠g):(set7 W g k y0 y1 y2 y3 y4 y5 y6).heap[b]? = W.heap[b]? := by
 unfold set7
 rw [heap_setCell_other _ _ _ _ h,heap_setCell_other _ _ _ _ h,heap_setCell_other _ _ _ _ h,heap_setCell_other _ _ _ _ h,heap_setCell_other _ _ _ _ h,heap_setCell_other _ _ _ _ h,heap_setCell_other _ _ _ _ h]
theorem set7_size {W:World} {g k:Nat} {y0 y1 y2 y3 y4 y5 y6:Value}:(set7 W g k y0 y1 y2 y3 y4 y5 y6).heap.size=W.heap.size:=by
 unfold set7;simp only [sCs]
theorem set7_tch {S:Nat→Prop} {W:World} {g k:Nat} {y0 y1 y2 y3 y4 y5 y6:Value} (h:S g):Tch S W (set7 W g k y0 y1 y2 y3 y4 y5 y6):=
 (Tch.set W ⟨g,_,none⟩ _ h).trans ((Tch.set _ ⟨g,_,none⟩ _ h).trans ((Tch.set _ ⟨g,_,none⟩ _ h).trans ((Tch.set _ ⟨g,_,none⟩ _ h).trans ((Tch.set _ ⟨g,_,none⟩ _ h).trans ((Tch.set _ ⟨g,_,none⟩ _ h).trans (Tch.set _ ⟨g,_,none⟩ _ h))))))
theorem GS.set {T:Lib.PrintTabs} {N gb mb g cap k:Nat} {W:World} {us:List (List Value)} {V:ByteArray→RowV} {L:List Grp} {c0 c1 c2 c3 c4 c5 c6:Value} {y:Grp} (h:GS T N gb mb W (.slice (some ⟨g,0,none⟩) L.length cap) us V L) (hk:k < L.length)
  (hc:GA2 (fun b=>(N≤b∧oR2 V b)∧b≠g) W [c0,c1,c2,c3,c4,c5,c6] y) (hname:nG T y=nG T L[k]) :
  GS T N gb mb (set7 W g k c0 c1 c2 c3 c4 c5 c6) (.slice (some ⟨g,0,none⟩) L.length cap) (us.set k [c0,c1,c2,c3,c4,c5,c6]) V (L.set k y):=by
 have Aa:=h.own.len
 have Ad:=h.own.own.lt g rfl
 have gN:=h.gbN
 have mN:=h.mbN
 have Ac:k < us.length:=by omega
 have Ab:Ag (fun b=>b≠g) W (set7 W g k c0 c1 c2 c3 c4 c5 c6):=⟨by rw [set7_size];exact Nat.le_refl _,fun b _ hb=>so5 hb⟩
 exact {
  gbN:=gN
  mbN:=mN
  ne:=h.ne
  NW:=by rw [set7_size];exact h.NW
  box:=(so5 (by omega)).trans h.box
  own:=by
   refine ⟨?_,by simp [Aa],fun j hj hj' => ?_⟩
   ·have ho:=h.own.own
    rw [Aa] at ho
    have q:=(((((((ho.stored (k * 7) c0).1.stored (k * 7 + 1) c1).1.stored (k * 7 + 2) c2).1.stored (k * 7 + 3) c3).1.stored (k * 7 + 4) c4).1.stored (k * 7 + 5) c5).1.stored (k * 7 + 6) c6).1
    rw [fs2 _ _ _ _ _ _ _ us k (h.own.lens gn2) Ac] at q
    rw [List.length_set,Aa];exact q
   ·simp only [List.length_set] at hj hj'
    by_cases e:j=k
    ·subst e
     rw [List.getElem_set_self,List.getElem_set_self]
     exact gn2.weak (gn2.ag hc (Ab.weak fun b hb=>hb.2)) fun b hb=>⟨hb.1,fun e=>hb.2 (Option.some.inj e).symm⟩
    ·rw [List.getElem_set_ne (Ne.symm e),List.getElem_set_ne (Ne.symm e)]
     exact gn2.ag (h.own.at_ j hj hj') (Ab.weak fun b hb e=>hb.2 (by rw [e];rfl))
  nil:=fun e=>absurd (congrArg List.length e) (by rw [List.length_set];simp;intro e;rw [e] at hk;simp at hk)
  map:=by rw [List.length_set];exact h.map.keep (so5 (by omega))
  rows:=fun s=>by
   rw [idxF_set L 0 k hk hname]
   rcases h.rows s with h5 | ⟨r,h5,h6,h7,h8⟩
   ·exact .inl h5
   ·refine .inr ⟨r,h5,h6,h7,ok2 h8 fun b hb=>so5 fun e => ?_⟩
    subst e
    exact h.rowOwn h5 (by rw [show r.1=b from Option.some.inj hb];rfl)
  apart:=h.apart }
end Go.Proofs.YtaddkkkchkdgkaaGreatDoor
namespace Go.Proofs.YtaddkkkchkdgkaaGreatDoor
open Go.RowKit Go.Sort
open Tess (CK Pay PO)
section
variable {T:Lib.PrintTabs} {x:Grp} {L:List Grp}
theorem none_one (hall:∀ i ∈ idxF T (nG T x) 0 L,∀ h:i < L.length,oneB L[i] x=false):∀ y ∈ L,oneB y x=false:=fun y hy=>by
 obtain ⟨k,hk,rfl⟩:=List.mem_iff_getElem.1 hy
 cases h:oneB L[k] x with
 | false=>rfl
 | true=>
   have:=idxF_all (T:=T) L 0 k hk (nameG_one h)
   rw [Nat.zero_add] at this
   rw [hall k this hk] at h;cases h
theorem idxF_in {s:ByteArray} {i:Nat} (h:i ∈ idxF T s 0 L):∃ hi:i < L.length,nG T L[i]=s:=by
 obtain ⟨h1,_,h3⟩:=iFm L 0 i h
 exact ⟨h1,h3⟩
theorem first_one {j:Nat} (hj:j < (idxF T (nG T x) 0 L).length) (hb:∀ j' (h:j' < (idxF T (nG T x) 0 L).length),j' < j→∀ h':(idxF T (nG T x) 0 L)[j'] < L.length,oneB L[(idxF T (nG T x) 0 L)[j']] x=false) (hi:(idxF T (nG T x) 0 L)[j] < L.length) (h1:oneB L[(idxF T (nG T x) 0 L)[j]] x=true) :
  putG L x=L.set (idxF T (nG T x) 0 L)[j] (L[(idxF T (nG T x) 0 L)[j]].1,L[(idxF T (nG T x) 0 L)[j]].2.1,L[(idxF T (nG T x) 0 L)[j]].2.2.add x.2.2):=by
 refine putG_at hi (fun i hil hlt => ?_) h1
 cases h:oneB L[i] x with
 | false=>rfl
 | true=>
   have hm:=idxF_all (T:=T) L 0 i hil (nameG_one h)
   rw [Nat.zero_add] at hm
   obtain ⟨j',Ac,he⟩:=List.mem_iff_getElem.1 hm
   have Aa:=List.pairwise_iff_getElem.1 (idxF_asc (T:=T) (s:=nG T x) L 0)
   have Ab:j' < j:=by
    rcases Nat.lt_trichotomy j' j with h5 | h5 | h5
    ·exact h5
    ·subst h5;omega
    ·have:=Aa j j' hj Ac h5;omega
   have h6:=hb j' Ac Ab (by omega)
   simp only [he] at h6
   rw [h6] at h;cases h
end
theorem pieceB_size (T:Lib.PrintTabs) {v:Tess.Val} (h:v.s.size≤1000000):(pB2 T v).size≤10000040:=by
 have h1:=bBs v.null
 have h2:=qBs T v.s
 have h3:=iBs (n:=(v.s.size:Int)) ⟨by omega,by omega⟩
 unfold pB2
 simp only [ByteArray.size_append]
 have h4:(⟨#[32]⟩:ByteArray).size=1:=rfl
 omega
theorem nBs (T:Lib.PrintTabs):∀ (key:List Tess.Val) (o:ByteArray),(∀ v ∈ key,v.s.size≤1000000)→(key.foldl (fun o v=>o ++ pB2 T v) o).size≤o.size + key.length * 10000040
 | [],o,_=>by simp
 | v :: key,o,h=>by
   have h1:=nBs T key (o ++ pB2 T v) fun u hu=>h u (by simp [hu])
   have h2:=pieceB_size T (h v (by simp))
   rw [ByteArray.size_append] at h1
   rw [List.foldl_cons,List.length_cons]
   omega
theorem nameG_size (T:Lib.PrintTabs) {M:Nat} {x:Grp} (h:GO2 M x):(nG T x).size≤maxLen:=by
 have h1:=nBs T (x.2.1.2.map Tess.valOf) (headB x.1 x.2.1.1) h.size
 have h2:=iBs h.set
 have h3:=iBs h.time
 have h4:=h.len
 have h5:(headB x.1 x.2.1.1).size=(iB x.1).size + 1 + (iB x.2.1.1).size:=by
  unfold headB
  simp only [ByteArray.size_append]
  rfl
 rw [List.length_map] at h1
 unfold nG nameB maxLen
 omega
theorem fGo {M:Nat}:∀ {A L:List Grp},(∀ x ∈ A,GO2 M x)→(∀ y ∈ L,GO2 M y)→∀ y ∈ A.foldl putG L,GO2 M y
 | [],_,_,hL=>hL
 | x :: A,_,hA,hL=>fGo (A:=A) (fun z hz=>hA z (by simp [hz])) (putG_ok (hA x (by simp)) hL)
theorem fGt:∀ (A L:List Grp),totG (A.foldl putG L)=totG L + totG A
 | [],L=>by simp [totG]
 | x :: A,L=>by
   rw [List.foldl_cons,fGt A,putG_tot]
   unfold totG
   simp only [List.map_cons,List.sum_cons];omega
theorem takeG_tot {M:Nat} {A:List Grp} (hA:∀ x ∈ A,GO2 M x) {k:Nat} (hk:k < A.length):totG (A.take k) + A[k].2.2.n≤totG A:=by
 have h1:totG (A.take (k + 1)) + totG (A.drop (k + 1))=totG A:=by
  unfold totG
  rw [← List.sum_append,← List.map_append,List.take_append_drop]
 have h2:=(tGl (M:=M) (L:=A.drop (k + 1)) fun z hz=>hA z (List.mem_of_mem_drop hz)).1
 have h3:totG (A.take (k + 1))=totG (A.take k) + A[k].2.2.n:=by
  rw [List.take_succ_eq_append_getElem hk]
  unfold totG
  simp only [List.map_append,List.sum_append,List.map_cons,List.map_nil,List.sum_cons,List.sum_nil,Int.add_zero]
 omega
theorem takeG_fold {A L:List Grp} {k:Nat} (hk:k < A.length):putG ((A.take k).foldl putG L) A[k]=(A.take (k + 1)).foldl putG L:=by
 rw [List.take_succ_eq_append_getElem hk,List.foldl_append];rfl
theorem tch_step {S S':Nat→Prop} {w W W2:World} (h1:Tch S w W) (ho:∀ b,S' b→S b∨w.heap.size≤b) (h2:Tch S' W W2):Tch S w W2:=
 ⟨h2.os.trans h1.os,h2.tape.trans h1.tape,h2.output.trans h1.output,Nat.le_trans h1.size h2.size,fun b hb hn=>(h2.block b (Nat.lt_of_lt_of_le hb h1.size) fun e=>(ho b e).elim hn fun h=>by omega).trans (h1.block b hb hn)⟩
theorem Tch.grown {S:Nat→Prop} {W W':World} {o:Option Nat} (h:W.grownBy W' o) (hS:∀ b,o=some b→S b):Tch S W W':=
 ⟨h.os,h.tape,h.output,h.size,fun b hb hn=>h.block b hb fun e=>hn (hS b e.symm)⟩
section
variable {T:Lib.PrintTabs} {N gb mb:Nat} {W:World} {v:Value} {us:List (List Value)} {V:ByteArray→RowV} {L:List Grp}
theorem GS.at (h:GS T N gb mb W v us V L) {i:Nat} (hi:i < L.length):∃ g cap c0 c1 c2 c3 c4 c5 c6,v = .slice (some ⟨g,0,none⟩) L.length cap∧g < W.heap.size∧N≤g ∧
  (W.cell? ⟨g,i * 7,none⟩=some c0∧W.cell? ⟨g,i * 7 + 1,none⟩=some c1∧W.cell? ⟨g,i * 7 + 2,none⟩=some c2∧W.cell? ⟨g,i * 7 + 3,none⟩=some c3∧W.cell? ⟨g,i * 7 + 4,none⟩=some c4∧W.cell? ⟨g,i * 7 + 5,none⟩=some c5∧W.cell? ⟨g,i * 7 + 6,none⟩=some c6) ∧
  (∀ o,W.frozen? ⟨g,o,none⟩=false)∧GA2 (fun b=>(N≤b∧oR2 V b)∧b≠g) W [c0,c1,c2,c3,c4,c5,c6] L[i]:=by
 have Aa:=h.own.len
 have Ab:i < us.length:=by omega
 obtain ⟨hl,ho⟩:=h.own.own
 have hR:=h.own.at_ i hi Ab
 have Af:us[i].length=7:=h.own.lens gn2 _ (List.getElem_mem Ab)
 have Ad:∀ o,o < 7→us.flatten[i * 7 + o]? = us[i][o]? := fun o ho=>flatU us (h.own.lens gn2) i o Ab ho
 rcases ho with ⟨_,h0⟩ | ⟨g,cap,Ag,hv,hb,hg,Ae,hm,hs,ht⟩
 ·omega
 ·generalize us[i]=u at *
  match u,Af with
  | [c0,c1,c2,c3,c4,c5,c6],_=>
    have hc:∀ o,o < 7→W.cell? ⟨g,i * 7 + o,none⟩=[c0,c1,c2,c3,c4,c5,c6][o]? := fun o ho=>by
     have Ac:i * 7 + o < us.length * 7:=by omega
     rw [cell_of_row _ _ _ _ _ _ hg,← Ad o ho,← ht,List.getElem?_take,if_pos Ac,Array.getElem?_toList]
    refine ⟨g,cap,c0,c1,c2,c3,c4,c5,c6,by rw [hv,Aa],(Array.getElem?_eq_some_iff.1 hg).1,hb,⟨hc 0 (by omega),hc 1 (by omega),hc 2 (by omega),hc 3 (by omega),hc 4 (by omega),hc 5 (by omega),hc 6 (by omega)⟩,fun o=>frozen_of_row _ _ _ _ _ hg,?_⟩
    exact gn2.weak hR fun b hb'=>⟨hb'.1,fun e=>hb'.2 (by rw [hv,e];rfl)⟩
theorem GS.idx (h:GS T N gb mb W v us V L) {s:ByteArray} {j:Nat} (hj:j < (idxF T s 0 L).length):∃ g cap,valO (V s) = .slice (some ⟨g,0,none⟩) (idxF T s 0 L).length cap∧g < W.heap.size∧N≤g∧W.cell? ⟨g,j,none⟩=some (.int .i64 ((idxF T s 0 L)[j]:Nat)):=by
 rcases h.rows s with ⟨_,h2⟩ | ⟨r,h1,_,h3,h4⟩
 ·rw [h2] at hj;exact absurd hj (Nat.not_lt_zero _)
 ·rw [h3] at h4
  obtain ⟨g,cap,e,hb,Aa,_,_,hc⟩:=oca h4 (by omega)
  refine ⟨g,cap,by rw [h1];exact e,Aa,hb,?_⟩
  rw [hc j (by omega),List.getElem?_map,List.getElem?_eq_getElem hj];rfl
theorem GS.len (h:GS T N gb mb W v us V L) (s:ByteArray):∃ a cap,valO (V s) = .slice a (idxF T s 0 L).length cap:=by
 rcases h.rows s with ⟨h1,h2⟩ | ⟨r,h1,_,h3,_⟩
 ·rw [h1,h2];exact ⟨_,_,rfl⟩
 ·obtain ⟨g,n,c⟩:=r
  simp only at h3
  rw [h1,← h3];exact ⟨_,_,rfl⟩
theorem GS.shape (h:GS T N gb mb W v us V L):∃ a cap,v = .slice a L.length cap:=by
 rcases Nat.eq_zero_or_pos L.length with h0 | h0
 ·have e:L=[]:=List.eq_nil_of_length_eq_zero h0
  rw [h.nil e,e];exact ⟨_,_,rfl⟩
 ·obtain ⟨g,cap,_,_,_,_,_,_,_,e,_⟩:=h.at h0
  exact ⟨_,_,e⟩
theorem GS.S_row {s:ByteArray} {b:Nat} (h:(valO (V s)).ownBlock=some b):GS.S gb mb v V b:=by
 cases e:V s with
 | none=>rw [e] at h;cases h
 | some r=>rw [e] at h;exact .inr (.inr (.inr ⟨s,r,e,Option.some.inj h⟩))
theorem GS.rowAt (h:GS T N gb mb W v us V L) (s:ByteArray):W.ownsRow N 3 1 (valO (V s)) (idxF T s 0 L).length ((idxF T s 0 L).map fun i=>Value.int .i64 (i:Nat)):=by
 rcases h.rows s with ⟨h1,h2⟩ | ⟨r,h1,_,h3,h4⟩
 ·rw [h1,h2];exact World.ownsRow_nil _ _ _ _
 ·rw [h1,← h3];exact h4
theorem GS.rowBlk (h:GS T N gb mb W v us V L) {s:ByteArray} {b:Nat} (hb:(valO (V s)).ownBlock=some b):N≤b∧b < W.heap.size∧v.ownBlock≠some b:=by
 cases e:V s with
 | none=>rw [e] at hb;cases hb
 | some r=>
   rw [e] at hb
   obtain rfl:r.1=b:=Option.some.inj hb
   exact ⟨(h.rL2 e).1,(h.rL2 e).2,h.rowOwn e⟩
theorem GS.ownAt {w5 w6 w7:World} {s:ByteArray} (h:GS T N gb mb W v us V L) (h1:W.grownBy w5 (valO (V s)).ownBlock) (h2:w5.grownBy w6 (some mb)) (h3:Below w6.heap.size w6 w7) :
  w7.ownsRow N 56 7 v us.length us.flatten∧w7.heap[gb]? = some (.cells #[v,.map (some mb)] 101 (0,0)):=by
 have NW:=h.NW
 have gN:=h.gbN
 have mN:=h.mbN
 have Ac:=h1.size
 have Ab:=h2.size
 have Aa:∀ b,b < W.heap.size→(valO (V s)).ownBlock≠some b→b≠mb→w7.heap[b]? = W.heap[b]? := fun b hb h5 h6=>
  (h3.block b (by omega)).trans ((h2.block b (by omega) (fun e=>h6 (Option.some.inj e))).trans (h1.block b hb (fun e=>h5 e.symm)))
 refine ⟨ok2 h.own.own fun b hb => ?_,(Aa gb (by omega) (fun e => ?_) h.ne).trans h.box⟩
 ·have:=h.own.own.lt b hb
  exact Aa b this.2 (fun e=>(h.rowBlk e).2.2 hb) (by omega)
 ·have:=(h.rowBlk e).1;omega
theorem GS.S_le (h:GS T N gb mb W v us V L) {B:Nat} (hg:B≤gb) (hm:B≤mb) {b:Nat} (hb:GS.S gb mb v V b):B≤b:=by
 have:=h.gbN
 rcases hb with rfl | rfl | hb | ⟨s,r,hr,rfl⟩
 ·exact hg
 ·exact hm
 ·have:=(h.own.own.lt b hb).1;omega
 ·have:=(h.rL2 hr).1;omega
end
end Go.Proofs.YtaddkkkchkdgkaaGreatDoor
namespace Go.FlowP
open Go Go.RowKit Go.Flow
def Qn (E:Act→World→Prop):Exit→Act→World→Prop:=fun x a w=>x = .normal∧E a w
theorem nl2 (E:Act→World→Prop):¬ LetsOut (Qn E):=fun ⟨_,_,h,_⟩=>by cases h
section
variable {P:Program} {ops:Array Oper}
theorem upon_put {o:Oper} {a:Act} {di:Option Tmp} {v:Value} {K K':Act→World→Prop} {E:Act→World→Prop} {r:Result Next} (hd:∀ d,di=some d→o.dst≠some d) (hK:∀ b w,K (b.put di v) w→K' b w)
  (h:o.upon P (a.put di v) K (Qn E) r):o.upon P a K' (Qn E) r:=by
 have Aa:∀ u w',K ((a.put di v).put o.dst u) w'→K' (a.put o.dst u) w':=fun u w' h=>hK _ _ (by rw [← Act.put_comm a v u hd];exact h)
 cases r with
 | ok n w'=>
   cases n <;> simp only [Oper.upon] at h ⊢
   case value u=>exact Aa _ _ h
   case skip=>exact Aa _ _ h
   case defer d=>
    refine hK _ _ ?_
    rw [← Act.put_comm _ v undef hd]
    have:(({ a with defers:=d :: a.defers }:Act).put di v) = { (a.put di v) with defers:=d :: (a.put di v).defers }:=by cases di <;> rfl
    rw [this]
    exact h
   case enter f args=>
    refine Calls.mono h fun e w'' he => ?_
    cases e with
    | returned u=>exact Aa _ _ he
    | panicked c=>exact (by cases he.1)
    | outgrown=>exact (nl2 E he).elim
   case row=>exact Rows.mono h fun u w'' he=>Aa _ _ he
 | halt x w'=>
   cases x <;> simp only [Oper.upon] at h ⊢
   case panic=>exact (by cases h.1)
theorem upon_weak {o:Oper} {a:Act} {K K':Act→World→Prop} {Q:Exit→Act→World→Prop} {r:Result Next} (hK:∀ b w,K b w→K' b w) (h:o.upon P a K (Qn (Q .normal)) r):o.upon P a K' Q r:=by
 cases r with
 | ok n w'=>
   cases n <;> simp only [Oper.upon] at h ⊢
   case value u=>exact hK _ _ h
   case skip=>exact hK _ _ h
   case defer d=>exact hK _ _ h
   case enter f args=>
    refine Calls.mono h fun e w'' he => ?_
    cases e with
    | returned u=>exact hK _ _ he
    | panicked c=>exact (by cases he.1)
    | outgrown=>exact (nl2 _ he).elim
   case row=>exact Rows.mono h fun u w'' he=>hK _ _ he
 | halt x w'=>
   cases x <;> simp only [Oper.upon] at h ⊢
   case panic=>exact (by cases h.1)
theorem wAw {Q:Exit→Act→World→Prop}:∀ (fuel:Nat) (listed:Array Bool) (a:Act) (w:World),wpAny P .any ops (Qn (Q .normal)) fuel listed a w→wpAny P .any ops Q fuel listed a w
 | 0,_,_,_,h=>⟨h.1,h.2.2⟩
 | fuel + 1,listed,a,w,h=>by
   refine ⟨fun h0=>(h.1 h0).2,fun i hi => ?_⟩
   have h1:=h.2 i hi
   unfold wpOp at h1 ⊢
   split
   ·rename_i ho
    simp only [ho] at h1
    exact wAw fuel _ _ _ h1
   ·rename_i o ho
    simp only [ho] at h1
    split
    ·rename_i hw
     simp only [hw,if_true] at h1
     rcases h1 with h1 | h1
     ·exact .inl (upon_weak (fun b w hb=>wAw fuel _ _ _ hb) h1)
     ·exact (nl2 _ h1.2).elim
    ·rename_i hw
     simp only [hw] at h1
     exact wAw fuel _ _ _ h1
theorem wpAny_pure {E:Act→World→Prop} {i:Nat} {oi:Oper} {v:Value} (hi:ops[i]? = some oi) (hsel:∀ (j:Nat) (o:Oper) cs b,ops[j]? = some o→o.op ≠ .select cs b) :
  ∀ (fuel:Nat) (listed:Array Bool) (a:Act) (w:World),
    (∀ j oj,ops[j]? = some oj→j≠i→listed.getD j true=false→(∀ e ∈ oj.after,Region.binds .any e=true→e.on≠i)→oi.apart ops oj=true) →
    i ∈ Region.ready .any ops listed→Region.wanted oi (yielded ops a.tmps)=true→(∀ w,(execOp a.eval oi).run P w = .ok (.value v) w) →
    wpAny P .any ops (Qn E) fuel (listed.setIfInBounds i true) (a.put oi.dst v) w→wpAny P .any ops (Qn E) (fuel + 1) listed a w:=by
 intro fuel
 induction fuel with
 | zero=>
   intro listed a w _ hr hw hp H
   refine ⟨fun h=>(by rw [h] at hr;cases hr),fun j hj => ?_⟩
   by_cases hji:j=i
   ·subst hji
    unfold wpOp;simp only [hi,hw,if_true]
    refine .inl ?_
    unfold Oper.wp;rw [hp];exact H
   ·have:=ready_mono hj hji
    rw [H.1] at this
    cases this
 | succ fuel ih=>
   intro listed a w Ab hr hw hp H
   refine ⟨fun h=>(by rw [h] at hr;cases hr),fun j hj => ?_⟩
   by_cases hji:j=i
   ·subst hji
    unfold wpOp;simp only [hi,hw,if_true]
    refine .inl ?_
    unfold Oper.wp;rw [hp];exact H
   ·obtain ⟨Ad,oj,Ah,Ae⟩:=mem_ready.1 hj
    have Af:=(mem_ready.1 hr).1
    have Al:∀ k,listed.getD k true=false→listed.getD k false=true→False:=fun k h1 h0=>by rw [getD_both h1] at h0;cases h0
    have Ag:∀ e ∈ oj.after,Region.binds .any e=true→e.on≠i:=fun e he hb heq=>Al i Af (by rw [← heq];exact Ae e he hb)
    have Ak:=Ab j oj Ah hji Ad Ag
    obtain ⟨h1,h2,h3⟩:=Oper.apart_spec Ak
    have Ac:∀ k ok,ops[k]? = some ok→k≠i→(listed.setIfInBounds j true).getD k true=false →
      (∀ e ∈ ok.after,Region.binds .any e=true→e.on≠i)→oi.apart ops ok=true:=fun k ok hk hki hun hno=>by
     refine Ab k ok hk hki ?_ hno
     by_cases hjk:j=k
     ·subst hjk;exact Ad
     ·rw [getD_set_ne true hjk] at hun;exact hun
    have Hj:=H.2 j (ready_mono hj hji)
    unfold wpOp at Hj ⊢
    simp only [Ah] at Hj ⊢
    rw [wanted_put oj a oi.dst v h1] at Hj
    have step:∀ (b:Act) (u:Value) (w':World),Region.wanted oi (yielded ops b.tmps)=true→(∀ w,(execOp b.eval oi).run P w = .ok (.value v) w)→wpAny P .any ops (Qn E) fuel ((listed.setIfInBounds i true).setIfInBounds j true) (b.put oi.dst v) w'→wpAny P .any ops (Qn E) (fuel + 1) (listed.setIfInBounds j true) b w':=fun b u w' hw hp H=>by
     refine ih (listed.setIfInBounds j true) b w' Ac (ready_mono hr (Ne.symm hji)) hw hp ?_
     rw [Array.setIfInBounds_comm _ _ hji]
     exact H
    split
    ·rename_i hwj
     simp only [hwj,if_true] at Hj
     rcases Hj with Hj | Hj
     ·refine .inl ?_
      unfold Oper.wp at Hj ⊢
      rw [execOp_put oj (fun cs b=>hsel j oj cs b Ah) a oi.dst v h1] at Hj
      generalize (execOp a.eval oj).run P w=r at Hj ⊢
      have Ai:∀ u,Region.wanted oi (yielded ops (a.put oj.dst u).tmps)=true:=fun u=>by rw [wanted_put oi a oj.dst u h3];exact hw
      have Aj:∀ u w,(execOp (a.put oj.dst u).eval oi).run P w = .ok (.value v) w:=fun u w=>by rw [execOp_put oi (fun cs b=>hsel i oi cs b hi) a oj.dst u h3];exact hp w
      have Aa:∀ u w',wpAny P .any ops (Qn E) fuel ((listed.setIfInBounds i true).setIfInBounds j true) ((a.put oi.dst v).put oj.dst u) w'→wpAny P .any ops (Qn E) (fuel + 1) (listed.setIfInBounds j true) (a.put oj.dst u) w':=fun u w' h=>
       step _ u w' (Ai u) (Aj u) (by rw [← Act.put_comm a v u h2];exact h)
      cases r with
      | ok n w'=>
        cases n <;> simp only [Oper.upon] at Hj ⊢
        case value u=>exact Aa _ _ Hj
        case skip=>exact Aa _ _ Hj
        case defer d=>
         have e1:(({ a with defers:=d :: a.defers }:Act).put oj.dst undef).tmps=(a.put oj.dst undef).tmps:=by cases oj.dst <;> rfl
         have e2:(({ a with defers:=d :: a.defers }:Act).put oj.dst undef).eval=(a.put oj.dst undef).eval:=by funext x;cases oj.dst <;> cases x <;> rfl
         refine step _ undef w' (by rw [e1];exact Ai undef) (fun w=>by rw [e2];exact Aj undef w) ?_
         rw [← Act.put_comm _ v undef h2]
         have:(({ a with defers:=d :: a.defers }:Act).put oi.dst v) = { (a.put oi.dst v) with defers:=d :: (a.put oi.dst v).defers }:=by cases oi.dst <;> rfl
         rw [this]
         exact Hj
        case enter f args=>
         refine Calls.mono Hj fun e w'' he => ?_
         cases e with
         | returned u=>exact Aa _ _ he
         | panicked c=>exact (by cases he.1)
         | outgrown=>exact (nl2 E he).elim
        case row=>exact Rows.mono Hj fun u w'' he=>Aa _ _ he
      | halt x w'=>
        cases x <;> simp only [Oper.upon] at Hj ⊢
        case panic=>exact (by cases Hj.1)
     ·exact (nl2 _ Hj.2).elim
    ·rename_i hwj
     simp only [hwj] at Hj
     refine step _ undef w ?_ ?_ (by rw [← Act.put_comm a v undef h2];exact Hj)
     ·rw [wanted_put oi a oj.dst undef h3];exact hw
     ·intro w
      rw [execOp_put oi (fun cs b=>hsel i oi cs b hi) a oj.dst undef h3];exact hp w
def seqL (ops:Array Oper):List Nat→Array Bool→Bool
 | [],listed=>(Region.ready .any ops listed).isEmpty
 | k :: ks,listed=>decide (Region.ready .any ops listed=[k]) && seqL ops ks (listed.setIfInBounds k true)
theorem wAo3 {Q:Exit→Act→World→Prop}:∀ (ks:List Nat) (l:List Oper) (listed:Array Bool) (a:Act) (w:World),ks.map (fun k=>ops[k]?)=l.map some→seqL ops ks listed=true→wpList P ops Q l a w→wpAny P .any ops Q ks.length listed a w
 | [],l,_,_,_,hl,hB,h=>by
   have:l=[]:=by cases l with
    | nil=>rfl
    | cons=>cases hl
   subst this
   exact ⟨by simpa [seqL] using hB,h⟩
 | k :: ks,[],_,_,_,hl,_,_=>by cases hl
 | k :: ks,o :: l,listed,a,w,hl,hB,h=>by
   simp only [List.map_cons,List.cons.injEq] at hl
   simp only [seqL,Bool.and_eq_true,decide_eq_true_eq] at hB
   refine ⟨fun h1=>(by rw [hB.1] at h1;cases h1),fun i hi => ?_⟩
   rw [hB.1] at hi
   have Aa:i=k:=by simpa using hi
   subst Aa
   have hw:wpOp P ops Q i (wpList P ops Q l) a w:=by unfold wpOp;simp only [hl.1];exact h
   exact wpOp_mono (fun a' w' h'=>wAo3 ks l _ a' w' hl.2 hB.2 h') hw
theorem sLr {ks:List Nat} {n:Nat} {listed:Array Bool} (hn:∀ k ∈ ks,n≤k) (h:seqL ops ks listed=true):∀ j ∈ Region.ready .any ops listed,n≤j:=by
 cases ks with
 | nil=>intro j hj;simp only [seqL,List.isEmpty_iff] at h;rw [h] at hj;cases hj
 | cons k ks=>
   intro j hj
   simp only [seqL,Bool.and_eq_true,decide_eq_true_eq] at h
   rw [h.1] at hj
   have:j=k:=by simpa using hj
   subst this
   exact hn _ (List.mem_cons_self ..)
def sT2 (ops:Array Oper) (n t1:Nat):Bool:=(List.range n).all fun i=>(t1 :: List.range n).any fun j=>decide (i < j) && Region.waitsFor .any ops j i
def cT2 (ops:Array Oper) (t1:Nat) (ks:List Nat):Bool:=ks.all fun t=>t == t1 || ks.any fun p=>Region.waitsFor .any ops t p
structure HInv (ops:Array Oper) (n:Nat) (ks:List Nat) (listed:Array Bool):Prop where
 size:listed.size=ops.size
 closed:∀ j oj,ops[j]? = some oj→listed.getD j false=true→∀ e ∈ oj.after,Region.binds .any e=true→listed.getD e.on false=true
 tail:∀ t ∈ ks,listed.getD t true=false
 rest:∀ j,n≤j→j < ops.size→j ∉ ks→listed.getD j true=true
theorem HInv.set {n i:Nat} {ks:List Nat} {listed:Array Bool} (inv:HInv ops n ks listed) (hi:i ∈ Region.ready .any ops listed) (hin:i ∉ ks):HInv ops n ks (listed.setIfInBounds i true):=by
 obtain ⟨Ab,oi,Ac,Aa⟩:=mem_ready.1 hi
 refine ⟨by simp [inv.size],fun j oj hj hl e he hb => ?_,fun t ht=>by rw [getD_set_ne true (fun e=>hin (by rw [e];exact ht))];exact inv.tail t ht,fun j h1 h2 h3 => ?_⟩
 ·by_cases hij:i=j
  ·subst hij
   have:oj=oi:=Option.some.inj (hj.symm.trans Ac)
   subst this
   exact getD_set_true (Aa e he hb)
  ·rw [getD_set_ne false hij] at hl
   exact getD_set_true (inv.closed j oj hj hl e he hb)
 ·by_cases hij:i=j
  ·subst hij
   have:=inv.rest i h1 h2 h3
   rw [Ab] at this
   cases this
  ·rw [getD_set_ne true hij];exact inv.rest j h1 h2 h3
theorem waits {n t1:Nat} {ks:List Nat} {listed:Array Bool} (hs:sT2 ops n t1=true) (hc:cT2 ops t1 ks=true) (inv:HInv ops n ks listed) :
  ∀ (d i:Nat),n - i=d→i < n→listed.getD i true=false→∀ t,n≤t→t ∉ Region.ready .any ops listed:=by
 intro d
 induction d using Nat.strongRecOn with
 | _ d ih=>
   intro i hd hi Ah t ht hr
   obtain ⟨Ac,ot,Ae,Aa⟩:=mem_ready.1 hr
   have Ad:t < ops.size:=(Array.getElem?_eq_some_iff.1 Ae).1
   by_cases htk:t ∈ ks
   ·have h1:=List.all_eq_true.1 hc t htk
    simp only [Bool.or_eq_true,beq_iff_eq] at h1
    rcases h1 with h1 | h1
    ·subst h1
     have h1:=List.all_eq_true.1 hs i (List.mem_range.2 hi)
     obtain ⟨j,hj,Ag⟩:=List.any_eq_true.1 h1
     simp only [Bool.and_eq_true,decide_eq_true_eq] at Ag
     obtain ⟨oj,Af,e,he,hb,Ab⟩:=Region.waitsFor_spec Ag.2
     rcases List.mem_cons.1 hj with rfl | hj
     ·have:oj=ot:=Option.some.inj (Af.symm.trans Ae)
      subst this
      have h2:=Aa e he hb
      rw [Ab,getD_both Ah] at h2
      cases h2
     ·have Ai:j < n:=List.mem_range.1 hj
      cases hl:listed.getD j false with
      | true=>
        have h2:=inv.closed j oj Af hl e he hb
        rw [Ab,getD_both Ah] at h2
        cases h2
      | false=>
        have Aj:j < listed.size:=by rw [inv.size];omega
        exact ih (n - j) (by omega) j rfl Ai (getD_in Aj hl) t ht hr
    ·obtain ⟨p,hp,hw⟩:=List.any_eq_true.1 h1
     obtain ⟨o',Ak,e,he,hb,Ab⟩:=Region.waitsFor_spec hw
     have:o'=ot:=Option.some.inj (Ak.symm.trans Ae)
     subst this
     have h2:=Aa e he hb
     rw [Ab,getD_both (inv.tail p hp)] at h2
     cases h2
   ·have:=inv.rest t ht Ad htk
    rw [Ac] at this
    cases this
theorem aFf {S:Nat→Flow.Spec} {w0:World} {n t1 i:Nat} {ks:List Nat} {oi:Oper} {L:Array Bool→Act→(Nat→World→Prop)→Prop} (hi:ops[i]? = some oi) (hsel:∀ (j:Nat) (o:Oper) cs b,ops[j]? = some o→o.op ≠ .select cs b)
  (hs:sT2 ops n t1=true) (hc:cT2 ops t1 ks=true) (hin:i < n) (hks:∀ k ∈ ks,n≤k)
  (hdone:∀ listed a Γ,L listed a Γ→∀ j ∈ Region.ready .any ops listed,n≤j) :
  ∀ (f:Nat) (listed:Array Bool) (a:Act) (Γ:Nat→World→Prop),HInv ops n ks listed →
    (∀ j oj,ops[j]? = some oj→j≠i→listed.getD j true=false→(∀ e ∈ oj.after,Region.binds .any e=true→e.on≠i)→oi.apart ops oj=true) →
    i ∈ Region.ready .any ops listed→Ru P ops w0 oi (S i) a Γ →
    (∀ v,(S i).ok v→aF P ops S w0 n L f (listed.setIfInBounds i true) (a.put oi.dst v) (upd Γ i ((S i).holds v)))→aF P ops S w0 n L (f + 1) listed a Γ:=by
 have Ao:∃ v,(S i).ok v:=by
  cases hs:S i with
  | inl u=>exact ⟨u,rfl⟩
  | inr V=>exact ⟨undef,trivial⟩
 obtain ⟨v0,Al⟩:=Ao
 intro f
 induction f with
 | zero=>
   intro listed a Γ Ah _ hr hy H
   have Ac:=(mem_ready.1 hr).1
   refine ⟨fun h=>(by rw [h] at hr;cases hr),fun j hj => ?_⟩
   have Aj:j < n:=by
    rcases Nat.lt_or_ge j n with h | h
    ·exact h
    ·exact absurd hj (waits hs hc Ah _ i rfl hin Ac j h)
   refine ⟨Aj,?_⟩
   by_cases hji:j=i
   ·subst hji
    unfold fOp;simp only [hi];exact ⟨hy,H⟩
   ·have:=hdone _ _ _ (H v0 Al) j (ready_mono hj hji)
    omega
 | succ f ih=>
   intro listed a Γ Ah Aa hr hy H
   have Ac:=(mem_ready.1 hr).1
   refine ⟨fun h=>(by rw [h] at hr;cases hr),fun j hj => ?_⟩
   have Aj:j < n:=by
    rcases Nat.lt_or_ge j n with h | h
    ·exact h
    ·exact absurd hj (waits hs hc Ah _ i rfl hin Ac j h)
   refine ⟨Aj,?_⟩
   by_cases hji:j=i
   ·subst hji
    unfold fOp;simp only [hi];exact ⟨hy,H⟩
   ·obtain ⟨Ad,oj,Ai,Ak⟩:=mem_ready.1 hj
    have Am:∀ k,listed.getD k true=false→listed.getD k false=true→False:=fun k h1 h0=>by rw [getD_both h1] at h0;cases h0
    have Af:∀ e ∈ oj.after,Region.binds .any e=true→e.on≠i:=fun e he hb heq=>Am i Ac (by rw [← heq];exact Ak e he hb)
    have Ae:∀ e ∈ oi.after,Region.binds .any e=true→e.on≠j:=fun e he hb heq=>by
     obtain ⟨_,o',An,Ag⟩:=mem_ready.1 hr
     rw [hi] at An;cases An
     exact Am j Ad (by rw [← heq];exact Ag e he hb)
    have Ap:=Aa j oj Ai hji Ad Af
    obtain ⟨h1,h2,h3⟩:=Oper.apart_spec Ap
    have Ab:∀ k ok,ops[k]? = some ok→k≠i→(listed.setIfInBounds j true).getD k true=false →
      (∀ e ∈ ok.after,Region.binds .any e=true→e.on≠i)→oi.apart ops ok=true:=fun k ok hk hki Ac hno=>by
     refine Aa k ok hk hki ?_ hno
     by_cases hjk:j=k
     ·subst hjk;exact Ad
     ·rw [getD_set_ne true hjk] at Ac;exact Ac
    have Hj:∀ v,(S i).ok v→Ru P ops w0 oj (S j) (a.put oi.dst v) (upd Γ i ((S i).holds v))∧∀ u,(S j).ok u →
      aF P ops S w0 n L f ((listed.setIfInBounds i true).setIfInBounds j true) ((a.put oi.dst v).put oj.dst u) (upd (upd Γ i ((S i).holds v)) j ((S j).holds u)):=fun v hv=>by
     have:=((H v hv).2 j (ready_mono hj hji)).2
     unfold fOp at this
     simpa only [Ai] using this
    unfold fOp
    simp only [Ai]
    refine ⟨(Hj v0 Al).1.of_same (execOp_put oj (fun cs b=>hsel j oj cs b Ai) a oi.dst v0 h1).symm (wanted_put oj a oi.dst v0 h1).symm (fun k hk => ?_),fun u hu => ?_⟩
    ·exact (upd_ne (nd2 Af hk)).symm
    ·refine ih (listed.setIfInBounds j true) _ _ (Ah.set hj (fun hk=>by have:=hks j hk;omega)) Ab (ready_mono hr (Ne.symm hji)) ?_ (fun v hv => ?_)
     ·exact hy.of_same (execOp_put oi (fun cs b=>hsel i oi cs b hi) a oj.dst u h3) (wanted_put oi a oj.dst u h3) (fun k hk=>upd_ne (nd2 Ae hk))
     ·have:=(Hj v hv).2 u hu
      rw [Array.setIfInBounds_comm _ _ hji,← Act.put_comm a v u h2,← uc2 hji]
      exact this
def lHT (ops:Array Oper) (ks:List Nat):Nat→Nat→Array Bool→Bool
 | 0,_,listed=>seqL ops ks listed
 | f + 1,k,listed=>(Region.ready .any ops listed).contains k && Region.free .any ops listed k && lHT ops ks f (k + 1) (listed.setIfInBounds k true)
theorem aFl {S:Nat→Flow.Spec} {w0:World} {n t1:Nat} {ks:List Nat} {Lq:Act→(Nat→World→Prop)→Prop} (hsel:Region.noSelect ops=true) (hs:sT2 ops n t1=true) (hc:cT2 ops t1 ks=true) (hks:∀ k ∈ ks,n≤k) :
  ∀ (l:List Oper) (k:Nat) (listed:Array Bool) (a:Act) (Γ:Nat→World→Prop),(∀ j,j < l.length→l[j]? = ops[k + j]?)→k + l.length=n→HInv ops n ks listed →
  lHT ops ks l.length k listed=true→Tree P ops S w0 Lq l k a Γ →
  aF P ops S w0 n (fun listed' a' Γ'=>seqL ops ks listed'=true∧Lq a' Γ') l.length listed a Γ
 | [],k,listed,a,Γ,_,hk,_,hB,h=>⟨by simpa [lHT] using hB,h⟩
 | o :: l,k,listed,a,Γ,hl,hk,inv,hB,h=>by
   have h0:ops[k]? = some o:=by simpa using (hl 0 (by simp)).symm
   simp only [List.length_cons,lHT,Bool.and_eq_true] at hB
   obtain ⟨⟨hr,hf⟩,Ab⟩:=hB
   have Ac:k < n:=by simp only [List.length_cons] at hk;omega
   have Aa:k ∈ Region.ready .any ops listed:=by simpa using hr
   exact aFf h0 (Region.noSelect_spec hsel) hs hc Ac hks (fun listed' a' Γ' hL=>sLr hks hL.1) l.length listed a Γ inv (Region.free_spec h0 hf) Aa h.1
    (fun v hv=>aFl hsel hs hc hks l (k + 1) _ _ _ (fun j hj=>by have:=hl (j + 1) (by simp;omega);simpa [Nat.add_assoc,Nat.add_comm 1 j] using this) (by simp only [List.length_cons] at hk;omega) (inv.set Aa (fun hk=>by have:=hks k hk;omega)) Ab (h.2 v hv))
def pO (ops:Array Oper):List Nat→Array Bool→Bool
 | [],_=>true
 | p :: ps,listed=>(Region.ready .any ops listed).contains p && Region.free .any ops listed p && pO ops ps (listed.setIfInBounds p true)
def after (ps:List Nat) (listed:Array Bool):Array Bool:=ps.foldl (fun l p=>l.setIfInBounds p true) listed
def Pure (P:Program) (ops:Array Oper):List Nat→(Act→Prop)→Act→Prop
 | [],K,a=>K a
 | p :: ps,K,a => ∃ o v,ops[p]? = some o∧Region.wanted o (yielded ops a.tmps)=true∧(∀ w,(execOp a.eval o).run P w = .ok (.value v) w)∧Pure P ops ps K (a.put o.dst v)
theorem wAp {E:Act→World→Prop} {fuel:Nat} {w:World} (hsel:Region.noSelect ops=true):∀ (ps:List Nat) (listed:Array Bool) (a:Act),pO ops ps listed=true →
  Pure P ops ps (fun a'=>wpAny P .any ops (Qn E) fuel (after ps listed) a' w) a→wpAny P .any ops (Qn E) (fuel + ps.length) listed a w
 | [],_,_,_,h=>h
 | p :: ps,listed,a,hB,h=>by
   simp only [pO,Bool.and_eq_true] at hB
   obtain ⟨⟨hr,hf⟩,hB'⟩:=hB
   obtain ⟨o,v,ho,hw,hp,hK⟩:=h
   have:=wAp hsel ps (listed.setIfInBounds p true) (a.put o.dst v) hB' hK
   exact wpAny_pure ho (Region.noSelect_spec hsel) (fuel + ps.length) listed a w (Region.free_spec ho hf) (by simpa using hr) hw hp this
theorem pm {K K':Act→Prop} (h:∀ a,K a→K' a):∀ (ps:List Nat) (a:Act),Pure P ops ps K a→Pure P ops ps K' a
 | [],_,hh=>h _ hh
 | _ :: ps,_,⟨o,v,h1,h2,h3,h4⟩=>⟨o,v,h1,h2,h3,pm h ps _ h4⟩
def okB (ops:Array Oper) (n t1:Nat) (ps ks:List Nat):Bool:=
 Region.noSelect ops && decide (n≤ops.size) && sT2 ops n t1 && cT2 ops t1 ks && (ks.all fun k=>decide (n≤k)) && (ks.all fun k=>decide (k < ops.size)) && pO ops ps (Array.replicate ops.size false) && lHT ops ks n 0 (after ps (Array.replicate ops.size false)) &&
  (ps.length + n + ks.length == ops.size) && ((List.range ops.size).all fun j=>decide (j < n) || ks.contains j || (after ps (Array.replicate ops.size false)).getD j true) && (ks.all fun k => !(after ps (Array.replicate ops.size false)).getD k true) &&
  ((after ps (Array.replicate ops.size false)).size == ops.size) &&
  ((List.range ops.size).all fun j => !(after ps (Array.replicate ops.size false)).getD j false || match ops[j]? with
    | some oj=>oj.after.all fun e => !Region.binds .any e || (after ps (Array.replicate ops.size false)).getD e.on false
    | none=>true)
def pick (l:List Oper) (ks:List Nat):List Oper:=ks.flatMap fun k=>(l.drop k).take 1
theorem pick_map (l:List Oper):∀ (ks:List Nat),(∀ k ∈ ks,k < l.length)→ks.map (fun k=>l.toArray[k]?)=(pick l ks).map some
 | [],_=>rfl
 | k :: ks,h=>by
   have hk:=h k (List.mem_cons_self ..)
   have ih:=pick_map l ks (fun j hj=>h j (List.mem_cons_of_mem _ hj))
   have e:(l.drop k).take 1=[l[k]]:=by rw [List.drop_eq_getElem_cons hk];rfl
   simp only [pick,List.flatMap_cons,List.map_cons,List.map_append,e,List.map_nil] at ih ⊢
   rw [ih]
   simp [hk]
theorem wp_region {id:Nat} {Q:Exit→Act→World→Prop} {a:Act} {w:World} {l:List Oper} (n t1:Nat) (ps ks:List Nat) (S:Nat→Flow.Spec) (hm:P.follows .mixedOrders=true) (hB:okB l.toArray n t1 ps ks=true) (hS:∀ i,(S i).mono)
  (h:Pure P l.toArray ps (fun a0=>Tree P l.toArray S w (fun a' Γ => ∀ w',Below w.heap.size w w'→(∀ j,Γ j w')→wpList P l.toArray (Qn (Q .normal)) (pick l ks) a' w') (l.take n) 0 a0 (fun _ _=>True)) a):(Code.region id l.toArray true).wp P Q a w:=by
 simp only [okB,Bool.and_eq_true,decide_eq_true_eq,beq_iff_eq,List.all_eq_true,Bool.or_eq_true,List.mem_range,Bool.not_eq_true'] at hB
 obtain ⟨⟨⟨⟨⟨⟨⟨⟨⟨⟨⟨⟨Ab,hn⟩,hs⟩,hc⟩,Al⟩,Ak⟩,Am⟩,Ae⟩,Ag⟩,Ac⟩,Aa⟩,Ah⟩,Aj⟩:=hB
 have An:n≤l.length:=by simpa using hn
 have Ad:(l.take n).length=n:=by simp;omega
 have Af:HInv l.toArray n ks (after ps (Array.replicate l.toArray.size false)):=by
  refine ⟨Ah,fun j oj hj hl e he hb => ?_,Aa,fun j h1 h2 h3 => ?_⟩
  ·rcases Aj j (Array.getElem?_eq_some_iff.1 hj).1 with h | h
   ·rw [hl] at h;cases h
   ·simp only [hj] at h
    have:=Array.all_eq_true'.1 h e he
    simp only [Bool.or_eq_true,Bool.not_eq_true'] at this
    rcases this with h | h
    ·rw [hb] at h;cases h
    ·exact h
  ·rcases Ac j h2 with (h | h) | h
   ·exact absurd h (by omega)
   ·exact absurd (by simpa using h) h3
   ·exact h
 refine wp_region_any hm (wAw _ _ _ _ ?_)
 have H:=wAp (P:=P) (E:=Q .normal) (fuel:=n + ks.length) (w:={ w with drawn:=w.drawn + 1 }) Ab ps (Array.replicate l.toArray.size false) a Am (pm (fun a0 h0=>by
  have H:=aFl Ab hs hc Al (l.take n) 0 _ a0 (fun _ _=>True) (fun j hj=>by
   have Ai:j < n:=by rw [Ad] at hj;exact hj
   simp [Ai]) (by simpa using Ad) Af (by rw [Ad];exact Ae) h0
  have:=wAo (Q:=Qn (Q .normal)) (g:=ks.length) hS (fun listed a' Γ' w' hL hb hG=>wAo3 ks (pick l ks) listed a' w' (pick_map l ks (fun k hk=>by simpa using Ak k hk)) hL.1 (hL.2 w' hb hG)) _ _ _ _ { w with drawn:=w.drawn + 1 } H ((Below.refl _ _).drew) (fun _=>trivial) (fun _ _ _ _ _=>trivial)
  rw [Ad] at this
  exact this) ps a h)
 rw [show n + ks.length + ps.length=l.toArray.size by omega] at H
 exact H
end
end Go.FlowP
