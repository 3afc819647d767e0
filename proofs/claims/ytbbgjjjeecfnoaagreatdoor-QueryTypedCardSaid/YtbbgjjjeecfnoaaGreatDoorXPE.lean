/- Joined by mergeQ.py: H11p, Q34p, Q35p, Q36p, Q52p, Q62p -/
import Derived.Test.YtbbgjjjeecfnoaaGreatDoorXPA
import Derived.Test.YtbbgjjjeecfnoaaGreatDoorXPD
namespace Tess
open Go
namespace Que
theorem inOrd_sorted (all:List ByteArray) (l:List ByteArray):∀ z,inOrd all z l=true→(∀ j (h:j < l.length),z < nameAt all l[j])∧∀ i j (hi:i < l.length) (hj:j < l.length),i < j→nameAt all l[i] < nameAt all l[j]:=by
 induction l with
 | nil=>intro z _;exact ⟨fun j h=>absurd h (by simp),fun i j hi=>absurd hi (by simp)⟩
 | cons x r ih=>
   intro z h
   unfold inOrd at h
   by_cases hx:nameAt all x≤z
   ·rw [if_pos hx] at h;cases h
   rw [if_neg hx] at h
   obtain ⟨h1,h2⟩:=ih _ h
   refine ⟨fun j hj => ?_,fun i j hi hj hij => ?_⟩
   ·cases j with
    | zero=>simp only [List.getElem_cons_zero];omega
    | succ j=>simp only [List.getElem_cons_succ];have:=h1 j (by simpa using hj);omega
   ·cases j with
    | zero=>omega
    | succ j=>
      cases i with
      | zero=>simp only [List.getElem_cons_zero,List.getElem_cons_succ];exact h1 j (by simpa using hj)
      | succ i=>simp only [List.getElem_cons_succ];exact h2 i j (by simpa using hi) (by simpa using hj) (by omega)
theorem inOrder_inj {names:List ByteArray} (h:inOrder names names=true):∀ i j (hi:i < names.length) (hj:j < names.length),names[i]=names[j]→i=j:=by
 intro i j hi hj e
 have hs:=(inOrd_sorted names names (-1) h).2
 rcases Nat.lt_trichotomy i j with h1 | h1 | h1
 ·have:=hs i j hi hj h1;rw [e] at this;omega
 ·exact h1
 ·have:=hs j i hj hi h1;rw [e] at this;omega
end Que
end Tess
namespace Tess
open Go
namespace Prs
open Tok (Rt wordR nameR signR numR strR isNameB endT TG wt wts)
open Wr (sep aggR namesR setR condR keyR wordsR askR askRL queR optR wrap opR nameAt bs)
def TGs (ts:List Tok):Prop:=∀ t ∈ ts,TG t
def wR (xs:List Rt):Nat:=(xs.map fun x=>x.txt.length + 1).sum
theorem wR_nil:wR []=0:=rfl
theorem wR_cons (x:Rt) (xs:List Rt):wR (x :: xs)=x.txt.length + 1 + wR xs:=by unfold wR;rw [List.map_cons,List.sum_cons]
theorem wR_append (xs ys:List Rt):wR (xs ++ ys)=wR xs + wR ys:=by unfold wR;rw [List.map_append,List.sum_append]
theorem TGs.skip {ts:List Tok} (h:TGs ts):TGs (skip ts):=fun t ht=>h t ((skip_suffix ts).subset ht)
section
variable {α β:Type} {P:β→Nat→Prop} {Q:α→Nat→Prop}
end
theorem sep_cons {s:Rt} {x:List Rt} {l:List (List Rt)} (h:l≠[]):wR (sep s (x :: l))=wR x + (s.txt.length + 1) + wR (sep s l):=by
 cases l with
 | nil=>exact absurd rfl h
 | cons y r=>
   show wR (x ++ s :: sep s (y :: r))=_
   rw [wR_append,wR_cons];omega
theorem signR_len (w:ByteArray):(signR w).txt.length=(bs w).length:=rfl
theorem wordR_len (w:ByteArray):(wordR w).txt.length=(bs w).length:=rfl
theorem nameR_len (w:ByteArray):(nameR w).txt.length=(bs w).length + 1:=rfl
theorem numR_len (n:Int):(numR n).txt.length=(Wr.digits n).length:=rfl
theorem GoodFL_of {l:List Fil} (h:∀ x ∈ l,GoodF x):GoodFL l:=by
 induction l with
 | nil=>unfold GoodFL;trivial
 | cons f r ih=>unfold GoodFL;exact ⟨h f List.mem_cons_self,ih fun x hx=>h x (List.mem_cons_of_mem _ hx)⟩
def GoodC (c:Cond):Prop:=0≤c.pos∧c.pos < 1000∧1≤c.op∧c.op≤6 ∧ -9223372036854775808≤c.n∧c.n≤9223372036854775807
def GoodK (names:List ByteArray) (k:Key):Prop:=(k.agg=true∧0≤k.pos∧k.pos < 1000)∨(k.agg=false∧∃ i:Nat,∃ h:i < names.length,k.pos=i∧idxW names names[i]=i)
theorem idx_spec {l:List ByteArray} {x:ByteArray} (h:hasW l x=true):∃ hi:idxW l x < l.length,l[idxW l x]=x:=by
 have hi:idxW l x < l.length:=by
  unfold idxW
  rw [List.findIdx_lt_length]
  exact ⟨x,(hasW_iff _ _).1 h,by simp⟩
 refine ⟨hi,?_⟩
 have:=List.findIdx_getElem (w:=hi)
 exact of_decide_eq_true this
end Prs
end Tess
namespace Tess
open Go
namespace Prs
open Tok (Rt wordR nameR signR numR strR isNameB endT TG wt wts)
open Wr (sep aggR namesR setR condR keyR wordsR askR askRL queR optR wrap opR nameAt bs)
theorem isNameB_ok {x:ByteArray} (h:nameOk x=true):isNameB x=true:=by
 unfold nameOk at h
 unfold isNameB Wr.bs
 rw [Bool.and_eq_true] at h
 obtain ⟨h1,h2⟩:=h
 have hs:x.data.toList.length≤20:=by simpa using h1
 cases hx:x.data.toList with
 | nil=>rw [hx] at h2;exact absurd h2 (by decide)
 | cons c r=>
   rw [hx] at h2 hs
   unfold nameL at h2
   rw [Bool.and_eq_true] at h2
   simp only [List.isEmpty_cons,Bool.not_false,Bool.true_and,Bool.and_eq_true,decide_eq_true_eq]
   refine ⟨hs,by have:=h2.1;simpa [isLow,Tok.isLet] using this,List.all_eq_true.2 fun y hy => ?_⟩
   have:=List.all_eq_true.1 h2.2 y hy
   simp only [isRest,isLow,Tok.isLet,Tok.isDig,Bool.or_eq_true,Bool.and_eq_true,decide_eq_true_eq,beq_iff_eq] at this ⊢
   rcases this with (h | h) | h
   ·exact Or.inl (Or.inl h)
   ·refine Or.inr ?_
    exact UInt8.toNat_inj.1 h
   ·exact Or.inl (Or.inr h)
theorem placeW_name {s:Sch} {l:List ByteArray} (hl:∀ x ∈ l,nameOk x=true) {x:ByteArray} (h:(placeW (schOk s) l x).2=true):isNameB x=true:=by
 unfold placeW at h
 split at h
 ·rename_i hc
  rw [Bool.and_eq_true] at hc
  exact isNameB_ok (hl x ((hasW_iff _ _).1 hc.2))
 ·exact absurd h (by decide)
theorem sch_names {s:Sch} (h:schOk s=true):(∀ x ∈ s.dims,nameOk x=true)∧∀ x ∈ s.mets,nameOk x=true:=by
 unfold schOk namesOk at h
 simp only [Bool.and_eq_true] at h
 have:=List.all_eq_true.1 h.2.2
 exact ⟨fun x hx=>this x (List.mem_append_left _ hx),fun x hx=>this x (List.mem_append_right _ hx)⟩
theorem empty_of {x:ByteArray} (h:x.size=0):x=ByteArray.empty:=by
 obtain ⟨⟨l⟩⟩:=x
 have:l.length=0:=h
 rw [List.length_eq_zero_iff] at this
 rw [this];rfl
theorem own_parts {s:Sch} {k:Int} {nm:ByteArray} {ws:List ByteArray} {a b:Int} {l:List Fil} {hn hs:Bool} {w1 w2 l1 l2:Nat} (h:Fil.own s (.mk k nm ws a b l)=true) (hf:Fil.form k=some (hn,hs,(w1,w2),(l1,l2))) :
  (dimW s nm).2=hn∧(hn=true∨nm=ByteArray.empty)∧(hs=true∨(a=0∧b=0))∧(w1≤ws.length∧ws.length≤w2)∧l1≤l.length∧l.length≤l2:=by
 unfold Fil.own at h
 simp only [Fil.kind,Fil.name,Fil.words,Fil.frm,Fil.to,Fil.l,hf,Fil.inW,Bool.and_eq_true,Bool.or_eq_true,beq_iff_eq] at h
 obtain ⟨⟨⟨⟨⟨h1,h2⟩,h3⟩,h4⟩,h5⟩,h6⟩:=h
 refine ⟨h1,?_,h3.imp id (fun h=>⟨of_decide_eq_true h.1,of_decide_eq_true h.2⟩),⟨of_decide_eq_true h4.1,of_decide_eq_true h4.2⟩,of_decide_eq_true h5.1,of_decide_eq_true h5.2⟩
 rw [← h1]
 rcases h2 with h2 | h2
 ·exact Or.inl h2
 ·exact Or.inr (empty_of (by first | exact h2 | simpa using h2))
theorem goodF_of {s:Sch} (hs:schOk s=true):∀ (n:Nat) (f:Fil),f.deep≤n→Fil.allP (Fil.own s) f=true→Fil.allP (fun x => !Fil.badGrain s x) f=true→GoodF f
 | 0,f,h,_,_=>by
   obtain ⟨k,nm,ws,a,b,l⟩:=f
   unfold Fil.deep at h
   omega
 | n + 1,f,h,h1,h2=>by
   rw [Fil.allP_eq,Bool.and_eq_true] at h1 h2
   obtain ⟨ho,hl⟩:=h1
   obtain ⟨hg,hl2⟩:=h2
   obtain ⟨k,nm,ws,a,b,l⟩:=f
   have hdeep:∀ x ∈ l,x.deep≤n:=by
    have hd:Fil.deepL l≤n:=by unfold Fil.deep at h;omega
    clear h ho hl hg hl2
    induction l with
    | nil=>intro x hx;cases hx
    | cons f r ih=>
      unfold Fil.deepL at hd
      intro x hx
      rcases List.mem_cons.1 hx with rfl | hx
      ·omega
      ·exact ih (by omega) x hx
   have hL:GoodFL l:=GoodFL_of fun x hx=>goodF_of hs n x (hdeep x hx) (List.all_eq_true.1 hl x hx) (List.all_eq_true.1 hl2 x hx)
   have hname:(dimW s nm).2=true→isNameB nm=true:=fun h=>placeW_name (sch_names hs).1 h
   simp only [Fil.l] at hl hl2
   unfold GoodF
   have e0:∀ {l:List ByteArray},l.length≤0→l=[]:=fun h=>List.length_eq_zero_iff.1 (Nat.le_zero.1 h)
   have f0:∀ {l:List Fil},l.length≤0→l=[]:=fun h=>List.length_eq_zero_iff.1 (Nat.le_zero.1 h)
   by_cases k1:k=1
   ·subst k1
    obtain ⟨o1,o2,o3,o4,o5⟩:=own_parts ho rfl
    exact Or.inl ⟨rfl,o2.resolve_left (by decide),e0 o4.2,(o3.resolve_left (by decide)).1,(o3.resolve_left (by decide)).2,f0 o5.2⟩
   by_cases k2:k=2
   ·subst k2
    obtain ⟨o1,o2,o3,o4,o5⟩:=own_parts ho rfl
    refine Or.inr (Or.inl ⟨rfl,hname o1,?_,(o3.resolve_left (by decide)).1,(o3.resolve_left (by decide)).2,f0 o5.2⟩)
    intro e
    rw [e] at o4
    exact absurd o4.1 (by decide)
   by_cases k3:k=3
   ·subst k3
    obtain ⟨o1,o2,o3,o4,o5⟩:=own_parts ho rfl
    exact Or.inr (Or.inr (Or.inl ⟨rfl,hname o1,e0 o4.2,(o3.resolve_left (by decide)).1,(o3.resolve_left (by decide)).2,f0 o5.2⟩))
   by_cases k4:k=4
   ·subst k4
    obtain ⟨o1,o2,o3,o4,o5⟩:=own_parts ho rfl
    obtain ⟨w,rfl⟩:=List.length_eq_one_iff.1 (Nat.le_antisymm o4.2 o4.1)
    exact Or.inr (Or.inr (Or.inr (Or.inl ⟨rfl,hname o1,⟨w,rfl⟩,(o3.resolve_left (by decide)).1,(o3.resolve_left (by decide)).2,f0 o5.2⟩)))
   by_cases k5:k=5
   ·subst k5
    obtain ⟨o1,o2,o3,o4,o5⟩:=own_parts ho rfl
    have h2:ws.length=2:=Nat.le_antisymm o4.2 o4.1
    obtain ⟨v,w,rfl⟩:∃ v w,ws=[v,w]:=by
     match ws,h2 with
     | [v,w],_=>exact ⟨v,w,rfl⟩
    exact Or.inr (Or.inr (Or.inr (Or.inr (Or.inl ⟨rfl,hname o1,⟨v,w,rfl⟩,(o3.resolve_left (by decide)).1,(o3.resolve_left (by decide)).2,f0 o5.2⟩))))
   by_cases k6:k=6
   ·subst k6
    obtain ⟨o1,o2,o3,o4,o5⟩:=own_parts ho rfl
    have hg:(!(decide ((6:Int)=6) && !((decide (0≤a) && decide (a≤b) && decide (b≤1000000000001)) && Fil.grainOk s.grain && decide (a % s.grain=0) && (decide (b=1000000000001) || decide (b % s.grain=0)))))=true:=hg
    simp at hg
    exact Or.inr (Or.inr (Or.inr (Or.inr (Or.inr (Or.inl ⟨rfl,o2.resolve_left (by decide),e0 o4.2,⟨by omega,by omega,by omega,by omega⟩,f0 o5.2⟩)))))
   by_cases k7:k=7
   ·subst k7
    obtain ⟨o1,o2,o3,o4,o5⟩:=own_parts ho rfl
    exact Or.inr (Or.inr (Or.inr (Or.inr (Or.inr (Or.inr (Or.inl ⟨rfl,o2.resolve_left (by decide),e0 o4.2,(o3.resolve_left (by decide)).1,(o3.resolve_left (by decide)).2,Nat.le_antisymm o5.2 o5.1,hL⟩))))))
   have last:k=8∨k=9:=by
    by_cases k8:k=8
    ·exact Or.inl k8
    by_cases k9:k=9
    ·exact Or.inr k9
    have hn:Fil.form k=none:=by
     unfold Fil.form
     rw [if_neg k1,if_neg k2,if_neg k3,if_neg k4,if_neg k5,if_neg k6,if_neg k7,if_neg k8,if_neg k9]
    have e:Fil.form (Fil.mk k nm ws a b l).kind=none:=hn
    unfold Fil.own at ho
    rw [e] at ho
    cases ho
   refine Or.inr (Or.inr (Or.inr (Or.inr (Or.inr (Or.inr (Or.inr ⟨last,?_⟩))))))
   rcases last with rfl | rfl
   all_goals
    obtain ⟨o1,o2,o3,o4,o5⟩:=own_parts ho rfl
    exact ⟨o2.resolve_left (by decide),e0 o4.2,(o3.resolve_left (by decide)).1,(o3.resolve_left (by decide)).2,o5.1,hL⟩
theorem inOrd_has {all:List ByteArray} {l:List ByteArray} {z:Int} (hz : -1≤z) (h:Que.inOrd all z l=true):∀ x ∈ l,hasW all x=true:=by
 intro x hx
 obtain ⟨j,hj,rfl⟩:=List.getElem_of_mem hx
 have:=(Que.inOrd_sorted all l z h).1 j hj
 cases hw:hasW all l[j] with
 | true=>rfl
 | false=>unfold Que.nameAt at this;rw [hw] at this;simp at this;omega
theorem isOf_parts {s:Sch} {q:Que} (h:Que.isOf s q=true):Que.sizesOk q=true∧(∀ a ∈ q.aggs,Que.isTyped s a=true)∧Que.inOrder q.names q.names=true∧(∀ x ∈ q.names,(dimW s x).2=true)∧(∀ l ∈ q.sets,Que.inOrder l q.names=true) ∧
  (∀ c ∈ q.conds,Que.condOk q.aggs.length c=true)∧∀ k ∈ q.keys,Que.keyOk q.aggs.length q.names.length k=true:=by
 unfold Que.isOf at h
 simp only [Bool.and_eq_true,List.all_eq_true] at h
 obtain ⟨⟨⟨⟨⟨⟨h1,h2⟩,h3⟩,h4⟩,h5⟩,h6⟩,h7⟩:=h
 exact ⟨h1,h2,h3,h4,h5,h6,h7⟩
theorem sizes_in {q:Que} (h:Que.sizesOk q=true):(1≤q.aggs.length∧q.aggs.length≤6)∧q.names.length≤6∧(1≤q.mode∧q.mode≤4)∧(q.mode=4→1≤q.sets.length∧q.sets.length≤8)∧(q.mode≠4→q.sets=[])∧q.conds.length≤4∧q.keys.length≤4∧0≤q.limit∧q.limit≤1000:=by
 unfold Que.sizesOk within at h
 simp only [Bool.and_eq_true,decide_eq_true_eq] at h
 obtain ⟨⟨⟨⟨⟨⟨⟨a1,a2⟩,b⟩,⟨c1,c2⟩⟩,⟨d1,d2⟩⟩,e⟩,f⟩,⟨g1,g2⟩⟩:=h
 refine ⟨⟨by omega,by omega⟩,b,⟨c1,c2⟩,fun hm => ?_,fun hm => ?_,e,f,g1,g2⟩
 ·rw [if_pos hm] at d1 d2;omega
 ·rw [if_neg hm] at d1 d2
  exact List.length_eq_zero_iff.1 (by omega)
theorem check_parts {s:Sch} {q:Que} (h:Que.check s q=0):schOk s=true∧Que.isOf s q=true∧(q.every=0∨coarser s.grain q.every=true)∧Fil.checkE s q.fil=0:=by
 unfold Que.check at h
 cases h1:schOk s with
 | false=>rw [h1] at h;exact absurd (show (100:Nat)=0 from h) (by decide)
 | true=>
   cases h2:Que.isOf s q with
   | false=>rw [h1,h2] at h;exact absurd (show (152:Nat)=0 from h) (by decide)
   | true=>
     rw [h1,h2] at h
     simp only [if_true] at h
     split at h
     ·exact absurd h (by decide)
     ·rename_i hc
      refine ⟨rfl,rfl,?_,h⟩
      simp only [Bool.and_eq_true,decide_eq_true_eq,Bool.not_eq_true',not_and,Bool.not_eq_false] at hc
      by_cases he:q.every=0
      ·exact Or.inl he
      ·exact Or.inr (hc he)
theorem good_of {s:Sch} {q:Que} (h:Que.check s q=0) (hn:q.mode=1∨q.names≠[]) (hc:∀ c ∈ q.conds,-9223372036854775808≤c.n∧c.n≤9223372036854775807):GoodQ q:=by
 obtain ⟨hs,ho,he,hf⟩:=check_parts h
 obtain ⟨p1,p2,p3,p4,p5,p6,p7⟩:=isOf_parts ho
 obtain ⟨⟨s1,s2⟩,s3,⟨s4,s5⟩,s6,s7,s8,s9,s10,s11⟩:=sizes_in p1
 have hnm:∀ x ∈ q.names,isNameB x=true:=fun x hx=>placeW_name (sch_names hs).1 (p4 x hx)
 refine ⟨⟨fun e=>by rw [e] at s1;simp at s1,fun a ha => ?_⟩,hnm,?_,?_,?_,fun c hcm => ?_,fun k hk => ?_,s10,by omega⟩
 ·have:=p2 a ha
  unfold Que.isTyped at this
  split at this
  ·rename_i hk
   exact Or.inl ⟨hk,by simpa using this⟩
  ·simp only [Bool.and_eq_true,decide_eq_true_eq] at this
   exact Or.inr ⟨by omega,placeW_name (sch_names hs).2 this.1.1⟩
 ·by_cases m1:q.mode=1
  ·exact Or.inl ⟨m1,s7 (by omega)⟩
  ·refine Or.inr ⟨hn.resolve_left m1,?_⟩
   by_cases m4:q.mode=4
   ·refine Or.inr (Or.inr ⟨m4,fun e => ?_,fun l hl x hx => ?_⟩)
    ·have:=s6 m4
     rw [e] at this;simp at this
    ·exact hnm x ((hasW_iff _ _).1 (inOrd_has (Int.le_refl _) (p5 l hl) x hx))
   ·have hq:=s7 m4
    by_cases m2:q.mode=2
    ·exact Or.inl ⟨m2,hq⟩
    ·exact Or.inr (Or.inl ⟨by omega,hq⟩)
 ·rcases he with he | he
  ·rw [he];decide
  ·unfold coarser Fil.grainOk at he
   simp only [Bool.and_eq_true,decide_eq_true_eq] at he
   omega
 ·have h0:=(Fil.check0 s q.fil).1 hf
  exact goodF_of hs _ q.fil (Nat.le_refl _) h0.2.2.2.1 h0.2.2.2.2
 ·have:=p6 c hcm
  unfold Que.condOk within at this
  simp only [Bool.and_eq_true,decide_eq_true_eq] at this
  have hb:=hc c hcm
  exact ⟨by omega,by omega,by omega,by omega,hb.1,hb.2⟩
 ·have:=p7 k hk
  unfold Que.keyOk within at this
  split at this
  ·rename_i ha
   simp only [Bool.and_eq_true,decide_eq_true_eq] at this
   exact Or.inl ⟨ha,by omega,by omega⟩
  ·rename_i ha
   simp only [Bool.and_eq_true,decide_eq_true_eq] at this
   refine Or.inr ⟨by simpa using ha,k.pos.toNat,by omega,by omega,?_⟩
   obtain ⟨hi,hx⟩:=idx_spec (l:=q.names) (x:=q.names[k.pos.toNat]'(by omega)) ((hasW_iff _ _).2 (List.getElem_mem _))
   exact Que.inOrder_inj p3 _ _ hi (by omega) hx
theorem name_len {x:ByteArray} (h:isNameB x=true):(bs x).length≤20:=by
 unfold isNameB at h
 simp only [Bool.and_eq_true,decide_eq_true_eq] at h
 exact h.1.2
theorem digits_len {n:Int} (h1 : -9223372036854775808≤n) (h2:n≤9223372036854775807):(Wr.digits n).length≤20:=by
 have h19:(10:Nat) ^ 19=10000000000000000000:=by decide
 have:=Tok.digN_len 20 19 n.natAbs [] (by decide) (by rw [h19];omega)
 rw [List.length_nil] at this
 unfold Wr.digits
 split
 ·rw [List.length_cons];omega
 ·omega
theorem sep_le {α:Type} (s:Rt) (ren:α→List Rt) (K:Nat):∀ (l:List α),(∀ x ∈ l,wR (ren x)≤K)→wR (sep s (l.map ren))≤l.length * (K + (s.txt.length + 1))
 | [],_=>Nat.zero_le _
 | [x],h=>by
   have:=h x List.mem_cons_self
   show wR (ren x)≤_
   rw [List.length_singleton];omega
 | x :: y :: r,h=>by
   have h1:=h x List.mem_cons_self
   have h2:=sep_le s ren K (y :: r) fun z hz=>h z (List.mem_cons_of_mem _ hz)
   rw [List.map_cons,sep_cons (by simp),List.length_cons,Nat.add_mul]
   omega
theorem flat_le {α:Type} (ren:α→List Rt) (K:Nat):∀ (l:List α),(∀ x ∈ l,wR (ren x)≤K)→wR (l.map ren).flatten≤l.length * K
 | [],_=>Nat.zero_le _
 | x :: r,h=>by
   have h1:=h x List.mem_cons_self
   have h2:=flat_le ren K r fun z hz=>h z (List.mem_cons_of_mem _ hz)
   rw [List.map_cons,List.flatten_cons,wR_append,List.length_cons,Nat.add_mul]
   omega
theorem names_le {l:List ByteArray} (h:∀ x ∈ l,isNameB x=true):wR (namesR l)≤l.length * 24:=
 sep_le (signR wComma) (fun x=>[nameR x]) 22 l fun x hx=>by
  have:=name_len (h x hx)
  simp only [wR_cons,wR_nil,nameR_len];omega
theorem bs_small:(bs wSum).length=3∧(bs wMin).length=3∧(bs wMax).length=3∧(bs wAvg).length=3∧(bs wCount).length=5∧(bs wOpen).length=1∧(bs wClose).length=1∧(bs wHash).length=1∧(bs wDesc).length=4∧(bs wAll).length=3∧(bs wNone).length=4∧(bs wTime).length=4∧(bs wDots).length=2:=by decide
theorem agg_le {a:Agg} (h:GoodA a):wR (aggR a)≤32:=by
 obtain ⟨k,m⟩:=a
 obtain ⟨b1,b2,b3,b4,b5,b6,b7,_⟩:=bs_small
 unfold GoodA at h
 simp only at h
 unfold aggR
 rcases h with ⟨rfl,rfl⟩ | ⟨hk,hm⟩
 ·show wR [wordR wCount]≤32
  simp only [wR_cons,wR_nil,wordR_len];omega
 ·have:=name_len hm
  rcases hk with rfl | rfl | rfl | rfl
  ·show wR [wordR wSum,signR wOpen,nameR m,signR wClose]≤32
   simp only [wR_cons,wR_nil,wordR_len,signR_len,nameR_len];omega
  ·show wR [wordR wMin,signR wOpen,nameR m,signR wClose]≤32
   simp only [wR_cons,wR_nil,wordR_len,signR_len,nameR_len];omega
  ·show wR [wordR wMax,signR wOpen,nameR m,signR wClose]≤32
   simp only [wR_cons,wR_nil,wordR_len,signR_len,nameR_len];omega
  ·show wR [wordR wAvg,signR wOpen,nameR m,signR wClose]≤32
   simp only [wR_cons,wR_nil,wordR_len,signR_len,nameR_len];omega
theorem set_le {l:List ByteArray} (h:∀ x ∈ l,isNameB x=true) (hl:l.length≤6):wR (setR l)≤150:=by
 obtain ⟨b1,b2,b3,b4,b5,b6,b7,_⟩:=bs_small
 have:=names_le h
 unfold setR
 split
 ·simp only [wR_cons,wR_nil,signR_len];omega
 ·simp only [wR_append,wR_cons,wR_nil,signR_len];omega
theorem opR_le (i:Int):(bs (opR i)).length≤2:=by
 unfold opR
 split
 ·decide
 ·rename_i h
  have hl:ops.length=6:=rfl
  obtain ⟨k,hk,rfl⟩:∃ k:Nat,k < 6∧i=k:=⟨i.toNat,by omega,by omega⟩
  rw [Int.toNat_natCast]
  have:k=0∨k=1∨k=2∨k=3∨k=4∨k=5:=by omega
  rcases this with rfl | rfl | rfl | rfl | rfl | rfl <;> decide
theorem cond_le {c:Cond} (h:GoodC c):wR (condR c)≤47:=by
 obtain ⟨h1,h2,h3,h4,h5,h6⟩:=h
 obtain ⟨b1,b2,b3,b4,b5,b6,b7,b8,_⟩:=bs_small
 have a1:=digits_len (n:=wrap (c.pos + 1)) (by rw [wrap_small (by omega) (by omega)];omega) (by rw [wrap_small (by omega) (by omega)];omega)
 have a2:=digits_len h5 h6
 have a3:=opR_le (wrap (c.op - 1))
 unfold condR
 simp only [wR_cons,wR_nil,signR_len,numR_len];omega
theorem key_le {names:List ByteArray} (hn:∀ x ∈ names,isNameB x=true) {k:Key} (h:GoodK names k):wR (keyR names k)≤28:=by
 obtain ⟨b1,b2,b3,b4,b5,b6,b7,b8,b9,_⟩:=bs_small
 have hd:wR (if k.desc then [wordR wDesc] else [])≤5:=by
  split
  ·simp only [wR_cons,wR_nil,wordR_len];omega
  ·exact Nat.zero_le _
 have ha:wR (if k.agg then [signR wHash,numR (wrap (k.pos + 1))] else [nameR (nameAt names k.pos)])≤23:=by
  rcases h with ⟨e,h1,h2⟩ | ⟨e,i,hi,hp,_⟩
  ·have a1:=digits_len (n:=wrap (k.pos + 1)) (by rw [wrap_small (by omega) (by omega)];omega) (by rw [wrap_small (by omega) (by omega)];omega)
   rw [e]
   simp only [if_true,wR_cons,wR_nil,signR_len,numR_len];omega
  ·have en:nameAt names k.pos=names[i]:=by
    unfold nameAt
    rw [hp,if_neg (by omega),Int.toNat_natCast,List.getD_eq_getElem?_getD,List.getElem?_eq_getElem hi]
    rfl
   have:=name_len (hn names[i] (List.getElem_mem hi))
   rw [e,en]
   simp only [Bool.false_eq_true,if_false,wR_cons,wR_nil,nameR_len];omega
 unfold keyR
 rw [wR_append];omega
theorem ask_le {f:Fil} (h:GoodF f) (hw:f.words=[]) (hl:f.l=[]):wR (askR f)≤50:=by
 obtain ⟨k,nm,ws,a,b,l⟩:=f
 simp only [Fil.words,Fil.l] at hw hl
 subst hw hl
 obtain ⟨b1,b2,b3,b4,b5,b6,b7,b8,b9,b10,b11,b12,b13⟩:=bs_small
 unfold GoodF at h
 rcases h with ⟨rfl,h⟩ | ⟨_,_,h,_⟩ | ⟨rfl,h,_⟩ | ⟨_,_,⟨w,h⟩,_⟩ | ⟨_,_,⟨v,w,h⟩,_⟩ | ⟨rfl,_,_,⟨h1,h2,h3,h4⟩,_⟩ | ⟨_,_,_,_,_,h,_⟩ | ⟨_,_,_,_,_,h,_⟩
 ·show wR [wordR wAll]≤50
  simp only [wR_cons,wR_nil,wordR_len];omega
 ·exact absurd rfl h
 ·have:=name_len h
  show wR [nameR nm,wordR wNone]≤50
  simp only [wR_cons,wR_nil,wordR_len,nameR_len];omega
 ·cases h
 ·cases h
 ·have a1:=digits_len (n:=a) (by omega) h2
  have a2:=digits_len (n:=b) (by omega) h4
  show wR [wordR wTime,numR a,signR wDots,numR b]≤50
  simp only [wR_cons,wR_nil,wordR_len,numR_len,signR_len];omega
 ·simp at h
 ·simp at h
theorem J_len:∀ {xs:List Rt},xs≠[]→(Wr.J xs).length + 1=wR xs
 | [],h=>absurd rfl h
 | [x],_=>by rw [wR_cons,wR_nil];rfl
 | x :: y :: r,_=>by
   rw [Wr.J_cons (by simp),wR_cons,← J_len (xs:=y :: r) (by simp),List.length_append,List.length_cons]
   omega
theorem optW (b:Bool) (x:List (List Rt)):wR (optR b x).flatten≤wR x.flatten:=by
 cases b with
 | true=>exact Nat.le_refl _
 | false=>exact Nat.zero_le _
theorem short_of {s:Sch} {q:Que} (h:Que.check s q=0) (hg:GoodQ q) (hw:q.fil.words=[]) (hl:q.fil.l=[]):wR (queR q)≤4001:=by
 obtain ⟨hs,ho,he,hf⟩:=check_parts h
 obtain ⟨p1,p2,p3,p4,p5,p6,p7⟩:=isOf_parts ho
 obtain ⟨⟨s1,s2⟩,s3,⟨s4,s5⟩,s6,s7,s8,s9,s10,s11⟩:=sizes_in p1
 have hset:∀ l ∈ q.sets,wR (setR l)≤150:=fun l hl=>by
  have hin:=p5 l hl
  refine set_le (fun x hx=>hg.n x ((hasW_iff _ _).1 (inOrd_has (Int.le_refl _) hin x hx))) ?_
  have hb:=Que.inOrd_sorted q.names l (-1) hin
  have hlt:∀ j (hj:j < l.length),(j:Int)≤Que.nameAt q.names l[j]:=by
   intro j
   induction j with
   | zero=>intro hj;have:=hb.1 0 hj;omega
   | succ j ih=>intro hj;have:=hb.2 j (j + 1) (by omega) hj (by omega);have:=ih (by omega);omega
  rcases Nat.eq_zero_or_pos l.length with h0 | h0
  ·omega
  ·have h1:=hlt (l.length - 1) (by omega)
   have h2:Que.nameAt q.names l[l.length - 1] < q.names.length:=by
    unfold Que.nameAt
    split
    ·rename_i hw
     obtain ⟨hi,_⟩:=idx_spec hw
     omega
    ·omega
   omega
 have w1:=sep_le (signR wComma) aggR 32 q.aggs fun a ha=>agg_le (hg.a.2 a ha)
 have w2:=names_le hg.n
 have w3:=flat_le setR 150 q.sets hset
 have w4:=sep_le (signR wComma) condR 47 q.conds fun c hc=>cond_le (hg.c c hc)
 have w5:=sep_le (signR wComma) (keyR q.names) 28 q.keys fun k hk=>key_le hg.n (hg.k k hk)
 have w6:=ask_le hg.f hw hl
 have w7:=digits_len (n:=q.every) (by have:=hg.e.1;omega) hg.e.2
 have w8:=digits_len (n:=q.limit) (by omega) (by omega)
 have hsl:q.sets.length≤8:=by
  by_cases m:q.mode=4
  ·exact (s6 m).2
  ·rw [s7 m];exact Nat.zero_le _
 have c1:(signR wComma).txt.length=1:=rfl
 have d1:(bs wSelect).length=6∧(bs wBy).length=2∧(bs wCube).length=4∧(bs wRollup).length=6∧(bs wSets).length=4∧(bs wEvery).length=5∧(bs wWhere).length=5∧(bs wHaving).length=6∧(bs wOrder).length=5∧(bs wLimit).length=5:=by decide
 obtain ⟨d1,d2,d3,d4,d5,d6,d7,d8,d9,d10⟩:=d1
 rw [c1] at w1 w4 w5
 have m1:q.aggs.length * (32 + (1 + 1))≤6 * 34:=Nat.mul_le_mul s2 (Nat.le_refl _)
 have m2:q.names.length * 24≤6 * 24:=Nat.mul_le_mul s3 (Nat.le_refl _)
 have m3:q.sets.length * 150≤8 * 150:=Nat.mul_le_mul hsl (Nat.le_refl _)
 have m4:q.conds.length * (47 + (1 + 1))≤4 * 49:=Nat.mul_le_mul s8 (Nat.le_refl _)
 have m5:q.keys.length * (28 + (1 + 1))≤4 * 30:=Nat.mul_le_mul s9 (Nat.le_refl _)
 have o1:=optW (!q.names.isEmpty) [[wordR wBy],namesR q.names]
 have o2:=optW (q.mode == 2) [[wordR wCube]]
 have o3:=optW (q.mode == 3) [[wordR wRollup]]
 have o4:=optW (q.mode == 4) [[wordR wSets],(q.sets.map setR).flatten]
 have o5:=optW (q.every != 0) [[wordR wEvery],[numR q.every]]
 have o6:=optW (q.fil.kind != 1) [[wordR wWhere],askR q.fil]
 have o7:=optW (!q.conds.isEmpty) [[wordR wHaving],sep (signR wComma) (q.conds.map condR)]
 have o8:=optW (!q.keys.isEmpty) [[wordR wOrder],sep (signR wComma) (q.keys.map (keyR q.names))]
 have o9:=optW (q.limit != 0) [[wordR wLimit],[numR q.limit]]
 unfold queR
 simp only [List.flatten_append,wR_append,List.flatten_cons,List.flatten_nil,List.append_nil,wR_cons,wR_nil,wordR_len,numR_len] at o1 o2 o3 o4 o5 o6 o7 o8 o9 ⊢
 omega
end Prs
end Tess
namespace Tess
open Go
namespace Prs
open Tok (Rt wordR nameR signR numR strR isNameB isWordB endT TG wt wts)
open Wr (sep aggR namesR setR condR keyR wordsR askR askRL queR optR wrap opR nameAt bs)
def AllOk (xs:List Rt):Prop:=∀ x ∈ xs,x.Ok
theorem ok_nil:AllOk []:=fun x hx=>by cases hx
theorem ok_cons {x:Rt} {xs:List Rt} (h1:x.Ok) (h2:AllOk xs):AllOk (x :: xs):=fun y hy=>by
 rcases List.mem_cons.1 hy with rfl | hy
 ·exact h1
 ·exact h2 y hy
theorem ok_append {xs ys:List Rt} (h1:AllOk xs) (h2:AllOk ys):AllOk (xs ++ ys):=fun y hy=>by
 rcases List.mem_append.1 hy with hy | hy
 ·exact h1 y hy
 ·exact h2 y hy
theorem ok_sep {s:Rt} (hs:s.Ok):∀ {l:List (List Rt)},(∀ x ∈ l,AllOk x)→AllOk (sep s l)
 | [],_=>ok_nil
 | [x],h=>h x List.mem_cons_self
 | x :: _ :: _,h=>ok_append (h x List.mem_cons_self) (ok_cons hs (ok_sep hs fun z hz=>h z (List.mem_cons_of_mem _ hz)))
theorem ok_sepF {α:Type} {s:Rt} (hs:s.Ok) {ren:α→List Rt} {l:List α} (h:∀ x ∈ l,AllOk (ren x)):AllOk (sep s (l.map ren)):=ok_sep hs fun x hx=>by
 obtain ⟨y,hy,rfl⟩:=List.mem_map.1 hx
 exact h y hy
theorem ok_flat {l:List (List Rt)} (h:∀ x ∈ l,AllOk x):AllOk l.flatten:=fun y hy=>by
 obtain ⟨x,hx,hy⟩:=List.mem_flatten.1 hy
 exact h x hx y hy
theorem ok_opt {b:Bool} {l:List (List Rt)} (h:b=true→∀ x ∈ l,AllOk x):AllOk (optR b l).flatten:=by
 cases b with
 | true=>exact ok_flat (h rfl)
 | false=>exact ok_nil
theorem okW (w:ByteArray) (h:isWordB w=true):(wordR w).Ok:=Tok.wordR_ok h
theorem okS (w:ByteArray) (h:Wr.bs w ∈ Tok.signs):(signR w).Ok:=Tok.signR_ok h
theorem ok_one {x:Rt} (h:x.Ok):AllOk [x]:=ok_cons h ok_nil
theorem agg_ok {a:Agg} (h:GoodA a):AllOk (aggR a):=by
 obtain ⟨k,m⟩:=a
 unfold GoodA at h
 simp only at h
 rcases h with ⟨rfl,rfl⟩ | ⟨hk,hm⟩
 ·exact ok_one (okW wCount (by decide))
 ·have go:∀ w:ByteArray,isWordB w=true→AllOk [wordR w,signR wOpen,nameR m,signR wClose]:=fun w hw=>
   ok_cons (okW w hw) (ok_cons (okS wOpen (by decide)) (ok_cons (Tok.nameR_ok hm) (ok_one (okS wClose (by decide)))))
  rcases hk with rfl | rfl | rfl | rfl
  ·exact go wSum (by decide)
  ·exact go wMin (by decide)
  ·exact go wMax (by decide)
  ·exact go wAvg (by decide)
theorem names_ok {l:List ByteArray} (h:∀ x ∈ l,isNameB x=true):AllOk (namesR l):=ok_sepF (okS wComma (by decide)) fun x hx=>ok_one (Tok.nameR_ok (h x hx))
theorem set_ok {l:List ByteArray} (h:∀ x ∈ l,isNameB x=true):AllOk (setR l):=by
 unfold setR
 split
 ·exact ok_cons (okS wOpen (by decide)) (ok_one (okS wClose (by decide)))
 ·exact ok_cons (okS wOpen (by decide)) (ok_append (names_ok h) (ok_one (okS wClose (by decide))))
theorem op_ok {i:Int} (h1:0≤i) (h2:i < 6):Wr.bs (opR i) ∈ Tok.signs:=by
 obtain ⟨k,hk,rfl⟩:∃ k:Nat,k < 6∧i=k:=⟨i.toNat,by omega,by omega⟩
 have:k=0∨k=1∨k=2∨k=3∨k=4∨k=5:=by omega
 rcases this with rfl | rfl | rfl | rfl | rfl | rfl <;> decide
theorem cond_ok {c:Cond} (h:GoodC c):AllOk (condR c):=by
 obtain ⟨h1,h2,h3,h4,h5,h6⟩:=h
 unfold condR
 rw [wrap_small (by omega) (by omega),wrap_small (by omega) (by omega)]
 exact ok_cons (okS wHash (by decide)) (ok_cons (Tok.numR_ok (by omega) (by omega)) (ok_cons (okS _ (op_ok (by omega) (by omega))) (ok_one (Tok.numR_ok h5 h6))))
theorem key_ok {names:List ByteArray} (hn:∀ x ∈ names,isNameB x=true) {k:Key} (h:GoodK names k):AllOk (keyR names k):=by
 unfold keyR
 refine ok_append ?_ ?_
 ·rcases h with ⟨e,h1,h2⟩ | ⟨e,i,hi,hp,_⟩
  ·rw [e]
   simp only [if_true]
   rw [wrap_small (by omega) (by omega)]
   exact ok_cons (okS wHash (by decide)) (ok_one (Tok.numR_ok (by omega) (by omega)))
  ·have en:nameAt names k.pos=names[i]:=by
    unfold nameAt
    rw [hp,if_neg (by omega),Int.toNat_natCast,List.getD_eq_getElem?_getD,List.getElem?_eq_getElem hi]
    rfl
   rw [e,en]
   exact ok_one (Tok.nameR_ok (hn names[i] (List.getElem_mem hi)))
 ·split
  ·exact ok_one (okW wDesc (by decide))
  ·exact ok_nil
theorem words_ok {s:ByteArray} (hs:Wr.bs s ∈ Tok.signs) (l:List ByteArray):AllOk (wordsR s l):=ok_sepF (okS s hs) fun x _=>ok_one (Tok.strR_ok x)
theorem ask_ok:∀ (n:Nat) (f:Fil),f.deep≤n→GoodF f→AllOk (askR f)
 | 0,f,h,_=>by
   obtain ⟨k,nm,ws,a,b,l⟩:=f
   unfold Fil.deep at h
   omega
 | n + 1,f,h,hg=>by
   obtain ⟨k,nm,ws,a,b,l⟩:=f
   have hdeep:∀ x ∈ l,x.deep≤n:=by
    have hd:Fil.deepL l≤n:=by unfold Fil.deep at h;omega
    clear h hg
    induction l with
    | nil=>intro x hx;cases hx
    | cons f r ih=>
      unfold Fil.deepL at hd
      intro x hx
      rcases List.mem_cons.1 hx with rfl | hx
      ·omega
      ·exact ih (by omega) x hx
   have hL:GoodFL l→∀ x ∈ askRL l,AllOk x:=fun hl x hx=>by
    rw [askRL_map] at hx
    obtain ⟨y,hy,rfl⟩:=List.mem_map.1 hx
    exact ask_ok n y (hdeep y hy) (hl.mem y hy)
   unfold GoodF at hg
   rcases hg with ⟨rfl,hg⟩ | ⟨rfl,h1,h2,_⟩ | ⟨rfl,h1,_⟩ | ⟨rfl,h1,⟨w,rfl⟩,_⟩ | ⟨rfl,h1,⟨v,w,rfl⟩,_⟩ | ⟨rfl,_,_,⟨h1,h2,h3,h4⟩,_⟩ | ⟨rfl,_,_,_,_,h1,h2⟩ | ⟨hk,_,_,_,_,h1,h2⟩
   ·exact ok_one (okW wAll (by decide))
   ·unfold askR
    rw [if_neg (by decide),if_pos rfl]
    exact ok_cons (Tok.nameR_ok h1) (ok_cons (okW wIs (by decide)) (words_ok (by decide) ws))
   ·unfold askR
    exact ok_cons (Tok.nameR_ok h1) (ok_one (okW wNone (by decide)))
   ·unfold askR
    exact ok_cons (Tok.nameR_ok h1) (ok_cons (okW wPrefix (by decide)) (ok_one (Tok.strR_ok w)))
   ·unfold askR
    exact ok_cons (Tok.nameR_ok h1) (ok_cons (okW wBetween (by decide)) (words_ok (by decide) [v,w]))
   ·unfold askR
    exact ok_cons (okW wTime (by decide)) (ok_cons (Tok.numR_ok (by omega) h2) (ok_cons (okS wDots (by decide)) (ok_one (Tok.numR_ok (by omega) h4))))
   ·unfold askR
    exact ok_cons (okW wNot (by decide)) (ok_flat (hL h2))
   ·unfold askR
    rcases hk with rfl | rfl
    ·exact ok_cons (okS wOpen (by decide)) (ok_append (ok_sep (okW wAnd (by decide)) (hL h2)) (ok_one (okS wClose (by decide))))
    ·exact ok_cons (okS wOpen (by decide)) (ok_append (ok_sep (okW wOr (by decide)) (hL h2)) (ok_one (okS wClose (by decide))))
theorem que_ok {q:Que} (h:GoodQ q):AllOk (queR q):=by
 have e2:∀ (x y:List Rt),AllOk x→AllOk y→∀ z ∈ [x,y],AllOk z:=fun x y hx hy z hz=>by
  simp only [List.mem_cons,List.not_mem_nil,or_false] at hz
  rcases hz with rfl | rfl
  ·exact hx
  ·exact hy
 have e1:∀ (x:List Rt),AllOk x→∀ z ∈ [x],AllOk z:=fun x hx z hz=>by rw [List.mem_singleton] at hz;rw [hz];exact hx
 have hnum:∀ n:Int,0≤n→n≤9223372036854775807→AllOk [numR n]:=fun n h1 h2=>ok_one (Tok.numR_ok (by omega) h2)
 unfold queR
 simp only [List.flatten_append]
 refine ok_append (ok_append (ok_append (ok_append (ok_append (ok_append (ok_append (ok_append (ok_append ?_ ?_) ?_) ?_) ?_) ?_) ?_) ?_) ?_) ?_
 ·exact ok_flat (e2 _ _ (ok_one (okW wSelect (by decide))) (ok_sepF (okS wComma (by decide)) fun a ha=>agg_ok (h.a.2 a ha)))
 ·exact ok_opt fun _=>e2 _ _ (ok_one (okW wBy (by decide))) (names_ok h.n)
 ·exact ok_opt fun _=>e1 _ (ok_one (okW wCube (by decide)))
 ·exact ok_opt fun _=>e1 _ (ok_one (okW wRollup (by decide)))
 ·refine ok_opt fun hm=>e2 _ _ (ok_one (okW wSets (by decide))) (ok_flat fun x hx => ?_)
  obtain ⟨l,hl,rfl⟩:=List.mem_map.1 hx
  have hm:q.mode=4:=by simpa using hm
  rcases h.m with ⟨h1,_⟩ | ⟨_,⟨h1,_⟩ | ⟨h1,_⟩ | ⟨_,_,h1⟩⟩
  ·omega
  ·omega
  ·omega
  ·exact set_ok (h1 l hl)
 ·exact ok_opt fun _=>e2 _ _ (ok_one (okW wEvery (by decide))) (hnum _ h.e.1 h.e.2)
 ·exact ok_opt fun _=>e2 _ _ (ok_one (okW wWhere (by decide))) (ask_ok _ q.fil (Nat.le_refl _) h.f)
 ·exact ok_opt fun _=>e2 _ _ (ok_one (okW wHaving (by decide))) (ok_sepF (okS wComma (by decide)) fun c hc=>cond_ok (h.c c hc))
 ·exact ok_opt fun _=>e2 _ _ (ok_one (okW wOrder (by decide))) (ok_sepF (okS wComma (by decide)) fun k hk=>key_ok h.n (h.k k hk))
 ·exact ok_opt fun _=>e2 _ _ (ok_one (okW wLimit (by decide))) (hnum _ h.l.1 (by have:=h.l.2;omega))
theorem full_of:∀ (n:Nat) (f:Fil),f.deep≤n→GoodF f→Wr.full f
 | 0,f,h,_=>by
   obtain ⟨k,nm,ws,a,b,l⟩:=f
   unfold Fil.deep at h
   omega
 | n + 1,f,h,hg=>by
   obtain ⟨k,nm,ws,a,b,l⟩:=f
   have hdeep:Fil.deepL l≤n:=by unfold Fil.deep at h;omega
   have hL:GoodFL l→Wr.fullL l:=by
    clear h hg
    induction l with
    | nil=>intro _;unfold Wr.fullL;trivial
    | cons f r ih=>
      intro hl
      unfold GoodFL at hl
      unfold Fil.deepL at hdeep
      unfold Wr.fullL
      exact ⟨full_of n f (by omega) hl.1,ih (by omega) hl.2⟩
   unfold GoodF at hg
   unfold Wr.full
   rcases hg with ⟨rfl,hg⟩ | ⟨rfl,h1,h2,_⟩ | ⟨rfl,h1,_⟩ | ⟨rfl,h1,⟨w,rfl⟩,_⟩ | ⟨rfl,h1,⟨v,w,rfl⟩,_⟩ | ⟨rfl,_⟩ | ⟨rfl,_,_,_,_,h1,h2⟩ | ⟨hk,_,_,_,_,h1,h2⟩
   ·exact ⟨fun h=>by omega,fun h=>absurd rfl h⟩
   ·exact ⟨fun _=>h2,fun _ h=>absurd rfl h⟩
   ·exact ⟨fun h=>by omega,fun _ _ h=>absurd rfl h⟩
   ·exact ⟨fun _=>by simp,fun _ _ _ h=>absurd rfl h⟩
   ·exact ⟨fun _=>by simp,fun _ _ _ _ h=>absurd rfl h⟩
   ·exact ⟨fun h=>by omega,fun _ _ _ _ _ h=>absurd rfl h⟩
   ·exact ⟨fun h=>by omega,fun _ _ _ _ _ _=>⟨fun e=>by rw [e] at h1;simp at h1,hL h2⟩⟩
   ·exact ⟨fun h=>by omega,fun _ _ _ _ _ _=>⟨fun e=>by rw [e] at h1;simp at h1,hL h2⟩⟩
theorem good_txt {q:Que} (h:GoodQ q):Wr.J (queR q)=Wr.written q:=by
 refine Wr.queR_txt q h.a.1 (fun hm => ?_) (fun _=>full_of _ q.fil (Nat.le_refl _) h.f)
 rcases h.m with ⟨h1,_⟩ | ⟨_,⟨h1,_⟩ | ⟨h1,_⟩ | ⟨_,h1,_⟩⟩
 ·omega
 ·omega
 ·omega
 ·exact h1
theorem queR_ne (q:Que):queR q≠[]:=by
 unfold queR
 simp
theorem written_len {q:Que} (h:GoodQ q):(Wr.written q).length + 1=wR (queR q):=by
 rw [← good_txt h]
 exact J_len (queR_ne q)
theorem parse_written {q:Que} (h:GoodQ q) (hl:(Wr.written q).length≤4000):parse (Tok.ofL (Wr.written q))=(q,0,0):=by
 have hsz:=Tok.size_ofL (Wr.written q)
 unfold parse
 rw [if_neg (by omega)]
 have e:(Tok.toks (Tok.ofL (Wr.written q))).map (mv fun _=>0)=tk (queR q) ++ [endT]:=by
  unfold Tok.toks
  have hd:(Tok.ofL (Wr.written q)).data.toList=Wr.written q:=Tok.bs_ofL _
  rw [hd,hsz]
  have:=Tok.tokF_join (queR q) (que_ok h) ((Wr.written q).length + 1) 0
  have ej:Wr.join [32] ((queR q).map Rt.txt)=Wr.written q:=good_txt h
  rw [ej] at this
  exact this (Nat.lt_succ_self _)
 have hm:=query_nat.mv (fun _=>0) _ (Tok.toks_ne (Tok.ofL (Wr.written q)))
 rw [e,query_print h] at hm
 cases hq:query (Tok.toks (Tok.ofL (Wr.written q))) with
 | error n=>rw [hq] at hm;cases hm
 | ok p=>
   obtain ⟨q',r⟩:=p
   rw [hq] at hm
   have:(Except.ok (q,[endT]):R Que) = .ok (q',r.map (mv fun _=>0)):=hm
   have e2:=Except.ok.inj this
   rw [Prod.mk.injEq] at e2
   rw [e2.1]
theorem parse_ok {s:ByteArray} {q:Que} {k:Nat} (h:parse s=(q,k,0)):k=0:=by
 unfold parse at h
 split at h
 ·simp only [Prod.mk.injEq] at h;omega
 ·split at h
  ·simp only [Prod.mk.injEq] at h;omega
  ·simp only [Prod.mk.injEq] at h;omega
noncomputable def print (q:Que):ByteArray×Nat:=@ite _ (parse (Tok.ofL (Wr.written q))=(q,0,0)) (Classical.propDecidable _) (Tok.ofL (Wr.written q),0) (ByteArray.empty,151)
theorem print_some {q:Que} (h:parse (Tok.ofL (Wr.written q))=(q,0,0)):print q=(Tok.ofL (Wr.written q),0):=by unfold print;rw [if_pos h]
theorem print_none {q:Que} (h:parse (Tok.ofL (Wr.written q))≠(q,0,0)):print q=(ByteArray.empty,151):=by unfold print;rw [if_neg h]
end Prs
end Tess
namespace Tess
open Go
namespace Prs
def T1:ByteArray:=⟨#[115,101,108,101,99,116,32,99,111,117,110,116,44,115,117,109,40,36,110,41,32,98,121,32,36,97,32,108,105,109,105,116,32,53]⟩
def T1w:ByteArray:=⟨#[115,101,108,101,99,116,32,99,111,117,110,116,32,44,32,115,117,109,32,40,32,36,110,32,41,32,98,121,32,36,97,32,108,105,109,105,116,32,53]⟩
def T2:ByteArray:=⟨#[115,101,108,101,99,116,32,99,111,117,110,116,32,98,121,32,97]⟩
def Q1:Que:=⟨[⟨1,ByteArray.empty⟩,⟨2,⟨#[110]⟩⟩],[⟨#[97]⟩],1,[],0,.mk 1 ByteArray.empty [] 0 0 [],[],[],5⟩
set_option maxRecDepth 100000 in
theorem parse_T1:parse T1=(Q1,0,0):=by kernel_rfl
set_option maxRecDepth 100000 in
theorem parse_T2:parse T2=(noQue,16,150):=by kernel_rfl
set_option maxRecDepth 100000 in
theorem written_Q1:Tok.ofL (Wr.written Q1)=T1w:=by kernel_rfl
set_option maxRecDepth 100000 in
theorem parse_T1w:parse T1w=(Q1,0,0):=by kernel_rfl
theorem print_Q1:print Q1=(T1w,0):=by
 have:=print_some (q:=Q1) (by rw [written_Q1];exact parse_T1w)
 rw [written_Q1] at this
 exact this
end Prs
end Tess
namespace Tess
open Go
namespace Prs
theorem typed_none {s:Sch} {q:Que} (hc:Que.check s q=0) (hr:∀ c ∈ q.conds,-9223372036854775808≤c.n∧c.n≤9223372036854775807) (hw:parse (Tok.ofL (Wr.written q))≠(q,0,0)):q.fil.l≠[]∨q.fil.words≠[]∨q.names=[]:=by
 by_cases h1:q.fil.l=[]
 ·by_cases h2:q.fil.words=[]
  ·by_cases h3:q.names=[]
   ·exact Or.inr (Or.inr h3)
   ·refine absurd ?_ hw
    have hg:=good_of hc (Or.inr h3) hr
    have hs:=short_of hc hg h2 h1
    exact parse_written hg (by have:=written_len hg;omega)
  ·exact Or.inr (Or.inl h2)
 ·exact Or.inl h1
end Prs
end Tess
