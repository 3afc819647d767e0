/- Joined by mergeK.py: K3p, K4p, K7p, K18, F26, F27, F29 -/
import Derived.Test.YtaddkkkchkdgkaaGreatDoorWC07
import Derived.Test.YtaddkkkchkdgkaaGreatDoorWC10
import Derived.Test.YtaddkkkchkdgkaaGreatDoorWC11
import Derived.Laws.EntriesVeiled
namespace Tess
open Go Kl
namespace Kl
section
variable {K P:Type} {lt:K→K→Bool} {add:P→P→P}
theorem ins_all {R:P→Prop} (ha:∀ a b,R a→R b→R (add a b)) {x:K×P} (hx:R x.2):∀ {l:List (K×P)},(∀ y ∈ l,R y.2)→∀ y ∈ ins lt add x l,R y.2
 | [],_,y,hy=>by rw [ins,List.mem_singleton] at hy;rw [hy];exact hx
 | z :: l,hl,y,hy=>by
   rw [ins] at hy
   have hz:=hl z (by simp)
   have hr:∀ y ∈ l,R y.2:=fun y hy=>hl y (by simp [hy])
   split at hy
   ·rcases List.mem_cons.1 hy with rfl | hy
    ·exact hz
    ·exact ins_all ha hx hr y hy
   split at hy
   ·rcases List.mem_cons.1 hy with rfl | hy
    ·exact hx
    ·exact hl y hy
   ·rcases List.mem_cons.1 hy with rfl | hy
    ·exact ha _ _ hz hx
    ·exact hr y hy
theorem foldl_all {R:P→Prop} (ha:∀ a b,R a→R b→R (add a b)):∀ (l m:List (K×P)),(∀ y ∈ l,R y.2)→(∀ y ∈ m,R y.2)→∀ y ∈ l.foldl (fun m x=>ins lt add x m) m,R y.2
 | [],_,_,hm=>hm
 | x :: l,m,hl,hm=>foldl_all ha l _ (fun y hy=>hl y (by simp [hy])) (ins_all ha (hl x (by simp)) hm)
theorem fold_all {R:P→Prop} (ha:∀ a b,R a→R b→R (add a b)) {l:List (K×P)} (hl:∀ y ∈ l,R y.2):∀ y ∈ fold lt add l,R y.2:=
 foldl_all ha l [] hl fun _ h=>by cases h
theorem foldl_keys {R:K→Prop}:∀ (l m:List (K×P)),(∀ y ∈ l,R y.1)→(∀ y ∈ m,R y.1)→∀ y ∈ l.foldl (fun m x=>ins lt add x m) m,R y.1
 | [],_,_,hm=>hm
 | x :: l,m,hl,hm=>foldl_keys l _ (fun y hy=>hl y (by simp [hy])) fun y hy=>by
   rcases mem_ins hy with e | ⟨z,hz,e⟩
   ·rw [e];exact hl x (by simp)
   ·rw [← e];exact hm z hz
theorem fold_keys {R:K→Prop} {l:List (K×P)} (hl:∀ y ∈ l,R y.1):∀ y ∈ fold lt add l,R y.1:=foldl_keys l [] hl fun _ h=>by cases h
theorem sum_all_none {l:List (K×P)} (h:sum add (fun _=>true) l=none):l=[]:=by
 cases l with
 | nil=>rfl
 | cons x l=>exact absurd h (sum_some (c:=fun _=>true) (x:=x) (by simp) rfl)
def put (lt:K→K→Bool) (add:P→P→P) (l:List (K×P)) (x:K×P):List (K×P):=
 match l with
 | []=>[x]
 | y :: r=>if at' lt x.1 y.1 then (y.1,add y.2 x.2) :: r else y :: put lt add r x
theorem sum_put (hk:Sto lt) (h:Com add) (c:K→Bool) (x:K×P) (l:List (K×P)):sum add c (put lt add l x)=oadd add (sum add c l) (if c x.1 then some x.2 else none):=by
 induction l with
 | nil=>simp only [put,sum,oadd_none,none_oadd]
 | cons y l ih=>
   rw [put]
   split
   ·rename_i h1
    have e:y.1=x.1:=(at_iff hk).1 h1
    rw [sum,sum,← e,oadd_assoc h,oadd_comm h (sum add c l),← oadd_assoc h]
    cases c y.1 <;> rfl
   ·rw [sum,sum,ih,oadd_assoc h]
theorem sum_puts (hk:Sto lt) (h:Com add) (c:K→Bool) (l m:List (K×P)):sum add c (l.foldl (put lt add) m)=oadd add (sum add c m) (sum add c l):=by
 induction l generalizing m with
 | nil=>rw [List.foldl_nil,sum,oadd_none]
 | cons x l ih=>rw [List.foldl_cons,ih,sum_put hk h,oadd_assoc h];rfl
def Nod (l:List (K×P)):Prop:=(l.map (·.1)).Nodup
theorem put_keys {l:List (K×P)} {x y:K×P} (h:y ∈ put lt add l x):y.1=x.1∨∃ z ∈ l,z.1=y.1:=by
 induction l with
 | nil=>rw [put,List.mem_singleton] at h;exact Or.inl (by rw [h])
 | cons z l ih=>
   rw [put] at h
   split at h
   ·rcases List.mem_cons.1 h with rfl | h
    ·exact Or.inr ⟨z,by simp,rfl⟩
    ·exact Or.inr ⟨y,by simp [h],rfl⟩
   ·rcases List.mem_cons.1 h with rfl | h
    ·exact Or.inr ⟨_,by simp,rfl⟩
    ·rcases ih h with h | ⟨u,hu,e⟩
     ·exact Or.inl h
     ·exact Or.inr ⟨u,by simp [hu],e⟩
theorem put_nod (hk:Sto lt) (x:K×P) {l:List (K×P)} (h:Nod l):Nod (put lt add l x):=by
 induction l with
 | nil=>unfold Nod put;simp
 | cons y l ih=>
   unfold Nod at h ⊢
   rw [List.map_cons,List.nodup_cons] at h
   rw [put]
   split
   ·rw [List.map_cons,List.nodup_cons];exact h
   ·rename_i hy
    rw [List.map_cons,List.nodup_cons]
    refine ⟨fun hm => ?_,ih h.2⟩
    obtain ⟨z,hz,e⟩:=List.mem_map.1 hm
    rcases put_keys hz with e' | ⟨u,hu,e'⟩
    ·exact hy ((at_iff hk).2 (e.symm.trans e'))
    ·exact h.1 (List.mem_map.2 ⟨u,hu,e'.trans e⟩)
end
end Kl
def Pay.len (M:Nat) (p:Pay):Prop:=p.sums.length=M∧p.mins.length=M∧p.maxs.length=M
theorem Pay.len_add {M:Nat} (a b:Pay) (ha:a.len M) (hb:b.len M):(a.add b).len M:=by
 simp only [Pay.len,Pay.add,List.length_zipWith] at *
 omega
theorem zip_getD {f:Int→Int→Int} {l m:List Int} {k:Nat} (h1:k < l.length) (h2:k < m.length):(List.zipWith f l m).getD k 0=f (l.getD k 0) (m.getD k 0):=by
 simp [List.getD,List.getElem?_zipWith,h1,h2]
theorem total_n:∀ {l:List (CK×Pay)} {p:Pay},sum Pay.add (fun _=>true) l=some p→p.n=(l.map (·.2.n)).sum
 | [],_,h=>by cases h
 | x :: l,p,h=>by
   rw [sum,if_pos rfl] at h
   cases hs:sum Pay.add (fun _=>true) l with
   | none=>rw [hs] at h;cases h;rw [sum_all_none hs];simp
   | some r=>rw [hs] at h;cases h;rw [List.map_cons,List.sum_cons,← total_n hs];rfl
section
variable {s:Sch} {q:Que} {set:Nat} {C:List (CK×Pay)}
end
end Tess
namespace Tess
open Go Kl
def SumOk (s n l h:Int):Prop:=l≤h∧l * (n - 1) + h≤s∧s≤h * (n - 1) + l
theorem sumOk_add {s1 n1 l1 h1 s2 n2 l2 h2:Int} (hn1:1≤n1) (hn2:1≤n2) (a:SumOk s1 n1 l1 h1) (b:SumOk s2 n2 l2 h2):SumOk (s1 + s2) (n1 + n2) (min l1 l2) (max h1 h2):=by
 obtain ⟨a1,a2,a3⟩:=a
 obtain ⟨b1,b2,b3⟩:=b
 generalize hl:min l1 l2=l
 generalize hh:max h1 h2=h
 have p1:l * (n1 - 1)≤l1 * (n1 - 1):=Int.mul_le_mul_of_nonneg_right (by omega) (by omega)
 have p2:l * (n2 - 1)≤l2 * (n2 - 1):=Int.mul_le_mul_of_nonneg_right (by omega) (by omega)
 have p3:h1 * (n1 - 1)≤h * (n1 - 1):=Int.mul_le_mul_of_nonneg_right (by omega) (by omega)
 have p4:h2 * (n2 - 1)≤h * (n2 - 1):=Int.mul_le_mul_of_nonneg_right (by omega) (by omega)
 have e1:l * (n1 + n2 - 1)=l * (n1 - 1) + l * (n2 - 1) + l:=by
  rw [show n1 + n2 - 1=(n1 - 1) + (n2 - 1) + 1 by omega,Int.mul_add,Int.mul_add,Int.mul_one]
 have e2:h * (n1 + n2 - 1)=h * (n1 - 1) + h * (n2 - 1) + h:=by
  rw [show n1 + n2 - 1=(n1 - 1) + (n2 - 1) + 1 by omega,Int.mul_add,Int.mul_add,Int.mul_one]
 unfold SumOk
 rw [e1,e2]
 omega
structure PayOk (M:Nat) (p:Pay):Prop where
 len:p.len M
 one:1≤p.n
 sum:∀ m < M,SumOk (p.sums.getD m 0) p.n (p.mins.getD m 0) (p.maxs.getD m 0)
 rng:∀ m < M,-9223372036854775808≤p.mins.getD m 0∧p.mins.getD m 0≤9223372036854775807 ∧ -9223372036854775808≤p.maxs.getD m 0∧p.maxs.getD m 0≤9223372036854775807
theorem payOk_add {M:Nat} (a b:Pay) (ha:PayOk M a) (hb:PayOk M b):PayOk M (a.add b):=by
 have hg:∀ m < M,(a.add b).sums.getD m 0=a.sums.getD m 0 + b.sums.getD m 0∧(a.add b).mins.getD m 0=min (a.mins.getD m 0) (b.mins.getD m 0)∧(a.add b).maxs.getD m 0=max (a.maxs.getD m 0) (b.maxs.getD m 0):=fun m hm=>by
  obtain ⟨a1,a2,a3⟩:=ha.len
  obtain ⟨b1,b2,b3⟩:=hb.len
  exact ⟨zip_getD (by omega) (by omega),zip_getD (by omega) (by omega),zip_getD (by omega) (by omega)⟩
 refine ⟨Pay.len_add a b ha.len hb.len,?_,fun m hm => ?_,fun m hm => ?_⟩
 ·show 1≤a.n + b.n
  have:=ha.one
  have:=hb.one
  omega
 ·obtain ⟨e1,e2,e3⟩:=hg m hm
  rw [e1,e2,e3]
  exact sumOk_add ha.one hb.one (ha.sum m hm) (hb.sum m hm)
 ·obtain ⟨_,e2,e3⟩:=hg m hm
  rw [e2,e3]
  have:=ha.rng m hm
  have:=hb.rng m hm
  omega
structure CelOk (s:Sch) (x:CK×Pay):Prop where
 time:0≤x.1.1∧x.1.1≤1000000000000∧x.1.1 % s.grain=0
 dims:x.1.2.length=s.dims.length∧(x.1.2.map valOf).all valOk=true
 most:x.2.n≤1000000
 pay:PayOk s.mets.length x.2
structure CelsOk (s:Sch) (C:List (CK×Pay)):Prop where
 sch:schOk s=true
 len:C.length≤1000
 each:∀ x ∈ C,CelOk s x
 asc:Asc ckLt C
def Row.rng (r:Row):Prop:=∀ z ∈ r.ns,-9223372036854775808≤z∧z≤9223372036854775807
theorem row_pay {s:Sch} {r:Row} (h:Row.ok s r=true) (hr:r.rng) (g:Int):PayOk s.mets.length (Row.kp g r).2:=by
 obtain ⟨_,_,_,hl,_⟩:=ok_parts h
 refine ⟨⟨hl,hl,hl⟩,Int.le_refl _,fun m hm => ?_,fun m hm => ?_⟩
 ·show SumOk (r.ns.getD m 0) 1 (r.ns.getD m 0) (r.ns.getD m 0)
  unfold SumOk
  omega
 ·show -9223372036854775808≤r.ns.getD m 0∧r.ns.getD m 0≤9223372036854775807 ∧ -9223372036854775808≤r.ns.getD m 0∧r.ns.getD m 0≤9223372036854775807
  have hm':m < r.ns.length:=by omega
  have e:r.ns.getD m 0=r.ns[m]:=by simp [List.getD,hm']
  rw [e]
  have:=hr _ (List.getElem_mem hm')
  omega
theorem len_le_sum:∀ {l:List (CK×Pay)},(∀ x ∈ l,1≤x.2.n)→(l.length:Int)≤(l.map (·.2.n)).sum∧∀ x ∈ l,x.2.n≤(l.map (·.2.n)).sum
 | [],_=>⟨by simp,fun x hx=>by cases hx⟩
 | x :: l,h=>by
   obtain ⟨h1,h2⟩:=len_le_sum (l:=l) fun y hy=>h y (by simp [hy])
   have hx:=h x (by simp)
   rw [List.map_cons,List.sum_cons]
   refine ⟨by rw [List.length_cons];omega,fun y hy => ?_⟩
   rcases List.mem_cons.1 hy with rfl | hy
   ·omega
   ·have:=h2 y hy;omega
theorem rows_n (g:Int):∀ (rows:List Row) (p:Pay),sum Pay.add (fun _=>true) (rows.map (Row.kp g))=some p→p.n=rows.length
 | [],_,h=>by cases h
 | r :: rows,p,h=>by
   rw [List.map_cons,sum,if_pos rfl] at h
   cases hs:sum Pay.add (fun _=>true) (rows.map (Row.kp g)) with
   | none=>
     rw [hs] at h;cases h
     have:=sum_all_none hs
     rw [List.map_eq_nil_iff] at this
     subst this;rfl
   | some q=>
     rw [hs] at h;cases h
     have:=rows_n g rows q hs
     show (1:Int) + q.n=((r :: rows).length:Int)
     rw [this,List.length_cons];omega
theorem roll_sum {g:Int} {rows:List Row} (hp:∀ x ∈ rollP g rows,1≤x.2.n):(rollP g rows).length≤rows.length∧∀ x ∈ rollP g rows,x.2.n≤rows.length:=by
 obtain ⟨h1,h2⟩:=len_le_sum hp
 have e:sum Pay.add (fun _=>true) (rollP g rows)=sum Pay.add (fun _=>true) (rows.map (Row.kp g)):=sum_fold ck_sto pay_com _ _
 cases hs:sum Pay.add (fun _=>true) (rollP g rows) with
 | none=>rw [sum_all_none hs];exact ⟨by simp,fun x hx=>by cases hx⟩
 | some p=>
   have hn:=total_n hs
   rw [e] at hs
   have:=rows_n g rows p hs
   rw [← hn,this] at h1 h2
   exact ⟨by omega,h2⟩
theorem roll_ok {s:Sch} {rows:List Row} (hs:schOk s=true) (hr:∀ r ∈ rows,Row.ok s r=true) (hn:∀ r ∈ rows,r.rng) (hl:rows.length≤1000):CelsOk s (rollP s.grain rows):=by
 have hp:∀ x ∈ rollP s.grain rows,PayOk s.mets.length x.2:=fold_all payOk_add fun y hy=>by
  obtain ⟨r,hm,rfl⟩:=List.mem_map.1 hy
  exact row_pay (hr r hm) (hn r hm) _
 have hk:∀ x ∈ rollP s.grain rows,((0≤x.1.1∧x.1.1≤1000000000000∧x.1.1 % s.grain=0)∧x.1.2.length=s.dims.length∧(x.1.2.map valOf).all valOk=true):=fold_keys (R:=fun k:CK=>((0≤k.1∧k.1≤1000000000000∧k.1 % s.grain=0)∧k.2.length=s.dims.length∧(k.2.map valOf).all valOk=true)) fun y hy=>by
  obtain ⟨r,hm,rfl⟩:=List.mem_map.1 hy
  obtain ⟨_,⟨t0,t1⟩,hd,_,hv⟩:=ok_parts (hr r hm)
  have hg:1≤s.grain:=by
   simp only [schOk,Bool.and_eq_true,decide_eq_true_eq] at hs
   exact hs.1.1.2
  have m0:=Int.emod_nonneg r.t (show s.grain≠0 by omega)
  have m1:=Int.mul_ediv_add_emod r.t s.grain
  have m2:r.t - r.t % s.grain=s.grain * (r.t / s.grain):=by omega
  have m3:0≤s.grain * (r.t / s.grain):=Int.mul_nonneg (by omega) (Int.ediv_nonneg t0 (by omega))
  refine ⟨⟨?_,?_,?_⟩,?_,?_⟩
  ·show 0≤r.t - r.t % s.grain;omega
  ·show r.t - r.t % s.grain≤1000000000000;omega
  ·show (r.t - r.t % s.grain) % s.grain=0;rw [m2];exact Int.mul_emod_right _ _
  ·show (r.l.map Val.c).length=_;rw [List.length_map];exact hd
  ·show ((r.l.map Val.c).map valOf).all valOk=true;rw [valOf_cs hv];exact hv
 obtain ⟨h1,h2⟩:=roll_sum fun x hx=>(hp x hx).one
 exact ⟨hs,by omega,fun x hx=>⟨(hk x hx).1,(hk x hx).2,by have:=h2 x hx;omega,hp x hx⟩,fold_asc ck_sto _⟩
end Tess
namespace Tess
open Go Kl
namespace Kl
section
variable {K P:Type} {lt:K→K→Bool} {add:P→P→P}
theorem ins_here {x:K×P}:∀ {L:List (K×P)} {k:Nat},k≤L.length→(∀ j (h:j < L.length),j < k→lt L[j].1 x.1=true)→(∀ h:k < L.length,lt L[k].1 x.1=false∧lt x.1 L[k].1=true)→ins lt add x L=L.take k ++ x :: L.drop k
 | [],k,hk,_,_=>by
   have:k=0:=by simpa using hk
   subst this;rfl
 | y :: L,0,_,_,ha=>by
   have h:=ha (by simp)
   simp only [List.getElem_cons_zero] at h
   rw [ins,if_neg (by rw [h.1];decide),if_pos h.2];rfl
 | y :: L,k + 1,hk,hb,ha=>by
   have h:=hb 0 (by simp) (by omega)
   simp only [List.getElem_cons_zero] at h
   rw [ins,if_pos h,ins_here (k:=k) (by simpa using hk) (fun j hj hjk=>hb (j + 1) (by simpa using hj) (by omega)) (fun h=>ha (by simpa using h))]
   rfl
theorem ins_at {x:K×P}:∀ {L:List (K×P)} {k:Nat} (hk:k < L.length),(∀ j (h:j < L.length),j < k→lt L[j].1 x.1=true)→lt L[k].1 x.1=false→lt x.1 L[k].1=false→ins lt add x L=L.set k (L[k].1,add L[k].2 x.2)
 | [],k,hk,_,_,_=>by simp at hk
 | y :: L,0,_,_,h1,h2=>by
   simp only [List.getElem_cons_zero] at h1 h2
   rw [ins,if_neg (by rw [h1];decide),if_neg (by rw [h2];decide)];rfl
 | y :: L,k + 1,hk,hb,h1,h2=>by
   have h:=hb 0 (by simp) (by omega)
   simp only [List.getElem_cons_zero] at h
   simp only [List.getElem_cons_succ] at h1 h2
   rw [ins,if_pos h,ins_at (k:=k) (by simpa using hk) (fun j hj hjk=>hb (j + 1) (by simpa using hj) (by omega)) h1 h2]
   rfl
theorem puts_nod (hs:Sto lt):∀ (r n:List (K×P)),Nod n→Nod (r.foldl (put lt add) n)
 | [],_,h=>h
 | x :: r,_,h=>puts_nod hs r _ (put_nod hs x h)
theorem sorted_puts (hs:Sto lt) (hc:Com add) {l m:List (K×P)} (hp:m.Perm (l.foldl (put lt add) [])) (ha:m.Pairwise fun a b=>lt b.1 a.1=false):m=fold lt add l:=by
 have hn:Nod m:=by
  have:=puts_nod (add:=add) hs l [] List.Pairwise.nil
  unfold Nod at this ⊢
  exact (hp.map _).nodup_iff.2 this
 have hasc:Asc lt m:=by
  unfold Nod at hn
  rw [List.nodup_iff_pairwise_ne,List.pairwise_map] at hn
  refine (ha.and hn).imp fun {a b} h => ?_
  cases hl:lt a.1 b.1
  ·exact absurd (hs.tri hl h.1) h.2
  ·rfl
 refine ext (add:=add) hs hasc (fold_asc hs l) fun k => ?_
 rw [sum_perm hc _ hp,sum_puts hs hc,sum_fold hs hc,sum,none_oadd]
end
end Kl
end Tess
namespace Go.Proofs.YtaddkkkchkdgkaaGreatDoor
open Go.RowKit Go.Sort Go.Shelf
open Tess (CK Pay)
set_option maxRecDepth 100000 in
set_option maxHeartbeats 4000000 in
theorem put1_any (bl bc bb off k cap i:Nat) (a b:Option Addr) (c d:Nat) (l m:List Tess.Val) (t u n o:Int) (a3 a4 a5 b3 b4 b5:Option Addr) (n3 n4 n5 c3 c4 c5 o3 o4 o5 d3 d4 d5:Nat) (W:World)
  (hi:i < k) (hm:m.length≤9223372036854775807)
  (hl:W.cell? ⟨bl,0,none⟩=some (.slice (some ⟨bb,off,none⟩) k cap))
  (e0:W.cell? ⟨bb,off + i * 6,none⟩=some (.int .i64 t)) (e1:W.cell? ⟨bb,off + i * 6 + 1,none⟩=some (.slice a l.length c)) (e2:W.cell? ⟨bb,off + i * 6 + 2,none⟩=some (.int .i64 n)) (e3:W.cell? ⟨bb,off + i * 6 + 3,none⟩=some (.slice a3 n3 c3)) (e4:W.cell? ⟨bb,off + i * 6 + 4,none⟩=some (.slice a4 n4 c4)) (e5:W.cell? ⟨bb,off + i * 6 + 5,none⟩=some (.slice a5 n5 c5))
  (f0:W.cell? ⟨bc,0,none⟩=some (.int .i64 u)) (f1:W.cell? ⟨bc,1,none⟩=some (.slice b m.length d)) (f2:W.cell? ⟨bc,2,none⟩=some (.int .i64 o)) (f3:W.cell? ⟨bc,3,none⟩=some (.slice b3 o3 d3)) (f4:W.cell? ⟨bc,4,none⟩=some (.slice b4 o4 d4)) (f5:W.cell? ⟨bc,5,none⟩=some (.slice b5 o5 d5))
  (ha:ValCell W a l) (hb:ValCell W b m) :
  Calls Tryz.prog 60 (#[.int .i64 i] ++ #[.pointer (some ⟨bl,0,none⟩),.pointer (some ⟨bc,0,none⟩)]) W fun e w'=>e = .returned (.bool (!Tess.ckLt (t,l.map Tess.Val.c) (u,m.map Tess.Val.c)))∧∃ q os,w'=grow (W.drewN q) os:=by
 have hki:(i:Int) < (k:Int):=by omega
 have H:=Lib.hid (fun q os=>ahead_any a b c d l m t u n o a3 a4 a5 b3 b4 b5 n3 n4 n5 c3 c4 c5 o3 o4 o5 d3 d4 d5 (grow (W.drewN q) os) hm (ha.grown q os) (hb.grown q os))
 generalize Tess.ckLt (t,l.map Tess.Val.c) (u,m.map Tess.Val.c)=r at *
 go_enter Tryz.func60,Tryz.ntmps60
 go_wp2_with (fail)
 have ql:=fun k os=>cell_grown (World.block_lt_of_cell? _ _ hl) hl k os
 have q0:=fun k os=>cell_grown (World.block_lt_of_cell? _ _ e0) e0 k os
 have q1:=fun k os=>cell_grown (World.block_lt_of_cell? _ _ e1) e1 k os
 have q2:=fun k os=>cell_grown (World.block_lt_of_cell? _ _ e2) e2 k os
 have q3:=fun k os=>cell_grown (World.block_lt_of_cell? _ _ e3) e3 k os
 have q4:=fun k os=>cell_grown (World.block_lt_of_cell? _ _ e4) e4 k os
 have q5:=fun k os=>cell_grown (World.block_lt_of_cell? _ _ e5) e5 k os
 have r0:=fun k os=>cell_grown (World.block_lt_of_cell? _ _ f0) f0 k os
 have r1:=fun k os=>cell_grown (World.block_lt_of_cell? _ _ f1) f1 k os
 have r2:=fun k os=>cell_grown (World.block_lt_of_cell? _ _ f2) f2 k os
 have r3:=fun k os=>cell_grown (World.block_lt_of_cell? _ _ f3) f3 k os
 have r4:=fun k os=>cell_grown (World.block_lt_of_cell? _ _ f4) f4 k os
 have r5:=fun k os=>cell_grown (World.block_lt_of_cell? _ _ f5) f5 k os
 clear hl e0 e1 e2 e3 e4 e5 f0 f1 f2 f3 f4 f5 ha hb
 refine wp_region_quiet_grown (by kernel_rfl) (by kernel_rfl) ?_
 repeat (go_big_quiet_step (exact Calls.grown_of (H.out _ _)))
 refine wpQuiet_nil ?_
 intro _ hw'
 obtain ⟨⟨nq,osq⟩,hw''⟩:=hw'
 subst hw''
 go_wp2
 go_ret
 exact ⟨rfl,_,_,rfl⟩
end Go.Proofs.YtaddkkkchkdgkaaGreatDoor
namespace Go.Proofs.YtaddkkkchkdgkaaGreatDoor
open Go.RowKit Go.Sort
open Tess (Fil)
theorem dim_lt (s:Tess.Sch) (x:ByteArray) (h:(Tess.dimW s x).2=true):(Tess.dimW s x).1 < s.dims.length:=by
 unfold Tess.dimW Tess.placeW at *
 split at h
 ·rename_i hc
  rw [if_pos hc]
  rw [Bool.and_eq_true] at hc
  have hm:=(Tess.hasW_iff s.dims x).1 hc.2
  exact List.findIdx_lt_length_of_exists ⟨x,hm,decide_eq_true rfl⟩
 ·cases h
theorem laid5 (w:World) (A B C D E:Obj):((((((w.alloc A).alloc B).alloc C).alloc D).alloc E)).heap[w.heap.size]? = some A∧((((((w.alloc A).alloc B).alloc C).alloc D).alloc E)).heap[w.heap.size + 1]? = some B∧((((((w.alloc A).alloc B).alloc C).alloc D).alloc E)).heap[w.heap.size + 2]? = some C ∧
  ((((((w.alloc A).alloc B).alloc C).alloc D).alloc E)).heap[w.heap.size + 3]? = some D∧((((((w.alloc A).alloc B).alloc C).alloc D).alloc E)).heap[w.heap.size + 4]? = some E∧((((((w.alloc A).alloc B).alloc C).alloc D).alloc E)).heap.size=w.heap.size + 5∧Below w.heap.size w ((((((w.alloc A).alloc B).alloc C).alloc D).alloc E)):=by
 obtain ⟨h1,h2,h3,h4,h5,h6⟩:=laid4 w A B C D
 obtain ⟨k1,k2,k4⟩:=laid1 ((((w.alloc A).alloc B).alloc C).alloc D) E
 rw [h5] at k1 k2
 exact ⟨(k4.block _ (by omega)).trans h1,(k4.block _ (by omega)).trans h2,(k4.block _ (by omega)).trans h3,(k4.block _ (by omega)).trans h4,k1,k2,h6.trans (k4.mono (by omega))⟩
set_option maxRecDepth 100000 in
set_option maxHeartbeats 4000000 in
theorem holds_any (p:Nat→Prop) (s:Tess.Sch) (t:Int) (dims:List Tess.Val) (vs vd:Value) (hdl:dims.length=s.dims.length):∀ (n:Nat) (v:Value) (f:Fil) (w:World),SchAt p w vs s→FilAt p n w v f→ValsAt p w vd dims →
  Fil.allP (Fil.own s) f=true→kindsOk f→Calls Tryz.prog 142 #[vs,v,.int .i64 t,vd] w fun e w'=>e = .returned (.bool (Fil.holds s t dims f))∧Below w.heap.size w w':=by
 intro n
 induction n with
 | zero=>intro v f w _ hf;exact hf.elim
 | succ n ih=>
 intro v f w hs hf hv hown hK
 have HDIM:=Lib.hid (fun W (hB:Below w.heap.size w W)=>dim_any vs s f.name p W (hs.ag (Ag.new p hB)))
 have HWORD:=Lib.hid (fun x W (hB:Below w.heap.size w W)=>isWord_any p (n + 1) v f x W (hf.ag (Ag.new p hB)))
 have HIH:RowKit.Hid (∀ W,Below w.heap.size w W→∀ v x,FilAt p n w v x→x ∈ f.l→Calls Tryz.prog 142 #[vs,v,.int .i64 t,vd] W fun e w'=>e = .returned (.bool (Fil.holds s t dims x))∧Below W.heap.size W w'):=Lib.hid (fun W hB v x hx hm=>ih v x W (hs.ag (Ag.new p hB)) (hx.ag (Ag.new p hB)) (hv.ag (Ag.new p hB))
   (by rw [Fil.allP_eq,Bool.and_eq_true,List.all_eq_true] at hown;exact hown.2 x hm) (by unfold kindsOk at hK ⊢;rw [Fil.allP_eq,Bool.and_eq_true,List.all_eq_true] at hK;exact hK.2 x hm))
 have hown:Fil.own s f=true:=by rw [Fil.allP_eq,Bool.and_eq_true] at hown;exact hown.1
 clear ih hK
 have HDL:=Lib.hid hdl
 clear hdl
 obtain ⟨vd',vm,rfl,hd,hm,_,_⟩:=hs
 obtain ⟨ad,capd,rfl,_⟩:=slp_len hd
 obtain ⟨am,capm,rfl,_⟩:=slp_len hm
 obtain ⟨da,dc,rfl,_,_,_,hvc⟩:=hv
 obtain ⟨vw,za,zc,rfl,_,hw,_,hll,_,hlc⟩:=hf
 obtain ⟨wa,capw,rfl,_⟩:=slp_len hw
 clear hd hm hw
 obtain ⟨W0,hW0⟩:∃ W0,(((((w.alloc (.cells #[.slice ad s.dims.length capd,.slice am s.mets.length capm,.int .i64 s.grain] 24)).alloc (.cells #[.int .i64 f.kind,.string f.name,.slice wa f.words.length capw,.int .i64 f.frm,.int .i64 f.to,.slice za f.l.length zc] 31)).alloc (.cells #[.int .i64 t] 2)).alloc (.cells #[.slice da dims.length dc] 52)).alloc (.cells #[.func (.func 184) #[] #[.pointer (some ⟨w.heap.size,0,none⟩),.pointer (some ⟨w.heap.size + 1 + 1,0,none⟩),.pointer (some ⟨w.heap.size + 1 + 1 + 1,0,none⟩)]] 255))=W0:=⟨_,rfl⟩
 obtain ⟨h0,h1,h2,h3,h4,hS,hB⟩:=laid5 w (.cells #[.slice ad s.dims.length capd,.slice am s.mets.length capm,.int .i64 s.grain] 24) (.cells #[.int .i64 f.kind,.string f.name,.slice wa f.words.length capw,.int .i64 f.frm,.int .i64 f.to,.slice za f.l.length zc] 31) (.cells #[.int .i64 t] 2) (.cells #[.slice da dims.length dc] 52) (.cells #[.func (.func 184) #[] #[.pointer (some ⟨w.heap.size,0,none⟩),.pointer (some ⟨w.heap.size + 1 + 1,0,none⟩),.pointer (some ⟨w.heap.size + 1 + 1 + 1,0,none⟩)]] 255)
 rw [hW0] at h0 h1 h2 h3 h4 hS hB
 have HEL:RowKit.Hid (∀ k (hk:k < f.l.length),∃ b off,za=some ⟨b,off,none⟩∧b < W0.heap.size∧∃ c0 c1 c2 c3 c4 c5,(W0.cell? ⟨b,off + k * 6,none⟩=some c0∧W0.cell? ⟨b,off + k * 6 + 1,none⟩=some c1∧W0.cell? ⟨b,off + k * 6 + 2,none⟩=some c2∧W0.cell? ⟨b,off + k * 6 + 3,none⟩=some c3∧W0.cell? ⟨b,off + k * 6 + 4,none⟩=some c4∧W0.cell? ⟨b,off + k * 6 + 5,none⟩=some c5) ∧
   (∀ W,Below W0.heap.size W0 W→Calls Tryz.prog 184 #[.agg #[c0,c1,c2,c3,c4,c5],.pointer (some ⟨w.heap.size,0,none⟩),.pointer (some ⟨w.heap.size + 1 + 1,0,none⟩),.pointer (some ⟨w.heap.size + 1 + 1 + 1,0,none⟩)] W fun e w'=>e = .returned (.bool (Fil.holds s t dims f.l[k]))∧Below W.heap.size W w') ∧
   (∀ W,Below W0.heap.size W0 W→Calls Tryz.prog 185 #[.agg #[c0,c1,c2,c3,c4,c5],.pointer (some ⟨w.heap.size + 1 + 1 + 1 + 1,0,none⟩)] W fun e w'=>e = .returned (.bool (!Fil.holds s t dims f.l[k]))∧Below W.heap.size W w')):=Lib.hid (fun k hk=>by
  obtain ⟨b,off,ha,hb,_,hc⟩:=hlc (by omega)
  obtain ⟨c0,c1,c2,c3,c4,c5,hx,g0,g1,g2,g3,g4,g5⟩:=hc k hk
  refine ⟨b,off,ha,by omega,c0,c1,c2,c3,c4,c5,⟨(hB.cell (p:=⟨b,off + k * 6,none⟩) hb).trans g0,(hB.cell (p:=⟨b,off + k * 6 + 1,none⟩) hb).trans g1,(hB.cell (p:=⟨b,off + k * 6 + 2,none⟩) hb).trans g2,(hB.cell (p:=⟨b,off + k * 6 + 3,none⟩) hb).trans g3,(hB.cell (p:=⟨b,off + k * 6 + 4,none⟩) hb).trans g4,(hB.cell (p:=⟨b,off + k * 6 + 5,none⟩) hb).trans g5⟩,fun W hW => ?_,fun W hW => ?_⟩
  ·exact is_any _ _ _ _ _ _ _ _ _ _ _ _ t da dims.length dc _ W _ _ _ ((hW.block _ (by omega)).trans h0) ((hW.block _ (by omega)).trans h2) ((hW.block _ (by omega)).trans h3) (fun W' hW'=>HIH.out W' (Bt (Bt hB hW) hW') _ _ hx (List.getElem_mem hk))
  ·exact isNot_any _ _ _ _ _ _ _ _ _ _ _ _ _ t da dims.length dc _ W _ _ _ _ ((hW.block _ (by omega)).trans h4) ((hW.block _ (by omega)).trans h0) ((hW.block _ (by omega)).trans h2) ((hW.block _ (by omega)).trans h3) (fun W' hW'=>HIH.out W' (Bt (Bt hB hW) hW') _ _ hx (List.getElem_mem hk)))
 have HK:RowKit.Hid (∀ W a b,Below W0.heap.size W0 W→(W.alloc (.cells #[a,b] 72)).cell? ⟨w.heap.size + 1,0,none⟩=some (.int .i64 f.kind)∧(W.alloc (.cells #[a,b] 72)).cell? ⟨w.heap.size + 1,1,none⟩=some (.string f.name)∧(W.alloc (.cells #[a,b] 72)).cell? ⟨w.heap.size + 1,2,none⟩=some (.slice wa f.words.length capw)∧(W.alloc (.cells #[a,b] 72)).cell? ⟨w.heap.size + 1,3,none⟩=some (.int .i64 f.frm) ∧
   (W.alloc (.cells #[a,b] 72)).cell? ⟨w.heap.size + 1,4,none⟩=some (.int .i64 f.to)∧(W.alloc (.cells #[a,b] 72)).cell? ⟨w.heap.size + 1,5,none⟩=some (.slice za f.l.length zc)∧(W.alloc (.cells #[a,b] 72)).cell? ⟨w.heap.size + 1 + 1 + 1,0,none⟩=some (.slice da dims.length dc)∧W.cell? ⟨w.heap.size + 1 + 1 + 1,0,none⟩=some (.slice da dims.length dc) ∧
   (∀ i (hi:i < dims.length),∃ b' off,da=some ⟨b',off,none⟩∧W.cell? ⟨b',off + i * 2,none⟩=some (.string dims[i].s)∧W.cell? ⟨b',off + i * 2 + 1,none⟩=some (.bool dims[i].null)∧(W.alloc (.cells #[a,b] 72)).cell? ⟨b',off + i * 2,none⟩=some (.string dims[i].s)) ∧
   Below w.heap.size w (W.alloc (.cells #[a,b] 72))):=Lib.hid (fun W a b hW=>by
  have hA:=(laid1 W (.cells #[a,b] 72)).2.2
  have hWA:=Bt hW hA
  obtain ⟨y0,y1,y2,y3,y4,y5⟩:=right_cells6 hWA h1
  refine ⟨y0,y1,y2,y3,y4,y5,(cell_of_box ((hWA.block _ (by omega)).trans h3)).1,(cell_of_box ((hW.block _ (by omega)).trans h3)).1,fun i hi => ?_,Bt hB hWA⟩
  obtain ⟨b',off,ha,hb,_,hc⟩:=hvc (by omega)
  have hWw:=Bt hB hW
  have hc0:=(hWw.cell (p:=⟨b',off + i * 2,none⟩) hb).trans (hc i hi).1
  refine ⟨b',off,ha,hc0,(hWw.cell (p:=⟨b',off + i * 2 + 1,none⟩) hb).trans (hc i hi).2,((Bt hB hWA).cell (p:=⟨b',off + i * 2,none⟩) hb).trans (hc i hi).1⟩)
 have HW0:=Lib.hid hW0
 have HLL:=Lib.hid hll
 have HB:=Lib.hid hB
 have H4:=Lib.hid h4
 have hH:=Fil.holds_eq s t dims f
 clear hW0 hB h0 h1 h2 h3 h4 hlc hll HIH hvc
 by_cases k7:f.kind=7
 ·have e7:(f.kind == (7:Int))=true:=by rw [k7];rfl
  have hl1:f.l.length=1:=by
   simp [Fil.own,k7,Fil.form,Fil.inW] at hown
   omega
  obtain ⟨b,off,hza,hb,c0,c1,c2,c3,c4,c5,⟨g0,g1,g2,g3,g4,g5⟩,_,hcall⟩:=HEL.out 0 (by omega)
  rw [hH,show Fil.holdsW s t dims f (f.l.map (Fil.holds s t dims)) = !Fil.holds s t dims (f.l[0]'(by omega)) by simp [Fil.holdsW,k7,hl1]]
  have HX:=Lib.hid (hcall W0 (Below.refl _ _))
  clear hcall
  generalize Fil.holds s t dims (f.l[0]'(by omega))=r at *
  have hz:(0:Int) < (f.l.length:Int):=by omega
  rw [Nat.zero_mul,Nat.add_zero] at g0 g1 g2 g3 g4 g5
  rw [← HW0.out] at g0 g1 g2 g3 g4 g5
  clear k7 hH hown HK hl1 HEL HDIM HWORD hb hS
  rw [hza] at g0 g1 g2 g3 g4 g5 HW0 ⊢
  clear hza
  go_enter Tryz.func142,Tryz.ntmps142
  go_wp2_with (go_at_call 185;rw [HW0.out];refine HX.out.mono ?_;rintro e w2 ⟨rfl,hb2⟩;have HB2:=Lib.hid hb2;clear hb2)
  go_ret
  exact ⟨rfl,Bt HB.out HB2.out⟩
 have e7:(f.kind == (7:Int))=false:=by rw [beq_eq_false_iff_ne];exact k7
 by_cases k8:f.kind=8
 ·have e8:(f.kind == (8:Int))=true:=by rw [k8];rfl
  have hr:Fil.holdsW s t dims f (f.l.map (Fil.holds s t dims)) = !(f.l.any fun x => !Fil.holds s t dims x):=by
   simp [Fil.holdsW,k8,List.all_eq_not_any_not]
   rfl
  rw [hH,hr]
  have HX:=Lib.hid (contains_isNot (fun x => !Fil.holds s t dims x) f.l za zc (.pointer (some ⟨w.heap.size + 1 + 1 + 1 + 1,0,none⟩)) W0 HLL.out (fun k hk=>by
   obtain ⟨b,off,ha,hb,c0,c1,c2,c3,c4,c5,hc,_,h2⟩:=HEL.out k hk
   exact ⟨b,off,ha,hb,c0,c1,c2,c3,c4,c5,hc,h2⟩))
  clear k7 k8 hH hown HK HEL HDIM HWORD hS hr
  generalize (f.l.any fun x => !Fil.holds s t dims x)=r at *
  go_enter Tryz.func142,Tryz.ntmps142
  go_wp2_with (go_at_call 186;rw [HW0.out];refine HX.out.mono ?_;rintro e w2 ⟨rfl,hb2⟩;have HB2:=Lib.hid hb2;clear hb2)
  go_ret
  exact ⟨rfl,Bt HB.out HB2.out⟩
 have e8:(f.kind == (8:Int))=false:=by rw [beq_eq_false_iff_ne];exact k8
 by_cases k9:f.kind=9
 ·have e9:(f.kind == (9:Int))=true:=by rw [k9];rfl
  have hr:Fil.holdsW s t dims f (f.l.map (Fil.holds s t dims))=(f.l.any fun x=>Fil.holds s t dims x):=by
   simp [Fil.holdsW,k9]
  rw [hH,hr]
  have HX:=Lib.hid (contains_is (fun x=>Fil.holds s t dims x) f.l za zc (.pointer (some ⟨w.heap.size,0,none⟩)) (.pointer (some ⟨w.heap.size + 1 + 1,0,none⟩)) (.pointer (some ⟨w.heap.size + 1 + 1 + 1,0,none⟩)) W0 HLL.out (fun k hk=>by
   obtain ⟨b,off,ha,hb,c0,c1,c2,c3,c4,c5,hc,h1,_⟩:=HEL.out k hk
   exact ⟨b,off,ha,hb,c0,c1,c2,c3,c4,c5,hc,h1⟩))
  clear k7 k8 k9 hH hown HK HEL HDIM HWORD hS hr
  generalize (f.l.any fun x=>Fil.holds s t dims x)=r at *
  go_enter Tryz.func142,Tryz.ntmps142
  go_wp2_with (go_at_call 186;rw [HW0.out];refine HX.out.mono ?_;rintro e w2 ⟨rfl,hb2⟩;have HB2:=Lib.hid hb2;clear hb2)
  go_ret
  exact ⟨rfl,Bt HB.out HB2.out⟩
 have e9:(f.kind == (9:Int))=false:=by rw [beq_eq_false_iff_ne];exact k9
 by_cases k6:f.kind=6
 ·have e6:(f.kind == (6:Int))=true:=by rw [k6];rfl
  rw [hH,show Fil.holdsW s t dims f (f.l.map (Fil.holds s t dims))=Fil.spanHas f.frm f.to t by simp [Fil.holdsW,k6]]
  have HX:=Lib.hid (gHas_any f.frm f.to t W0)
  clear k7 k8 k9 k6 hH hown HK HEL HDIM HWORD hS
  generalize Fil.spanHas f.frm f.to t=r at *
  go_enter Tryz.func142,Tryz.ntmps142
  go_wp2_with (go_at_call 187;rw [HW0.out];refine HX.out.mono ?_;rintro e w2 ⟨rfl,hb2⟩;have HB2:=Lib.hid hb2;clear hb2)
  go_ret
  exact ⟨rfl,Bt HB.out HB2.out⟩
 have e6:(f.kind == (6:Int))=false:=by rw [beq_eq_false_iff_ne];exact k6
 by_cases k1:f.kind=1
 ·have e1:(f.kind == (1:Int))=true:=by rw [k1];rfl
  rw [hH,show Fil.holdsW s t dims f (f.l.map (Fil.holds s t dims))=true by simp [Fil.holdsW,k1]]
  clear k7 k8 k9 k6 k1 hH hown HK HEL HDIM HWORD hS
  go_enter Tryz.func142,Tryz.ntmps142
  go_wp2
  go_ret
  rw [HW0.out]
  exact ⟨rfl,HB.out⟩
 have e1:(f.kind == (1:Int))=false:=by rw [beq_eq_false_iff_ne];exact k1
 rw [hH,show Fil.holdsW s t dims f (f.l.map (Fil.holds s t dims))=Fil.holdsDim s dims f by simp [Fil.holdsW,k7,k8,k9,k6,k1]]
 have hd2:(Tess.dimW s f.name).2=true:=by
  unfold Fil.own at hown
  split at hown
  ·cases hown
  ·rename_i hn hs' ws ls hform
   have hhn:hn=true:=by
    unfold Fil.form at hform
    simp only [k7,k8,k9,k6,k1,if_false] at hform
    split at hform
    ·simp at hform;exact hform.1
    split at hform
    ·simp at hform;exact hform.1
    split at hform
    ·simp at hform;exact hform.1
    split at hform
    ·simp at hform;exact hform.1
    ·cases hform
   simp only [Bool.and_eq_true] at hown
   have:=hown.1.1.1.1.1
   rw [hhn] at this
   simpa using this
 have hw4:f.kind=4→1≤f.words.length:=fun h=>by
  simp [Fil.own,h,Fil.form,Fil.inW] at hown;omega
 have hw5:f.kind=5→2≤f.words.length:=fun h=>by
  simp [Fil.own,h,Fil.form,Fil.inW] at hown;omega
 have hlt:=dim_lt s f.name hd2
 obtain ⟨i,hi⟩:∃ i,i=(Tess.dimW s f.name).1:=⟨_,rfl⟩
 have hdim:Tess.dimW s f.name=(i,true):=by rw [hi,← hd2]
 have hil:i < dims.length:=by rw [HDL.out,hi];exact hlt
 rw [hdim] at HDIM
 have hHD:Fil.holdsDim s dims f=(if dims[i].null || decide (f.kind=3) then dims[i].null && decide (f.kind=3) else Fil.isWord f dims[i].s):=by
  unfold Fil.holdsDim
  simp only [hdim]
  simp only [List.getD_eq_getElem?_getD,List.getElem?_eq_getElem hil,Option.getD_some]
 have HWO:=Lib.hid (fun W (hB:Below w.heap.size w W)=>HWORD.out dims[i].s W hB hw4 hw5)
 rw [hHD]
 obtain ⟨x,hx⟩:∃ x,x=dims[i]:=⟨_,rfl⟩
 rw [← hx] at HWO ⊢
 have HX:=Lib.hid hx
 have hik:(i:Int) < (dims.length:Int):=by omega
 clear HEL HWORD hH hown hd2 hw4 hw5 hlt hi hdim hHD hx
 obtain ⟨xs,xn⟩:=x
 simp only at HWO ⊢
 cases xn <;> by_cases k3:f.kind=3
 ·have e3:(f.kind == (3:Int))=true:=by rw [k3];rfl
  rw [show (if false || decide (f.kind=3) then false && decide (f.kind=3) else Fil.isWord f xs)=false by simp [k3]]
  clear k7 k8 k9 k6 k1 k3
  go_enter Tryz.func142,Tryz.ntmps142
  go_wp2_with (go_at_call 104;rw [HW0.out];refine (HDIM.out _ HB.out).mono ?_;rintro e w2 ⟨rfl,hb2⟩;have HB2:=Lib.hid hb2;obtain ⟨y0,y1,y2,y3,y4,y5,yd,zd,hel,hb3⟩:=HK.out w2 (.string xs) (.bool false) hb2;obtain ⟨b',off,rfl,z0,z1,z2⟩:=hel i hil;rw [← HX.out] at z0 z1 z2;simp only at z0 z1 z2;have HB3:=Lib.hid hb3;clear hb3 hb2 hel)
  go_ret
  exact ⟨rfl,HB3.out⟩
 ·have e3:(f.kind == (3:Int))=false:=by rw [beq_eq_false_iff_ne];exact k3
  rw [show (if false || decide (f.kind=3) then false && decide (f.kind=3) else Fil.isWord f xs)=Fil.isWord f xs by simp [k3]]
  clear k7 k8 k9 k6 k1 k3
  go_enter Tryz.func142,Tryz.ntmps142
  go_wp2_with (go_at_call 104;rw [HW0.out];refine (HDIM.out _ HB.out).mono ?_;rintro e w2 ⟨rfl,hb2⟩;have HB2:=Lib.hid hb2;obtain ⟨y0,y1,y2,y3,y4,y5,yd,zd,hel,hb3⟩:=HK.out w2 (.string xs) (.bool false) hb2;obtain ⟨b',off,rfl,z0,z1,z2⟩:=hel i hil;rw [← HX.out] at z0 z1 z2;simp only at z0 z1 z2;have HB3:=Lib.hid hb3;clear hb3 hb2 hel)
  generalize hW3:w2.alloc (.cells #[.string xs,.bool false] 72)=W3 at *
  have s1:w.heap.size + 1 < W3.heap.size:=World.block_lt_of_cell? _ _ y0
  have s3:w.heap.size + 1 + 1 + 1 < W3.heap.size:=World.block_lt_of_cell? _ _ yd
  have sb:b' < W3.heap.size:=World.block_lt_of_cell? _ _ z2
  have HWR:=Lib.hid (fun W hW=>HWO.out W (Bt HB3.out hW))
  clear hW3 z0 z1 zd
  refine Flow.wp_region_flow (Flow.specs [.inl ?_,.inl ?_,.inl ?_,.inl ?_,.inl ?_,.inl ?_,.inl (.bool (Fil.isWord f xs)),.inl ?_]) (by kernel_rfl) (by kernel_rfl) ?_ ?_
  rotate_left 7
  ·refine Flow.specs_mono ?_
   intro s hs
   simp only [List.mem_cons,List.not_mem_nil,or_false] at hs
   rcases hs with rfl | rfl | rfl | rfl | rfl | rfl | rfl | rfl <;> exact Flow.mono_inl _
  iterate 6 (refine Flow.tree_valK rfl (fun K hK=>⟨fun w hw hG => ?_,?_⟩);(have hcl:=Flow.bcell hw;clear hG hw;unfold Flow.Runs Flow.yields;go_simp;try rfl);go_simp;refine hK _ ?_;clear hK K)
  (refine Flow.tree_valK rfl (fun K hK=>⟨fun w hw hG => ?_,?_⟩);(have HBW:=Lib.hid hw;clear hG hw;unfold Flow.Runs Flow.yields;go_simp;exact HWR.out _ HBW.out);go_simp;refine hK _ ?_;clear hK K)
  (refine Flow.tree_valK rfl (fun K hK=>⟨fun w hw hG => ?_,?_⟩);(clear hG hw;unfold Flow.Runs Flow.yields;go_simp;try rfl);go_simp;refine hK _ ?_;clear hK K)
  refine Flow.tree_nil fun w' hw hG => ?_
  clear hG
  go_wp2
  go_ret
  exact ⟨rfl,Bt HB3.out hw⟩
 ·have e3:(f.kind == (3:Int))=true:=by rw [k3];rfl
  rw [show (if true || decide (f.kind=3) then true && decide (f.kind=3) else Fil.isWord f xs)=true by simp [k3]]
  clear k7 k8 k9 k6 k1 k3
  go_enter Tryz.func142,Tryz.ntmps142
  go_wp2_with (go_at_call 104;rw [HW0.out];refine (HDIM.out _ HB.out).mono ?_;rintro e w2 ⟨rfl,hb2⟩;have HB2:=Lib.hid hb2;obtain ⟨y0,y1,y2,y3,y4,y5,yd,zd,hel,hb3⟩:=HK.out w2 (.string xs) (.bool true) hb2;obtain ⟨b',off,rfl,z0,z1,z2⟩:=hel i hil;rw [← HX.out] at z0 z1 z2;simp only at z0 z1 z2;have HB3:=Lib.hid hb3;clear hb3 hb2 hel)
  go_ret
  exact ⟨rfl,HB3.out⟩
 ·have e3:(f.kind == (3:Int))=false:=by rw [beq_eq_false_iff_ne];exact k3
  rw [show (if true || decide (f.kind=3) then true && decide (f.kind=3) else Fil.isWord f xs)=false by simp [k3]]
  clear k7 k8 k9 k6 k1 k3
  go_enter Tryz.func142,Tryz.ntmps142
  go_wp2_with (go_at_call 104;rw [HW0.out];refine (HDIM.out _ HB.out).mono ?_;rintro e w2 ⟨rfl,hb2⟩;have HB2:=Lib.hid hb2;obtain ⟨y0,y1,y2,y3,y4,y5,yd,zd,hel,hb3⟩:=HK.out w2 (.string xs) (.bool true) hb2;obtain ⟨b',off,rfl,z0,z1,z2⟩:=hel i hil;rw [← HX.out] at z0 z1 z2;simp only at z0 z1 z2;have HB3:=Lib.hid hb3;clear hb3 hb2 hel)
  go_ret
  exact ⟨rfl,HB3.out⟩
end Go.Proofs.YtaddkkkchkdgkaaGreatDoor
namespace Go.Proofs.YtaddkkkchkdgkaaGreatDoor
open Go.RowKit Go.Sort
open Tess (Fil)
theorem check_own {s:Tess.Sch} {f:Fil} (h:Fil.checkE s f=0):Fil.allP (Fil.own s) f=true:=by
 rw [Fil.checkE_eq] at h
 split at h
 ·split at h
  ·cases h
  ·rename_i h2
   simp only [Bool.or_eq_true,Bool.not_eq_true',not_or] at h2
   simpa using h2.2
 ·cases h
set_option maxRecDepth 100000 in
set_option maxHeartbeats 1000000 in
theorem fHolds_any (a0 a1:Addr) (p:Nat→Prop) (n:Nat) (vs v vd:Value) (s:Tess.Sch) (f:Fil) (t:Int) (dims:List Tess.Val) (w:World) (hV:Vars a0 a1 w) (hs:SchAt p w vs s) (hf:FilAt p n w v f) (hv:ValsAt p w vd dims) (hn:n≤100) (hK:kindsOk f) :
  Calls Tryz.prog 103 #[vs,v,.int .i64 t,vd] w fun e w'=>e = .returned (.tuple #[.bool (Fil.holdsE s t dims f).1,.int .i64 ((Fil.holdsE s t dims f).2:Nat)])∧Below w.heap.size w w':=by
 have HC:=Lib.hid (fun W (hB:Below w.heap.size w W)=>check_any a0 a1 p n vs v s f W (hV.below hB) (hs.ag (Ag.new p hB)) (hf.ag (Ag.new p hB)) hn hK)
 have HH:=Lib.hid (fun W (hB:Below w.heap.size w W) (hdl:dims.length=s.dims.length) (ho:Fil.allP (Fil.own s) f=true)=>holds_any p s t dims vs vd hdl n v f W (hs.ag (Ag.new p hB)) (hf.ag (Ag.new p hB)) (hv.ag (Ag.new p hB)) ho hK)
 obtain ⟨vd',vm,rfl,hd,hm,_,_⟩:=hs
 obtain ⟨ad,capd,rfl,_⟩:=slp_len hd
 obtain ⟨am,capm,rfl,_⟩:=slp_len hm
 obtain ⟨wa,wn,wc,za,zc,rfl⟩:=hf.shape6
 obtain ⟨da,dc,rfl,_,_,_,_⟩:=hv
 clear hd hm hV hf hK hn
 obtain ⟨W0,hW0⟩:∃ W0,(w.alloc (.cells #[.slice ad s.dims.length capd,.slice am s.mets.length capm,.int .i64 s.grain] 24)).alloc (.cells #[.int .i64 f.kind,.string f.name,.slice wa wn wc,.int .i64 f.frm,.int .i64 f.to,.slice za f.l.length zc] 31)=W0:=⟨_,rfl⟩
 obtain ⟨h1,h2,hS0,hB0⟩:=laid2 w (.cells #[.slice ad s.dims.length capd,.slice am s.mets.length capm,.int .i64 s.grain] 24) (.cells #[.int .i64 f.kind,.string f.name,.slice wa wn wc,.int .i64 f.frm,.int .i64 f.to,.slice za f.l.length zc] 31)
 rw [hW0] at h1 h2 hS0 hB0
 have HB0:=Lib.hid hB0
 have H1:=Lib.hid h1
 have H2:=Lib.hid h2
 have HW0:=Lib.hid hW0
 clear hB0 h1 h2 hS0 hW0
 obtain ⟨c,hc⟩:∃ c,Fil.checkE s f=c:=⟨_,rfl⟩
 have hE:Fil.holdsE s t dims f=if c=0 then (if dims.length=s.dims.length then (Fil.holds s t dims f,0) else (false,140)) else (false,c):=by
  unfold Fil.holdsE;rw [hc]
 rw [hE]
 rw [hc] at HC
 have HO:=Lib.hid (fun (h:c=0)=>check_own (hc.trans h))
 clear hc hE
 by_cases h0:c=0
 ·have ho:=HO.out h0
  subst h0
  by_cases hdl:dims.length=s.dims.length
  ·have hr:(if (0:Nat)=0 then (if dims.length=s.dims.length then (Fil.holds s t dims f,0) else (false,140)) else (false,0))=(Fil.holds s t dims f,0):=by simp [hdl]
   rw [hr]
   have HX:=Lib.hid (fun W hB=>HH.out W hB hdl ho)
   have hne:((dims.length:Int) != (s.dims.length:Int))=false:=by rw [hdl];simp
   clear hdl ho HH hr HO
   go_enter Tryz.func103,Tryz.ntmps103
   go_wp2
   refine wp_scope_fwd 0 rfl ?_
   go_wp2_with (first | (go_at_call 80;rw [HW0.out];refine (HC.out _ HB0.out).mono ?_;rintro e W1 ⟨rfl,hB1⟩;obtain ⟨y0,y1,y2,y3,y4,y5⟩:=right_cells6 hB1 H2.out;obtain ⟨x0,x1,x2⟩:=right_cells3 hB1 H1.out;have HB1:=Lib.hid (Bt HB0.out hB1);clear hB1) | (go_at_call 142;refine (HX.out _ HB1.out).mono ?_;rintro e W2 ⟨rfl,hB2⟩;have HB2:=Lib.hid (Bt HB1.out hB2);clear hB2))
   rw [Exit.fwd_ret]
   go_ret2
   exact ⟨rfl,HB2.out⟩
  ·have hr:(if (0:Nat)=0 then (if dims.length=s.dims.length then (Fil.holds s t dims f,0) else (false,140)) else (false,0))=(false,140):=by simp [hdl]
   rw [hr]
   have hne:((dims.length:Int) != (s.dims.length:Int))=true:=by rw [bne_iff_ne];omega
   clear hdl ho HH hr HO
   go_enter Tryz.func103,Tryz.ntmps103
   go_wp2
   refine wp_scope_fwd 0 rfl ?_
   go_wp2_with (go_at_call 80;rw [HW0.out];refine (HC.out _ HB0.out).mono ?_;rintro e W1 ⟨rfl,hB1⟩;obtain ⟨y0,y1,y2,y3,y4,y5⟩:=right_cells6 hB1 H2.out;obtain ⟨x0,x1,x2⟩:=right_cells3 hB1 H1.out;have HB1:=Lib.hid (Bt HB0.out hB1);clear hB1)
   go_step3
   refine Exit.then_goto (Exit.fwd_goto ?_)
   go_wp2
   rw [Exit.noGoto_ret]
   go_ret2
   exact ⟨rfl,HB1.out⟩
 ·have hne:((c:Int) != (0:Int))=true:=by rw [bne_iff_ne];omega
  rw [if_neg h0]
  clear h0 HH HO
  go_enter Tryz.func103,Tryz.ntmps103
  go_wp2
  refine wp_scope_fwd 0 rfl ?_
  go_wp2_with (go_at_call 80;rw [HW0.out];refine (HC.out _ HB0.out).mono ?_;rintro e W1 ⟨rfl,hB1⟩;obtain ⟨y0,y1,y2,y3,y4,y5⟩:=right_cells6 hB1 H2.out;obtain ⟨x0,x1,x2⟩:=right_cells3 hB1 H1.out;have HB1:=Lib.hid (Bt HB0.out hB1);clear hB1)
  go_step3
  refine Exit.then_goto (Exit.fwd_goto ?_)
  go_wp2
  rw [Exit.noGoto_ret]
  go_ret2
  exact ⟨rfl,HB1.out⟩
end Go.Proofs.YtaddkkkchkdgkaaGreatDoor
namespace Go.Proofs.YtaddkkkchkdgkaaGreatDoor
open Go.RowKit Go.Sort
open Tess (Fil)
theorem infoVal:(Tryz.prog.info? 72).map (fun i=>(i.zero,i.size,i.bytes))=some (some (.agg #[.string ByteArray.empty,.bool false]),2,24):=by kernel_rfl
def cutVal (x:Tess.Val):Tess.Val:=⟨cutN 110 x.s,x.null⟩
def cutVals (l:List Tess.Val):List Tess.Val:=(l.take 10).map cutVal
def valCells:List Tess.Val→List Value
 | []=>[]
 | x :: r => .string x.s :: .bool x.null :: valCells r
theorem valCells_app (a b:List Tess.Val):valCells (a ++ b)=valCells a ++ valCells b:=by
 induction a with
 | nil=>rfl
 | cons x r ih=>simp [valCells,ih]
theorem valCells_len (a:List Tess.Val):(valCells a).length=a.length * 2:=by
 induction a with
 | nil=>rfl
 | cons x r ih=>simp [valCells,ih];omega
theorem valCells_at (a:List Tess.Val):∀ (j:Nat) (h:j < a.length),(valCells a)[j * 2]? = some (.string a[j].s)∧(valCells a)[j * 2 + 1]? = some (.bool a[j].null):=by
 induction a with
 | nil=>intro j h;simp at h
 | cons x r ih=>
   intro j h
   cases j with
   | zero=>simp [valCells]
   | succ j=>
     have:=ih j (by simpa using h)
     rw [show (j + 1) * 2=j * 2 + 1 + 1 by omega]
     simpa [valCells] using this
def newTwo (a b:Value) (v:Value) (w:World):Prop:=∃ g,v = .slice (some ⟨g,0,none⟩) 1 1∧g < w.heap.size∧w.cell? ⟨g,0,none⟩=some a∧w.cell? ⟨g,1,none⟩=some b
theorem newTwo_mono (a b:Value):Flow.Spec.mono (.inr (newTwo a b)):=fun _ _ _ ⟨g,h1,h2,h3,h4⟩ hb=>⟨g,h1,Nat.lt_of_lt_of_le h2 hb.size,(hb.cell (p:=⟨g,0,none⟩) h2).trans h3,(hb.cell (p:=⟨g,1,none⟩) h2).trans h4⟩
theorem newTwo_mk (a b:Value) (w:World) (t:TypeId):newTwo a b (.slice (some ⟨w.heap.size,0,none⟩) 1 1) (w.alloc (.cells #[a,b] t)):=⟨_,rfl,by simp,by simp,by simp⟩
theorem vals_snoc (l:List Tess.Val) (k:Nat) (h:k < l.length):valCells ((l.take k).map cutVal) ++ [.string (cutN 110 l[k].s),.bool l[k].null]=valCells ((l.take (k + 1)).map cutVal):=by
 rw [List.take_succ_eq_append_getElem h,List.map_append,valCells_app];rfl
theorem vals_owned {w:World} {base:Nat} {t:TypeId} {v:Value} {l:List Tess.Val} (h:w.ownsRow base t 2 v l.length (valCells l)) (hs:∀ x ∈ l,x.s.size≤maxLen) (hl:l.length≤maxLen) (hn:l=[]→v = .slice none 0 0):ValsAt (fun b=>base≤b) w v l:=by
 rcases Nat.eq_zero_or_pos l.length with h0 | h0
 ·have:l=[]:=List.length_eq_zero_iff.1 h0
  subst this
  rw [hn rfl]
  exact ⟨_,_,rfl,by simp,hs,fun _=>rfl,fun h=>absurd h (by simp)⟩
 ·obtain ⟨g,cap,hv,hb,hg,_,_,hc⟩:=owns_cell_any h h0
  refine ⟨_,_,hv,hl,hs,(fun e=>by cases e),fun _=>⟨g,0,rfl,hg,hb,fun j hj => ?_⟩⟩
  have:=valCells_at l j hj
  exact ⟨by rw [Nat.zero_add,hc _ (by omega)];exact this.1,by rw [Nat.zero_add,hc _ (by omega)];exact this.2⟩
set_option maxRecDepth 100000 in
set_option maxHeartbeats 2000000 in
theorem vals_any (p:Nat→Prop) (v:Value) (l:List Tess.Val) (w:World) (hv:ValsAt p w v l) :
  Calls Tryz.prog 50 #[v] w fun e w' => ∃ v',e = .returned v'∧ValsAt (fun b=>w.heap.size≤b) w' v' (cutVals l)∧Below w.heap.size w w':=by
 obtain ⟨a,cap,rfl,hl,hs,_,hc⟩:=hv
 have hl:l.length≤9223372036854775807:=by unfold maxLen at hl;omega
 have HC:=Lib.hid hc
 have HS:=Lib.hid hs
 clear hc hs
 obtain ⟨i0,hi,hz0,hz1,hz2⟩:=info_parts infoVal
 go_enter Tryz.func50,Tryz.ntmps50
 go_wp2
 go_loopw [3,4] (fun v i wr => ∃ k:Nat,k≤l.length∧k≤10∧i = .int .i64 k∧wr.ownsRow w.heap.size 72 2 v k (valCells ((l.take k).map cutVal))∧(k=0→v = .slice none 0 0)∧Below w.heap.size w wr) (fun _ i _=>10 - (intOf i).toNat)
 case atStart=>exact ⟨0,Nat.zero_le _,Nat.zero_le _,rfl,by simpa [valCells] using World.ownsRow_nil w w.heap.size 72 2,fun _=>rfl,Below.refl _ _⟩
 case round=>
  obtain ⟨k,hk,hkn,rfl,hown,hnil,hB⟩:=hrel
  have HN:=Lib.hid hnil
  clear hnil
  by_cases hlt:k < l.length∧k < 10
  ·obtain ⟨h1,h2⟩:=hlt
   obtain ⟨b,off,rfl,hb,_,hel⟩:=HC.out (by omega)
   have hck:wr.cell? ⟨b,off + k * 2,none⟩=some (.string l[k].s):=(hB.cell (p:=⟨b,off + k * 2,none⟩) hb).trans (hel k h1).1
   have hcb:wr.cell? ⟨b,off + k * 2 + 1,none⟩=some (.bool l[k].null):=(hB.cell (p:=⟨b,off + k * 2 + 1,none⟩) hb).trans (hel k h1).2
   have hsz:l[k].s.size≤9223372036854775807:=HS.out _ (List.getElem_mem h1)
   have HO:=Lib.hid hown
   have HB:=Lib.hid hB
   have hbw:b < wr.heap.size:=Nat.lt_of_lt_of_le hb HB.out.size
   have HE:=Lib.hid (vals_snoc l k h1)
   clear hown hB hel hb
   obtain ⟨x,hx⟩:∃ x,x=cutN 110 l[k].s:=⟨_,rfl⟩
   rw [← hx] at HE
   have HX:=Lib.hid hx
   clear hx
   generalize l[k].s=xs at *
   generalize l[k].null=xb at *
   go_wp2
   rcases (show ((110:Int) < (xs.size:Int)∧(¬ (xs.size:Int)≤110∧(110:Int)≤(xs.size:Int))∧min (xs.size:Int) 110=110)∨(¬ (110:Int) < (xs.size:Int)∧(xs.size:Int)≤110∧min (xs.size:Int) 110=(xs.size:Int)) by omega) with ⟨h3i,h3j,hmin⟩ | ⟨h3i,h3j,hmin⟩
   all_goals
    refine Flow.wp_region_flow_tail 21 (Flow.specs [.inl ?_,.inl ?_,.inl ?_,.inl ?_,.inl ?_,.inl ?_,.inl ?_,.inl ?_,.inl ?_,.inl ?_,.inl ?_,.inl ?_,.inl ?_,.inl ?_,.inl ?_,.inl ?_,.inl ?_,.inl ?_,.inl ?_,.inl ?_,.inr (newTwo (.string x) (.bool xb))]) (by kernel_rfl) (by kernel_rfl) ?_ ?_
    rotate_left 20
    ·refine Flow.specs_mono ?_
     repeat (first | exact Flow.lmono_nil | refine Flow.lmono_inl ?_ | refine Flow.lmono_inr (newTwo_mono _ _) ?_)
    all_goals try simp only [List.take_succ_cons,List.take_zero,List.drop_succ_cons,List.drop_zero]
    iterate 20 (refine Flow.tree_valK rfl (fun K hK=>⟨fun w hw hG => ?_,?_⟩);(have hcl:=Flow.bcell hw;clear hG hw;unfold Flow.Runs Flow.yields;go_simp;try rfl);go_simp;refine hK _ ?_;clear hK K)
    (refine Flow.tree_varK rfl (fun K hK=>⟨fun w hw hG => ?_,?_⟩);(clear hG hw;unfold Flow.Runs Flow.yields;go_simp;refine ⟨(Below.refl _ _).alloc (Nat.le_refl _) _,?_⟩;rw [HX.out]);rotate_left;intro vz;go_simp;refine hK _ _ ?_;clear hK K;rotate_left)
    ·first | exact newTwo_mk _ _ _ _ | (rw [cutN_self _ _ (by omega)];exact newTwo_mk _ _ _ _)
    refine Flow.tree_nil fun w2 hw2 hG => ?_
    obtain ⟨gn,rfl,hgn,hcn,hcm⟩:=(show newTwo (.string x) (.bool xb) vz w2 by simpa [Flow.upd] using hG 20)
    clear hG
    have HO2:=Lib.hid (owns_below HO.out hw2)
    have hB2:=HB.out.trans (hw2.mono HB.out.size)
    go_wp2_with (at_builtin;refine wpList_append_own _ rfl _ _ 52 rfl w.heap.size 72 i0 (.agg #[.string ByteArray.empty,.bool false]) 2 24 Tryz.underlying52 hi hz0 hz1 hz2 rfl (by decide) _ _ _ rfl HO2.out ⟨gn,0,none⟩ 1 1 [.string x,.bool xb] rfl rfl ?_ ?_ ?_ ?_ ?_ ?_)
    ·intro j u hj;rcases j with _ | _ | j <;> simp at hj <;> subst hj;simpa [Addr.add] using hcn;simpa [Addr.add] using hcm
    ·simp [Value.oneCell']
    ·unfold maxLen;omega
    ·omega
    ·exact hB2.size
    intro v' w3 hown3 hgrow hnil3
    have hB3:Below w.heap.size w w3:=hB2.grown hgrow hB2.size (fun j e=>(HO2.out.lt j e).1)
    have hown3:w3.ownsRow w.heap.size 72 2 v' (k + 1) (valCells ((l.take (k + 1)).map cutVal)):=by rw [← HE.out,List.map_take];exact hown3
    have HO3:=Lib.hid hown3
    have HB3:=Lib.hid hB3
    clear hown3 hgrow hB3 hB2
    go_wp2
    go_roundw
    case rel=>exact ⟨k + 1,by omega,by omega,by go_num,HO3.out,fun h=>by omega,HB3.out⟩
    case measure=>simp [intOf];omega
  ·have he:(l.take k).map cutVal=cutVals l:=by
    unfold cutVals
    by_cases e:k=10
    ·rw [e]
    ·rw [List.take_of_length_le (by omega),List.take_of_length_le (by omega)]
   have hlen:(cutVals l).length=k:=by rw [← he];simp;omega
   rw [he] at hown
   have HO:=Lib.hid (vals_owned (l:=cutVals l) (by rw [hlen];exact hown) (fun x hx=>by
    obtain ⟨y,_,rfl⟩:=List.mem_map.1 hx
    have:=cutN_size 110 y.s
    show (cutN 110 y.s).size≤maxLen
    unfold maxLen;omega) (by unfold maxLen;omega) (fun h=>HN.out (by rw [← hlen,h];rfl)))
   have HB:=Lib.hid hB
   clear hown hB he hlen
   rcases (show (¬ (k:Int) < (l.length:Int))∨((k:Int) < (l.length:Int)∧¬ (k:Int) < 10) by omega) with hni | ⟨hkl,hni⟩
   all_goals
    clear hlt
    go_wp2
    go_ret
    exact ⟨_,rfl,HO.out,HB.out⟩
end Go.Proofs.YtaddkkkchkdgkaaGreatDoor
