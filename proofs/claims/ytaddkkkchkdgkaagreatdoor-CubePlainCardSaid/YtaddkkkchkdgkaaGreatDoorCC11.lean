/- Joined by mergeK.py: K3p, K4p, K7p, K18, F26, F27, F29, F30 -/
import Derived.Test.YtaddkkkchkdgkaaGreatDoorCC06
import Derived.Test.YtaddkkkchkdgkaaGreatDoorCC09
import Derived.Test.YtaddkkkchkdgkaaGreatDoorCC10
import Derived.Laws.EntriesVeiled
namespace Tess
open Go Kl
namespace Kl
section
variable {K P:Type} {lt:K→K→Bool} {add:P→P→P}
theorem ins_all {R:P→Prop} (ha:∀ a b,R a→R b→R (add a b)) {x:K×P} (hx:R x.2):∀ {l:List (K×P)},(∀ y ∈ l,R y.2)→∀ y ∈ ins lt add x l,R y.2
 | [],_,y,hy=>by rw [ins,List.mem_singleton] at hy;rw [hy];exact hx
 | z :: l,hl,y,hy=>by
   rw [ins] at hy
   have hz:=hl z (by simp)
   have hr:∀ y ∈ l,R y.2:=fun y hy=>hl y (by simp [hy])
   split at hy
   ·rcases List.mem_cons.1 hy with rfl | hy
    ·exact hz
    ·exact ins_all ha hx hr y hy
   split at hy
   ·rcases List.mem_cons.1 hy with rfl | hy
    ·exact hx
    ·exact hl y hy
   ·rcases List.mem_cons.1 hy with rfl | hy
    ·exact ha _ _ hz hx
    ·exact hr y hy
theorem foldl_all {R:P→Prop} (ha:∀ a b,R a→R b→R (add a b)):∀ (l m:List (K×P)),(∀ y ∈ l,R y.2)→(∀ y ∈ m,R y.2)→∀ y ∈ l.foldl (fun m x=>ins lt add x m) m,R y.2
 | [],_,_,hm=>hm
 | x :: l,m,hl,hm=>foldl_all ha l _ (fun y hy=>hl y (by simp [hy])) (ins_all ha (hl x (by simp)) hm)
theorem fold_all {R:P→Prop} (ha:∀ a b,R a→R b→R (add a b)) {l:List (K×P)} (hl:∀ y ∈ l,R y.2):∀ y ∈ fold lt add l,R y.2:=
 foldl_all ha l [] hl fun _ h=>by cases h
theorem fk3 {R:K→Prop}:∀ (l m:List (K×P)),(∀ y ∈ l,R y.1)→(∀ y ∈ m,R y.1)→∀ y ∈ l.foldl (fun m x=>ins lt add x m) m,R y.1
 | [],_,_,hm=>hm
 | x :: l,m,hl,hm=>fk3 l _ (fun y hy=>hl y (by simp [hy])) fun y hy=>by
   rcases mem_ins hy with e | ⟨z,hz,e⟩
   ·rw [e];exact hl x (by simp)
   ·rw [← e];exact hm z hz
theorem fk2 {R:K→Prop} {l:List (K×P)} (hl:∀ y ∈ l,R y.1):∀ y ∈ fold lt add l,R y.1:=fk3 l [] hl fun _ h=>by cases h
theorem re_keys {L:Type} {R:L→Prop} {g:K→Option L} {l:List (K×P)} (hl:∀ k k',g k=some k'→R k'):∀ y ∈ re g l,R y.1:=fun y hy=>by
 obtain ⟨x,hx,e⟩:=List.mem_filterMap.1 hy
 cases hg:g x.1 with
 | none=>rw [hg] at e;cases e
 | some k=>rw [hg] at e;simp only [Option.map_some,Option.some.injEq] at e;rw [← e];exact hl _ _ hg
theorem san {l:List (K×P)} (h:sum add (fun _=>true) l=none):l=[]:=by
 cases l with
 | nil=>rfl
 | cons x l=>exact absurd h (sum_some (c:=fun _=>true) (x:=x) (by simp) rfl)
def put (lt:K→K→Bool) (add:P→P→P) (l:List (K×P)) (x:K×P):List (K×P):=
 match l with
 | []=>[x]
 | y :: r=>if at' lt x.1 y.1 then (y.1,add y.2 x.2) :: r else y :: put lt add r x
theorem sum_put (hk:Sto lt) (h:Com add) (c:K→Bool) (x:K×P) (l:List (K×P)):sum add c (put lt add l x)=oadd add (sum add c l) (if c x.1 then some x.2 else none):=by
 induction l with
 | nil=>simp only [put,sum,on2,no2]
 | cons y l ih=>
   rw [put]
   split
   ·rename_i h1
    have e:y.1=x.1:=(ai hk).1 h1
    rw [sum,sum,← e,oa2 h,oc3 h (sum add c l),← oa2 h]
    cases c y.1 <;> rfl
   ·rw [sum,sum,ih,oa2 h]
theorem sum_puts (hk:Sto lt) (h:Com add) (c:K→Bool) (l m:List (K×P)):sum add c (l.foldl (put lt add) m)=oadd add (sum add c m) (sum add c l):=by
 induction l generalizing m with
 | nil=>rw [List.foldl_nil,sum,on2]
 | cons x l ih=>rw [List.foldl_cons,ih,sum_put hk h,oa2 h];rfl
def Nod (l:List (K×P)):Prop:=(l.map (·.1)).Nodup
theorem put_keys {l:List (K×P)} {x y:K×P} (h:y ∈ put lt add l x):y.1=x.1∨∃ z ∈ l,z.1=y.1:=by
 induction l with
 | nil=>rw [put,List.mem_singleton] at h;exact Or.inl (by rw [h])
 | cons z l ih=>
   rw [put] at h
   split at h
   ·rcases List.mem_cons.1 h with rfl | h
    ·exact Or.inr ⟨z,by simp,rfl⟩
    ·exact Or.inr ⟨y,by simp [h],rfl⟩
   ·rcases List.mem_cons.1 h with rfl | h
    ·exact Or.inr ⟨_,by simp,rfl⟩
    ·rcases ih h with h | ⟨u,hu,e⟩
     ·exact Or.inl h
     ·exact Or.inr ⟨u,by simp [hu],e⟩
theorem put_nod (hk:Sto lt) (x:K×P) {l:List (K×P)} (h:Nod l):Nod (put lt add l x):=by
 induction l with
 | nil=>unfold Nod put;simp
 | cons y l ih=>
   unfold Nod at h ⊢
   rw [List.map_cons,List.nodup_cons] at h
   rw [put]
   split
   ·rw [List.map_cons,List.nodup_cons];exact h
   ·rename_i hy
    rw [List.map_cons,List.nodup_cons]
    refine ⟨fun hm => ?_,ih h.2⟩
    obtain ⟨z,hz,e⟩:=List.mem_map.1 hm
    rcases put_keys hz with e' | ⟨u,hu,e'⟩
    ·exact hy ((ai hk).2 (e.symm.trans e'))
    ·exact h.1 (List.mem_map.2 ⟨u,hu,e'.trans e⟩)
theorem asc_nod (hk:Sto lt) {l:List (K×P)} (h:Asc lt l):Nod l:=by
 unfold Nod
 rw [List.nodup_iff_pairwise_ne,List.pairwise_map]
 exact h.imp fun hab e=>by rw [e,hk.irr] at hab;cases hab
theorem sum_nod (hk:Sto lt) {l:List (K×P)} (h:Nod l) {k:K} {p:P}:sum add (at' lt k) l=some p↔(k,p) ∈ l:=by
 induction l with
 | nil=>simp [sum]
 | cons x l ih=>
   unfold Nod at h
   rw [List.map_cons,List.nodup_cons] at h
   rw [sum]
   cases hx:at' lt k x.1
   ·rw [if_neg (by simp),no2,ih h.2,List.mem_cons]
    refine ⟨Or.inr,fun h'=>h'.resolve_left fun e => ?_⟩
    rw [← e,(ai hk).2 rfl] at hx;cases hx
   ·have e:=(ai hk).1 hx
    rw [if_pos rfl,sn2 (l:=l),on2]
    ·constructor
     ·intro h';cases h';rw [List.mem_cons];exact Or.inl (by rw [← e])
     ·intro h'
      rcases List.mem_cons.1 h' with e' | h'
      ·rw [← e']
      ·exact absurd (List.mem_map.2 ⟨_,h',e.symm⟩) h.1
    ·intro y hy
     cases hy':at' lt k y.1
     ·rfl
     ·exact absurd (List.mem_map.2 ⟨y,hy,((ai hk).1 hy').trans e.symm⟩) h.1
theorem nod_perm (hk:Sto lt) {l m:List (K×P)} (hl:Nod l) (hm:Nod m) (h:∀ k,sum add (at' lt k) l=sum add (at' lt k) m):l.Perm m:=by
 have h1:∀ {n:List (K×P)},Nod n→n.Nodup:=fun hn=>by
  unfold Nod at hn
  rw [List.nodup_iff_pairwise_ne,List.pairwise_map] at hn
  rw [List.nodup_iff_pairwise_ne]
  exact hn.imp fun hab e=>hab (by rw [e])
 refine (List.perm_ext_iff_of_nodup (h1 hl) (h1 hm)).2 fun x => ?_
 have:=h x.1
 rw [← sum_nod (add:=add) hk hl (k:=x.1) (p:=x.2),← sum_nod (add:=add) hk hm (k:=x.1) (p:=x.2),this]
end
end Kl
def Pay.len (M:Nat) (p:Pay):Prop:=p.sums.length=M∧p.mins.length=M∧p.maxs.length=M
theorem Pay.len_add {M:Nat} (a b:Pay) (ha:a.len M) (hb:b.len M):(a.add b).len M:=by
 simp only [Pay.len,Pay.add,List.length_zipWith] at *
 omega
theorem zgD {f:Int→Int→Int} {l m:List Int} {k:Nat} (h1:k < l.length) (h2:k < m.length):(List.zipWith f l m).getD k 0=f (l.getD k 0) (m.getD k 0):=by
 simp [List.getD,List.getElem?_zipWith,h1,h2]
theorem tn3:∀ {l:List (CK×Pay)} {p:Pay},sum Pay.add (fun _=>true) l=some p→p.n=(l.map (·.2.n)).sum
 | [],_,h=>by cases h
 | x :: l,p,h=>by
   rw [sum,if_pos rfl] at h
   cases hs:sum Pay.add (fun _=>true) l with
   | none=>rw [hs] at h;cases h;rw [san hs];simp
   | some r=>rw [hs] at h;cases h;rw [List.map_cons,List.sum_cons,← tn3 hs];rfl
def allSet (q:Que):Nat:=2 ^ q.names.length - 1
theorem key_len (s:Sch) (set:Nat) (d:List DV):∀ (l:List ByteArray) (i:Nat),(kF2 s set d i l).length=l.length
 | [],_=>rfl
 | x :: l,i=>by rw [kF2,List.length_cons,key_len s set d l (i + 1),List.length_cons]
section
variable {s:Sch} {q:Que} {set:Nat} {C:List (CK×Pay)}
theorem groups_asc:Asc ckLt (gP s q set C):=fa8 cs3 _
theorem groups_key:∀ x ∈ gP s q set C,x.1.2.length=q.names.length:=fk2 (R:=fun k:CK=>k.2.length=q.names.length) (re_keys (R:=fun k:CK=>k.2.length=q.names.length) (g:=gOf s q set) fun k k' h=>by
 unfold gOf at h
 split at h
 ·cases h;exact key_len _ _ _ _ _
 ·cases h)
theorem ts2:sum Pay.add (fun _=>true) (gP s q set C)=sum Pay.add (fun _=>true) (gP s { q with every:=0 } (allSet q) C):=by
 rw [sg2,sg2,sum_re,sum_re]
 refine sum_congr fun x _ => ?_
 unfold gOf
 show _=_
 simp only
 cases Fil.holds s x.1.1 (x.1.2.map valOf) q.fil <;> rfl
end
end Tess
namespace Tess
open Go Kl
def SumOk (s n l h:Int):Prop:=l≤h∧l * (n - 1) + h≤s∧s≤h * (n - 1) + l
theorem sumOk_add {s1 n1 l1 h1 s2 n2 l2 h2:Int} (hn1:1≤n1) (hn2:1≤n2) (a:SumOk s1 n1 l1 h1) (b:SumOk s2 n2 l2 h2):SumOk (s1 + s2) (n1 + n2) (min l1 l2) (max h1 h2):=by
 obtain ⟨a1,a2,a3⟩:=a
 obtain ⟨b1,b2,b3⟩:=b
 generalize hl:min l1 l2=l
 generalize hh:max h1 h2=h
 have p1:l * (n1 - 1)≤l1 * (n1 - 1):=Int.mul_le_mul_of_nonneg_right (by omega) (by omega)
 have p2:l * (n2 - 1)≤l2 * (n2 - 1):=Int.mul_le_mul_of_nonneg_right (by omega) (by omega)
 have p3:h1 * (n1 - 1)≤h * (n1 - 1):=Int.mul_le_mul_of_nonneg_right (by omega) (by omega)
 have p4:h2 * (n2 - 1)≤h * (n2 - 1):=Int.mul_le_mul_of_nonneg_right (by omega) (by omega)
 have e1:l * (n1 + n2 - 1)=l * (n1 - 1) + l * (n2 - 1) + l:=by
  rw [show n1 + n2 - 1=(n1 - 1) + (n2 - 1) + 1 by omega,Int.mul_add,Int.mul_add,Int.mul_one]
 have e2:h * (n1 + n2 - 1)=h * (n1 - 1) + h * (n2 - 1) + h:=by
  rw [show n1 + n2 - 1=(n1 - 1) + (n2 - 1) + 1 by omega,Int.mul_add,Int.mul_add,Int.mul_one]
 unfold SumOk
 rw [e1,e2]
 omega
structure PO (M:Nat) (p:Pay):Prop where
 len:p.len M
 one:1≤p.n
 sum:∀ m < M,SumOk (p.sums.getD m 0) p.n (p.mins.getD m 0) (p.maxs.getD m 0)
 rng:∀ m < M,-9223372036854775808≤p.mins.getD m 0∧p.mins.getD m 0≤9223372036854775807 ∧ -9223372036854775808≤p.maxs.getD m 0∧p.maxs.getD m 0≤9223372036854775807
theorem pOa {M:Nat} (a b:Pay) (ha:PO M a) (hb:PO M b):PO M (a.add b):=by
 have hg:∀ m < M,(a.add b).sums.getD m 0=a.sums.getD m 0 + b.sums.getD m 0∧(a.add b).mins.getD m 0=min (a.mins.getD m 0) (b.mins.getD m 0)∧(a.add b).maxs.getD m 0=max (a.maxs.getD m 0) (b.maxs.getD m 0):=fun m hm=>by
  obtain ⟨a1,a2,a3⟩:=ha.len
  obtain ⟨b1,b2,b3⟩:=hb.len
  exact ⟨zgD (by omega) (by omega),zgD (by omega) (by omega),zgD (by omega) (by omega)⟩
 refine ⟨Pay.len_add a b ha.len hb.len,?_,fun m hm => ?_,fun m hm => ?_⟩
 ·show 1≤a.n + b.n
  have:=ha.one
  have:=hb.one
  omega
 ·obtain ⟨e1,e2,e3⟩:=hg m hm
  rw [e1,e2,e3]
  exact sumOk_add ha.one hb.one (ha.sum m hm) (hb.sum m hm)
 ·obtain ⟨_,e2,e3⟩:=hg m hm
  rw [e2,e3]
  have:=ha.rng m hm
  have:=hb.rng m hm
  omega
structure CO2 (s:Sch) (x:CK×Pay):Prop where
 time:0≤x.1.1∧x.1.1≤1000000000000∧x.1.1 % s.grain=0
 dims:x.1.2.length=s.dims.length∧(x.1.2.map valOf).all vO=true
 most:x.2.n≤1000000
 pay:PO s.mets.length x.2
structure CO (s:Sch) (C:List (CK×Pay)):Prop where
 sch:sO2 s=true
 len:C.length≤1000
 each:∀ x ∈ C,CO2 s x
 asc:Asc ckLt C
def Row.rng (r:Row):Prop:=∀ z ∈ r.ns,-9223372036854775808≤z∧z≤9223372036854775807
theorem row_pay {s:Sch} {r:Row} (h:Row.ok s r=true) (hr:r.rng) (g:Int):PO s.mets.length (Row.kp g r).2:=by
 obtain ⟨_,_,_,hl,_⟩:=ok_parts h
 refine ⟨⟨hl,hl,hl⟩,Int.le_refl _,fun m hm => ?_,fun m hm => ?_⟩
 ·show SumOk (r.ns.getD m 0) 1 (r.ns.getD m 0) (r.ns.getD m 0)
  unfold SumOk
  omega
 ·show -9223372036854775808≤r.ns.getD m 0∧r.ns.getD m 0≤9223372036854775807 ∧ -9223372036854775808≤r.ns.getD m 0∧r.ns.getD m 0≤9223372036854775807
  have Aa:m < r.ns.length:=by omega
  have e:r.ns.getD m 0=r.ns[m]:=by simp [List.getD,Aa]
  rw [e]
  have:=hr _ (List.getElem_mem Aa)
  omega
theorem lls:∀ {l:List (CK×Pay)},(∀ x ∈ l,1≤x.2.n)→(l.length:Int)≤(l.map (·.2.n)).sum∧∀ x ∈ l,x.2.n≤(l.map (·.2.n)).sum
 | [],_=>⟨by simp,fun x hx=>by cases hx⟩
 | x :: l,h=>by
   obtain ⟨h1,h2⟩:=lls (l:=l) fun y hy=>h y (by simp [hy])
   have hx:=h x (by simp)
   rw [List.map_cons,List.sum_cons]
   refine ⟨by rw [List.length_cons];omega,fun y hy => ?_⟩
   rcases List.mem_cons.1 hy with rfl | hy
   ·omega
   ·have:=h2 y hy;omega
theorem rows_n (g:Int):∀ (rows:List Row) (p:Pay),sum Pay.add (fun _=>true) (rows.map (Row.kp g))=some p→p.n=rows.length
 | [],_,h=>by cases h
 | r :: rows,p,h=>by
   rw [List.map_cons,sum,if_pos rfl] at h
   cases hs:sum Pay.add (fun _=>true) (rows.map (Row.kp g)) with
   | none=>
     rw [hs] at h;cases h
     have:=san hs
     rw [List.map_eq_nil_iff] at this
     subst this;rfl
   | some q=>
     rw [hs] at h;cases h
     have:=rows_n g rows q hs
     show (1:Int) + q.n=((r :: rows).length:Int)
     rw [this,List.length_cons];omega
theorem roll_sum {g:Int} {rows:List Row} (hp:∀ x ∈ rP g rows,1≤x.2.n):(rP g rows).length≤rows.length∧∀ x ∈ rP g rows,x.2.n≤rows.length:=by
 obtain ⟨h1,h2⟩:=lls hp
 have e:sum Pay.add (fun _=>true) (rP g rows)=sum Pay.add (fun _=>true) (rows.map (Row.kp g)):=sf2 cs3 pc2 _ _
 cases hs:sum Pay.add (fun _=>true) (rP g rows) with
 | none=>rw [san hs];exact ⟨by simp,fun x hx=>by cases hx⟩
 | some p=>
   have hn:=tn3 hs
   rw [e] at hs
   have:=rows_n g rows p hs
   rw [← hn,this] at h1 h2
   exact ⟨by omega,h2⟩
theorem roll_ok {s:Sch} {rows:List Row} (hs:sO2 s=true) (hr:∀ r ∈ rows,Row.ok s r=true) (hn:∀ r ∈ rows,r.rng) (hl:rows.length≤1000):CO s (rP s.grain rows):=by
 have hp:∀ x ∈ rP s.grain rows,PO s.mets.length x.2:=fold_all pOa fun y hy=>by
  obtain ⟨r,hm,rfl⟩:=List.mem_map.1 hy
  exact row_pay (hr r hm) (hn r hm) _
 have hk:∀ x ∈ rP s.grain rows,((0≤x.1.1∧x.1.1≤1000000000000∧x.1.1 % s.grain=0)∧x.1.2.length=s.dims.length∧(x.1.2.map valOf).all vO=true):=fk2 (R:=fun k:CK=>((0≤k.1∧k.1≤1000000000000∧k.1 % s.grain=0)∧k.2.length=s.dims.length∧(k.2.map valOf).all vO=true)) fun y hy=>by
  obtain ⟨r,hm,rfl⟩:=List.mem_map.1 hy
  obtain ⟨_,⟨t0,t1⟩,hd,_,hv⟩:=ok_parts (hr r hm)
  have hg:1≤s.grain:=by
   simp only [sO2,Bool.and_eq_true,decide_eq_true_eq] at hs
   exact hs.1.1.2
  have m0:=Int.emod_nonneg r.t (show s.grain≠0 by omega)
  have m1:=Int.mul_ediv_add_emod r.t s.grain
  have m2:r.t - r.t % s.grain=s.grain * (r.t / s.grain):=by omega
  have m3:0≤s.grain * (r.t / s.grain):=Int.mul_nonneg (by omega) (Int.ediv_nonneg t0 (by omega))
  refine ⟨⟨?_,?_,?_⟩,?_,?_⟩
  ·show 0≤r.t - r.t % s.grain;omega
  ·show r.t - r.t % s.grain≤1000000000000;omega
  ·show (r.t - r.t % s.grain) % s.grain=0;rw [m2];exact Int.mul_emod_right _ _
  ·show (r.l.map Val.c).length=_;rw [List.length_map];exact hd
  ·show ((r.l.map Val.c).map valOf).all vO=true;rw [valOf_cs hv];exact hv
 obtain ⟨h1,h2⟩:=roll_sum fun x hx=>(hp x hx).one
 exact ⟨hs,by omega,fun x hx=>⟨(hk x hx).1,(hk x hx).2,by have:=h2 x hx;omega,hp x hx⟩,fa8 cs3 _⟩
end Tess
namespace Tess
open Go Kl
namespace Kl
section
variable {K P:Type} {lt:K→K→Bool} {add:P→P→P}
theorem ih4 {x:K×P}:∀ {L:List (K×P)} {k:Nat},k≤L.length→(∀ j (h:j < L.length),j < k→lt L[j].1 x.1=true)→(∀ h:k < L.length,lt L[k].1 x.1=false∧lt x.1 L[k].1=true)→ins lt add x L=L.take k ++ x :: L.drop k
 | [],k,hk,_,_=>by
   have:k=0:=by simpa using hk
   subst this;rfl
 | y :: L,0,_,_,ha=>by
   have h:=ha (by simp)
   simp only [List.getElem_cons_zero] at h
   rw [ins,if_neg (by rw [h.1];decide),if_pos h.2];rfl
 | y :: L,k + 1,hk,hb,ha=>by
   have h:=hb 0 (by simp) (by omega)
   simp only [List.getElem_cons_zero] at h
   rw [ins,if_pos h,ih4 (k:=k) (by simpa using hk) (fun j hj hjk=>hb (j + 1) (by simpa using hj) (by omega)) (fun h=>ha (by simpa using h))]
   rfl
theorem ins_at {x:K×P}:∀ {L:List (K×P)} {k:Nat} (hk:k < L.length),(∀ j (h:j < L.length),j < k→lt L[j].1 x.1=true)→lt L[k].1 x.1=false→lt x.1 L[k].1=false→ins lt add x L=L.set k (L[k].1,add L[k].2 x.2)
 | [],k,hk,_,_,_=>by simp at hk
 | y :: L,0,_,_,h1,h2=>by
   simp only [List.getElem_cons_zero] at h1 h2
   rw [ins,if_neg (by rw [h1];decide),if_neg (by rw [h2];decide)];rfl
 | y :: L,k + 1,hk,hb,h1,h2=>by
   have h:=hb 0 (by simp) (by omega)
   simp only [List.getElem_cons_zero] at h
   simp only [List.getElem_cons_succ] at h1 h2
   rw [ins,if_pos h,ins_at (k:=k) (by simpa using hk) (fun j hj hjk=>hb (j + 1) (by simpa using hj) (by omega)) h1 h2]
   rfl
theorem puts_nod (hs:Sto lt):∀ (r n:List (K×P)),Nod n→Nod (r.foldl (put lt add) n)
 | [],_,h=>h
 | x :: r,_,h=>puts_nod hs r _ (put_nod hs x h)
theorem sorted_puts (hs:Sto lt) (hc:Com add) {l m:List (K×P)} (hp:m.Perm (l.foldl (put lt add) [])) (ha:m.Pairwise fun a b=>lt b.1 a.1=false):m=fold lt add l:=by
 have hn:Nod m:=by
  have:=puts_nod (add:=add) hs l [] List.Pairwise.nil
  unfold Nod at this ⊢
  exact (hp.map _).nodup_iff.2 this
 have Aa:Asc lt m:=by
  unfold Nod at hn
  rw [List.nodup_iff_pairwise_ne,List.pairwise_map] at hn
  refine (ha.and hn).imp fun {a b} h => ?_
  cases hl:lt a.1 b.1
  ·exact absurd (hs.tri hl h.1) h.2
  ·rfl
 refine ext (add:=add) hs Aa (fa8 hs l) fun k => ?_
 rw [sum_perm hc _ hp,sum_puts hs hc,sf2 hs hc,sum,no2]
end
end Kl
end Tess
namespace Go.Proofs.YtaddkkkchkdgkaaGreatDoor
open Go.RowKit Go.Sort Go.Shelf
open Tess (CK Pay)
set_option maxRecDepth 100000 in
set_option maxHeartbeats 4000000 in
theorem put1_any (bl bc bb off k cap i:Nat) (a b:Option Addr) (c d:Nat) (l m:List Tess.Val) (t u n o:Int) (a3 a4 a5 b3 b4 b5:Option Addr) (n3 n4 n5 c3 c4 c5 o3 o4 o5 d3 d4 d5:Nat) (W:World)
  (hi:i < k) (hm:m.length≤9223372036854775807)
  (hl:W.cell? ⟨bl,0,none⟩=some (.slice (some ⟨bb,off,none⟩) k cap))
  (e0:W.cell? ⟨bb,off + i * 6,none⟩=some (.int .i64 t)) (e1:W.cell? ⟨bb,off + i * 6 + 1,none⟩=some (.slice a l.length c)) (e2:W.cell? ⟨bb,off + i * 6 + 2,none⟩=some (.int .i64 n)) (e3:W.cell? ⟨bb,off + i * 6 + 3,none⟩=some (.slice a3 n3 c3)) (e4:W.cell? ⟨bb,off + i * 6 + 4,none⟩=some (.slice a4 n4 c4)) (e5:W.cell? ⟨bb,off + i * 6 + 5,none⟩=some (.slice a5 n5 c5))
  (f0:W.cell? ⟨bc,0,none⟩=some (.int .i64 u)) (f1:W.cell? ⟨bc,1,none⟩=some (.slice b m.length d)) (f2:W.cell? ⟨bc,2,none⟩=some (.int .i64 o)) (f3:W.cell? ⟨bc,3,none⟩=some (.slice b3 o3 d3)) (f4:W.cell? ⟨bc,4,none⟩=some (.slice b4 o4 d4)) (f5:W.cell? ⟨bc,5,none⟩=some (.slice b5 o5 d5))
  (ha:VC W a l) (hb:VC W b m) :
  Calls Tryz.prog 60 (#[.int .i64 i] ++ #[.pointer (some ⟨bl,0,none⟩),.pointer (some ⟨bc,0,none⟩)]) W fun e w'=>e = .returned (.bool (!Tess.ckLt (t,l.map Tess.Val.c) (u,m.map Tess.Val.c)))∧∃ q os,w'=grow (W.drewN q) os:=by
 have Ad:(i:Int) < (k:Int):=by omega
 have H:=Hd (fun q os=>aa2 a b c d l m t u n o a3 a4 a5 b3 b4 b5 n3 n4 n5 c3 c4 c5 o3 o4 o5 d3 d4 d5 (grow (W.drewN q) os) hm (ha.grown q os) (hb.grown q os))
 generalize Tess.ckLt (t,l.map Tess.Val.c) (u,m.map Tess.Val.c)=r at *
 go_enter Tryz.func60,Tryz.ntmps60
 go_wp2_with (fail)
 have ql:=fun k os=>cell_grown (World.block_lt_of_cell? _ _ hl) hl k os
 have q0:=fun k os=>cell_grown (World.block_lt_of_cell? _ _ e0) e0 k os
 have q1:=fun k os=>cell_grown (World.block_lt_of_cell? _ _ e1) e1 k os
 have q2:=fun k os=>cell_grown (World.block_lt_of_cell? _ _ e2) e2 k os
 have q3:=fun k os=>cell_grown (World.block_lt_of_cell? _ _ e3) e3 k os
 have q4:=fun k os=>cell_grown (World.block_lt_of_cell? _ _ e4) e4 k os
 have q5:=fun k os=>cell_grown (World.block_lt_of_cell? _ _ e5) e5 k os
 have r0:=fun k os=>cell_grown (World.block_lt_of_cell? _ _ f0) f0 k os
 have r1:=fun k os=>cell_grown (World.block_lt_of_cell? _ _ f1) f1 k os
 have r2:=fun k os=>cell_grown (World.block_lt_of_cell? _ _ f2) f2 k os
 have r3:=fun k os=>cell_grown (World.block_lt_of_cell? _ _ f3) f3 k os
 have r4:=fun k os=>cell_grown (World.block_lt_of_cell? _ _ f4) f4 k os
 have r5:=fun k os=>cell_grown (World.block_lt_of_cell? _ _ f5) f5 k os
 clear hl e0 e1 e2 e3 e4 e5 f0 f1 f2 f3 f4 f5 ha hb
 refine wp_region_quiet_grown (by kernel_rfl) (by kernel_rfl) ?_
 repeat (go_big_quiet_step (exact Calls.grown_of (H.out _ _)))
 refine wpQuiet_nil ?_
 intro _ Ab
 obtain ⟨⟨nq,Ac⟩,Aa⟩:=Ab
 subst Aa
 go_wp2
 go_ret
 exact ⟨rfl,_,_,rfl⟩
end Go.Proofs.YtaddkkkchkdgkaaGreatDoor
namespace Go.Proofs.YtaddkkkchkdgkaaGreatDoor
open Go.RowKit Go.Sort
open Tess (Fil)
theorem dim_lt (s:Tess.Sch) (x:ByteArray) (h:(Tess.dimW s x).2=true):(Tess.dimW s x).1 < s.dims.length:=by
 unfold Tess.dimW Tess.pW at *
 split at h
 ·rename_i hc
  rw [if_pos hc]
  rw [Bool.and_eq_true] at hc
  have hm:=(Tess.hWi s.dims x).1 hc.2
  exact List.findIdx_lt_length_of_exists ⟨x,hm,decide_eq_true rfl⟩
 ·cases h
theorem laid5 (w:World) (A B C D E:Obj):((((((w.alloc A).alloc B).alloc C).alloc D).alloc E)).heap[w.heap.size]? = some A∧((((((w.alloc A).alloc B).alloc C).alloc D).alloc E)).heap[w.heap.size + 1]? = some B∧((((((w.alloc A).alloc B).alloc C).alloc D).alloc E)).heap[w.heap.size + 2]? = some C ∧
  ((((((w.alloc A).alloc B).alloc C).alloc D).alloc E)).heap[w.heap.size + 3]? = some D∧((((((w.alloc A).alloc B).alloc C).alloc D).alloc E)).heap[w.heap.size + 4]? = some E∧((((((w.alloc A).alloc B).alloc C).alloc D).alloc E)).heap.size=w.heap.size + 5∧Below w.heap.size w ((((((w.alloc A).alloc B).alloc C).alloc D).alloc E)):=by
 obtain ⟨h1,h2,h3,h4,h5,h6⟩:=laid4 w A B C D
 obtain ⟨k1,k2,k4⟩:=la2 ((((w.alloc A).alloc B).alloc C).alloc D) E
 rw [h5] at k1 k2
 exact ⟨(k4.block _ (by omega)).trans h1,(k4.block _ (by omega)).trans h2,(k4.block _ (by omega)).trans h3,(k4.block _ (by omega)).trans h4,k1,k2,h6.trans (k4.mono (by omega))⟩
set_option maxRecDepth 100000 in
set_option maxHeartbeats 4000000 in
theorem holds_any (p:Nat→Prop) (s:Tess.Sch) (t:Int) (dims:List Tess.Val) (vs vd:Value) (hdl:dims.length=s.dims.length):∀ (n:Nat) (v:Value) (f:Fil) (w:World),SA p w vs s→FA2 p n w v f→VA p w vd dims →
  Fil.allP (Fil.own s) f=true→kO2 f→Calls Tryz.prog 142 #[vs,v,.int .i64 t,vd] w fun e w'=>e = .returned (.bool (Fil.holds s t dims f))∧Below w.heap.size w w':=by
 intro n
 induction n with
 | zero=>intro v f w _ hf;exact hf.elim
 | succ n ih=>
 intro v f w hs hf hv Aa hK
 have Ae:=Hd (fun W (hB:Below w.heap.size w W)=>dim_any vs s f.name p W (hs.ag (Ag.new p hB)))
 have Ad:=Hd (fun x W (hB:Below w.heap.size w W)=>isWord_any p (n + 1) v f x W (hf.ag (Ag.new p hB)))
 have Av:RowKit.Hid (∀ W,Below w.heap.size w W→∀ v x,FA2 p n w v x→x ∈ f.l→Calls Tryz.prog 142 #[vs,v,.int .i64 t,vd] W fun e w'=>e = .returned (.bool (Fil.holds s t dims x))∧Below W.heap.size W w'):=Hd (fun W hB v x hx hm=>ih v x W (hs.ag (Ag.new p hB)) (hx.ag (Ag.new p hB)) (hv.ag (Ag.new p hB))
   (by rw [Fil.aPe,Bool.and_eq_true,List.all_eq_true] at Aa;exact Aa.2 x hm) (by unfold kO2 at hK ⊢;rw [Fil.aPe,Bool.and_eq_true,List.all_eq_true] at hK;exact hK.2 x hm))
 have Aa:Fil.own s f=true:=by rw [Fil.aPe,Bool.and_eq_true] at Aa;exact Aa.1
 clear ih hK
 have Bc:=Hd hdl
 clear hdl
 obtain ⟨Bf,vm,rfl,hd,hm,_,_⟩:=hs
 obtain ⟨ad,Ar,rfl,_⟩:=sl3 hd
 obtain ⟨am,Aq,rfl,_⟩:=sl3 hm
 obtain ⟨da,dc,rfl,_,_,_,A4⟩:=hv
 obtain ⟨vw,za,zc,rfl,_,hw,_,A3,_,A7⟩:=hf
 obtain ⟨wa,An,rfl,_⟩:=sl3 hw
 clear hd hm hw
 obtain ⟨W0,At⟩:∃ W0,(((((w.alloc (.cells #[.slice ad s.dims.length Ar,.slice am s.mets.length Aq,.int .i64 s.grain] 24)).alloc (.cells #[.int .i64 f.kind,.string f.name,.slice wa f.words.length An,.int .i64 f.frm,.int .i64 f.to,.slice za f.l.length zc] 31)).alloc (.cells #[.int .i64 t] 2)).alloc (.cells #[.slice da dims.length dc] 52)).alloc (.cells #[.func (.func 184) #[] #[.pointer (some ⟨w.heap.size,0,none⟩),.pointer (some ⟨w.heap.size + 1 + 1,0,none⟩),.pointer (some ⟨w.heap.size + 1 + 1 + 1,0,none⟩)]] 255))=W0:=⟨_,rfl⟩
 obtain ⟨h0,h1,h2,h3,h4,hS,hB⟩:=laid5 w (.cells #[.slice ad s.dims.length Ar,.slice am s.mets.length Aq,.int .i64 s.grain] 24) (.cells #[.int .i64 f.kind,.string f.name,.slice wa f.words.length An,.int .i64 f.frm,.int .i64 f.to,.slice za f.l.length zc] 31) (.cells #[.int .i64 t] 2) (.cells #[.slice da dims.length dc] 52) (.cells #[.func (.func 184) #[] #[.pointer (some ⟨w.heap.size,0,none⟩),.pointer (some ⟨w.heap.size + 1 + 1,0,none⟩),.pointer (some ⟨w.heap.size + 1 + 1 + 1,0,none⟩)]] 255)
 rw [At] at h0 h1 h2 h3 h4 hS hB
 have Ak:RowKit.Hid (∀ k (hk:k < f.l.length),∃ b Ab,za=some ⟨b,Ab,none⟩∧b < W0.heap.size∧∃ c0 c1 c2 c3 c4 c5,(W0.cell? ⟨b,Ab + k * 6,none⟩=some c0∧W0.cell? ⟨b,Ab + k * 6 + 1,none⟩=some c1∧W0.cell? ⟨b,Ab + k * 6 + 2,none⟩=some c2∧W0.cell? ⟨b,Ab + k * 6 + 3,none⟩=some c3∧W0.cell? ⟨b,Ab + k * 6 + 4,none⟩=some c4∧W0.cell? ⟨b,Ab + k * 6 + 5,none⟩=some c5) ∧
   (∀ W,Below W0.heap.size W0 W→Calls Tryz.prog 184 #[.agg #[c0,c1,c2,c3,c4,c5],.pointer (some ⟨w.heap.size,0,none⟩),.pointer (some ⟨w.heap.size + 1 + 1,0,none⟩),.pointer (some ⟨w.heap.size + 1 + 1 + 1,0,none⟩)] W fun e w'=>e = .returned (.bool (Fil.holds s t dims f.l[k]))∧Below W.heap.size W w') ∧
   (∀ W,Below W0.heap.size W0 W→Calls Tryz.prog 185 #[.agg #[c0,c1,c2,c3,c4,c5],.pointer (some ⟨w.heap.size + 1 + 1 + 1 + 1,0,none⟩)] W fun e w'=>e = .returned (.bool (!Fil.holds s t dims f.l[k]))∧Below W.heap.size W w')):=Hd (fun k hk=>by
  obtain ⟨b,Ab,ha,hb,_,hc⟩:=A7 (by omega)
  obtain ⟨c0,c1,c2,c3,c4,c5,hx,g0,g1,g2,g3,g4,g5⟩:=hc k hk
  refine ⟨b,Ab,ha,by omega,c0,c1,c2,c3,c4,c5,⟨(hB.cell (p:=⟨b,Ab + k * 6,none⟩) hb).trans g0,(hB.cell (p:=⟨b,Ab + k * 6 + 1,none⟩) hb).trans g1,(hB.cell (p:=⟨b,Ab + k * 6 + 2,none⟩) hb).trans g2,(hB.cell (p:=⟨b,Ab + k * 6 + 3,none⟩) hb).trans g3,(hB.cell (p:=⟨b,Ab + k * 6 + 4,none⟩) hb).trans g4,(hB.cell (p:=⟨b,Ab + k * 6 + 5,none⟩) hb).trans g5⟩,fun W hW => ?_,fun W hW => ?_⟩
  ·exact is_any _ _ _ _ _ _ _ _ _ _ _ _ t da dims.length dc _ W _ _ _ ((hW.block _ (by omega)).trans h0) ((hW.block _ (by omega)).trans h2) ((hW.block _ (by omega)).trans h3) (fun W' hW'=>Av.out W' (Bt (Bt hB hW) hW') _ _ hx (List.getElem_mem hk))
  ·exact isNot_any _ _ _ _ _ _ _ _ _ _ _ _ _ t da dims.length dc _ W _ _ _ _ ((hW.block _ (by omega)).trans h4) ((hW.block _ (by omega)).trans h0) ((hW.block _ (by omega)).trans h2) ((hW.block _ (by omega)).trans h3) (fun W' hW'=>Av.out W' (Bt (Bt hB hW) hW') _ _ hx (List.getElem_mem hk)))
 have HK:RowKit.Hid (∀ W a b,Below W0.heap.size W0 W→(W.alloc (.cells #[a,b] 72)).cell? ⟨w.heap.size + 1,0,none⟩=some (.int .i64 f.kind)∧(W.alloc (.cells #[a,b] 72)).cell? ⟨w.heap.size + 1,1,none⟩=some (.string f.name)∧(W.alloc (.cells #[a,b] 72)).cell? ⟨w.heap.size + 1,2,none⟩=some (.slice wa f.words.length An)∧(W.alloc (.cells #[a,b] 72)).cell? ⟨w.heap.size + 1,3,none⟩=some (.int .i64 f.frm) ∧
   (W.alloc (.cells #[a,b] 72)).cell? ⟨w.heap.size + 1,4,none⟩=some (.int .i64 f.to)∧(W.alloc (.cells #[a,b] 72)).cell? ⟨w.heap.size + 1,5,none⟩=some (.slice za f.l.length zc)∧(W.alloc (.cells #[a,b] 72)).cell? ⟨w.heap.size + 1 + 1 + 1,0,none⟩=some (.slice da dims.length dc)∧W.cell? ⟨w.heap.size + 1 + 1 + 1,0,none⟩=some (.slice da dims.length dc) ∧
   (∀ i (hi:i < dims.length),∃ b' Ab,da=some ⟨b',Ab,none⟩∧W.cell? ⟨b',Ab + i * 2,none⟩=some (.string dims[i].s)∧W.cell? ⟨b',Ab + i * 2 + 1,none⟩=some (.bool dims[i].null)∧(W.alloc (.cells #[a,b] 72)).cell? ⟨b',Ab + i * 2,none⟩=some (.string dims[i].s)) ∧
   Below w.heap.size w (W.alloc (.cells #[a,b] 72))):=Hd (fun W a b hW=>by
  have hA:=(la2 W (.cells #[a,b] 72)).2.2
  have As:=Bt hW hA
  obtain ⟨y0,y1,y2,y3,y4,y5⟩:=rc4 As h1
  refine ⟨y0,y1,y2,y3,y4,y5,(cob ((As.block _ (by omega)).trans h3)).1,(cob ((hW.block _ (by omega)).trans h3)).1,fun i hi => ?_,Bt hB As⟩
  obtain ⟨b',Ab,ha,hb,_,hc⟩:=A4 (by omega)
  have Az:=Bt hB hW
  have Ba:=(Az.cell (p:=⟨b',Ab + i * 2,none⟩) hb).trans (hc i hi).1
  refine ⟨b',Ab,ha,Ba,(Az.cell (p:=⟨b',Ab + i * 2 + 1,none⟩) hb).trans (hc i hi).2,((Bt hB As).cell (p:=⟨b',Ab + i * 2,none⟩) hb).trans (hc i hi).1⟩)
 have Ai:=Hd At
 have A5:=Hd A3
 have HB:=Hd hB
 have H4:=Hd h4
 have hH:=Fil.holds_eq s t dims f
 clear At hB h0 h1 h2 h3 h4 A7 A3 Av A4
 by_cases k7:f.kind=7
 ·have e7:(f.kind == (7:Int))=true:=by rw [k7];rfl
  have Ay:f.l.length=1:=by
   simp [Fil.own,k7,Fil.form,Fil.inW] at Aa
   omega
  obtain ⟨b,Ab,A0,hb,c0,c1,c2,c3,c4,c5,⟨g0,g1,g2,g3,g4,g5⟩,_,Am⟩:=Ak.out 0 (by omega)
  rw [hH,show Fil.hW4 s t dims f (f.l.map (Fil.holds s t dims)) = !Fil.holds s t dims (f.l[0]'(by omega)) by simp [Fil.hW4,k7,Ay]]
  have HX:=Hd (Am W0 (Below.refl _ _))
  clear Am
  generalize Fil.holds s t dims (f.l[0]'(by omega))=r at *
  have hz:(0:Int) < (f.l.length:Int):=by omega
  rw [Nat.zero_mul,Nat.add_zero] at g0 g1 g2 g3 g4 g5
  rw [← Ai.out] at g0 g1 g2 g3 g4 g5
  clear k7 hH Aa HK Ay Ak Ae Ad hb hS
  rw [A0] at g0 g1 g2 g3 g4 g5 Ai ⊢
  clear A0
  go_enter Tryz.func142,Tryz.ntmps142
  go_wp2_with (go_at_call 185;rw [Ai.out];refine HX.out.mono ?_;rintro e w2 ⟨rfl,Ac⟩;have Aj:=Hd Ac;clear Ac)
  go_ret
  exact ⟨rfl,Bt HB.out Aj.out⟩
 have e7:(f.kind == (7:Int))=false:=by rw [beq_eq_false_iff_ne];exact k7
 by_cases k8:f.kind=8
 ·have e8:(f.kind == (8:Int))=true:=by rw [k8];rfl
  have hr:Fil.hW4 s t dims f (f.l.map (Fil.holds s t dims)) = !(f.l.any fun x => !Fil.holds s t dims x):=by
   simp [Fil.hW4,k8,List.all_eq_not_any_not]
   rfl
  rw [hH,hr]
  have HX:=Hd (ciN (fun x => !Fil.holds s t dims x) f.l za zc (.pointer (some ⟨w.heap.size + 1 + 1 + 1 + 1,0,none⟩)) W0 A5.out (fun k hk=>by
   obtain ⟨b,Ab,ha,hb,c0,c1,c2,c3,c4,c5,hc,_,h2⟩:=Ak.out k hk
   exact ⟨b,Ab,ha,hb,c0,c1,c2,c3,c4,c5,hc,h2⟩))
  clear k7 k8 hH Aa HK Ak Ae Ad hS hr
  generalize (f.l.any fun x => !Fil.holds s t dims x)=r at *
  go_enter Tryz.func142,Tryz.ntmps142
  go_wp2_with (go_at_call 186;rw [Ai.out];refine HX.out.mono ?_;rintro e w2 ⟨rfl,Ac⟩;have Aj:=Hd Ac;clear Ac)
  go_ret
  exact ⟨rfl,Bt HB.out Aj.out⟩
 have e8:(f.kind == (8:Int))=false:=by rw [beq_eq_false_iff_ne];exact k8
 by_cases k9:f.kind=9
 ·have e9:(f.kind == (9:Int))=true:=by rw [k9];rfl
  have hr:Fil.hW4 s t dims f (f.l.map (Fil.holds s t dims))=(f.l.any fun x=>Fil.holds s t dims x):=by
   simp [Fil.hW4,k9]
  rw [hH,hr]
  have HX:=Hd (contains_is (fun x=>Fil.holds s t dims x) f.l za zc (.pointer (some ⟨w.heap.size,0,none⟩)) (.pointer (some ⟨w.heap.size + 1 + 1,0,none⟩)) (.pointer (some ⟨w.heap.size + 1 + 1 + 1,0,none⟩)) W0 A5.out (fun k hk=>by
   obtain ⟨b,Ab,ha,hb,c0,c1,c2,c3,c4,c5,hc,h1,_⟩:=Ak.out k hk
   exact ⟨b,Ab,ha,hb,c0,c1,c2,c3,c4,c5,hc,h1⟩))
  clear k7 k8 k9 hH Aa HK Ak Ae Ad hS hr
  generalize (f.l.any fun x=>Fil.holds s t dims x)=r at *
  go_enter Tryz.func142,Tryz.ntmps142
  go_wp2_with (go_at_call 186;rw [Ai.out];refine HX.out.mono ?_;rintro e w2 ⟨rfl,Ac⟩;have Aj:=Hd Ac;clear Ac)
  go_ret
  exact ⟨rfl,Bt HB.out Aj.out⟩
 have e9:(f.kind == (9:Int))=false:=by rw [beq_eq_false_iff_ne];exact k9
 by_cases k6:f.kind=6
 ·have e6:(f.kind == (6:Int))=true:=by rw [k6];rfl
  rw [hH,show Fil.hW4 s t dims f (f.l.map (Fil.holds s t dims))=Fil.sH f.frm f.to t by simp [Fil.hW4,k6]]
  have HX:=Hd (gHas_any f.frm f.to t W0)
  clear k7 k8 k9 k6 hH Aa HK Ak Ae Ad hS
  generalize Fil.sH f.frm f.to t=r at *
  go_enter Tryz.func142,Tryz.ntmps142
  go_wp2_with (go_at_call 187;rw [Ai.out];refine HX.out.mono ?_;rintro e w2 ⟨rfl,Ac⟩;have Aj:=Hd Ac;clear Ac)
  go_ret
  exact ⟨rfl,Bt HB.out Aj.out⟩
 have e6:(f.kind == (6:Int))=false:=by rw [beq_eq_false_iff_ne];exact k6
 by_cases k1:f.kind=1
 ·have e1:(f.kind == (1:Int))=true:=by rw [k1];rfl
  rw [hH,show Fil.hW4 s t dims f (f.l.map (Fil.holds s t dims))=true by simp [Fil.hW4,k1]]
  clear k7 k8 k9 k6 k1 hH Aa HK Ak Ae Ad hS
  go_enter Tryz.func142,Tryz.ntmps142
  go_wp2
  go_ret
  rw [Ai.out]
  exact ⟨rfl,HB.out⟩
 have e1:(f.kind == (1:Int))=false:=by rw [beq_eq_false_iff_ne];exact k1
 rw [hH,show Fil.hW4 s t dims f (f.l.map (Fil.holds s t dims))=Fil.hD8 s dims f by simp [Fil.hW4,k7,k8,k9,k6,k1]]
 have Aw:(Tess.dimW s f.name).2=true:=by
  unfold Fil.own at Aa
  split at Aa
  ·cases Aa
  ·rename_i hn hs' ws ls hform
   have Bb:hn=true:=by
    unfold Fil.form at hform
    simp only [k7,k8,k9,k6,k1,if_false] at hform
    split at hform
    ·simp at hform;exact hform.1
    split at hform
    ·simp at hform;exact hform.1
    split at hform
    ·simp at hform;exact hform.1
    split at hform
    ·simp at hform;exact hform.1
    ·cases hform
   simp only [Bool.and_eq_true] at Aa
   have:=Aa.1.1.1.1.1
   rw [Bb] at this
   simpa using this
 have A6:f.kind=4→1≤f.words.length:=fun h=>by
  simp [Fil.own,h,Fil.form,Fil.inW] at Aa;omega
 have Ax:f.kind=5→2≤f.words.length:=fun h=>by
  simp [Fil.own,h,Fil.form,Fil.inW] at Aa;omega
 have A2:=dim_lt s f.name Aw
 obtain ⟨i,hi⟩:∃ i,i=(Tess.dimW s f.name).1:=⟨_,rfl⟩
 have Ao:Tess.dimW s f.name=(i,true):=by rw [hi,← Aw]
 have Ap:i < dims.length:=by rw [Bc.out,hi];exact A2
 rw [Ao] at Ae
 have A1:Fil.hD8 s dims f=(if dims[i].null || decide (f.kind=3) then dims[i].null && decide (f.kind=3) else Fil.isWord f dims[i].s):=by
  unfold Fil.hD8
  simp only [Ao]
  simp only [List.getD_eq_getElem?_getD,List.getElem?_eq_getElem Ap,Option.getD_some]
 have Au:=Hd (fun W (hB:Below w.heap.size w W)=>Ad.out dims[i].s W hB A6 Ax)
 rw [A1]
 obtain ⟨x,hx⟩:∃ x,x=dims[i]:=⟨_,rfl⟩
 rw [← hx] at Au ⊢
 have HX:=Hd hx
 have Be:(i:Int) < (dims.length:Int):=by omega
 clear Ak Ad hH Aa Aw A6 Ax A2 hi Ao A1 hx
 obtain ⟨xs,xn⟩:=x
 simp only at Au ⊢
 cases xn <;> by_cases k3:f.kind=3
 ·have e3:(f.kind == (3:Int))=true:=by rw [k3];rfl
  rw [show (if false || decide (f.kind=3) then false && decide (f.kind=3) else Fil.isWord f xs)=false by simp [k3]]
  clear k7 k8 k9 k6 k1 k3
  go_enter Tryz.func142,Tryz.ntmps142
  go_wp2_with (go_at_call 104;rw [Ai.out];refine (Ae.out _ HB.out).mono ?_;rintro e w2 ⟨rfl,Ac⟩;have Aj:=Hd Ac;obtain ⟨y0,y1,y2,y3,y4,y5,yd,zd,Ah,Af⟩:=HK.out w2 (.string xs) (.bool false) Ac;obtain ⟨b',Ab,rfl,z0,z1,z2⟩:=Ah i Ap;rw [← HX.out] at z0 z1 z2;simp only at z0 z1 z2;have Al:=Hd Af;clear Af Ac Ah)
  go_ret
  exact ⟨rfl,Al.out⟩
 ·have e3:(f.kind == (3:Int))=false:=by rw [beq_eq_false_iff_ne];exact k3
  rw [show (if false || decide (f.kind=3) then false && decide (f.kind=3) else Fil.isWord f xs)=Fil.isWord f xs by simp [k3]]
  clear k7 k8 k9 k6 k1 k3
  go_enter Tryz.func142,Tryz.ntmps142
  go_wp2_with (go_at_call 104;rw [Ai.out];refine (Ae.out _ HB.out).mono ?_;rintro e w2 ⟨rfl,Ac⟩;have Aj:=Hd Ac;obtain ⟨y0,y1,y2,y3,y4,y5,yd,zd,Ah,Af⟩:=HK.out w2 (.string xs) (.bool false) Ac;obtain ⟨b',Ab,rfl,z0,z1,z2⟩:=Ah i Ap;rw [← HX.out] at z0 z1 z2;simp only at z0 z1 z2;have Al:=Hd Af;clear Af Ac Ah)
  generalize hW3:w2.alloc (.cells #[.string xs,.bool false] 72)=W3 at *
  have s1:w.heap.size + 1 < W3.heap.size:=World.block_lt_of_cell? _ _ y0
  have s3:w.heap.size + 1 + 1 + 1 < W3.heap.size:=World.block_lt_of_cell? _ _ yd
  have sb:b' < W3.heap.size:=World.block_lt_of_cell? _ _ z2
  have A8:=Hd (fun W hW=>Au.out W (Bt Al.out hW))
  clear hW3 z0 z1 zd
  refine Flow.wrf2 (Flow.sp3 [.inl ?_,.inl ?_,.inl ?_,.inl ?_,.inl ?_,.inl ?_,.inl (.bool (Fil.isWord f xs)),.inl ?_]) (by kernel_rfl) (by kernel_rfl) ?_ ?_
  rotate_left 7
  ·refine Flow.sm2 ?_
   intro s hs
   simp only [List.mem_cons,List.not_mem_nil,or_false] at hs
   rcases hs with rfl | rfl | rfl | rfl | rfl | rfl | rfl | rfl <;> exact Flow.mi _
  iterate 6 (refine Flow.tvK rfl (fun K hK=>⟨fun w hw hG => ?_,?_⟩);(have Bd:=Flow.bc4 hw;clear hG hw;unfold Flow.Runs Flow.yields;go_simp;try rfl);go_simp;refine hK _ ?_;clear hK K)
  (refine Flow.tvK rfl (fun K hK=>⟨fun w hw hG => ?_,?_⟩);(have A9:=Hd hw;clear hG hw;unfold Flow.Runs Flow.yields;go_simp;exact A8.out _ A9.out);go_simp;refine hK _ ?_;clear hK K)
  (refine Flow.tvK rfl (fun K hK=>⟨fun w hw hG => ?_,?_⟩);(clear hG hw;unfold Flow.Runs Flow.yields;go_simp;try rfl);go_simp;refine hK _ ?_;clear hK K)
  refine Flow.tn2 fun w' hw hG => ?_
  clear hG
  go_wp2
  go_ret
  exact ⟨rfl,Bt Al.out hw⟩
 ·have e3:(f.kind == (3:Int))=true:=by rw [k3];rfl
  rw [show (if true || decide (f.kind=3) then true && decide (f.kind=3) else Fil.isWord f xs)=true by simp [k3]]
  clear k7 k8 k9 k6 k1 k3
  go_enter Tryz.func142,Tryz.ntmps142
  go_wp2_with (go_at_call 104;rw [Ai.out];refine (Ae.out _ HB.out).mono ?_;rintro e w2 ⟨rfl,Ac⟩;have Aj:=Hd Ac;obtain ⟨y0,y1,y2,y3,y4,y5,yd,zd,Ah,Af⟩:=HK.out w2 (.string xs) (.bool true) Ac;obtain ⟨b',Ab,rfl,z0,z1,z2⟩:=Ah i Ap;rw [← HX.out] at z0 z1 z2;simp only at z0 z1 z2;have Al:=Hd Af;clear Af Ac Ah)
  go_ret
  exact ⟨rfl,Al.out⟩
 ·have e3:(f.kind == (3:Int))=false:=by rw [beq_eq_false_iff_ne];exact k3
  rw [show (if true || decide (f.kind=3) then true && decide (f.kind=3) else Fil.isWord f xs)=false by simp [k3]]
  clear k7 k8 k9 k6 k1 k3
  go_enter Tryz.func142,Tryz.ntmps142
  go_wp2_with (go_at_call 104;rw [Ai.out];refine (Ae.out _ HB.out).mono ?_;rintro e w2 ⟨rfl,Ac⟩;have Aj:=Hd Ac;obtain ⟨y0,y1,y2,y3,y4,y5,yd,zd,Ah,Af⟩:=HK.out w2 (.string xs) (.bool true) Ac;obtain ⟨b',Ab,rfl,z0,z1,z2⟩:=Ah i Ap;rw [← HX.out] at z0 z1 z2;simp only at z0 z1 z2;have Al:=Hd Af;clear Af Ac Ah)
  go_ret
  exact ⟨rfl,Al.out⟩
end Go.Proofs.YtaddkkkchkdgkaaGreatDoor
namespace Go.Proofs.YtaddkkkchkdgkaaGreatDoor
open Go.RowKit Go.Sort
open Tess (Fil)
theorem check_own {s:Tess.Sch} {f:Fil} (h:Fil.cE2 s f=0):Fil.allP (Fil.own s) f=true:=by
 rw [Fil.checkE_eq] at h
 split at h
 ·split at h
  ·cases h
  ·rename_i h2
   simp only [Bool.or_eq_true,Bool.not_eq_true',not_or] at h2
   simpa using h2.2
 ·cases h
set_option maxRecDepth 100000 in
set_option maxHeartbeats 1000000 in
theorem fHolds_any (a0 a1:Addr) (p:Nat→Prop) (n:Nat) (vs v vd:Value) (s:Tess.Sch) (f:Fil) (t:Int) (dims:List Tess.Val) (w:World) (hV:Vars a0 a1 w) (hs:SA p w vs s) (hf:FA2 p n w v f) (hv:VA p w vd dims) (hn:n≤100) (hK:kO2 f) :
  Calls Tryz.prog 103 #[vs,v,.int .i64 t,vd] w fun e w'=>e = .returned (.tuple #[.bool (Fil.hE3 s t dims f).1,.int .i64 ((Fil.hE3 s t dims f).2:Nat)])∧Below w.heap.size w w':=by
 have HC:=Hd (fun W (hB:Below w.heap.size w W)=>check_any a0 a1 p n vs v s f W (hV.below hB) (hs.ag (Ag.new p hB)) (hf.ag (Ag.new p hB)) hn hK)
 have HH:=Hd (fun W (hB:Below w.heap.size w W) (hdl:dims.length=s.dims.length) (ho:Fil.allP (Fil.own s) f=true)=>holds_any p s t dims vs vd hdl n v f W (hs.ag (Ag.new p hB)) (hf.ag (Ag.new p hB)) (hv.ag (Ag.new p hB)) ho hK)
 obtain ⟨An,vm,rfl,hd,hm,_,_⟩:=hs
 obtain ⟨ad,Ad,rfl,_⟩:=sl3 hd
 obtain ⟨am,Ae,rfl,_⟩:=sl3 hm
 obtain ⟨wa,wn,wc,za,zc,rfl⟩:=hf.sh2
 obtain ⟨da,dc,rfl,_,_,_,_⟩:=hv
 clear hd hm hV hf hK hn
 obtain ⟨W0,Af⟩:∃ W0,(w.alloc (.cells #[.slice ad s.dims.length Ad,.slice am s.mets.length Ae,.int .i64 s.grain] 24)).alloc (.cells #[.int .i64 f.kind,.string f.name,.slice wa wn wc,.int .i64 f.frm,.int .i64 f.to,.slice za f.l.length zc] 31)=W0:=⟨_,rfl⟩
 obtain ⟨h1,h2,Ak,Ah⟩:=la3 w (.cells #[.slice ad s.dims.length Ad,.slice am s.mets.length Ae,.int .i64 s.grain] 24) (.cells #[.int .i64 f.kind,.string f.name,.slice wa wn wc,.int .i64 f.frm,.int .i64 f.to,.slice za f.l.length zc] 31)
 rw [Af] at h1 h2 Ak Ah
 have Ac:=Hd Ah
 have H1:=Hd h1
 have H2:=Hd h2
 have Ai:=Hd Af
 clear Ah h1 h2 Ak Af
 obtain ⟨c,hc⟩:∃ c,Fil.cE2 s f=c:=⟨_,rfl⟩
 have hE:Fil.hE3 s t dims f=if c=0 then (if dims.length=s.dims.length then (Fil.holds s t dims f,0) else (false,140)) else (false,c):=by
  unfold Fil.hE3;rw [hc]
 rw [hE]
 rw [hc] at HC
 have HO:=Hd (fun (h:c=0)=>check_own (hc.trans h))
 clear hc hE
 by_cases h0:c=0
 ·have ho:=HO.out h0
  subst h0
  by_cases hdl:dims.length=s.dims.length
  ·have hr:(if (0:Nat)=0 then (if dims.length=s.dims.length then (Fil.holds s t dims f,0) else (false,140)) else (false,0))=(Fil.holds s t dims f,0):=by simp [hdl]
   rw [hr]
   have HX:=Hd (fun W hB=>HH.out W hB hdl ho)
   have Aj:((dims.length:Int) != (s.dims.length:Int))=false:=by rw [hdl];simp
   clear hdl ho HH hr HO
   go_enter Tryz.func103,Tryz.ntmps103
   go_wp2
   refine wsf 0 rfl ?_
   go_wp2_with (first | (go_at_call 80;rw [Ai.out];refine (HC.out _ Ac.out).mono ?_;rintro e W1 ⟨rfl,Aa⟩;obtain ⟨y0,y1,y2,y3,y4,y5⟩:=rc4 Aa H2.out;obtain ⟨x0,x1,x2⟩:=rc2 Aa H1.out;have Ab:=Hd (Bt Ac.out Aa);clear Aa) | (go_at_call 142;refine (HX.out _ Ab.out).mono ?_;rintro e W2 ⟨rfl,Al⟩;have Am:=Hd (Bt Ab.out Al);clear Al))
   rw [Exit.fwd_ret]
   go_ret2
   exact ⟨rfl,Am.out⟩
  ·have hr:(if (0:Nat)=0 then (if dims.length=s.dims.length then (Fil.holds s t dims f,0) else (false,140)) else (false,0))=(false,140):=by simp [hdl]
   rw [hr]
   have Aj:((dims.length:Int) != (s.dims.length:Int))=true:=by rw [bne_iff_ne];omega
   clear hdl ho HH hr HO
   go_enter Tryz.func103,Tryz.ntmps103
   go_wp2
   refine wsf 0 rfl ?_
   go_wp2_with (go_at_call 80;rw [Ai.out];refine (HC.out _ Ac.out).mono ?_;rintro e W1 ⟨rfl,Aa⟩;obtain ⟨y0,y1,y2,y3,y4,y5⟩:=rc4 Aa H2.out;obtain ⟨x0,x1,x2⟩:=rc2 Aa H1.out;have Ab:=Hd (Bt Ac.out Aa);clear Aa)
   go_step3
   refine Exit.tg2 (Exit.fg2 ?_)
   go_wp2
   rw [Exit.noGoto_ret]
   go_ret2
   exact ⟨rfl,Ab.out⟩
 ·have Aj:((c:Int) != (0:Int))=true:=by rw [bne_iff_ne];omega
  rw [if_neg h0]
  clear h0 HH HO
  go_enter Tryz.func103,Tryz.ntmps103
  go_wp2
  refine wsf 0 rfl ?_
  go_wp2_with (go_at_call 80;rw [Ai.out];refine (HC.out _ Ac.out).mono ?_;rintro e W1 ⟨rfl,Aa⟩;obtain ⟨y0,y1,y2,y3,y4,y5⟩:=rc4 Aa H2.out;obtain ⟨x0,x1,x2⟩:=rc2 Aa H1.out;have Ab:=Hd (Bt Ac.out Aa);clear Aa)
  go_step3
  refine Exit.tg2 (Exit.fg2 ?_)
  go_wp2
  rw [Exit.noGoto_ret]
  go_ret2
  exact ⟨rfl,Ab.out⟩
end Go.Proofs.YtaddkkkchkdgkaaGreatDoor
namespace Go.Proofs.YtaddkkkchkdgkaaGreatDoor
open Go.RowKit Go.Sort
open Tess (Fil)
theorem infoVal:(Tryz.prog.info? 72).map (fun i=>(i.zero,i.size,i.bytes))=some (some (.agg #[.string ByteArray.empty,.bool false]),2,24):=by kernel_rfl
def cV4 (x:Tess.Val):Tess.Val:=⟨cutN 110 x.s,x.null⟩
def cV2 (l:List Tess.Val):List Tess.Val:=(l.take 10).map cV4
def vC:List Tess.Val→List Value
 | []=>[]
 | x :: r => .string x.s :: .bool x.null :: vC r
theorem vCa (a b:List Tess.Val):vC (a ++ b)=vC a ++ vC b:=by
 induction a with
 | nil=>rfl
 | cons x r ih=>simp [vC,ih]
theorem vCl (a:List Tess.Val):(vC a).length=a.length * 2:=by
 induction a with
 | nil=>rfl
 | cons x r ih=>simp [vC,ih];omega
theorem vCa2 (a:List Tess.Val):∀ (j:Nat) (h:j < a.length),(vC a)[j * 2]? = some (.string a[j].s)∧(vC a)[j * 2 + 1]? = some (.bool a[j].null):=by
 induction a with
 | nil=>intro j h;simp at h
 | cons x r ih=>
   intro j h
   cases j with
   | zero=>simp [vC]
   | succ j=>
     have:=ih j (by simpa using h)
     rw [show (j + 1) * 2=j * 2 + 1 + 1 by omega]
     simpa [vC] using this
def nT (a b:Value) (v:Value) (w:World):Prop:=∃ g,v = .slice (some ⟨g,0,none⟩) 1 1∧g < w.heap.size∧w.cell? ⟨g,0,none⟩=some a∧w.cell? ⟨g,1,none⟩=some b
theorem nTm (a b:Value):Flow.Spec.mono (.inr (nT a b)):=fun _ _ _ ⟨g,h1,h2,h3,h4⟩ hb=>⟨g,h1,Nat.lt_of_lt_of_le h2 hb.size,(hb.cell (p:=⟨g,0,none⟩) h2).trans h3,(hb.cell (p:=⟨g,1,none⟩) h2).trans h4⟩
theorem nTm2 (a b:Value) (w:World) (t:TypeId):nT a b (.slice (some ⟨w.heap.size,0,none⟩) 1 1) (w.alloc (.cells #[a,b] t)):=⟨_,rfl,by simp,by simp,by simp⟩
theorem vals_snoc (l:List Tess.Val) (k:Nat) (h:k < l.length):vC ((l.take k).map cV4) ++ [.string (cutN 110 l[k].s),.bool l[k].null]=vC ((l.take (k + 1)).map cV4):=by
 rw [List.take_succ_eq_append_getElem h,List.map_append,vCa];rfl
theorem vo2 {w:World} {base:Nat} {t:TypeId} {v:Value} {l:List Tess.Val} (h:w.ownsRow base t 2 v l.length (vC l)) (hs:∀ x ∈ l,x.s.size≤maxLen) (hl:l.length≤maxLen) (hn:l=[]→v = .slice none 0 0):VA (fun b=>base≤b) w v l:=by
 rcases Nat.eq_zero_or_pos l.length with h0 | h0
 ·have:l=[]:=List.length_eq_zero_iff.1 h0
  subst this
  rw [hn rfl]
  exact ⟨_,_,rfl,by simp,hs,fun _=>rfl,fun h=>absurd h (by simp)⟩
 ·obtain ⟨g,Aa,hv,hb,hg,_,_,hc⟩:=oca h h0
  refine ⟨_,_,hv,hl,hs,(fun e=>by cases e),fun _=>⟨g,0,rfl,hg,hb,fun j hj => ?_⟩⟩
  have:=vCa2 l j hj
  exact ⟨by rw [Nat.zero_add,hc _ (by omega)];exact this.1,by rw [Nat.zero_add,hc _ (by omega)];exact this.2⟩
set_option maxRecDepth 100000 in
set_option maxHeartbeats 2000000 in
theorem vals_any (p:Nat→Prop) (v:Value) (l:List Tess.Val) (w:World) (hv:VA p w v l) :
  Calls Tryz.prog 50 #[v] w fun e w' => ∃ v',e = .returned v'∧VA (fun b=>w.heap.size≤b) w' v' (cV2 l)∧Below w.heap.size w w':=by
 obtain ⟨a,Ay,rfl,hl,hs,_,hc⟩:=hv
 have hl:l.length≤9223372036854775807:=by unfold maxLen at hl;omega
 have HC:=Hd hc
 have HS:=Hd hs
 clear hc hs
 obtain ⟨i0,hi,Ao,Ap,Am⟩:=info_parts infoVal
 go_enter Tryz.func50,Tryz.ntmps50
 go_wp2
 go_loopw [3,4] (fun v i wr => ∃ k:Nat,k≤l.length∧k≤10∧i = .int .i64 k∧wr.ownsRow w.heap.size 72 2 v k (vC ((l.take k).map cV4))∧(k=0→v = .slice none 0 0)∧Below w.heap.size w wr) (fun _ i _=>10 - (intOf i).toNat)
 case atStart=>exact ⟨0,Nat.zero_le _,Nat.zero_le _,rfl,by simpa [vC] using World.ownsRow_nil w w.heap.size 72 2,fun _=>rfl,Below.refl _ _⟩
 case round=>
  obtain ⟨k,hk,A4,rfl,Ab,Ae,hB⟩:=hrel
  have HN:=Hd Ae
  clear Ae
  by_cases hlt:k < l.length∧k < 10
  ·obtain ⟨h1,h2⟩:=hlt
   obtain ⟨b,Af,rfl,hb,_,Ai⟩:=HC.out (by omega)
   have Az:wr.cell? ⟨b,Af + k * 2,none⟩=some (.string l[k].s):=(hB.cell (p:=⟨b,Af + k * 2,none⟩) hb).trans (Ai k h1).1
   have A2:wr.cell? ⟨b,Af + k * 2 + 1,none⟩=some (.bool l[k].null):=(hB.cell (p:=⟨b,Af + k * 2 + 1,none⟩) hb).trans (Ai k h1).2
   have Aw:l[k].s.size≤9223372036854775807:=HS.out _ (List.getElem_mem h1)
   have HO:=Hd Ab
   have HB:=Hd hB
   have A0:b < wr.heap.size:=Nat.lt_of_lt_of_le hb HB.out.size
   have HE:=Hd (vals_snoc l k h1)
   clear Ab hB Ai hb
   obtain ⟨x,hx⟩:∃ x,x=cutN 110 l[k].s:=⟨_,rfl⟩
   rw [← hx] at HE
   have HX:=Hd hx
   clear hx
   generalize l[k].s=xs at *
   generalize l[k].null=xb at *
   go_wp2
   rcases (show ((110:Int) < (xs.size:Int)∧(¬ (xs.size:Int)≤110∧(110:Int)≤(xs.size:Int))∧min (xs.size:Int) 110=110)∨(¬ (110:Int) < (xs.size:Int)∧(xs.size:Int)≤110∧min (xs.size:Int) 110=(xs.size:Int)) by omega) with ⟨At,Av,Ah⟩ | ⟨At,Av,Ah⟩
   all_goals
    refine Flow.wrf 21 (Flow.sp3 [.inl ?_,.inl ?_,.inl ?_,.inl ?_,.inl ?_,.inl ?_,.inl ?_,.inl ?_,.inl ?_,.inl ?_,.inl ?_,.inl ?_,.inl ?_,.inl ?_,.inl ?_,.inl ?_,.inl ?_,.inl ?_,.inl ?_,.inl ?_,.inr (nT (.string x) (.bool xb))]) (by kernel_rfl) (by kernel_rfl) ?_ ?_
    rotate_left 20
    ·refine Flow.sm2 ?_
     repeat (first | exact Flow.ln2 | refine Flow.li2 ?_ | refine Flow.li3 (nTm _ _) ?_)
    all_goals try simp only [List.take_succ_cons,List.take_zero,List.drop_succ_cons,List.drop_zero]
    iterate 20 (refine Flow.tvK rfl (fun K hK=>⟨fun w hw hG => ?_,?_⟩);(have Ax:=Flow.bc4 hw;clear hG hw;unfold Flow.Runs Flow.yields;go_simp;try rfl);go_simp;refine hK _ ?_;clear hK K)
    (refine Flow.tvK2 rfl (fun K hK=>⟨fun w hw hG => ?_,?_⟩);(clear hG hw;unfold Flow.Runs Flow.yields;go_simp;refine ⟨(Below.refl _ _).alloc (Nat.le_refl _) _,?_⟩;rw [HX.out]);rotate_left;intro vz;go_simp;refine hK _ _ ?_;clear hK K;rotate_left)
    ·first | exact nTm2 _ _ _ _ | (rw [cNs _ _ (by omega)];exact nTm2 _ _ _ _)
    refine Flow.tn2 fun w2 hw2 hG => ?_
    obtain ⟨gn,rfl,A3,As,Aq⟩:=(show nT (.string x) (.bool xb) vz w2 by simpa [Flow.upd] using hG 20)
    clear hG
    have Al:=Hd (ob2 HO.out hw2)
    have Ag:=HB.out.trans (hw2.mono HB.out.size)
    go_wp2_with (at_builtin;refine wpList_append_own _ rfl _ _ 52 rfl w.heap.size 72 i0 (.agg #[.string ByteArray.empty,.bool false]) 2 24 Tryz.underlying52 hi Ao Ap Am rfl (by decide) _ _ _ rfl Al.out ⟨gn,0,none⟩ 1 1 [.string x,.bool xb] rfl rfl ?_ ?_ ?_ ?_ ?_ ?_)
    ·intro j u hj;rcases j with _ | _ | j <;> simp at hj <;> subst hj;simpa [Addr.add] using As;simpa [Addr.add] using Aq
    ·simp [Value.oneCell']
    ·unfold maxLen;omega
    ·omega
    ·exact Ag.size
    intro v' w3 Aa Ac Aj
    have Ak:Below w.heap.size w w3:=Ag.grown Ac Ag.size (fun j e=>(Al.out.lt j e).1)
    have Aa:w3.ownsRow w.heap.size 72 2 v' (k + 1) (vC ((l.take (k + 1)).map cV4)):=by rw [← HE.out,List.map_take];exact Aa
    have An:=Hd Aa
    have Au:=Hd Ak
    clear Aa Ac Ak Ag
    go_wp2
    go_roundw
    case rel=>exact ⟨k + 1,by omega,by omega,by go_num,An.out,fun h=>by omega,Au.out⟩
    case measure=>simp [intOf];omega
  ·have he:(l.take k).map cV4=cV2 l:=by
    unfold cV2
    by_cases e:k=10
    ·rw [e]
    ·rw [List.take_of_length_le (by omega),List.take_of_length_le (by omega)]
   have Ad:(cV2 l).length=k:=by rw [← he];simp;omega
   rw [he] at Ab
   have HO:=Hd (vo2 (l:=cV2 l) (by rw [Ad];exact Ab) (fun x hx=>by
    obtain ⟨y,_,rfl⟩:=List.mem_map.1 hx
    have:=cNs2 110 y.s
    show (cutN 110 y.s).size≤maxLen
    unfold maxLen;omega) (by unfold maxLen;omega) (fun h=>HN.out (by rw [← Ad,h];rfl)))
   have HB:=Hd hB
   clear Ab hB he Ad
   rcases (show (¬ (k:Int) < (l.length:Int))∨((k:Int) < (l.length:Int)∧¬ (k:Int) < 10) by omega) with Ar | ⟨A1,Ar⟩
   all_goals
    clear hlt
    go_wp2
    go_ret
    exact ⟨_,rfl,HO.out,HB.out⟩
end Go.Proofs.YtaddkkkchkdgkaaGreatDoor
namespace Go.Proofs.YtaddkkkchkdgkaaGreatDoor
open Go.RowKit Go.Sort
open Tess (Fil)
def RA2 (p:Nat→Prop) (w:World) (v:Value) (t:Int) (l:List Tess.Val) (ns:List Int):Prop:=∃ vd a c,v = .agg #[.int .i64 t,vd,.slice a ns.length c]∧ns.length≤c∧VA p w vd l∧SlP p w (.slice a ns.length c) (ns.map (.int .i64))
theorem RA2.ag {p:Nat→Prop} {w w':World} {v:Value} {t:Int} {l:List Tess.Val} {ns:List Int} (h:RA2 p w v t l ns) (hg:Ag p w w'):RA2 p w' v t l ns:=let ⟨vd,a,c,h1,h0,h2,h3⟩:=h;⟨vd,a,c,h1,h0,h2.ag hg,h3.ag hg⟩
theorem RA2.weak {p q:Nat→Prop} {w:World} {v:Value} {t:Int} {l:List Tess.Val} {ns:List Int} (h:RA2 p w v t l ns) (hpq:∀ b,p b→q b):RA2 q w v t l ns:=let ⟨vd,a,c,h1,h0,h2,h3⟩:=h;⟨vd,a,c,h1,h0,h2.weak hpq,h3.weak hpq⟩
theorem slp_take {p:Nat→Prop} {w:World} {a:Option Addr} {n cap:Nat} {cs:List Value} (k:Nat) (h:SlP p w (.slice a n cap) cs):SlP p w (.slice a (min k n) cap) (cs.take k):=by
 obtain ⟨⟨h0,a',Ac,hv,hc⟩,hp,hn⟩:=h
 cases hv
 refine ⟨⟨by simp;omega,a,cap,by simp,fun hl => ?_⟩,fun hl b hb => ?_,fun n' c' e => ?_⟩
 ·simp at hl
  obtain ⟨b,Ab,ha,hb,Aa⟩:=hc (by omega)
  refine ⟨b,Ab,ha,hb,fun j hj => ?_⟩
  simp at hj
  rw [Aa j (by omega)];simp
 ·simp at hl
  exact hp (by omega) b (by cases a with | none=>exact hb | some x=>exact hb)
 ·cases e;exact hn _ _ rfl
def isVals (N:Nat) (l:List Tess.Val) (v:Value) (W:World):Prop:=VA (fun b=>N≤b) W v l
theorem isVals_mono (N:Nat) (l:List Tess.Val):Flow.Spec.mono (.inr (isVals N l)):=fun _ _ _ h hb=>VA.ag h (Ag.new _ hb)
def isRow (N:Nat) (t:Int) (l:List Tess.Val) (vn:Value) (v:Value) (W:World):Prop:=∃ vd,v = .agg #[.int .i64 t,vd,vn]∧VA (fun b=>N≤b) W vd l
theorem isRow_mono (N:Nat) (t:Int) (l:List Tess.Val) (vn:Value):Flow.Spec.mono (.inr (isRow N t l vn)):=fun _ _ _ ⟨vd,h1,h⟩ hb=>⟨vd,h1,VA.ag h (Ag.new _ hb)⟩
set_option maxRecDepth 100000 in
set_option maxHeartbeats 2000000 in
theorem fewRow_any (p:Nat→Prop) (v:Value) (t:Int) (l:List Tess.Val) (ns:List Int) (w:World) (hv:RA2 p w v t l ns) :
  Calls Tryz.prog 29 #[v] w fun e w' => ∃ v',e = .returned v'∧RA2 (fun b=>p b∨w.heap.size≤b) w' v' t (cV2 l) (ns.take 10)∧(∃ vd n,v' = .agg #[.int .i64 t,vd,n]∧VA (fun b=>w.heap.size≤b) w' vd (cV2 l))∧Below w.heap.size w w':=by
 obtain ⟨vd,na,nc,rfl,Ap,hd,hn⟩:=hv
 have Am:=Hd (fun W (hB:Below w.heap.size w W)=>vals_any p vd l W (hd.ag (Ag.new p hB)))
 obtain ⟨da,dc,rfl,_,_,_,_⟩:=hd
 have HN:=Hd (slp_take 10 hn)
 have Aq:ns.length≤9223372036854775807:=by have:=hn.1.1;simp at this;unfold maxLen at this;omega
 obtain ⟨m,hm⟩:∃ m,m=min 10 ns.length:=⟨_,rfl⟩
 have As:min (ns.length:Int) 10=(m:Int):=by omega
 have Ar:(m:Int)≤(nc:Int):=by omega
 have HM:=Hd hm
 clear hn hm
 obtain ⟨W0,Af⟩:∃ W0,(w.alloc (.cells #[.int .i64 t,.slice da l.length dc,.slice na ns.length nc] 74)).alloc (.cells #[.int .i64 0,.slice none 0 0,.slice none 0 0] 74)=W0:=⟨_,rfl⟩
 obtain ⟨h0,h1,hS,hB⟩:=la3 w (.cells #[.int .i64 t,.slice da l.length dc,.slice na ns.length nc] 74) (.cells #[.int .i64 0,.slice none 0 0,.slice none 0 0] 74)
 rw [Af] at h0 h1 hS hB
 go_enter Tryz.func29,Tryz.ntmps29
 go_wp2
 clear Af
 have c0:=cell_of_row W0 w.heap.size 0 _ _ _ h0
 have c1:=cell_of_row W0 w.heap.size 1 _ _ _ h0
 have c2:=cell_of_row W0 w.heap.size 2 _ _ _ h0
 simp only [List.getElem?_toArray,List.getElem?_cons_succ,List.getElem?_cons_zero] at c0 c1 c2
 have s0:w.heap.size < W0.heap.size:=by omega
 have HB:=Hd hB
 have HS:=Hd hS
 have H1:=Hd h1
 clear h0 h1 hS hB
 refine Flow.wrf 13 (Flow.sp3 [.inl ?_,.inl ?_,.inl ?_,.inl ?_,.inr (isVals W0.heap.size (cV2 l)),.inl ?_,.inl ?_,.inl ?_,.inl ?_,.inl ?_,.inl ?_,.inl ?_,.inr (isRow W0.heap.size t (cV2 l) (.slice na m nc))]) (by kernel_rfl) (by kernel_rfl) ?_ ?_
 rotate_left 11
 ·refine Flow.sm2 ?_
  repeat (first | exact Flow.ln2 | refine Flow.li2 ?_ | refine Flow.li3 (isVals_mono _ _) ?_ | refine Flow.li3 (isRow_mono _ _ _ _) ?_)
 all_goals try simp only [List.take_succ_cons,List.take_zero,List.drop_succ_cons,List.drop_zero]
 iterate 4 (refine Flow.tvK rfl (fun K hK=>⟨fun w hw hG => ?_,?_⟩);(have Aj:=Flow.bc4 hw;clear hG hw;unfold Flow.Runs Flow.yields;go_simp;try rfl);go_simp;refine hK _ ?_;clear hK K)
 (refine Flow.tvK2 rfl (fun K hK=>⟨fun w hw hG => ?_,?_⟩);(have HW:=Hd hw;clear hG hw;unfold Flow.Runs Flow.yields;go_simp;refine (Am.out _ (Bt HB.out HW.out)).mono ?_;rintro e w3 ⟨v3,rfl,Ak,Al⟩;exact ⟨v3,rfl,Al,Ak.weak fun b hb=>Nat.le_trans HW.out.size hb⟩);intro vz;go_simp;refine hK _ _ ?_;clear hK K)
 iterate 7 (refine Flow.tvK rfl (fun K hK=>⟨fun w hw hG => ?_,?_⟩);(have Aj:=Flow.bc4 hw;clear hG hw;unfold Flow.Runs Flow.yields;go_simp;try rfl);go_simp;refine hK _ ?_;clear hK K)
 (refine Flow.tvK2 rfl (fun K hK=>⟨fun w hw hG => ?_,?_⟩);(have Ae:=(show isVals W0.heap.size (cV2 l) vz w by simpa [Flow.upd] using hG 4 (by kernel_rfl));have An:=Hd Ae;clear hG;obtain ⟨y0,y1,rfl,_⟩:=Ae;unfold Flow.Runs Flow.yields;go_simp;exact ⟨_,rfl,An.out⟩);intro vy;go_simp;refine hK _ _ ?_;clear hK K)
 refine Flow.tn2 fun w2 hw2 hG => ?_
 obtain ⟨Ao,rfl,Ai⟩:=(show isRow W0.heap.size t (cV2 l) (.slice na m nc) vy w2 by simpa [Flow.upd] using hG 12)
 have Ac:=Hd Ai
 obtain ⟨y0,y1,rfl,_⟩:=Ai
 clear hG
 have Aa:=(hw2.block _ (by have:=HS.out;omega)).trans H1.out
 have Ah:=Hd (Bt HB.out hw2)
 have z0:=frozen_of_row w2 (w.heap.size + 1) 0 _ _ Aa
 have z1:=frozen_of_row w2 (w.heap.size + 1) 1 _ _ Aa
 have z2:=frozen_of_row w2 (w.heap.size + 1) 2 _ _ Aa
 have e0:=cell_of_row w2 (w.heap.size + 1) 0 _ _ _ Aa
 have e1:=cell_of_row w2 (w.heap.size + 1) 1 _ _ _ Aa
 have e2:=cell_of_row w2 (w.heap.size + 1) 2 _ _ _ Aa
 simp only [List.getElem?_toArray,List.getElem?_cons_succ,List.getElem?_cons_zero] at e0 e1 e2
 clear Aa hw2
 go_wp2
 have Ad:∀ q:Nat→Prop,¬ q (w.heap.size + 1)→Ag q w2 (((w2.setCell ⟨w.heap.size + 1,0,none⟩ (.int .i64 t)).setCell ⟨w.heap.size + 1,1,none⟩ (.slice y0 (cV2 l).length y1)).setCell ⟨w.heap.size + 1,2,none⟩ (.slice na m nc)):=
  fun q h1=>((Ag.set q _ _ h1).trans (Ag.set q _ _ h1)).trans (Ag.set q _ _ h1)
 have Ab:(ns.take 10).length=m:=by rw [List.length_take,HM.out]
 have hS:=HS.out
 refine bodyPost_ret (v:=.agg #[.int .i64 t,.slice y0 (cV2 l).length y1,.slice na m nc]) (by simp [results,Tryz.results29,go_sem,e0,e1,e2]) rfl ⟨_,rfl,⟨_,na,nc,by rw [Ab],by omega,?_,?_⟩,⟨_,⟨_,rfl⟩,((Ac.out.ag (Ad _ (by omega))).weak fun b hb=>by omega)⟩,?_⟩
 ·exact ((Ac.out.ag (Ad _ (by omega))).weak fun b hb => .inr (by omega))
 ·have h:=(HN.out.lt.ag (Ag.new _ Ah.out)).ag (Ad _ (by rintro ⟨_,h⟩;omega))
  rw [← HM.out] at h
  rw [Ab,List.map_take]
  exact h.weak fun b hb => .inl hb.1
 ·exact ((Ah.out.setCell (by show _≤w.heap.size + 1;omega) _).setCell (by show _≤w.heap.size + 1;omega) _).setCell (by show _≤w.heap.size + 1;omega) _
end Go.Proofs.YtaddkkkchkdgkaaGreatDoor
