/- Totals: laws. -/
import Derived.Test.YtaddkkkchkdgkaaGreatDoorWC49
namespace Tess
open Go
theorem ba2 (x y:List UInt8):∀ (k:Nat) (h1:k < x.length) (h2:k < y.length),x.take k=y.take k→x[k]≠y[k]→Op.bytesLess x y=decide (x[k] < y[k]):=by
 induction x generalizing y with
 | nil=>intro k h1;simp at h1
 | cons a x ih=>
   intro k h1 h2 ht Aa
   cases y with
   | nil=>simp at h2
   | cons b y=>
     cases k with
     | zero=>
       simp only [List.getElem_cons_zero] at Aa ⊢
       have e:(a == b)=false:=by simpa using Aa
       simp [Op.bytesLess,Aa]
     | succ k=>
       rw [List.take_succ_cons,List.take_succ_cons] at ht
       obtain ⟨rfl,Ab⟩:=List.cons.inj ht
       simp only [List.getElem_cons_succ] at Aa ⊢
       rw [← ih y k (by simpa using h1) (by simpa using h2) Ab Aa]
       simp [Op.bytesLess]
theorem be2 (x y:List UInt8):∀ (k:Nat),k≤x.length→k≤y.length→x.take k=y.take k→(k=x.length∨k=y.length)→Op.bytesLess x y=decide (x.length < y.length):=by
 induction x generalizing y with
 | nil=>intro k h1 h2 _ _;cases y <;> simp [Op.bytesLess]
 | cons a x ih=>
   intro k h1 h2 ht hk
   cases y with
   | nil=>simp [Op.bytesLess]
   | cons b y=>
     cases k with
     | zero=>rcases hk with hk | hk <;> simp at hk
     | succ k=>
       rw [List.take_succ_cons,List.take_succ_cons] at ht
       obtain ⟨rfl,Aa⟩:=List.cons.inj ht
       have:=ih y k (by simpa using h1) (by simpa using h2) Aa (by simpa using hk)
       simp [Op.bytesLess,this]
theorem ba4 (a b:ByteArray) (k:Nat) (h1:k < a.size) (h2:k < b.size) (ht:a.data.toList.take k=b.data.toList.take k) (hne:a[k]≠b[k]):bl a b=decide (a[k].toNat < b[k].toNat):=by
 unfold bl
 rw [tl,tl,ba2 _ _ k (by simpa using h1) (by simpa using h2) ht (fun e=>hne (show a.data[k]=b.data[k] by simpa using e))]
 simp only [UInt8.lt_iff_toNat_lt];rfl
theorem be3 (a b:ByteArray) (k:Nat) (h1:k≤a.size) (h2:k≤b.size) (ht:a.data.toList.take k=b.data.toList.take k) (hk:k=a.size∨k=b.size):bl a b=decide (a.size < b.size):=by
 unfold bl
 rw [tl,tl,be2 _ _ k (by simpa using h1) (by simpa using h2) ht (by simpa using hk)]
 simp
theorem tm3 (a b:ByteArray) (k:Nat) (h1:k < a.size) (h2:k < b.size) (ht:a.data.toList.take k=b.data.toList.take k) (he:a[k]=b[k]):a.data.toList.take (k + 1)=b.data.toList.take (k + 1):=by
 rw [List.take_succ_eq_append_getElem (by simpa using h1),List.take_succ_eq_append_getElem (by simpa using h2),ht]
 congr 2
end Tess
namespace Tess.Kl
section lex
variable {α:Type} (lt:α→α→Bool)
end lex
section keyed
variable {K P:Type} {lt:K→K→Bool} {add:P→P→P}
theorem sc2 {c d:K→Bool} {l:List (K×P)} (h:∀ x ∈ l,c x.1=d x.1):sum add c l=sum add d l:=by
 induction l with
 | nil=>rfl
 | cons x l ih=>rw [sum,sum,h x (by simp),ih fun y hy=>h y (by simp [hy])]
end keyed
section regroup
variable {K L P:Type} {lt:K→K→Bool} {lt':L→L→Bool} {add:P→P→P}
end regroup
end Tess.Kl
namespace Tess
open Go Kl
section
variable (s:Sch) (q:Que) (set:Nat) (g:Int)
theorem sg2 (c:CK→Bool) (l:List (CK×Pay)):sum Pay.add c (groupsP s q set l)=sum Pay.add c (re (gOf s q set) l):=sum_fold ck_sto pay_com _ _
end
end Tess
namespace Tess
open Go Kl
namespace Kl
section
variable {K P:Type} {lt:K→K→Bool} {add:P→P→P}
theorem ra3 {L:Type} {R:P→Prop} {g:K→Option L} {l:List (K×P)} (hl:∀ y ∈ l,R y.2):∀ y ∈ re g l,R y.2:=fun y hy=>by
 obtain ⟨x,hx,e⟩:=List.mem_filterMap.1 hy
 cases hg:g x.1 with
 | none=>rw [hg] at e;cases e
 | some k=>rw [hg] at e;simp only [Option.map_some,Option.some.injEq] at e;rw [← e];exact hl x hx
theorem rk2 {L:Type} {R:L→Prop} {g:K→Option L} {l:List (K×P)} (hl:∀ k k',g k=some k'→R k'):∀ y ∈ re g l,R y.1:=fun y hy=>by
 obtain ⟨x,hx,e⟩:=List.mem_filterMap.1 hy
 cases hg:g x.1 with
 | none=>rw [hg] at e;cases e
 | some k=>rw [hg] at e;simp only [Option.map_some,Option.some.injEq] at e;rw [← e];exact hl _ _ hg
theorem asc_one (hk:Sto lt) {k:K}:∀ {l:List (K×P)},Asc lt l→(∀ y ∈ l,y.1=k)→l.length≤1
 | [],_,_=>by simp
 | [_],_,_=>by simp
 | x :: y :: l,h,he=>by
   have h1:=(List.pairwise_cons.1 h).1 y (by simp)
   rw [he x (by simp),he y (by simp),hk.irr] at h1
   cases h1
theorem an2 (hk:Sto lt) {l:List (K×P)} (h:Asc lt l):Nod l:=by
 unfold Nod
 rw [List.nodup_iff_pairwise_ne,List.pairwise_map]
 exact h.imp fun hab e=>by rw [e,hk.irr] at hab;cases hab
theorem sn2 (hk:Sto lt) {l:List (K×P)} (h:Nod l) {k:K} {p:P}:sum add (at' lt k) l=some p↔(k,p) ∈ l:=by
 induction l with
 | nil=>simp [sum]
 | cons x l ih=>
   unfold Nod at h
   rw [List.map_cons,List.nodup_cons] at h
   rw [sum]
   cases hx:at' lt k x.1
   ·rw [if_neg (by simp),none_oadd,ih h.2,List.mem_cons]
    refine ⟨Or.inr,fun h'=>h'.resolve_left fun e => ?_⟩
    rw [← e,(at_iff hk).2 rfl] at hx;cases hx
   ·have e:=(at_iff hk).1 hx
    rw [if_pos rfl,sum_none (l:=l),oadd_none]
    ·constructor
     ·intro h';cases h';rw [List.mem_cons];exact Or.inl (by rw [← e])
     ·intro h'
      rcases List.mem_cons.1 h' with e' | h'
      ·rw [← e']
      ·exact absurd (List.mem_map.2 ⟨_,h',e.symm⟩) h.1
    ·intro y hy
     cases hy':at' lt k y.1
     ·rfl
     ·exact absurd (List.mem_map.2 ⟨y,hy,((at_iff hk).1 hy').trans e.symm⟩) h.1
theorem np2 (hk:Sto lt) {l m:List (K×P)} (hl:Nod l) (hm:Nod m) (h:∀ k,sum add (at' lt k) l=sum add (at' lt k) m):l.Perm m:=by
 have h1:∀ {n:List (K×P)},Nod n→n.Nodup:=fun hn=>by
  unfold Nod at hn
  rw [List.nodup_iff_pairwise_ne,List.pairwise_map] at hn
  rw [List.nodup_iff_pairwise_ne]
  exact hn.imp fun hab e=>hab (by rw [e])
 refine (List.perm_ext_iff_of_nodup (h1 hl) (h1 hm)).2 fun x => ?_
 have:=h x.1
 rw [← sn2 (add:=add) hk hl (k:=x.1) (p:=x.2),← sn2 (add:=add) hk hm (k:=x.1) (p:=x.2),this]
end
end Kl
theorem tl2 {M:Nat}:∀ {l:List (CK×Pay)} {p:Pay},(∀ x ∈ l,x.2.len M)→sum Pay.add (fun _=>true) l=some p→p.len M
 | [],_,_,h=>by cases h
 | x :: l,p,hl,h=>by
   rw [sum,if_pos rfl] at h
   cases hs:sum Pay.add (fun _=>true) l with
   | none=>rw [hs] at h;cases h;exact hl x (by simp)
   | some r=>rw [hs] at h;cases h;exact Pay.len_add _ _ (hl x (by simp)) (tl2 (fun y hy=>hl y (by simp [hy])) hs)
theorem ts3 {M:Nat}:∀ {l:List (CK×Pay)} {p:Pay},(∀ x ∈ l,x.2.len M)→sum Pay.add (fun _=>true) l=some p→∀ m < M,p.sums.getD m 0=(l.map (·.2.sums.getD m 0)).sum
 | [],_,_,h,_,_=>by cases h
 | x :: l,p,hl,h,m,hm=>by
   rw [sum,if_pos rfl] at h
   have hr:∀ x ∈ l,x.2.len M:=fun y hy=>hl y (by simp [hy])
   cases hs:sum Pay.add (fun _=>true) l with
   | none=>rw [hs] at h;cases h;rw [sum_all_none hs];simp
   | some r=>
     rw [hs] at h;cases h
     rw [List.map_cons,List.sum_cons,← ts3 hr hs m hm]
     exact zip_getD (by rw [(hl x (by simp)).1];exact hm) (by rw [(tl2 hr hs).1];exact hm)
def minL (x:Int) (l:List Int):Int:=l.foldl min x
theorem mLc (x y:Int) (l:List Int):minL x (y :: l)=min x (minL y l):=by
 unfold minL
 rw [List.foldl_cons]
 induction l generalizing x y with
 | nil=>rfl
 | cons z l ih=>rw [List.foldl_cons,List.foldl_cons,Int.min_assoc,ih x (min y z)]
theorem mLs (x y:Int) (l:List Int):min x (minL y l)=min y (minL x l):=by
 rw [← mLc,← mLc]
 unfold minL
 rw [List.foldl_cons,List.foldl_cons,Int.min_comm]
theorem tm2 {M:Nat}:∀ {l:List (CK×Pay)} {p:Pay},(∀ x ∈ l,x.2.len M)→sum Pay.add (fun _=>true) l=some p→∀ m < M,∀ y r,l=y :: r→p.mins.getD m 0=minL (y.2.mins.getD m 0) (l.map (·.2.mins.getD m 0))
 | [],_,_,h,_,_,_,_,_=>by cases h
 | x :: l,p,hl,h,m,hm,y,r,e=>by
   rw [sum,if_pos rfl] at h
   cases e
   have hr:∀ x ∈ l,x.2.len M:=fun y hy=>hl y (by simp [hy])
   cases hs:sum Pay.add (fun _=>true) l with
   | none=>rw [hs] at h;cases h;rw [sum_all_none hs];simp [minL]
   | some q=>
     rw [hs] at h;cases h
     rw [List.map_cons,mLc]
     refine (zip_getD (by rw [(hl x (by simp)).2.1];exact hm) (by rw [(tl2 hr hs).2.1];exact hm)).trans ?_
     cases l with
     | nil=>cases hs
     | cons z l'=>
       rw [tm2 hr hs m hm z l' rfl,List.map_cons,mLc,mLc,mLs (x.2.mins.getD m 0) (z.2.mins.getD m 0)]
       generalize hA:minL (x.2.mins.getD m 0) (l'.map (·.2.mins.getD m 0))=A
       generalize hB:minL (z.2.mins.getD m 0) (l'.map (·.2.mins.getD m 0))=B
       have:=mLs (x.2.mins.getD m 0) (z.2.mins.getD m 0) (l'.map (·.2.mins.getD m 0))
       rw [hA,hB] at this
       omega
def aS2 (q:Que):Nat:=2 ^ q.names.length - 1
theorem ba3 (n i:Nat) (h:i < n):(2 ^ n - 1) / 2 ^ i % 2=1:=by
 have e:2 ^ n=2 ^ i * (2 * 2 ^ (n - i - 1)):=by
  rw [← Nat.pow_succ',← Nat.pow_add];congr 1;omega
 have hp:0 < 2 ^ i:=Nat.two_pow_pos i
 have hq:0 < 2 ^ (n - i - 1):=Nat.two_pow_pos _
 have:(2 ^ n - 1) / 2 ^ i=2 * 2 ^ (n - i - 1) - 1:=by
  rw [e]
  generalize hX:2 * 2 ^ (n - i - 1)=X at *
  generalize 2 ^ i=Y at *
  have Aa:0 < X:=by omega
  obtain ⟨z,rfl⟩:∃ z,X=z + 1:=⟨X - 1,by omega⟩
  rw [Nat.mul_succ]
  have:Y * z + Y - 1=(Y - 1) + Y * z:=by omega
  rw [this,Nat.add_mul_div_left _ _ hp,Nat.div_eq_of_lt (by omega)]
  omega
 rw [this]
 omega
theorem ka2 (s:Sch) (d:List DV) (n:Nat):∀ (l:List ByteArray) (i:Nat),i + l.length≤n→keyFrom s (2 ^ n - 1) d i l=List.replicate l.length none
 | [],_,_=>rfl
 | x :: l,i,h=>by
   rw [List.length_cons] at h ⊢
   rw [keyFrom,ba3 n i (by omega),if_neg (by decide),ka2 s d n l (i + 1) (by omega),List.replicate_succ]
theorem kl2 (s:Sch) (set:Nat) (d:List DV):∀ (l:List ByteArray) (i:Nat),(keyFrom s set d i l).length=l.length
 | [],_=>rfl
 | x :: l,i=>by rw [keyFrom,List.length_cons,kl2 s set d l (i + 1),List.length_cons]
section
variable {s:Sch} {q:Que} {set:Nat} {C:List (CK×Pay)}
theorem ga2:Asc ckLt (groupsP s q set C):=fold_asc ck_sto _
theorem gl2 {M:Nat} (h:∀ x ∈ C,x.2.len M):∀ x ∈ groupsP s q set C,x.2.len M:=fold_all Pay.len_add (ra3 h)
theorem gk2:∀ x ∈ groupsP s q set C,x.1.2.length=q.names.length:=fold_keys (R:=fun k:CK=>k.2.length=q.names.length) (rk2 (R:=fun k:CK=>k.2.length=q.names.length) (g:=gOf s q set) fun k k' h=>by
 unfold gOf at h
 split at h
 ·cases h;exact kl2 _ _ _ _ _
 ·cases h)
theorem wk2:∀ x ∈ groupsP s { q with every:=0 } (aS2 q) C,x.1=(0,List.replicate q.names.length none):=fold_keys (R:=fun k:CK=>k=(0,List.replicate q.names.length none)) (rk2 (R:=fun k:CK=>k=(0,List.replicate q.names.length none)) (g:=gOf s { q with every:=0 } (aS2 q)) fun k k' h=>by
 unfold gOf at h
 split at h
 ·cases h
  refine Prod.ext rfl ?_
  exact ka2 s _ _ _ 0 (by show 0 + q.names.length≤q.names.length;omega)
 ·cases h)
theorem wo2:(groupsP s { q with every:=0 } (aS2 q) C).length≤1:=asc_one ck_sto ga2 wk2
theorem ts2:sum Pay.add (fun _=>true) (groupsP s q set C)=sum Pay.add (fun _=>true) (groupsP s { q with every:=0 } (aS2 q) C):=by
 rw [sg2,sg2,sum_re,sum_re]
 refine sc2 fun x _ => ?_
 unfold gOf
 show _=_
 simp only
 cases Fil.holds s x.1.1 (x.1.2.map valOf) q.fil <;> rfl
theorem wn2:groupsP s q set C=[]↔groupsP s { q with every:=0 } (aS2 q) C=[]:=by
 constructor
 ·intro h
  have:=ts2 (s:=s) (q:=q) (set:=set) (C:=C)
  rw [h] at this
  exact sum_all_none this.symm
 ·intro h
  have:=ts2 (s:=s) (q:=q) (set:=set) (C:=C)
  rw [h] at this
  exact sum_all_none this
end
end Tess
namespace Tess
open Go Kl
theorem ce2 {s:Sch} {q:Que} (h:Que.check s q=0):Que.check s { q with every:=0 }=0:=by
 obtain ⟨h1,h2,h3,h4⟩:=check_cases h
 unfold Que.check
 have Aa:Que.isOf s { q with every:=0 }=true:=h2
 rw [h1,Aa]
 simp only [if_true]
 exact h4
end Tess
namespace Go.Proofs.YtaddkkkchkdgkaaGreatDoor
open Go.RowKit Go.Sort
open Tess (CK Pay)
set_option maxHeartbeats 1000000 in
theorem bd2 {B:Nat} {a w:World} (h:Below B a w) (n:Nat):Below B a (w.drewN n):=⟨h.os,h.tape,h.output,h.size,h.block⟩
theorem Hd {p:Prop} (h:p):RowKit.Hid p:=Lib.hid h
theorem bAa (a b:ByteArray) (w:World) (ha:a.size≤maxLen) :
  Calls Tryz.prog 73 #[.string a,.string b] w fun e w'=>e = .returned (.bool (Tess.bl a b))∧Below w.heap.size w w':=by
 unfold maxLen at ha
 go_enter Tryz.func73,Tryz.ntmps73
 go_wp2
 go_loopw [5] (fun i wr => ∃ k:Nat,k≤a.size∧k≤b.size∧i = .int .i64 k∧a.data.toList.take k=b.data.toList.take k∧Below w.heap.size w wr) (fun i _=>a.size - (intOf i).toNat)
 case atStart=>exact ⟨0,Nat.zero_le _,Nat.zero_le _,rfl,rfl,Below.refl _ _⟩
 case round=>
  obtain ⟨k,Ac,Ab,rfl,Aa,hB⟩:=hrel
  have HB:=Hd hB
  clear hB
  have HE:=Hd Aa
  clear Aa
  by_cases h1:k < a.size
  ·have Ad:(k:Int) < (a.size:Int):=by omega
   by_cases h2:k < b.size
   ·have Af:(k:Int) < (b.size:Int):=by omega
    by_cases he:a[k]=b[k]
    ·have Ae:((a[k].toNat:Int) != (b[k].toNat:Int))=false:=by rw [he];simp
     have HX:=Hd he
     clear he
     go_wp2
     go_quiet (fail)
     go_wp2
     go_roundw
     case rel=>exact ⟨k + 1,by omega,by omega,by go_num,Tess.tm3 a b k h1 h2 HE.out HX.out,bd2 HB.out _⟩
     case measure=>simp [intOf];omega
    ·have Ag:a[k].toNat≠b[k].toNat:=fun e=>he (UInt8.toNat_inj.1 e)
     have Ae:((a[k].toNat:Int) != (b[k].toNat:Int))=true:=by rw [bne_iff_ne];omega
     have HX:=Hd (Tess.ba4 a b k h1 h2 HE.out he)
     clear he
     go_wp2
     go_quiet (fail)
     go_wp2
     go_quiet (fail)
     go_wp2
     go_ret
     refine ⟨ret_bool' ?_,bd2 (bd2 HB.out _) _⟩
     rw [HX.out]
   ·have Af:¬ (k:Int) < (b.size:Int):=by omega
    have HX:=Hd (Tess.be3 a b k Ac Ab HE.out (.inr (by omega)))
    go_wp2
    go_ret
    refine ⟨ret_bool' ?_,HB.out⟩
    rw [HX.out]
  ·have Ad:¬ (k:Int) < (a.size:Int):=by omega
   have HX:=Hd (Tess.be3 a b k Ac Ab HE.out (.inl (by omega)))
   go_wp2
   go_ret
   refine ⟨ret_bool' ?_,HB.out⟩
   rw [HX.out]
theorem tu {a b c d:Int} (h:a=c) (k:b=d):(#[.int .u64 a,.int .u64 b]:Array Value)=#[.int .u64 c,.int .u64 d]:=by rw [h,k]
set_option maxRecDepth 100000 in
set_option maxHeartbeats 2000000 in
theorem ha4 (x y:Nat) (hx:x < 18446744073709551616) (hy:y < 18446744073709551616) (w:World) :
  Calls Tryz.prog 38 #[.int .u64 x,.int .u64 y] w fun e w'=>e = .returned (.tuple #[.int .u64 (((x + y) % 18446744073709551616:Nat):Int),.int .u64 (((x + y) / 18446744073709551616:Nat):Int)])∧Below w.heap.size w w':=by
 have HR:=Hd (show IntKind.u64.wrap (IntKind.u64.wrap ((IntKind.u64.wrap (IntKind.u64.wrap ((x:Int) / 4294967296 + (y:Int) / 4294967296) + IntKind.u64.wrap ((x:Int) % 4294967296 + (y:Int) % 4294967296) / 4294967296)) % 4294967296 * 4294967296) + IntKind.u64.wrap ((x:Int) % 4294967296 + (y:Int) % 4294967296) % 4294967296)=(((x + y) % 18446744073709551616:Nat):Int)∧IntKind.u64.wrap (IntKind.u64.wrap ((x:Int) / 4294967296 + (y:Int) / 4294967296) + IntKind.u64.wrap ((x:Int) % 4294967296 + (y:Int) % 4294967296) / 4294967296) / 4294967296=(((x + y) / 18446744073709551616:Nat):Int) by
  simp only [IntKind.wrap_u64];omega)
 go_enter Tryz.func38,Tryz.ntmps38
 go_wp2_with (fail)
 go_ret2
 refine ⟨congrArg Ending.returned (congrArg Value.tuple (tu ?_ ?_)),Below.refl _ _⟩ <;> omega
set_option maxRecDepth 100000 in
set_option maxHeartbeats 2000000 in
theorem rAa2 (n m:Int) (hs:WOk (n + m)) (w:World):Calls Tryz.prog 18 #[.agg #[.int .i64 (wHi n),.int .u64 (wLo n)],.agg #[.int .i64 (wHi m),.int .u64 (wLo m)]] w fun e w'=>e = .returned (.agg #[.int .i64 (wHi (n + m)),.int .u64 (wLo (n + m))])∧Below w.heap.size w w':=by
 obtain ⟨l,hl⟩:∃ l:Nat,wLo n=l:=⟨(wLo n).toNat,by unfold wLo;omega⟩
 obtain ⟨l',Ad⟩:∃ l:Nat,wLo m=l:=⟨(wLo m).toNat,by unfold wLo;omega⟩
 obtain ⟨u,hu⟩:∃ u:Nat,IntKind.u64.wrap (wHi n)=u:=⟨(wHi n % 18446744073709551616).toNat,by rw [wrap_u64'];omega⟩
 obtain ⟨u',An⟩:∃ u:Nat,IntKind.u64.wrap (wHi m)=u:=⟨(wHi m % 18446744073709551616).toNat,by rw [wrap_u64'];omega⟩
 have Ah:=hu;have Aa:=An
 rw [wrap_u64'] at Ah Aa
 obtain ⟨c,hc⟩:∃ c,(l + l') / 18446744073709551616=c:=⟨_,rfl⟩
 obtain ⟨x,hx⟩:∃ x,(l + l') % 18446744073709551616=x:=⟨_,rfl⟩
 obtain ⟨y,hy⟩:∃ y,(u + u') % 18446744073709551616=y:=⟨_,rfl⟩
 obtain ⟨z,hz⟩:∃ z,(y + c) % 18446744073709551616=z:=⟨_,rfl⟩
 have At:c≤1:=by unfold wLo at hl Ad;omega
 have A1:=Hd (fun W=>ha4 l l' (by unfold wLo at hl;omega) (by unfold wLo at Ad;omega) W)
 have A2:=Hd (fun W=>ha4 u u' (by omega) (by omega) W)
 have A3:=Hd (fun W=>ha4 y c (by omega) (by omega) W)
 rw [hc,hx] at A1
 rw [hy] at A2
 rw [hz] at A3
 have As:IntKind.i64.wrap (z:Int)=wHi (n + m):=by
  unfold wLo wHi WOk at *
  rw [IntKind.wrap_i64]
  omega
 have Ai:(x:Int)=wLo (n + m):=by
  unfold wLo at *
  omega
 rw [hl,Ad,← Ai]
 generalize wHi (n + m)=o at *
 clear hl Ad Ah Aa hx hy hz hc Ai hs
 generalize wHi n=h at *
 generalize wHi m=h' at *
 obtain ⟨W0,Am⟩:∃ W0,((w.alloc (.cells #[.int .i64 h,.int .u64 l] 60)).alloc (.cells #[.int .i64 h',.int .u64 l'] 60)).alloc (.cells #[.int .i64 0,.int .u64 0] 60)=W0:=⟨_,rfl⟩
 obtain ⟨k0,k1,k2,kS,kB⟩:=laid3 w (.cells #[.int .i64 h,.int .u64 l] 60) (.cells #[.int .i64 h',.int .u64 l'] 60) (.cells #[.int .i64 0,.int .u64 0] 60)
 rw [Am] at k0 k1 k2 kS kB
 rw [show w.heap.size + 2=w.heap.size + 1 + 1 by omega] at k2
 obtain ⟨⟨x0,x1⟩,_⟩:=can2 k0
 obtain ⟨⟨y0,y1⟩,_⟩:=can2 k1
 have K0:=Hd k0
 have K1:=Hd k1
 have K2:=Hd k2
 have HB:=Hd kB
 have HS:=Hd kS
 clear k0 k1 k2 kB kS
 go_enter Tryz.func18,Tryz.ntmps18
 go_wp2_with (fail)
 go_at_call 38
 refine (A1.out _).mono ?_
 rintro e w1 ⟨rfl,Ab⟩
 have Aj:=Hd (Bt HB.out Ab)
 have Al:=Hd ((Ab.block _ (Array.getElem?_eq_some_iff.1 K0.out).1).trans K0.out)
 have Ak:=Hd ((Ab.block _ (Array.getElem?_eq_some_iff.1 K1.out).1).trans K1.out)
 have Ag:=Hd ((Ab.block _ (Array.getElem?_eq_some_iff.1 K2.out).1).trans K2.out)
 clear x0 x1 y0 y1 Ab
 obtain ⟨⟨x0,x1⟩,_⟩:=can2 Al.out
 obtain ⟨⟨y0,y1⟩,_⟩:=can2 Ak.out
 go_wp2_with (fail)
 go_at_call 38
 refine (A2.out _).mono ?_
 rintro e w2 ⟨rfl,Af⟩
 have Ap:=Hd (Bt Aj.out Af)
 have Ac:=Hd ((Af.block _ (Array.getElem?_eq_some_iff.1 Ag.out).1).trans Ag.out)
 clear x0 x1 y0 y1 Af
 go_wp2_with (fail)
 go_at_call 38
 refine (A3.out _).mono ?_
 rintro e w3 ⟨rfl,Ae⟩
 have Ao:=Hd (Bt Ap.out Ae)
 have k2:=(Ae.block _ (Array.getElem?_eq_some_iff.1 Ac.out).1).trans Ac.out
 clear Ae
 obtain ⟨⟨z0,z1⟩,Ar,Aq⟩:=can2 k2
 go_wp2_with (fail)
 have q1:=heap_setCell_same _ _ 1 _ _ (.int .u64 x) (heap_setCell_same _ _ 0 _ _ (.int .i64 o) k2)
 obtain ⟨⟨e0,e1⟩,_⟩:=can2 q1
 refine bodyPost_ret (v:=.agg #[.int .i64 o,.int .u64 x]) (by simp [results,Tryz.results18,go_sem,e0,e1]) rfl ⟨rfl,(Ao.out.setCell (by show _≤w.heap.size + 1 + 1;omega) _).setCell (by show _≤w.heap.size + 1 + 1;omega) _⟩
set_option maxRecDepth 100000 in
set_option maxHeartbeats 2000000 in
theorem rAa (a b:Tess.Val) (w:World) (ha:a.s.size≤maxLen):Calls Tryz.prog 37 #[.agg #[.string a.s,.bool a.null],.agg #[.string b.s,.bool b.null]] w fun e w'=>e = .returned (.bool (Tess.vLt a.c b.c))∧Below w.heap.size w w':=by
 obtain ⟨x,xb⟩:=a
 obtain ⟨y,yb⟩:=b
 have HA:=Hd (fun W=>bAa x y W ha)
 obtain ⟨W0,Ac⟩:∃ W0,(w.alloc (.cells #[.string x,.bool xb] 72)).alloc (.cells #[.string y,.bool yb] 72)=W0:=⟨_,rfl⟩
 obtain ⟨k0,k1,kS,kB⟩:=laid2 w (.cells #[.string x,.bool xb] 72) (.cells #[.string y,.bool yb] 72)
 rw [Ac] at k0 k1 kS kB
 obtain ⟨⟨x0,x1⟩,_⟩:=can2 k0
 obtain ⟨⟨y0,y1⟩,_⟩:=can2 k1
 have HB:=Hd kB
 clear k0 k1 kB kS ha
 cases xb <;> cases yb
 ·rw [show Tess.vLt (Tess.Val.c ⟨x,false⟩) (Tess.Val.c ⟨y,false⟩)=Tess.bl x y from rfl]
  go_enter Tryz.func37,Tryz.ntmps37
  go_wp2_with (fail)
  go_at_call 73
  refine (HA.out _).mono ?_
  rintro e w1 ⟨rfl,Aa⟩
  have Ab:=Hd (Bt HB.out Aa)
  clear Aa
  go_wp2_with (fail)
  go_ret
  exact ⟨rfl,Ab.out⟩
 all_goals
  go_enter Tryz.func37,Tryz.ntmps37
  go_wp2_with (fail)
  go_ret
  exact ⟨rfl,HB.out⟩
theorem lnr {α:Type} (lt:α→α→Bool) (l:List α):Tess.Kl.lex lt l []=false:=by cases l <;> rfl
set_option maxRecDepth 100000 in
set_option maxHeartbeats 2000000 in
theorem ra2 (p q:Nat→Prop) (va vb:Value) (l m:List Tess.Val) (w:World) (ha:RowsW 2 valF p w va l) (hb:RowsW 2 valF q w vb m) (h1:∀ v ∈ l,v.s.size≤maxLen) (h2:∀ v ∈ m,v.s.size≤maxLen) :
  Calls Tryz.prog 17 #[va,vb] w fun e w'=>e = .returned (.bool (Tess.Kl.lex Tess.vLt (l.map Tess.Val.c) (m.map Tess.Val.c)))∧Below w.heap.size w w':=by
 obtain ⟨xa,ca,rfl,Av,Az⟩:=ha
 obtain ⟨xb,cb,rfl,Aq,Aw⟩:=hb
 have A8:l.length≤9223372036854775807:=by unfold maxLen at Av;omega
 have A9:m.length≤9223372036854775807:=by unfold maxLen at Aq;omega
 have A6:=Hd Az
 have A7:=Hd Aw
 have A4:=Hd h1
 have Ba:=Hd h2
 clear Az Aw Av Aq h1 h2
 obtain ⟨R,hR⟩:∃ R,Tess.Kl.lex Tess.vLt (l.map Tess.Val.c) (m.map Tess.Val.c)=R:=⟨_,rfl⟩
 rw [hR]
 have HR:=Hd hR
 clear hR
 go_enter Tryz.func17,Tryz.ntmps17
 go_wp2
 go_loopw [5] (fun i wr => ∃ k:Nat,k≤l.length∧k≤m.length∧i = .int .i64 k∧R=Tess.Kl.lex Tess.vLt ((l.drop k).map Tess.Val.c) ((m.drop k).map Tess.Val.c)∧Below w.heap.size w wr) (fun i _=>l.length - (intOf i).toNat)
 case atStart=>exact ⟨0,Nat.zero_le _,Nat.zero_le _,rfl,HR.out.symm,Below.refl _ _⟩
 case round=>
  obtain ⟨k,Bd,Be,rfl,hr,Ap⟩:=hrel
  have Am:=Hd hr
  have Ac:=Hd Ap
  clear hr Ap
  by_cases hlt1:k < l.length
  ·have Bc:(k:Int) < (l.length:Int):=by omega
   by_cases hlt2:k < m.length
   ·have A3:(k:Int) < (m.length:Int):=by omega
    obtain ⟨b,Ae,rfl,hb,_,g1⟩:=A6.out (by omega)
    obtain ⟨b',Ab,rfl,Ai,_,g2⟩:=A7.out (by omega)
    have Ah:b < wr.heap.size:=Nat.lt_of_lt_of_le hb Ac.out.size
    have Ad:b' < wr.heap.size:=Nat.lt_of_lt_of_le Ai Ac.out.size
    have G1:=g1 k hlt1
    have G2:=g2 k hlt2
    have Ar:=A4.out _ (List.getElem_mem hlt1)
    have Au:=Ba.out _ (List.getElem_mem hlt2)
    have Ag:=Am.out
    rw [List.drop_eq_getElem_cons hlt1,List.drop_eq_getElem_cons hlt2,List.map_cons,List.map_cons,Tess.Kl.lex] at Ag
    have Af:=Hd Ag
    clear g1 g2 Ag
    generalize l[k]=u1 at *
    generalize m[k]=u2 at *
    have Ao:=Hd (fun W=>rAa u1 u2 W Ar)
    have A0:=Hd (fun W=>rAa u2 u1 W Au)
    obtain ⟨r1,An⟩:∃ r,Tess.vLt u1.c u2.c=r:=⟨_,rfl⟩
    obtain ⟨r2,Aj⟩:∃ r,Tess.vLt u2.c u1.c=r:=⟨_,rfl⟩
    rw [An] at Ao
    rw [Aj] at A0
    rw [An,Aj] at Af
    obtain ⟨x0,x1⟩:=u1
    obtain ⟨y0,y1⟩:=u2
    have r0:wr.cell? ⟨b,Ae + k * 2,none⟩=some (.string x0):=(Ac.out.cell (p:=⟨b,Ae + k * 2,none⟩) hb).trans (G1 0 (by omega))
    have t0:wr.cell? ⟨b',Ab + k * 2,none⟩=some (.string y0):=(Ac.out.cell (p:=⟨b',Ab + k * 2,none⟩) Ai).trans (G2 0 (by omega))
    have q1:wr.cell? ⟨b,Ae + k * 2 + 1,none⟩=some (.bool x1):=(Ac.out.cell (p:=⟨b,Ae + k * 2 + 1,none⟩) hb).trans (G1 1 (by omega))
    have t1:wr.cell? ⟨b',Ab + k * 2 + 1,none⟩=some (.bool y1):=(Ac.out.cell (p:=⟨b',Ab + k * 2 + 1,none⟩) Ai).trans (G2 1 (by omega))
    clear G1 G2 An Aj Ar Au
    go_wp2_with (fail)
    refine Flow.wp_region_flow_tail 8 (Flow.specs [.inl ?_,.inl ?_,.inl ?_,.inl ?_,.inl ?_,.inl ?_,.inl ?_,.inl ?_]) (by kernel_rfl) (by kernel_rfl) ?_ ?_
    rotate_left 8
    ·refine Flow.specs_mono ?_
     repeat (first | exact Flow.lmono_nil | refine Flow.lmono_inl ?_)
    all_goals try simp only [List.take_succ_cons,List.take_zero,List.drop_succ_cons,List.drop_zero]
    iterate 8 (refine Flow.tree_valK rfl (fun K hK=>⟨fun w hw hG => ?_,?_⟩);(have A1:=Flow.bcell hw;clear hG hw;unfold Flow.Runs Flow.yields;go_simp;try rfl);go_simp;refine hK _ ?_;clear hK K)
    refine Flow.tree_nil fun w2 hw2 hG => ?_
    clear hG
    have A5:=Hd (Bt Ac.out hw2)
    have Ak:=Hd hw2
    clear hw2
    go_wp2_with (fail)
    go_at_call 37
    refine (Ao.out _).mono ?_
    rintro e w3 ⟨rfl,Al⟩
    have As:=Hd (Bt A5.out Al)
    have Aa:=Bt Ak.out Al
    replace r0:=(Aa.cell (p:=⟨b,Ae + k * 2,none⟩) Ah).trans r0
    replace t0:=(Aa.cell (p:=⟨b',Ab + k * 2,none⟩) Ad).trans t0
    replace q1:=(Aa.cell (p:=⟨b,Ae + k * 2 + 1,none⟩) Ah).trans q1
    replace t1:=(Aa.cell (p:=⟨b',Ab + k * 2 + 1,none⟩) Ad).trans t1
    have Bb:b < w3.heap.size:=Nat.lt_of_lt_of_le Ah Aa.size
    have Ay:b' < w3.heap.size:=Nat.lt_of_lt_of_le Ad Aa.size
    clear Al Aa
    cases r1
    rotate_left
    ·go_wp2_with (fail)
     go_ret
     exact ⟨ret_bool' (by rw [Af.out,Bool.true_or]),As.out⟩
    go_wp2_with (fail)
    refine Flow.wp_region_flow_tail 8 (Flow.specs [.inl ?_,.inl ?_,.inl ?_,.inl ?_,.inl ?_,.inl ?_,.inl ?_,.inl ?_]) (by kernel_rfl) (by kernel_rfl) ?_ ?_
    rotate_left 8
    ·refine Flow.specs_mono ?_
     repeat (first | exact Flow.lmono_nil | refine Flow.lmono_inl ?_)
    all_goals try simp only [List.take_succ_cons,List.take_zero,List.drop_succ_cons,List.drop_zero]
    iterate 8 (refine Flow.tree_valK rfl (fun K hK=>⟨fun w hw hG => ?_,?_⟩);(have A1:=Flow.bcell hw;clear hG hw;unfold Flow.Runs Flow.yields;go_simp;try rfl);go_simp;refine hK _ ?_;clear hK K)
    refine Flow.tree_nil fun w4 hw4 hG => ?_
    clear hG
    have A2:=Hd (Bt As.out hw4)
    clear hw4
    go_wp2_with (fail)
    go_at_call 37
    refine (A0.out _).mono ?_
    rintro e w5 ⟨rfl,At⟩
    have Ax:=Hd (Bt A2.out At)
    clear At
    cases r2
    rotate_left
    ·go_wp2_with (fail)
     go_ret
     exact ⟨ret_bool' (by rw [Af.out];rfl),Ax.out⟩
    go_wp2_with (fail)
    go_roundw
    case rel=>exact ⟨k + 1,by omega,by omega,by go_num,Af.out,Ax.out⟩
    case measure=>simp [intOf];omega
   ·have A3:¬ (k:Int) < (m.length:Int):=by omega
    go_wp2_with (fail)
    go_ret
    refine ⟨ret_bool' ?_,Ac.out⟩
    rw [Am.out,List.drop_eq_nil_of_le (show m.length≤k by omega),List.map_nil,lnr]
    exact decide_eq_false (by omega)
  ·have Bc:¬ (k:Int) < (l.length:Int):=by omega
   go_wp2_with (fail)
   go_ret
   refine ⟨ret_bool' ?_,Ac.out⟩
   rw [Am.out,List.drop_eq_nil_of_le (show l.length≤k by omega),List.map_nil]
   by_cases hlt2:k < m.length
   ·rw [List.drop_eq_getElem_cons hlt2]
    exact decide_eq_true (by omega)
   ·rw [List.drop_eq_nil_of_le (show m.length≤k by omega)]
    exact decide_eq_false (by omega)
end Go.Proofs.YtaddkkkchkdgkaaGreatDoor
namespace Go.Proofs.YtaddkkkchkdgkaaGreatDoor
open Go.RowKit Go.Sort
open Tess (CK Pay PayOk CelOk CelsOk Que ckLt groupsP gOf)
theorem pGp (s:Tess.Sch) (q:Que) (set:Nat) (C:List (CK×Pay)):(putsG s q set C).Perm (ofSet (set:Nat) (groupsP s q set C)):=by
 rw [putsG_eq]
 unfold ofSet
 refine (Tess.Kl.np2 (add:=Pay.add) Tess.ck_sto (Tess.Kl.puts_nod Tess.ck_sto _ [] (show Tess.Kl.Nod ([]:List (CK×Pay)) from List.Pairwise.nil)) (Tess.Kl.an2 Tess.ck_sto Tess.ga2) fun k => ?_).map _
 rw [Tess.Kl.sum_puts Tess.ck_sto Tess.pay_com,Tess.sg2,Tess.Kl.sum,Tess.Kl.none_oadd]
theorem sIp {l m:List Int} (h:l.Perm m):l.sum=m.sum:=by
 induction h with
 | nil=>rfl
 | cons x _ ih=>rw [List.sum_cons,List.sum_cons,ih]
 | swap x y l=>simp only [List.sum_cons];omega
 | trans _ _ a b=>exact a.trans b
theorem tGp {l m:List Grp} (h:l.Perm m):totG l=totG m:=by
 unfold totG
 exact sIp (h.map _)
theorem fRo {s:Tess.Sch} {q:Que} {set:Int} {C:List (CK×Pay)} (hC:∀ x ∈ C,CelOk s x) (hn:q.names.length≤10):(∀ y ∈ foldR s q set C,GrpOk s.mets.length y)∧totG (foldR s q set C)≤(C.map (·.2.n)).sum:=by
 have Aa:∀ x ∈ C,1≤x.2.n:=fun x hx=>(hC x hx).pay.one
 have h0:0≤(C.map (·.2.n)).sum:=by have:=(Tess.len_le_sum Aa).1;omega
 unfold foldR
 split
 ·rename_i h
  obtain ⟨_,k,rfl,hk⟩:=foldE_zero h
  have hp:=pGp s q k C
  rw [show ((k:Int)).toNat=k from rfl]
  constructor
  ·intro y hy
   have hy:=hp.mem_iff.2 hy
   unfold putsG at hy
   exact foldG_ok (fun z hz=>by obtain ⟨x,hx,rfl⟩:=List.mem_map.1 hz;exact grpOf_ok (hC x (List.mem_filter.1 hx).1) (by omega) hk) (fun z hz=>by cases hz) y hy
  ·rw [← tGp hp]
   unfold putsG
   rw [foldG_tot,totG_map]
   have h1:=tot_filter (inF s q) C Aa
   have h2:totG []=0:=rfl
   omega
 ·exact ⟨(fun y hy=>by cases hy),h0⟩
end Go.Proofs.YtaddkkkchkdgkaaGreatDoor
namespace Go.Proofs.YtaddkkkchkdgkaaGreatDoor
open Go.RowKit Go.Sort
open Tess (CK Pay PayOk CelOk CelsOk Que ckLt groupsP gOf)
theorem fEw {s:Tess.Sch} {q:Que} {set:Int} (h:foldE s q set=0):foldE s { q with every:=0 } ((2 ^ q.names.length - 1:Nat):Int)=0:=by
 obtain ⟨h1,_⟩:=foldE_zero h
 have h2:=Tess.ce2 h1
 unfold foldE
 rw [h2,if_neg (by simp),if_neg]
 show ¬ (((2 ^ q.names.length - 1:Nat):Int) < 0∨((2 ^ q.names.length:Nat):Int)≤((2 ^ q.names.length - 1:Nat):Int))
 have:=Nat.two_pow_pos q.names.length
 omega
theorem fRg {s:Tess.Sch} {q:Que} {set:Int} (h:foldE s q set=0):∃ k:Nat,set=k∧k < 2 ^ q.names.length∧∀ C,foldR s q set C=ofSet (k:Nat) (groupsP s q k C):=by
 obtain ⟨_,k,rfl,hk⟩:=foldE_zero h
 refine ⟨k,rfl,hk,fun C => ?_⟩
 unfold foldR
 rw [if_pos h]
 rfl
theorem oSm {β:Type} (set:Int) (l:List (CK×Pay)) (f:Pay→β):(ofSet set l).map (fun y=>f y.2.2)=l.map (fun y=>f y.2):=by
 unfold ofSet;rw [List.map_map];rfl
structure To2 (M:Nat) (A:List Grp) (b:Grp):Prop where
 n:b.2.2.n=totG A
 sum:∀ m < M,b.2.2.sums.getD m 0=(A.map (·.2.2.sums.getD m 0)).sum
 min:∀ m < M,∀ y r,A=y :: r→b.2.2.mins.getD m 0=(A.map (·.2.2.mins.getD m 0)).foldl Min.min (y.2.2.mins.getD m 0)
theorem to2 {s:Tess.Sch} {q:Que} {set:Int} {C:List (CK×Pay)} (hC:∀ x ∈ C,CelOk s x) (h:foldE s q set=0) :
  (foldR s q set C=[]∧foldR s { q with every:=0 } ((2 ^ q.names.length - 1:Nat):Int) C=[]) ∨
  (∃ a A b,foldR s q set C=a :: A∧foldR s { q with every:=0 } ((2 ^ q.names.length - 1:Nat):Int) C=[b]∧To2 s.mets.length (a :: A) b):=by
 obtain ⟨k,rfl,hk,hA⟩:=fRg h
 obtain ⟨k',Af,_,hB⟩:=fRg (fEw h)
 obtain rfl:2 ^ q.names.length - 1=k':=by omega
 rw [hA,hB]
 have Ac:=Tess.wo2 (s:=s) (q:=q) (C:=C)
 have Ab:=Tess.wn2 (s:=s) (q:=q) (set:=k) (C:=C)
 have Aa:=Tess.ts2 (s:=s) (q:=q) (set:=k) (C:=C)
 have Ad:∀ set' q',∀ x ∈ groupsP s q' set' C,x.2.len s.mets.length:=fun _ _=>Tess.gl2 fun x hx=>(hC x hx).pay.len
 have l1:=Ad k q
 have l2:=Ad (Tess.aS2 q) { q with every:=0 }
 unfold Tess.aS2 at Ac Ab Aa l2
 cases hg:groupsP s q k C with
 | nil=>exact .inl ⟨rfl,by rw [Ab.1 hg];rfl⟩
 | cons x L=>
   right
   cases hw:groupsP s { q with every:=0 } (2 ^ q.names.length - 1) C with
   | nil=>rw [Ab.2 hw] at hg;cases hg
   | cons y R=>
     rw [hw] at Ac Aa l2
     rw [hg] at Aa l1
     obtain rfl:R=[]:=by
      cases R with
      | nil=>rfl
      | cons z R=>simp at Ac
     refine ⟨_,_,_,rfl,rfl,?_⟩
     have Ae:Tess.Kl.sum Pay.add (fun _=>true) [y]=some y.2:=rfl
     rw [Ae] at Aa
     refine ⟨?_,fun m hm => ?_,fun m hm z r e => ?_⟩
     ·show y.2.n=_
      have:=Tess.total_n Aa
      unfold totG
      exact this.trans (congrArg List.sum (oSm _ (x :: L) (·.n)).symm)
     ·have:=Tess.ts3 l1 Aa m hm
      exact this.trans (congrArg List.sum (oSm _ (x :: L) (·.sums.getD m 0)).symm)
     ·have:=Tess.tm2 l1 Aa m hm x L rfl
      cases e
      refine this.trans ?_
      unfold Tess.minL
      exact congrArg (fun l=>List.foldl Min.min _ l) (oSm _ (x :: L) (·.mins.getD m 0)).symm
theorem fRa {s:Tess.Sch} {q:Que} {set:Int} {C:List (CK×Pay)} (j:Nat) (h:j + 1 < (foldR s q set C).length) (ht:(foldR s q set C)[j].2.1.1=(foldR s q set C)[j + 1].2.1.1) :
  Tess.Kl.lex Tess.vLt (foldR s q set C)[j].2.1.2 (foldR s q set C)[j + 1].2.1.2=true:=by
 have hp:(foldR s q set C).Pairwise fun a b=>ckLt a.2.1 b.2.1=true:=by
  unfold foldR
  split
  ·unfold ofSet
   exact List.pairwise_map.2 (Tess.ga2)
  ·exact List.Pairwise.nil
 have:=List.pairwise_iff_getElem.1 hp j (j + 1) (by omega) h (by omega)
 rw [show (foldR s q set C)[j].2.1=((foldR s q set C)[j].2.1.1,(foldR s q set C)[j].2.1.2) from rfl,show (foldR s q set C)[j + 1].2.1=((foldR s q set C)[j + 1].2.1.1,(foldR s q set C)[j + 1].2.1.2) from rfl,ck_lt,if_pos ht] at this
 exact this
theorem fRk {s:Tess.Sch} {q:Que} {set:Int} {C:List (CK×Pay)}:∀ y ∈ foldR s q set C,y.2.1.2.length=q.names.length:=by
 intro y hy
 unfold foldR at hy
 split at hy
 ·unfold ofSet at hy
  obtain ⟨x,hx,rfl⟩:=List.mem_map.1 hy
  exact Tess.gk2 x hx
 ·cases hy
theorem pb2 {M:Nat} {p:Pay} (h:PayOk M p) {m:Nat} (hm:m < M) : -9223372036854775808 * p.n≤p.sums.getD m 0∧p.sums.getD m 0≤9223372036854775807 * p.n:=by
 obtain ⟨h1,h2,h3⟩:=h.sum m hm
 obtain ⟨r1,r2,r3,r4⟩:=h.rng m hm
 have h0:=h.one
 have m1 : -9223372036854775808 * (p.n - 1)≤p.mins.getD m 0 * (p.n - 1):=Int.mul_le_mul_of_nonneg_right r1 (by omega)
 have m2:p.maxs.getD m 0 * (p.n - 1)≤9223372036854775807 * (p.n - 1):=Int.mul_le_mul_of_nonneg_right r4 (by omega)
 omega
theorem sb2 {M m:Nat} (hm:m < M):∀ {A:List Grp},(∀ y ∈ A,GrpOk M y) → -9223372036854775808 * totG A≤(A.map (·.2.2.sums.getD m 0)).sum∧(A.map (·.2.2.sums.getD m 0)).sum≤9223372036854775807 * totG A
 | [],_=>⟨by simp [totG],by simp [totG]⟩
 | y :: A,h=>by
   have ih:=sb2 hm (A:=A) fun z hz=>h z (by simp [hz])
   have:=pb2 (h y (by simp)).pay hm
   unfold totG at *
   simp only [List.map_cons,List.sum_cons]
   omega
theorem tGt {M:Nat} {A:List Grp} (h:∀ y ∈ A,GrpOk M y) (j:Nat):0≤totG (A.take j)∧totG (A.take j)≤totG A:=by
 have h1:=(totG_le (L:=A.take j) fun y hy=>h y (List.mem_of_mem_take hy)).1
 have h2:=(totG_le (L:=A.drop j) fun y hy=>h y (List.mem_of_mem_drop hy)).1
 have e:totG A=totG (A.take j) + totG (A.drop j):=by
  unfold totG
  rw [← List.sum_append_int,← List.map_append,List.take_append_drop]
 omega
theorem st3 {M m:Nat} (hm:m < M) {A:List Grp} (h:∀ y ∈ A,GrpOk M y) (ht:totG A≤1000) (j:Nat):WOk ((A.take j).map (·.2.2.sums.getD m 0)).sum:=by
 have h1:=sb2 hm (A:=A.take j) fun y hy=>h y (List.mem_of_mem_take hy)
 have h2:=tGt h j
 unfold WOk
 omega
theorem ss2 (A:List Grp) (f:Grp→Int) (j:Nat) (hj:j < A.length):((A.take (j + 1)).map f).sum=((A.take j).map f).sum + f A[j]:=by
 rw [List.take_succ_eq_append_getElem hj,List.map_append,List.sum_append_int];simp
theorem ms2 (A:List Grp) (f:Grp→Int) (x:Int) (j:Nat) (hj:j < A.length):((A.take (j + 1)).map f).foldl Min.min x=min (((A.take j).map f).foldl Min.min x) (f A[j]):=by
 rw [List.take_succ_eq_append_getElem hj,List.map_append,List.foldl_append];rfl
end Go.Proofs.YtaddkkkchkdgkaaGreatDoor
namespace Go.Proofs.YtaddkkkchkdgkaaGreatDoor
open Go.RowKit Go.Sort
open Tess (Fil Que CK Pay CelsOk groupsP)
def iRI (p:Nat→Prop) (l:List Tess.Row) (v:Value) (W:World):Prop:=RowsIn p W v l
theorem iRI2 (p:Nat→Prop) (l:List Tess.Row):Flow.Spec.mono (.inr (iRI p l)):=fun _ _ _ h hb=>RowsIn.agR h (Ag.new _ hb)
def nP (N:Nat) (x:Value) (v:Value) (W:World):Prop:=∃ g,v = .slice (some ⟨g,0,none⟩) 1 1∧N≤g∧g < W.heap.size∧W.cell? ⟨g,0,none⟩=some x
theorem nPm (N:Nat) (x:Value):Flow.Spec.mono (.inr (nP N x)):=fun _ _ _ ⟨g,h1,h2,h3,h4⟩ hb=>⟨g,h1,h2,Nat.lt_of_lt_of_le h3 hb.size,(hb.cell (p:=⟨g,0,none⟩) h3).trans h4⟩
theorem nPm2 {N:Nat} (x:Value) (w:World) (t:TypeId) (h:N≤w.heap.size):nP N x (.slice (some ⟨w.heap.size,0,none⟩) 1 1) (w.alloc (.cells #[x] t)):=⟨_,rfl,h,by simp,by simp⟩
theorem po2 {p q:Nat→Prop} {W:World} {u v:Value} {C:List (CK×Pay)} {N:Nat} (h:nP N u v W) (hc:CelsAt p W u C) (hp:∀ b,p b→q b) (hN:∀ b,N≤b→q b):PartsAt q W v [C]:=by
 obtain ⟨g,rfl,h1,h2,h3⟩:=h
 refine ⟨_,_,rfl,by show (1:Nat)≤maxLen;decide,Nat.le_refl _,(fun e=>by cases e),fun _=>⟨g,0,rfl,h2,hN _ h1,fun j hj=>⟨[u],rfl,⟨_,rfl,?_⟩,fun i hi => ?_⟩⟩⟩
 ·obtain rfl:j=0:=by have:j < 1:=hj;omega
  exact hc.weak hp
 ·obtain rfl:i=0:=by omega
  obtain rfl:j=0:=by have:j < 1:=hj;omega
  exact h3
section
variable {p:Nat→Prop} {n:Nat} {w:World} {v:Value} {q:Que} {va vb vS f0 f1 f2 f3 f4 f5 vh vo:Value}
theorem QueAt.every (h:QueAt p n w v q va vb vS f0 f1 f2 f3 f4 f5 vh vo) (e:Int) :
  QueAt p n w (.agg #[va,vb,.int .i64 q.mode,vS,.int .i64 e,f0,f1,f2,f3,f4,f5,vh,vo,.int .i64 q.limit]) { q with every:=e } va vb vS f0 f1 f2 f3 f4 f5 vh vo:=
 ⟨rfl,h.aggs,h.mets,h.names,h.small,h.sets,h.fil,h.conds,h.keys⟩
end
theorem GrpAt.sL2 {p:Nat→Prop} {w:World} {cs:List Value} {x:Int×CK×Pay} (h:GrpAt p w cs x):∃ ad cd a3 c3 a4 c4 a5 c5,cs=[.int .i64 x.1,.int .i64 x.2.1.1,.slice ad x.2.1.2.length cd,.int .i64 x.2.2.n,.slice a3 x.2.2.sums.length c3,.slice a4 x.2.2.mins.length c4,.slice a5 x.2.2.maxs.length c5]∧ValsAt p w (.slice ad x.2.1.2.length cd) (x.2.1.2.map Tess.valOf)∧RowsAt 2 wideF p w (.slice a3 x.2.2.sums.length c3) x.2.2.sums∧RowsAt 1 intF p w (.slice a4 x.2.2.mins.length c4) x.2.2.mins:=by
 obtain ⟨vd,vs,vm,vx,rfl,h1,h2⟩:=h
 obtain ⟨ad,cd,rfl⟩:=h1.shape
 have h3:=h2.sums
 have h4:=h2.mins
 obtain ⟨a3,c3,rfl⟩:=h2.sums.shape
 obtain ⟨a4,c4,rfl⟩:=h2.mins.shape
 obtain ⟨a5,c5,rfl⟩:=h2.maxs.shape
 rw [List.length_map] at h1 ⊢
 exact ⟨_,_,_,_,_,_,_,_,rfl,h1,h3,h4⟩
theorem mvO (l:List Tess.DV):(l.map Tess.valOf).map Tess.Val.c=l:=by
 rw [List.map_map]
 exact (List.map_congr_left fun x _=>Tess.c_valOf x).trans (List.map_id l)
end Go.Proofs.YtaddkkkchkdgkaaGreatDoor
namespace Go.Proofs.YtaddkkkchkdgkaaGreatDoor
open Go.RowKit Go.Sort
open Tess (Fil Que CK Pay CelsOk groupsP)
theorem gDe (l:List Int) (m:Nat) (h:m < l.length):l[m]=l.getD m 0:=by simp [List.getD_eq_getElem?_getD,List.getElem?_eq_getElem h]
structure GI (p:Nat→Prop) (w:World) (M N:Nat) (x:Grp) (b o:Nat) (ad:Option Addr) (cd:Nat) (a3:Option Addr) (c3:Nat) (a4:Option Addr) (c4:Nat):Prop where
 lt:b < w.heap.size
 time:w.cell? ⟨b,o + 1,none⟩=some (.int .i64 x.2.1.1)
 key:w.cell? ⟨b,o + 2,none⟩=some (.slice ad N cd)
 n:w.cell? ⟨b,o + 3,none⟩=some (.int .i64 x.2.2.n)
 sums:w.cell? ⟨b,o + 4,none⟩=some (.slice a3 M c3)
 mins:w.cell? ⟨b,o + 5,none⟩=some (.slice a4 M c4)
 vals:ValsAt p w (.slice ad N cd) (x.2.1.2.map Tess.valOf)
 sum:∀ m < M,∃ bs os,a3=some ⟨bs,os,none⟩∧bs < w.heap.size∧w.cell? ⟨bs,os + m * 2,none⟩=some (.int .i64 (wHi (x.2.2.sums.getD m 0)))∧w.cell? ⟨bs,os + m * 2 + 1,none⟩=some (.int .u64 (wLo (x.2.2.sums.getD m 0)))
 min:∀ m < M,∃ bm om,a4=some ⟨bm,om,none⟩∧bm < w.heap.size∧w.cell? ⟨bm,om + m,none⟩=some (.int .i64 (x.2.2.mins.getD m 0))
theorem GI.later {p:Nat→Prop} {w w':World} {M N:Nat} {x:Grp} {b o:Nat} {ad:Option Addr} {cd:Nat} {a3:Option Addr} {c3:Nat} {a4:Option Addr} {c4:Nat} (h:GI p w M N x b o ad cd a3 c3 a4 c4) (hb:Below w.heap.size w w'):GI p w' M N x b o ad cd a3 c3 a4 c4 where
 lt:=Nat.lt_of_lt_of_le h.lt hb.size
 time:=(hb.cell (p:=⟨b,o + 1,none⟩) h.lt).trans h.time
 key:=(hb.cell (p:=⟨b,o + 2,none⟩) h.lt).trans h.key
 n:=(hb.cell (p:=⟨b,o + 3,none⟩) h.lt).trans h.n
 sums:=(hb.cell (p:=⟨b,o + 4,none⟩) h.lt).trans h.sums
 mins:=(hb.cell (p:=⟨b,o + 5,none⟩) h.lt).trans h.mins
 vals:=h.vals.ag (Ag.new p hb)
 sum m hm:=by
  obtain ⟨bs,os,e,h1,h2,h3⟩:=h.sum m hm
  exact ⟨bs,os,e,Nat.lt_of_lt_of_le h1 hb.size,(hb.cell (p:=⟨bs,os + m * 2,none⟩) h1).trans h2,(hb.cell (p:=⟨bs,os + m * 2 + 1,none⟩) h1).trans h3⟩
 min m hm:=by
  obtain ⟨bm,om,e,h1,h2⟩:=h.min m hm
  exact ⟨bm,om,e,Nat.lt_of_lt_of_le h1 hb.size,(hb.cell (p:=⟨bm,om + m,none⟩) h1).trans h2⟩
theorem go2 {p:Nat→Prop} {w:World} {v:Value} {M N:Nat} {G:List Grp} (h:GrpsAt p w v G) (hok:∀ y ∈ G,GrpOk M y) (hkey:∀ y ∈ G,y.2.1.2.length=N):∃ a c,v = .slice a G.length c∧G.length≤9223372036854775807∧∀ k (hk:k < G.length),∃ b off,a=some ⟨b,off,none⟩∧∃ ad cd a3 c3 a4 c4,GI p w M N G[k] b (off + k * 7) ad cd a3 c3 a4 c4:=by
 obtain ⟨a,c,rfl,_,hl,_,hc⟩:=ListAt.open h
 refine ⟨a,c,rfl,by unfold maxLen at hl;omega,fun k hk => ?_⟩
 obtain ⟨b,off,rfl,hb,_,cs,_,hR,Aa⟩:=hc k hk
 obtain ⟨ad,cd,a3,c3,a4,c4,a5,c5,rfl,h1,h2,h3⟩:=hR.sL2
 have ho:=hok _ (List.getElem_mem hk)
 have Ab:=hkey _ (List.getElem_mem hk)
 have hs:=ho.pay.len.1
 have hm:=ho.pay.len.2.1
 have e1:=Aa 1 (by omega)
 have e2:=Aa 2 (by omega)
 have e3:=Aa 3 (by omega)
 have e4:=Aa 4 (by omega)
 have e5:=Aa 5 (by omega)
 simp only [List.getElem?_cons_zero,List.getElem?_cons_succ] at e1 e2 e3 e4 e5
 rw [Ab] at e2 h1
 rw [hs] at e4
 rw [hm] at e5
 refine ⟨b,off,rfl,ad,cd,a3,c3,a4,c4,⟨hb,e1,e2,e3,e4,e5,h1,fun m hm' => ?_,fun m hm' => ?_⟩⟩
 ·obtain ⟨bs,os,e,q1,q2,q3⟩:=h2.num2 (k:=m) (by omega)
  rw [gDe] at q2 q3
  exact ⟨bs,os,e,q1,q2,q3⟩
 ·obtain ⟨bm,om,e,q1,q2⟩:=h3.num1 (k:=m) (by omega)
  rw [gDe] at q2
  exact ⟨bm,om,e,q1,q2⟩
end Go.Proofs.YtaddkkkchkdgkaaGreatDoor
