/- Joined by mergeQ.py: Q23p, Q33p, Q37p, Q38p, Q15p -/
import Derived.Test.YtbbgjjjeecfnoaaGreatDoorXPC
import Derived.Lib.ParseIntBTie
import Derived.Test.YtbbgjjjeecfnoaaGreatDoorXPB
import Derived.Lib.ItoaNum
namespace Tess
open Go
namespace Tok
theorem whileL_good (p:Nat→UInt8→Bool) (l:List UInt8):∀ i j (h:j < whileL p i l),p (i + j) (l[j]'(Nat.lt_of_lt_of_le h (whileL_le p l i)))=true:=by
 induction l with
 | nil=>intro i j h;exact absurd h (Nat.not_lt_zero _)
 | cons c r ih=>
   intro i j h
   have e:whileL p i (c :: r)=if p i c then 1 + whileL p (i + 1) r else 0:=rfl
   cases hp:p i c with
   | false=>rw [e,hp] at h;exact absurd h (Nat.not_lt_zero _)
   | true=>
     rw [e,hp] at h
     cases j with
     | zero=>exact hp
     | succ j=>
       have:=ih (i + 1) j (by simp at h;omega)
       rw [show i + (j + 1)=i + 1 + j by omega]
       simpa using this
theorem digVal_fold (l:List UInt8) (a:Nat):a * 10 ^ l.length≤l.foldl (fun a c=>10 * a + (c.toNat - 48)) a:=by
 induction l generalizing a with
 | nil=>simp
 | cons c r ih=>
   rw [List.foldl_cons,List.length_cons,Nat.pow_succ]
   refine Nat.le_trans ?_ (ih _)
   rw [Nat.mul_comm (10 ^ r.length) 10,← Nat.mul_assoc]
   exact Nat.mul_le_mul_right _ (by omega)
theorem fold_le (l:List UInt8) (a:Nat):a≤l.foldl (fun a c=>10 * a + (c.toNat - 48)) a:=by
 refine Nat.le_trans ?_ (digVal_fold l a)
 exact Nat.le_mul_of_pos_right _ (Nat.pow_pos (by decide))
theorem parseM_digits (l:List UInt8) (h:l.all isDig=true):∀ acc,acc≤18446744073709551615→Lib.parseUintM 18446744073709551615 acc l =
  if l.foldl (fun a c=>10 * a + (c.toNat - 48)) acc≤18446744073709551615 then .ok (l.foldl (fun a c=>10 * a + (c.toNat - 48)) acc) else .range:=by
 induction l with
 | nil=>intro acc ha;rw [if_pos (by simpa using ha)];rfl
 | cons c r ih=>
   intro acc ha
   rw [List.all_cons,Bool.and_eq_true] at h
   have hc:=isDig_range h.1
   rw [List.foldl_cons]
   have hf:=fold_le r (10 * acc + (c.toNat - 48))
   unfold Lib.parseUintM
   rw [if_pos ⟨by omega,by omega⟩]
   by_cases h1:1844674407370955162≤acc
   ·rw [if_pos h1,if_neg (by omega)]
   ·rw [if_neg h1]
    by_cases h2:18446744073709551615 < acc * 10 + (c.toNat - 48)
    ·rw [if_pos h2,if_neg (by omega)]
    ·rw [if_neg h2,Nat.mul_comm acc 10,ih h.2 _ (by omega)]
theorem parseB_digits (l:List UInt8) (h:l.all isDig=true) (hn:l≠[]):Lib.parseUintB 64 l=if digVal l≤18446744073709551615 then .ok (digVal l) else .range:=by
 unfold Lib.parseUintB
 rw [if_neg hn,show (2:Nat) ^ 64 - 1=18446744073709551615 by decide]
 exact parseM_digits l h 0 (by decide)
def intOf (e:Lib.NumEnd Int):Option Int:=match e with
 | .ok v=>some v
 | _=>none
theorem signed_int (v:Nat):intOf (Lib.signedC 9223372036854775808 (if v≤18446744073709551615 then .ok v else .range))=if v≤9223372036854775808 then some (-(v:Int)) else none:=by
 by_cases h2:v≤9223372036854775808
 ·rw [if_pos (show v≤18446744073709551615 by omega),if_pos h2]
  simp only [Lib.signedC,if_neg (show ¬ 9223372036854775808 < v by omega)]
  rfl
 ·rw [if_neg h2]
  by_cases h1:v≤18446744073709551615
  ·rw [if_pos h1]
   simp only [Lib.signedC,if_pos (show 9223372036854775808 < v by omega)]
   rfl
  ·rw [if_neg h1];rfl
theorem signless_int (v:Nat):intOf (Lib.signlessC 9223372036854775808 (if v≤18446744073709551615 then .ok v else .range))=if v≤9223372036854775807 then some (v:Int) else none:=by
 by_cases h2:v≤9223372036854775807
 ·rw [if_pos (show v≤18446744073709551615 by omega),if_pos h2]
  simp only [Lib.signlessC,if_neg (show ¬ 9223372036854775808≤v by omega)]
  rfl
 ·rw [if_neg h2]
  by_cases h1:v≤18446744073709551615
  ·rw [if_pos h1]
   simp only [Lib.signlessC,if_pos (show 9223372036854775808≤v by omega)]
   rfl
  ·rw [if_neg h1];rfl
theorem parse_same (l:List UInt8) (h:∀ j (hj:j < l.length),pNum j l[j]=true):intOf (Lib.parseIntB 64 l)=parseInt l:=by
 have e63:(2:Nat) ^ (64 - 1)=9223372036854775808:=by decide
 cases l with
 | nil=>rfl
 | cons c r=>
   have hr:r.all isDig=true:=by
    rw [List.all_eq_true]
    intro x hx
    obtain ⟨j,hj,rfl⟩:=List.getElem_of_mem hx
    have:=h (j + 1) (by simpa using hj)
    simpa [pNum] using this
   by_cases hc:c=45
   ·subst hc
    rw [Lib.parseIntB_minus]
    show _=(digitsOf r).bind _
    unfold digitsOf
    cases r with
    | nil=>rfl
    | cons d r=>
      rw [hr,parseB_digits _ hr (by simp),e63,signed_int]
      rfl
   ·have h0:=h 0 (by simp)
    have hd:isDig c=true:=by
     unfold pNum at h0
     simp only [List.getElem_cons_zero,BEq.rfl,Bool.true_and,Bool.or_eq_true,beq_iff_eq] at h0
     exact h0.resolve_right hc
    have hc2:=isDig_range hd
    have hall:(c :: r).all isDig=true:=by rw [List.all_cons,hd,hr];rfl
    rw [Lib.parseIntB_plain 64 c r (by omega) (by omega),parseB_digits _ hall (by simp),e63,signless_int]
    show _=if c=45 then _ else _
    rw [if_neg hc]
    unfold digitsOf
    rw [hall]
    rfl
theorem num_same (l:List UInt8):intOf (Lib.parseIntB 64 (l.take (whileL pNum 0 l)))=parseInt (l.take (whileL pNum 0 l)):=
 parse_same _ fun j hj=>by
  rw [List.getElem_take]
  have:=whileL_good pNum l 0 j (by rw [List.length_take] at hj;omega)
  rwa [Nat.zero_add] at this
end Tok
end Tess
namespace Tess
open Go
namespace Tok
theorem strF_le:∀ (f i:Nat) (acc l:List UInt8) (sz:Nat) (t:List UInt8),strF f i acc l=some (sz,t)→i < sz∧sz≤i + l.length∧t.length≤acc.length + l.length
 | 0,_,_,_,_,_,h=>by cases h
 | _ + 1,_,_,[],_,_,h=>by cases h
 | f + 1,i,acc,c :: r,sz,t,h=>by
   have h:(if c=34 then some (i + 1,acc) else if c.toNat < 32∨126 < c.toNat then none else if c=92 then (if (escaped r).2=0 then none else strF f (i + 1 + (escaped r).2) (acc ++ [(escaped r).1]) (r.drop (escaped r).2)) else strF f (i + 1) (acc ++ [c]) r)=some (sz,t):=h
   split at h
   ·cases h;simp only [List.length_cons];omega
   ·split at h
    ·cases h
    ·split at h
     ·split at h
      ·cases h
      ·have:=strF_le f _ _ _ _ _ h
       have he:=escaped_le r
       simp only [List.length_drop,List.length_append,List.length_nil,List.length_cons] at this ⊢
       omega
     ·have:=strF_le f _ _ _ _ _ h
      simp only [List.length_append,List.length_nil,List.length_cons] at this ⊢
      omega
theorem parseInt_in {l:List UInt8} {n:Int} (h:parseInt l=some n):l≠[] ∧ -9223372036854775808≤n∧n≤9223372036854775807:=by
 unfold parseInt at h
 split at h
 ·refine ⟨by simp,?_⟩
  split at h
  ·obtain ⟨v,_,hv⟩:=Option.bind_eq_some_iff.1 h
   split at hv
   ·cases hv;omega
   ·cases hv
  ·obtain ⟨v,_,hv⟩:=Option.bind_eq_some_iff.1 h
   split at hv
   ·cases hv;omega
   ·cases hv
 ·cases h
structure Bd (n:Nat) (t:Tok):Prop where
 k:t.kind≤6
 s:t.size≤n
 x:t.text.size≤n
 l : -9223372036854775808≤t.n
 u:t.n≤9223372036854775807
 p:t.kind≠6→t.kind≠0→0 < t.size
theorem bd_of {n k p z:Nat} {t:ByteArray} {m:Int} (h1:k≤6) (h2:z≤n) (h3:t.size≤n) (h4 : -9223372036854775808≤m) (h5:m≤9223372036854775807) (h6:k≠6→k≠0→0 < z):Bd n ⟨k,p,z,t,m⟩:=⟨h1,h2,h3,h4,h5,h6⟩
theorem size_ofL (l:List UInt8):(ofL l).size=l.length:=by
 show l.toArray.size=l.length
 simp
theorem read_bd (l:List UInt8):Bd l.length (read l):=by
 unfold read
 split
 ·exact bd_of (by decide) (Nat.le_refl _) (Nat.le_refl _) (by decide) (by decide) (fun h=>absurd rfl h)
 ·rename_i c r
  have hw:=whileL_le pWord (c :: r) 0
  split
  ·rename_i h0
   exact bd_of (by decide) hw (by rw [size_ofL,List.length_take];omega) (by decide) (by decide) (fun _ _=>h0)
  ·split
   ·have:=whileL_le pName r 0
    exact bd_of (by decide) (by simp only [List.length_cons];omega) (by rw [size_ofL,List.length_take,List.length_cons];omega) (by decide) (by decide) (fun _ _=>Nat.succ_pos _)
   ·split
    ·rename_i sz t hs
     split at hs
     ·have:=strF_le _ _ _ _ _ _ hs
      simp only [List.length_nil] at this
      exact bd_of (by decide) (by simp only [List.length_cons];omega) (by rw [size_ofL,List.length_cons];omega) (by decide) (by decide) (fun _ _=>by omega)
     ·cases hs
    ·split
     ·rename_i sz n hn
      unfold number at hn
      obtain ⟨m,hm,he⟩:=Option.map_eq_some_iff.1 hn
      simp only [Prod.mk.injEq] at he
      obtain ⟨rfl,rfl⟩:=he
      obtain ⟨h1,h2,h3⟩:=parseInt_in hm
      have:=whileL_le pNum (c :: r) 0
      refine bd_of (by decide) this (Nat.zero_le _) h2 h3 (fun _ _ => ?_)
      rcases Nat.eq_zero_or_pos (whileL pNum 0 (c :: r)) with h0 | h0
      ·rw [h0] at h1;exact absurd rfl h1
      ·exact h0
     ·split
      ·rename_i x hx
       have hp:=List.find?_some hx
       have hm:=List.mem_of_find?_eq_some hx
       have hle:x.length≤(c :: r).length:=(List.isPrefixOf_iff_prefix.1 hp).length_le
       have hpos:0 < x.length:=by
        have:∀ y ∈ signs,0 < y.length:=by decide
        exact this x hm
       exact bd_of (by decide) hle (by rw [size_ofL];exact hle) (by decide) (by decide) (fun _ _=>hpos)
      ·exact bd_of (by decide) (Nat.zero_le _) (Nat.zero_le _) (by decide) (by decide) (fun _ h=>absurd rfl h)
theorem tokF_step (f a:Nat) (l:List UInt8):tokF (f + 1) a l=if (read (l.drop (whileL pBlank 0 l))).kind=6∨(read (l.drop (whileL pBlank 0 l))).kind=0 then [{ read (l.drop (whileL pBlank 0 l)) with pos:=a + whileL pBlank 0 l }] else { read (l.drop (whileL pBlank 0 l)) with pos:=a + whileL pBlank 0 l } :: tokF f (a + whileL pBlank 0 l + (read (l.drop (whileL pBlank 0 l))).size) (l.drop (whileL pBlank 0 l + (read (l.drop (whileL pBlank 0 l))).size)):=rfl
end Tok
end Tess
namespace Tess
open Go
namespace Tok
theorem Bd.more {n m:Nat} {t:Tok} (h:Bd n t) (hm:n≤m) (p:Nat):Bd m { t with pos:=p }:=⟨h.k,Nat.le_trans h.s hm,Nat.le_trans h.x hm,h.l,h.u,h.p⟩
theorem tokF_bds:∀ (f a:Nat) (l:List UInt8),(tokF f a l).length≤l.length + 1∧∀ t ∈ tokF f a l,Bd l.length t
 | 0,_,_=>⟨Nat.zero_le _,fun t h=>by simp [tokF] at h⟩
 | f + 1,a,l=>by
   rw [tokF_step]
   have hb:=read_bd (l.drop (whileL pBlank 0 l))
   have hle:(l.drop (whileL pBlank 0 l)).length≤l.length:=by rw [List.length_drop];omega
   generalize read (l.drop (whileL pBlank 0 l))=t at *
   split
   ·refine ⟨by simp,fun x hx=>by rw [List.mem_singleton] at hx;rw [hx];exact hb.more hle _⟩
   ·rename_i hk
    have h1:t.kind≠6:=fun e=>hk (Or.inl e)
    have h2:t.kind≠0:=fun e=>hk (Or.inr e)
    have hs:=hb.p h1 h2
    have hz:=hb.s
    obtain ⟨i1,i2⟩:=tokF_bds f (a + whileL pBlank 0 l + t.size) (l.drop (whileL pBlank 0 l + t.size))
    rw [List.length_drop] at i1 hz
    refine ⟨by rw [List.length_cons];omega,fun x hx => ?_⟩
    rcases List.mem_cons.1 hx with rfl | hx
    ·exact hb.more hle _
    ·have:=i2 x hx
     exact this.more (by rw [List.length_drop];omega) x.pos
theorem toks_len (s:ByteArray):(toks s).length≤s.size + 1:=by
 have:=(tokF_bds (s.size + 1) 0 s.data.toList).1
 rw [Array.length_toList] at this
 exact this
theorem toks_bd (s:ByteArray):∀ t ∈ toks s,Bd s.size t∧t.pos≤s.size:=by
 intro t ht
 have h1:=(tokF_bds (s.size + 1) 0 s.data.toList).2 t ht
 have h2:=tokF_pos s.size s.data.toList (by rw [Array.length_toList];exact Nat.le_refl _) (s.size + 1) 0 t ht
 rw [Array.length_toList] at h1 h2
 exact ⟨h1,by simpa using h2⟩
end Tok
end Tess
namespace Tess
open Go
namespace Wr
theorem digN_dec:∀ (f n:Nat) (acc:List UInt8),n < 10 ^ f→0 < f→digN f n acc=Lib.decDigits n ++ acc
 | 0,_,_,_,h=>absurd h (Nat.lt_irrefl 0)
 | f + 1,n,acc,hn,_=>by
   show (if n < 10 then UInt8.ofNat (48 + n) :: acc else digN f (n / 10) (UInt8.ofNat (48 + n % 10) :: acc))=_
   by_cases h:n < 10
   ·rw [if_pos h,Lib.decDigits,dif_pos h];rfl
   ·rw [if_neg h,Lib.decDigits,dif_neg h]
    have h10:10 ^ (f + 1)=10 ^ f * 10:=Nat.pow_succ _ _
    have hf:0 < f:=by
     rcases Nat.eq_zero_or_pos f with e | e
     ·subst e;simp at hn;omega
     ·exact e
    rw [digN_dec f (n / 10) _ (by omega) hf]
    simp
theorem itoa_digits {n:Int} (h1 : -9223372036854775808≤n) (h2:n≤9223372036854775807):Lib.itoa n=digits n:=by
 have h20:(10:Nat) ^ 20=100000000000000000000:=by decide
 unfold Lib.itoa digits
 rw [digN_dec 20 n.natAbs [] (by rw [h20];omega) (by decide),List.append_nil]
 by_cases h:n < 0
 ·rw [if_pos h,if_pos h]
 ·rw [if_neg h,if_neg h,show n.toNat=n.natAbs by omega]
theorem kindW_of {x:ByteArray} {k:Nat} (h:Prs.kindOf x=some k):kindW (k:Nat)=some x:=by
 unfold Prs.kindOf at h
 split at h
 ·rename_i e;cases h;rw [e];rfl
 split at h
 ·rename_i e;cases h;rw [e];rfl
 split at h
 ·rename_i e;cases h;rw [e];rfl
 split at h
 ·rename_i e;cases h;rw [e];rfl
 split at h
 ·rename_i e;cases h;rw [e];rfl
 ·cases h
theorem kindW_is {K:Int} {x:ByteArray} (h:kindW K=some x):∃ k:Nat,K=k∧Prs.kindOf x=some k:=by
 unfold kindW at h
 split at h
 ·rename_i e;cases h;exact ⟨1,e,by decide⟩
 split at h
 ·rename_i e;cases h;exact ⟨2,e,by decide⟩
 split at h
 ·rename_i e;cases h;exact ⟨3,e,by decide⟩
 split at h
 ·rename_i e;cases h;exact ⟨4,e,by decide⟩
 split at h
 ·rename_i e;cases h;exact ⟨5,e,by decide⟩
 ·cases h
end Wr
end Tess
namespace Tess
open Go
namespace Tok
structure TG (t:Tok):Prop where
 w:t.kind=1→isWordB t.text=true∧t.size=(Wr.bs t.text).length
 d:t.kind=2→isNameB t.text=true∧t.size=(Wr.bs t.text).length + 1
 n:t.kind=3 → -9223372036854775808≤t.n∧t.n≤9223372036854775807∧(Wr.digits t.n).length≤t.size
 s:t.kind=4→(Wr.quoted t.text).length≤t.size
 o:t.kind=5→Wr.bs t.text ∈ signs∧t.size=(Wr.bs t.text).length
theorem bs_ofL (l:List UInt8):Wr.bs (ofL l)=l:=by
 show l.toArray.toList=l
 simp
theorem digN_len (f:Nat):∀ (m v:Nat) (acc:List UInt8),0 < m→v < 10 ^ m→(Wr.digN f v acc).length≤m + acc.length:=by
 induction f with
 | zero=>intro m v acc _ _;exact Nat.le_add_left _ _
 | succ f ih=>
   intro m v acc hm hv
   show (if v < 10 then UInt8.ofNat (48 + v) :: acc else Wr.digN f (v / 10) (UInt8.ofNat (48 + v % 10) :: acc)).length≤_
   by_cases h:v < 10
   ·rw [if_pos h,List.length_cons];omega
   ·rw [if_neg h]
    obtain ⟨m,rfl⟩:∃ k,m=k + 1:=⟨m - 1,by omega⟩
    have h10:10 ^ (m + 1)=10 ^ m * 10:=Nat.pow_succ _ _
    rcases Nat.eq_zero_or_pos m with e | e
    ·subst e;simp at hv;omega
    ·have:=ih m (v / 10) (UInt8.ofNat (48 + v % 10) :: acc) e (by omega)
     rw [List.length_cons] at this
     omega
theorem quote_len (c:UInt8):(Wr.quoteB c).length≤4:=by
 unfold Wr.quoteB
 split
 ·simp
 ·split <;> simp
theorem TG.pos {t:Tok} (h:TG t) (p:Nat):TG { t with pos:=p }:=⟨h.w,h.d,h.n,h.s,h.o⟩
def wt (t:Tok):Nat:=if t.kind=6∨t.kind=0 then 0 else t.size + 1
def wts (ts:List Tok):Nat:=(ts.map wt).sum
end Tok
end Tess
