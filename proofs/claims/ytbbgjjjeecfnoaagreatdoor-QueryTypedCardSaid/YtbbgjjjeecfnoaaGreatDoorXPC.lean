/- Joined by mergeQ.py: Q10p, Q11p, Q12p, Q13p, Q14p -/
import Derived.Test.YtbbgjjjeecfnoaaGreatDoorXPB
namespace Tess
open Go
namespace Tok
structure Rt where
 kind:Nat
 txt:List UInt8
 text:ByteArray
 n:Int
def Rt.tok (x:Rt):Tok:=⟨x.kind,0,x.txt.length,x.text,x.n⟩
structure Rt.Ok (x:Rt):Prop where
 k:x.kind≠6∧x.kind≠0
 a:x.txt.head? ≠ some 32
 e:read x.txt=x.tok
 b:∀ y,read (x.txt ++ 32 :: y)=x.tok
theorem Rt.Ok.ne {x:Rt} (h:x.Ok):x.txt≠[]:=by
 intro e
 have h2:=h.e
 rw [e] at h2
 exact h.k.1 (congrArg Tok.kind h2).symm
def endT:Tok:=⟨6,0,0,ByteArray.empty,0⟩
theorem blank_none {l:List UInt8} (h:l.head? ≠ some 32):whileL pBlank 0 l=0:=by
 cases l with
 | nil=>rfl
 | cons c r=>
   show (if pBlank 0 c then _ else 0)=0
   rw [if_neg]
   intro e
   apply h
   have:c=32:=by simpa [pBlank] using e
   rw [this];rfl
theorem tokF_join (xs:List Rt) (h:∀ x ∈ xs,x.Ok):∀ (f at_:Nat),(Wr.join [32] (xs.map Rt.txt)).length < f→(tokF f at_ (Wr.join [32] (xs.map Rt.txt))).map (Prs.mv fun _=>0)=xs.map Rt.tok ++ [endT]:=by
 induction xs with
 | nil=>
   intro f at_ hf
   obtain ⟨f,rfl⟩:∃ g,f=g + 1:=⟨f - 1,by omega⟩
   rfl
 | cons x r ih=>
   intro f at_ hf
   obtain ⟨f,rfl⟩:∃ g,f=g + 1:=⟨f - 1,by omega⟩
   have hx:=h x List.mem_cons_self
   have hne:=hx.ne
   have hh:∀ y,(x.txt ++ y).head? ≠ some 32:=by
    intro y
    have:=hx.a
    cases ht:x.txt with
    | nil=>exact absurd ht hne
    | cons c l=>rw [ht] at this;exact this
   have hl:0 < x.txt.length:=List.length_pos_iff.2 hne
   cases r with
   | nil=>
     have ej:Wr.join [32] ([x].map Rt.txt)=x.txt:=rfl
     rw [ej] at hf ⊢
     obtain ⟨f,rfl⟩:∃ g,f=g + 1:=⟨f - 1,by omega⟩
     have b0:=blank_none hx.a
     rw [tokF]
     simp only [b0,List.drop_zero,hx.e,Nat.zero_add,Nat.add_zero]
     have ek:x.tok.kind=x.kind:=rfl
     have es:x.tok.size=x.txt.length:=rfl
     rw [if_neg (by rw [ek];exact fun h=>h.elim hx.k.1 hx.k.2),es,List.drop_length]
     rfl
   | cons y r=>
     have ej:Wr.join [32] ((x :: y :: r).map Rt.txt)=x.txt ++ 32 :: Wr.join [32] ((y :: r).map Rt.txt):=by
      show x.txt ++ [32] ++ Wr.join [32] ((y :: r).map Rt.txt)=_
      rw [List.append_assoc];rfl
     rw [ej] at hf ⊢
     rw [List.length_append,List.length_cons] at hf
     obtain ⟨f,rfl⟩:∃ g,f=g + 1:=⟨f - 1,by omega⟩
     have b0:=blank_none (hh (32 :: Wr.join [32] ((y :: r).map Rt.txt)))
     rw [tokF]
     simp only [b0,List.drop_zero,hx.b,Nat.zero_add,Nat.add_zero]
     have ek:x.tok.kind=x.kind:=rfl
     have es:x.tok.size=x.txt.length:=rfl
     rw [if_neg (by rw [ek];exact fun h=>h.elim hx.k.1 hx.k.2),es,List.drop_left]
     have:=tokF_ahead 1 f (at_ + x.txt.length) (Wr.join [32] ((y :: r).map Rt.txt))
     rw [show List.replicate 1 (32:UInt8) ++ Wr.join [32] ((y :: r).map Rt.txt)=32 :: Wr.join [32] ((y :: r).map Rt.txt) from rfl] at this
     rw [this,List.map_cons,ih (fun z hz=>h z (List.mem_cons_of_mem _ hz)) (f + 1) _ (by omega)]
     rfl
def wordR (w:ByteArray):Rt:=⟨1,Wr.bs w,w,0⟩
def isWordB (w:ByteArray):Bool := !(Wr.bs w).isEmpty && (Wr.bs w).all isLet
theorem whileL_all (p:Nat→UInt8→Bool) (l:List UInt8):∀ i,(∀ j (h:j < l.length),p (i + j) l[j]=true)→∀ y,(y=[]∨∃ z,y=32 :: z)→(∀ i,p i 32=false)→whileL p i (l ++ y)=l.length:=by
 induction l with
 | nil=>
   intro i _ y hy hp
   rcases hy with rfl | ⟨z,rfl⟩
   ·rfl
   ·show (if p i 32 then _ else 0)=0
    rw [hp];rfl
 | cons c r ih=>
   intro i h y hy hp
   show (if p i c then 1 + whileL p (i + 1) (r ++ y) else 0)=r.length + 1
   have h0:p i c=true:=h 0 (Nat.succ_pos _)
   rw [if_pos h0,ih (i + 1) (fun j hj=>by have:=h (j + 1) (by simpa using hj);rw [show i + 1 + j=i + (j + 1) by omega];exact this) y hy hp]
   omega
theorem ofL_bs (w:ByteArray):ofL (Wr.bs w)=w:=by
 apply ByteArray.ext
 show w.data.toList.toArray=w.data
 simp
theorem Rt.mk_ok {x:Rt} (hk:x.kind≠6∧x.kind≠0) (ha:x.txt.head? ≠ some 32) (h:∀ y,(y=[]∨∃ z,y=32 :: z)→read (x.txt ++ y)=x.tok):x.Ok:=
 ⟨hk,ha,by have:=h [] (Or.inl rfl);rwa [List.append_nil] at this,fun y=>h _ (Or.inr ⟨y,rfl⟩)⟩
theorem wordR_ok {w:ByteArray} (h:isWordB w=true):(wordR w).Ok:=by
 unfold isWordB at h
 rw [Bool.and_eq_true,Bool.not_eq_true',List.all_eq_true] at h
 obtain ⟨h1,h2⟩:=h
 have hw:=ofL_bs w
 unfold wordR
 generalize Wr.bs w=l at *
 cases l with
 | nil=>cases h1
 | cons c r=>
   refine Rt.mk_ok ⟨show (1:Nat)≠6 by decide,show (1:Nat)≠0 by decide⟩ ?_ ?_
   ·intro e
    have:c=32:=Option.some.inj e
    have:=h2 c List.mem_cons_self
    rename_i h;subst h
    exact absurd this (by decide)
   ·intro y hy
    have e:=whileL_all pWord (c :: r) 0 (fun j hj=>h2 _ (List.getElem_mem hj)) y hy pWord32
    have t:((c :: r) ++ y).take (c :: r).length=c :: r:=List.take_left
    show read (c :: (r ++ y))=_
    rw [List.cons_append] at e t
    simp only [read]
    rw [e,if_pos (by simp),t,hw]
    rfl
def nameR (w:ByteArray):Rt:=⟨2,36 :: Wr.bs w,w,0⟩
def isNameB (w:ByteArray):Bool := !(Wr.bs w).isEmpty && decide ((Wr.bs w).length≤20) && (match Wr.bs w with | c :: r=>isLet c && r.all (fun c=>isLet c || isDig c || c == 95) | []=>false)
theorem nameR_ok {w:ByteArray} (h:isNameB w=true):(nameR w).Ok:=by
 unfold isNameB at h
 rw [Bool.and_eq_true,Bool.and_eq_true,decide_eq_true_eq] at h
 obtain ⟨⟨_,h1⟩,h2⟩:=h
 have hw:=ofL_bs w
 unfold nameR
 generalize Wr.bs w=l at *
 cases l with
 | nil=>cases h2
 | cons c r=>
   simp only at h2
   rw [Bool.and_eq_true,List.all_eq_true] at h2
   refine Rt.mk_ok ⟨show (2:Nat)≠6 by decide,show (2:Nat)≠0 by decide⟩ (by simp) ?_
   intro y hy
   have e:=whileL_all pName (c :: r) 0 (fun j hj=>by
    unfold pName
    cases j with
    | zero=>simp [h2.1]
    | succ j=>
      have hj':j < r.length:=by simpa using hj
      have:=h2.2 r[j] (List.getElem_mem hj')
      simp only [List.getElem_cons_succ]
      rw [Bool.or_assoc] at this
      simpa using this) y hy pName32
   have t:((c :: r) ++ y).take (c :: r).length=c :: r:=List.take_left
   show read (36 :: ((c :: r) ++ y))=_
   have e0:whileL pWord 0 (36 :: ((c :: r) ++ y))=0:=rfl
   simp only [read]
   rw [e0,e,if_neg (by simp),if_pos ⟨by trivial,by simp,h1⟩,t,hw]
   rfl
def signR (w:ByteArray):Rt:=⟨5,Wr.bs w,w,0⟩
theorem signR_ok {w:ByteArray} (h:Wr.bs w ∈ signs):(signR w).Ok:=by
 have hw:=ofL_bs w
 unfold signR
 generalize Wr.bs w=l at *
 simp only [signs,List.mem_cons,List.not_mem_nil,or_false] at h
 have hs:∀ l:List UInt8,ofL l=w→l.head? ≠ some 32→(∀ y,(y=[]∨∃ z,y=32 :: z)→read (l ++ y)=⟨5,0,l.length,ofL l,0⟩)→(⟨5,l,w,0⟩:Rt).Ok:=by
  intro l hw ha h
  refine Rt.mk_ok ⟨show (5:Nat)≠6 by decide,show (5:Nat)≠0 by decide⟩ ha ?_
  intro y hy
  rw [h y hy,hw]
  rfl
 rcases h with rfl | rfl | rfl | rfl | rfl | rfl | rfl | rfl | rfl | rfl | rfl | rfl
 all_goals
  refine hs _ hw (by decide) ?_
  rintro y (rfl | ⟨z,rfl⟩) <;> rfl
end Tok
end Tess
namespace Tess
open Go
namespace Tok
theorem digVal_append (l:List UInt8) (c:UInt8):digVal (l ++ [c])=10 * digVal l + (c.toNat - 48):=by
 unfold digVal
 rw [List.foldl_append]
 rfl
theorem digit_toNat {n:Nat} (h:n < 10):(UInt8.ofNat (48 + n)).toNat=48 + n:=by
 rw [UInt8.toNat_ofNat']
 omega
theorem digit_is {n:Nat} (h:n < 10):isDig (UInt8.ofNat (48 + n))=true:=by
 unfold isDig
 rw [digit_toNat h]
 simp;omega
theorem digN_spec (f:Nat):∀ (n:Nat) (acc:List UInt8),n < 10 ^ f→0 < f→∃ ds,Wr.digN f n acc=ds ++ acc∧ds≠[]∧ds.all isDig=true∧digVal ds=n:=by
 induction f with
 | zero=>intro n acc _ h;exact absurd h (Nat.lt_irrefl 0)
 | succ f ih=>
   intro n acc hn _
   show ∃ ds,(if n < 10 then UInt8.ofNat (48 + n) :: acc else Wr.digN f (n / 10) (UInt8.ofNat (48 + n % 10) :: acc))=ds ++ acc∧_
   by_cases h:n < 10
   ·rw [if_pos h]
    refine ⟨[UInt8.ofNat (48 + n)],rfl,by simp,by show (isDig _ && true)=true;rw [digit_is h];rfl,?_⟩
    show 10 * 0 + ((UInt8.ofNat (48 + n)).toNat - 48)=n
    rw [digit_toNat h];omega
   ·rw [if_neg h]
    have hf:0 < f:=by
     rcases Nat.eq_zero_or_pos f with e | e
     ·subst e;simp at hn;omega
     ·exact e
    have h10:10 ^ (f + 1)=10 ^ f * 10:=Nat.pow_succ _ _
    obtain ⟨ds,e,h1,h2,h3⟩:=ih (n / 10) (UInt8.ofNat (48 + n % 10) :: acc) (by omega) hf
    have hm:n % 10 < 10:=Nat.mod_lt _ (by decide)
    refine ⟨ds ++ [UInt8.ofNat (48 + n % 10)],by rw [e];simp,by simp,?_,?_⟩
    ·rw [List.all_append,h2]
     show (true && (isDig _ && true))=true
     rw [digit_is hm];rfl
    ·rw [digVal_append,h3,digit_toNat hm];omega
def numR (n:Int):Rt:=⟨3,Wr.digits n,ByteArray.empty,n⟩
theorem digitsOf_some {l:List UInt8} (h1:l≠[]) (h2:l.all isDig=true):digitsOf l=some (digVal l):=by
 unfold digitsOf
 rw [if_neg]
 rw [h2]
 cases l with
 | nil=>exact absurd rfl h1
 | cons c r=>simp
theorem digits_spec {n:Int} (h1 : -9223372036854775808≤n) (h2:n≤9223372036854775807):∃ ds:List UInt8,ds≠[]∧ds.all isDig=true∧((n < 0∧Wr.digits n=45 :: ds)∨(0≤n∧Wr.digits n=ds))∧parseInt (Wr.digits n)=some n:=by
 have h20:(10:Nat) ^ 20=100000000000000000000:=by decide
 obtain ⟨ds,e,a1,a2,a3⟩:=digN_spec 20 n.natAbs [] (by rw [h20];omega) (by decide)
 rw [List.append_nil] at e
 refine ⟨ds,a1,a2,?_,?_⟩
 ·unfold Wr.digits
  rw [e]
  by_cases h:n < 0
  ·rw [if_pos h];exact Or.inl ⟨h,rfl⟩
  ·rw [if_neg h];exact Or.inr ⟨by omega,rfl⟩
 ·unfold Wr.digits
  rw [e]
  by_cases h:n < 0
  ·rw [if_pos h]
   show (if (45:UInt8)=45 then (digitsOf ds).bind (fun v=>if v≤9223372036854775808 then some (-(v:Int)) else none) else (digitsOf (45 :: ds)).bind fun v=>if v≤9223372036854775807 then some (v:Int) else none)=_
   rw [if_pos rfl,digitsOf_some a1 a2,a3]
   show (if n.natAbs≤9223372036854775808 then some (-((n.natAbs:Nat):Int)) else none)=_
   rw [if_pos (by omega)]
   congr 1;omega
  ·rw [if_neg h]
   cases ds with
   | nil=>exact absurd rfl a1
   | cons c r=>
     have hc:c≠45:=by
      intro e
      rw [List.all_cons,Bool.and_eq_true,e] at a2
      exact absurd a2.1 (by decide)
     show (if c=45 then (digitsOf r).bind (fun v=>if v≤9223372036854775808 then some (-(v:Int)) else none) else (digitsOf (c :: r)).bind fun v=>if v≤9223372036854775807 then some (v:Int) else none)=_
     rw [if_neg hc,digitsOf_some a1 a2,a3]
     show (if n.natAbs≤9223372036854775807 then some ((n.natAbs:Nat):Int) else none)=_
     rw [if_pos (by omega)]
     congr 1;omega
theorem isDig_range {c:UInt8} (h:isDig c=true):48≤c.toNat∧c.toNat≤57:=by
 unfold isDig at h
 simpa using h
theorem numR_ok {n:Int} (h1 : -9223372036854775808≤n) (h2:n≤9223372036854775807):(numR n).Ok:=by
 obtain ⟨ds,a1,a2,a3,a4⟩:=digits_spec h1 h2
 unfold numR
 have hd:∀ j (h:j < ds.length),isDig ds[j]=true:=fun j h=>List.all_eq_true.1 a2 _ (List.getElem_mem h)
 obtain ⟨c,r,hcr,hp,hc⟩:∃ c r,Wr.digits n=c :: r∧(∀ j (h:j < (c :: r).length),pNum (0 + j) (c :: r)[j]=true)∧(c.toNat=45∨(48≤c.toNat∧c.toNat≤57)):=by
  rcases a3 with ⟨_,e⟩ | ⟨_,e⟩
  ·refine ⟨45,ds,e,?_,Or.inl rfl⟩
   intro j hj
   cases j with
   | zero=>rfl
   | succ j=>
     have:=hd j (by simpa using hj)
     simp [pNum,this]
  ·cases ds with
   | nil=>exact absurd rfl a1
   | cons c r=>
     refine ⟨c,r,e,?_,Or.inr (isDig_range (hd 0 (by simp)))⟩
     intro j hj
     have:=hd j hj
     simp [pNum,this]
 rw [hcr] at a4 ⊢
 have hc':∀ k:UInt8,k.toNat≠45→¬ (48≤k.toNat∧k.toNat≤57)→c≠k:=by
  intro k h1 h2 e
  rw [e] at hc
  rcases hc with h | h
  ·exact h1 h
  ·exact h2 h
 refine Rt.mk_ok ⟨show (3:Nat)≠6 by decide,show (3:Nat)≠0 by decide⟩ ?_ ?_
 ·intro e
  exact hc' 32 (by decide) (by decide) (Option.some.inj e)
 ·intro y hy
  have e:=whileL_all pNum (c :: r) 0 hp y hy pNum32
  have t:((c :: r) ++ y).take (c :: r).length=c :: r:=List.take_left
  have e0:whileL pWord 0 (c :: (r ++ y))=0:=by
   show (if pWord 0 c then _ else 0)=0
   rw [if_neg]
   intro h
   have h:97≤c.toNat∧c.toNat≤122:=by simpa [pWord,isLet] using h
   omega
  have en:number (c :: (r ++ y))=some ((c :: r).length,n):=by
   unfold number
   rw [List.cons_append] at e t
   rw [e,t,a4]
   rfl
  show read (c :: (r ++ y))=_
  simp only [read]
  rw [e0,if_neg (Nat.lt_irrefl 0),if_neg (by rintro ⟨h,_⟩;exact hc' 36 (by decide) (by decide) h),if_neg (hc' 34 (by decide) (by decide)),en]
  rfl
def strR (s:ByteArray):Rt:=⟨4,Wr.quoted s,s,0⟩
theorem hex_back:∀ n,n < 16→hexOf (Wr.hexD n)=some n:=by decide
theorem ofNat_parts (c:UInt8):UInt8.ofNat (16 * (c.toNat / 16) + c.toNat % 16)=c:=by
 rw [Nat.div_add_mod]
 exact UInt8.ofNat_toNat
theorem strF_back (b:List UInt8):∀ (f i:Nat) (acc y:List UInt8),(b.flatMap Wr.quoteB).length < f→strF f i acc (b.flatMap Wr.quoteB ++ 34 :: y)=some (i + (b.flatMap Wr.quoteB).length + 1,acc ++ b):=by
 induction b with
 | nil=>
   intro f i acc y hf
   obtain ⟨f,rfl⟩:∃ g,f=g + 1:=⟨f - 1,by omega⟩
   show some (i + 1,acc)=_
   simp
 | cons c b ih=>
   intro f i acc y hf
   rw [List.flatMap_cons,List.length_append] at hf
   rw [List.flatMap_cons,List.length_append,List.append_assoc]
   by_cases h1:c=34∨c=92
   ·have hq:Wr.quoteB c=[92,c]:=by unfold Wr.quoteB;rw [if_pos h1]
    rw [hq] at hf ⊢
    simp only [List.length_cons,List.length_nil] at hf
    obtain ⟨f,rfl⟩:∃ g,f=g + 1:=⟨f - 1,by omega⟩
    have he:escaped (c :: (b.flatMap Wr.quoteB ++ 34 :: y))=(c,1):=by
     show (if c=34∨c=92 then (c,1) else _)=_
     rw [if_pos h1]
    show strF (f + 1) i acc (92 :: c :: (b.flatMap Wr.quoteB ++ 34 :: y))=_
    rw [strF,if_neg (by decide),if_neg (by decide),if_pos rfl,he]
    simp only [List.drop_succ_cons,List.drop_zero]
    rw [if_neg (by decide),ih f _ _ y (by omega)]
    simp;omega
   ·by_cases h2:c.toNat < 32∨126 < c.toNat
    ·have hq:Wr.quoteB c=[92,120,Wr.hexD (c.toNat / 16),Wr.hexD (c.toNat % 16)]:=by unfold Wr.quoteB;rw [if_neg h1,if_pos h2]
     rw [hq] at hf ⊢
     simp only [List.length_cons,List.length_nil] at hf
     obtain ⟨f,rfl⟩:∃ g,f=g + 1:=⟨f - 1,by omega⟩
     have hb:c.toNat < 256:=c.toNat_lt
     have he:escaped (120 :: Wr.hexD (c.toNat / 16) :: Wr.hexD (c.toNat % 16) :: (b.flatMap Wr.quoteB ++ 34 :: y))=(c,3):=by
      show (if (120:UInt8)=34∨(120:UInt8)=92 then ((120:UInt8),1) else if (120:UInt8)=120 then (match hexOf (Wr.hexD (c.toNat / 16)),hexOf (Wr.hexD (c.toNat % 16)) with | some x,some y=>(UInt8.ofNat (16 * x + y),3) | _,_=>(0,0)) else (0,0))=_
      rw [if_neg (by decide),if_pos rfl,hex_back _ (by omega),hex_back _ (by omega)]
      simp only
      rw [ofNat_parts]
     show strF (f + 1) i acc (92 :: 120 :: Wr.hexD (c.toNat / 16) :: Wr.hexD (c.toNat % 16) :: (b.flatMap Wr.quoteB ++ 34 :: y))=_
     rw [strF,if_neg (by decide),if_neg (by decide),if_pos rfl,he]
     simp only [List.drop_succ_cons,List.drop_zero]
     rw [if_neg (by decide),ih f _ _ y (by omega)]
     simp;omega
    ·have hq:Wr.quoteB c=[c]:=by unfold Wr.quoteB;rw [if_neg h1,if_neg h2]
     rw [hq] at hf ⊢
     simp only [List.length_cons,List.length_nil] at hf
     obtain ⟨f,rfl⟩:∃ g,f=g + 1:=⟨f - 1,by omega⟩
     show strF (f + 1) i acc (c :: (b.flatMap Wr.quoteB ++ 34 :: y))=_
     rw [strF,if_neg (fun e=>h1 (Or.inl e)),if_neg h2,if_neg (fun e=>h1 (Or.inr e)),ih f _ _ y (by omega)]
     simp;omega
theorem strR_ok (s:ByteArray):(strR s).Ok:=by
 unfold strR Wr.quoted
 have hw:=ofL_bs s
 generalize Wr.bs s=b at *
 refine Rt.mk_ok ⟨show (4:Nat)≠6 by decide,show (4:Nat)≠0 by decide⟩ (by simp) ?_
 intro y _
 have e0:whileL pWord 0 (34 :: (b.flatMap Wr.quoteB ++ [34] ++ y))=0:=rfl
 have es:=strF_back b ((b.flatMap Wr.quoteB ++ [34] ++ y).length + 1) 1 [] y (by simp;omega)
 show read (34 :: (b.flatMap Wr.quoteB ++ [34] ++ y))=_
 rw [show b.flatMap Wr.quoteB ++ 34 :: y=b.flatMap Wr.quoteB ++ [34] ++ y by simp] at es
 simp only [read]
 rw [e0,if_neg (Nat.lt_irrefl 0),if_neg (by rintro ⟨h,_⟩;exact absurd h (by decide)),if_pos trivial,es]
 simp only [List.nil_append,hw]
 unfold Rt.tok
 simp
 omega
end Tok
end Tess
namespace Tess
open Go
namespace Wr
open Tok (Rt wordR nameR signR numR strR)
def J (xs:List Rt):Txt:=join [32] (xs.map Rt.txt)
def sep (s:Rt):List (List Rt)→List Rt
 | []=>[]
 | [x]=>x
 | x :: y :: r=>x ++ s :: sep s (y :: r)
theorem J_append {xs ys:List Rt} (hx:xs≠[]) (hy:ys≠[]):J (xs ++ ys)=J xs ++ 32 :: J ys:=by
 unfold J
 induction xs with
 | nil=>exact absurd rfl hx
 | cons x r ih=>
   cases r with
   | nil=>
     cases ys with
     | nil=>exact absurd rfl hy
     | cons y ys=>show x.txt ++ [32] ++ join [32] ((y :: ys).map Rt.txt)=x.txt ++ 32 :: _;simp
   | cons z r=>
     have:=ih (by simp)
     show x.txt ++ [32] ++ join [32] (((z :: r) ++ ys).map Rt.txt)=(x.txt ++ [32] ++ join [32] ((z :: r).map Rt.txt)) ++ 32 :: join [32] (ys.map Rt.txt)
     rw [this]
     simp
theorem J_cons {x:Rt} {ys:List Rt} (hy:ys≠[]):J (x :: ys)=x.txt ++ 32 :: J ys:=J_append (xs:=[x]) (by simp) hy
theorem sep_ne {s:Rt} {l:List (List Rt)} (h:l≠[]) (hl:∀ x ∈ l,x≠[]):sep s l≠[]:=by
 cases l with
 | nil=>exact absurd rfl h
 | cons x r=>
   have:=hl x List.mem_cons_self
   cases r with
   | nil=>exact this
   | cons y r=>show x ++ s :: _≠[];simp
theorem J_sep (s:Rt) (l:List (List Rt)) (hl:∀ x ∈ l,x≠[]):J (sep s l)=join (32 :: s.txt ++ [32]) (l.map J):=by
 induction l with
 | nil=>rfl
 | cons x r ih=>
   cases r with
   | nil=>rfl
   | cons y r=>
     have h2:∀ z ∈ y :: r,z≠[]:=fun z hz=>hl z (List.mem_cons_of_mem _ hz)
     show J (x ++ s :: sep s (y :: r))=J x ++ (32 :: s.txt ++ [32]) ++ join (32 :: s.txt ++ [32]) ((y :: r).map J)
     rw [J_append (hl x List.mem_cons_self) (by simp),J_cons (sep_ne (by simp) h2),ih h2]
     simp
theorem J_flat (l:List (List Rt)) (hl:∀ x ∈ l,x≠[]):join [32] (l.map J)=J l.flatten:=by
 induction l with
 | nil=>rfl
 | cons x r ih=>
   cases r with
   | nil=>show J x=J (x ++ []);rw [List.append_nil]
   | cons y r=>
     have h2:∀ z ∈ y :: r,z≠[]:=fun z hz=>hl z (List.mem_cons_of_mem _ hz)
     show J x ++ [32] ++ join [32] ((y :: r).map J)=J (x ++ (y :: r).flatten)
     rw [J_append (hl x List.mem_cons_self) (by rw [List.flatten_cons];exact fun e=>h2 y List.mem_cons_self (List.append_eq_nil_iff.1 e).1),ih h2]
     simp
def aggR (a:Agg):List Rt:=match kindW a.kind with
 | none=>[signR ⟨#[63]⟩]
 | some w=>if a.kind=1 then [wordR w] else [wordR w,signR Prs.wOpen,nameR a.met,signR Prs.wClose]
def namesR (l:List ByteArray):List Rt:=sep (signR Prs.wComma) (l.map fun x=>[nameR x])
def setR (l:List ByteArray):List Rt:=if l.isEmpty then [signR Prs.wOpen,signR Prs.wClose] else signR Prs.wOpen :: (namesR l ++ [signR Prs.wClose])
def opR (i:Int):ByteArray:=if i < 0∨(Prs.ops.length:Int)≤i then ⟨#[63]⟩ else Prs.ops.getD i.toNat ByteArray.empty
def condR (c:Cond):List Rt:=[signR Prs.wHash,numR (wrap (c.pos + 1)),signR (opR (wrap (c.op - 1))),numR c.n]
def nameAt (l:List ByteArray) (i:Int):ByteArray:=if i < 0∨(l.length:Int)≤i then ⟨#[63]⟩ else l.getD i.toNat ByteArray.empty
def keyR (names:List ByteArray) (k:Key):List Rt:=(if k.agg then [signR Prs.wHash,numR (wrap (k.pos + 1))] else [nameR (nameAt names k.pos)]) ++ (if k.desc then [wordR Prs.wDesc] else [])
def wordsR (s:ByteArray) (l:List ByteArray):List Rt:=sep (signR s) (l.map fun x=>[strR x])
mutual
def askR:Fil→List Rt
 | .mk k nm ws a b l=>
   if k=1 then [wordR Prs.wAll]
   else if k=2 then nameR nm :: wordR Prs.wIs :: wordsR Prs.wBar ws
   else if k=3 then [nameR nm,wordR Prs.wNone]
   else if k=4 then nameR nm :: wordR Prs.wPrefix :: ws.map strR
   else if k=5 then nameR nm :: wordR Prs.wBetween :: wordsR Prs.wDots ws
   else if k=6 then [wordR Prs.wTime,numR a,signR Prs.wDots,numR b]
   else if k=7 then wordR Prs.wNot :: (askRL l).flatten
   else if k=8 then signR Prs.wOpen :: (sep (wordR Prs.wAnd) (askRL l) ++ [signR Prs.wClose])
   else signR Prs.wOpen :: (sep (wordR Prs.wOr) (askRL l) ++ [signR Prs.wClose])
def askRL:List Fil→List (List Rt)
 | []=>[]
 | f :: r=>askR f :: askRL r
end
def optR (b:Bool) (l:List (List Rt)):List (List Rt):=if b then l else []
def queR (q:Que):List Rt:=
 ([[wordR Prs.wSelect],sep (signR Prs.wComma) (q.aggs.map aggR)] ++ optR (!q.names.isEmpty) [[wordR Prs.wBy],namesR q.names] ++ optR (q.mode == 2) [[wordR Prs.wCube]] ++ optR (q.mode == 3) [[wordR Prs.wRollup]]
   ++ optR (q.mode == 4) [[wordR Prs.wSets],(q.sets.map setR).flatten] ++ optR (q.every != 0) [[wordR Prs.wEvery],[numR q.every]] ++ optR (q.fil.kind != 1) [[wordR Prs.wWhere],askR q.fil]
   ++ optR (!q.conds.isEmpty) [[wordR Prs.wHaving],sep (signR Prs.wComma) (q.conds.map condR)] ++ optR (!q.keys.isEmpty) [[wordR Prs.wOrder],sep (signR Prs.wComma) (q.keys.map (keyR q.names))] ++ optR (q.limit != 0) [[wordR Prs.wLimit],[numR q.limit]]).flatten
theorem one_name (l:List ByteArray) (i:Int):one l i=bs (nameAt l i):=by
 unfold one nameAt
 split <;> rfl
theorem aggR_txt (a:Agg):J (aggR a)=summing a:=by
 unfold aggR summing
 cases kindW a.kind with
 | none=>rfl
 | some w=>
   simp only
   split
   ·rfl
   ·show bs w ++ [32] ++ (bs Prs.wOpen ++ [32] ++ ((36 :: bs a.met) ++ [32] ++ bs Prs.wClose))=_
    have e1:bs Prs.wOpen=[40]:=rfl
    have e2:bs Prs.wClose=[41]:=rfl
    rw [e1,e2]
    simp
theorem aggR_ne (a:Agg):aggR a≠[]:=by
 unfold aggR
 cases kindW a.kind with
 | none=>simp
 | some w=>simp only;split <;> simp
theorem comma_txt:32 :: (signR Prs.wComma).txt ++ [32]=sComma:=rfl
theorem J_comma {α:Type} (f:α→List Rt) (g:α→Txt) (l:List α) (hf:∀ x,f x≠[]) (h:∀ x,J (f x)=g x):J (sep (signR Prs.wComma) (l.map f))=join sComma (l.map g):=by
 rw [J_sep _ _ (by intro x hx;obtain ⟨y,_,rfl⟩:=List.mem_map.1 hx;exact hf y),comma_txt,List.map_map]
 congr 1
 exact List.map_congr_left fun x _=>h x
theorem namesR_txt (l:List ByteArray):J (namesR l)=dollars l:=J_comma _ _ l (fun _=>by simp) (fun _=>rfl)
theorem namesR_ne {l:List ByteArray} (h:l≠[]):namesR l≠[]:=sep_ne (by simpa using h) (by intro x hx;obtain ⟨y,_,rfl⟩:=List.mem_map.1 hx;simp)
theorem setR_txt (l:List ByteArray):J (setR l)=set l:=by
 unfold setR set
 cases l with
 | nil=>rfl
 | cons x r=>
   have hn:=namesR_ne (l:=x :: r) (by simp)
   show J (signR Prs.wOpen :: (namesR (x :: r) ++ [signR Prs.wClose]))=[40,32] ++ dollars (x :: r) ++ [32,41]
   rw [J_cons (by simp),J_append hn (by simp),namesR_txt]
   show [40] ++ 32 :: (dollars (x :: r) ++ 32 :: [41])=_
   simp
theorem setR_ne (l:List ByteArray):setR l≠[]:=by
 unfold setR
 split <;> simp
theorem condR_txt (c:Cond):J (condR c)=condition c:=by
 unfold condR condition
 rw [one_name]
 show [35] ++ [32] ++ (digits (wrap (c.pos + 1)) ++ [32] ++ (bs (opR (wrap (c.op - 1))) ++ [32] ++ digits c.n))=_
 have:opR (wrap (c.op - 1))=nameAt Prs.ops (wrap (c.op - 1)):=rfl
 rw [this]
 simp
theorem keyR_txt (names:List ByteArray) (k:Key):J (keyR names k)=key names k:=by
 unfold keyR key
 rw [one_name]
 cases k.agg <;> cases k.desc
 ·show (36 :: bs (nameAt names k.pos))=36 :: bs (nameAt names k.pos) ++ []
  simp
 ·show (36 :: bs (nameAt names k.pos)) ++ [32] ++ bs Prs.wDesc=36 :: bs (nameAt names k.pos) ++ 32 :: bs Prs.wDesc
  simp
 ·show [35] ++ [32] ++ digits (wrap (k.pos + 1))=[35,32] ++ digits (wrap (k.pos + 1)) ++ []
  simp
 ·show [35] ++ [32] ++ (digits (wrap (k.pos + 1)) ++ [32] ++ bs Prs.wDesc)=[35,32] ++ digits (wrap (k.pos + 1)) ++ 32 :: bs Prs.wDesc
  simp
theorem keyR_ne (names:List ByteArray) (k:Key):keyR names k≠[]:=by
 unfold keyR
 cases k.agg <;> simp
theorem wordsR_txt (s:ByteArray) (l:List ByteArray):J (wordsR s l)=words (32 :: bs s ++ [32]) l:=by
 unfold wordsR words
 rw [J_sep _ _ (by intro x hx;obtain ⟨y,_,rfl⟩:=List.mem_map.1 hx;simp),List.map_map]
 rfl
theorem strs_txt (l:List ByteArray):J (l.map strR)=words [32] l:=by
 unfold J words
 rw [List.map_map]
 rfl
mutual
def full:Fil→Prop
 | .mk k _ ws _ _ l=>((k=2∨k=4∨k=5)→ws≠[])∧(k≠1→k≠2→k≠3→k≠4→k≠5→k≠6→l≠[]∧fullL l)
def fullL:List Fil→Prop
 | []=>True
 | f :: r=>full f∧fullL r
end
theorem askR_ne (f:Fil):askR f≠[]:=by
 obtain ⟨k,nm,ws,a,b,l⟩:=f
 unfold askR
 repeat' (first | (split) | simp)
theorem askRL_ne (l:List Fil):∀ x ∈ askRL l,x≠[]:=by
 induction l with
 | nil=>intro x hx;cases hx
 | cons f r ih=>
   intro x hx
   unfold askRL at hx
   rcases List.mem_cons.1 hx with rfl | h
   ·exact askR_ne f
   ·exact ih x h
theorem askRL_nil {l:List Fil} (h:l≠[]):askRL l≠[]:=by
 cases l with
 | nil=>exact absurd rfl h
 | cons f r=>unfold askRL;simp
mutual
theorem askR_txt:∀ (f:Fil),full f→J (askR f)=asking f
 | .mk k nm ws a b l,h=>by
   unfold full at h
   unfold askR asking
   by_cases h1:k=1
   ·rw [if_pos h1,if_pos h1];rfl
   by_cases h2:k=2
   ·have hw:wordsR Prs.wBar ws≠[]:=sep_ne (by simpa using h.1 (Or.inl h2)) (by intro x hx;obtain ⟨y,_,rfl⟩:=List.mem_map.1 hx;simp)
    rw [if_neg h1,if_neg h1,if_pos h2,if_pos h2,J_cons (by simp),J_cons hw,wordsR_txt]
    show (36 :: bs nm) ++ 32 :: ([105,115] ++ 32 :: words [32,124,32] ws)=_
    simp
   by_cases h3:k=3
   ·rw [if_neg h1,if_neg h1,if_neg h2,if_neg h2,if_pos h3,if_pos h3]
    show (36 :: bs nm) ++ [32] ++ bs Prs.wNone=_
    simp
   by_cases h4:k=4
   ·have hw:ws.map strR≠[]:=by simpa using h.1 (Or.inr (Or.inl h4))
    rw [if_neg h1,if_neg h1,if_neg h2,if_neg h2,if_neg h3,if_neg h3,if_pos h4,if_pos h4,J_cons (by simp),J_cons hw,strs_txt]
    show (36 :: bs nm) ++ 32 :: (bs Prs.wPrefix ++ 32 :: words [32] ws)=_
    simp
   by_cases h5:k=5
   ·have hw:wordsR Prs.wDots ws≠[]:=sep_ne (by simpa using h.1 (Or.inr (Or.inr h5))) (by intro x hx;obtain ⟨y,_,rfl⟩:=List.mem_map.1 hx;simp)
    rw [if_neg h1,if_neg h1,if_neg h2,if_neg h2,if_neg h3,if_neg h3,if_neg h4,if_neg h4,if_pos h5,if_pos h5,J_cons (by simp),J_cons hw,wordsR_txt]
    show (36 :: bs nm) ++ 32 :: (bs Prs.wBetween ++ 32 :: words [32,46,46,32] ws)=_
    simp
   by_cases h6:k=6
   ·rw [if_neg h1,if_neg h1,if_neg h2,if_neg h2,if_neg h3,if_neg h3,if_neg h4,if_neg h4,if_neg h5,if_neg h5,if_pos h6,if_pos h6]
    show bs Prs.wTime ++ [32] ++ (digits a ++ [32] ++ ([46,46] ++ [32] ++ digits b))=_
    simp
   obtain ⟨hl,hf⟩:=h.2 h1 h2 h3 h4 h5 h6
   have hj:=askRL_txt l hf
   have hn:=askRL_ne l
   rw [if_neg h1,if_neg h1,if_neg h2,if_neg h2,if_neg h3,if_neg h3,if_neg h4,if_neg h4,if_neg h5,if_neg h5,if_neg h6,if_neg h6]
   by_cases h7:k=7
   ·have:(askRL l).flatten≠[]:=by
     have:=askRL_nil hl
     cases he:askRL l with
     | nil=>exact absurd he this
     | cons x r=>
       rw [List.flatten_cons]
       intro e
       exact hn x (by rw [he];exact List.mem_cons_self) (List.append_eq_nil_iff.1 e).1
    rw [if_pos h7,if_pos h7,J_cons this,← J_flat _ hn,hj]
    show bs Prs.wNot ++ 32 :: _=_
    simp
   ·rw [if_neg h7,if_neg h7]
    by_cases h8:k=8
    ·rw [if_pos h8,if_pos h8,J_cons (by simp),J_append (sep_ne (askRL_nil hl) hn) (by simp),J_sep _ _ hn,hj]
     show [40] ++ 32 :: (_ ++ 32 :: [41])=_
     simp [wordR]
    ·rw [if_neg h8,if_neg h8,J_cons (by simp),J_append (sep_ne (askRL_nil hl) hn) (by simp),J_sep _ _ hn,hj]
     show [40] ++ 32 :: (_ ++ 32 :: [41])=_
     simp [wordR]
theorem askRL_txt:∀ (l:List Fil),fullL l→(askRL l).map J=askingL l
 | [],_=>rfl
 | f :: r,h=>by
   unfold fullL at h
   show J (askR f) :: (askRL r).map J=asking f :: askingL r
   rw [askR_txt f h.1,askRL_txt r h.2]
end
theorem queR_txt (q:Que) (h1:q.aggs≠[]) (h2:q.mode=4→q.sets≠[]) (h3:q.fil.kind≠1→full q.fil):J (queR q)=written q:=by
 have opt_map:∀ (b:Bool) (l:List (List Rt)),(optR b l).map J=opt b (l.map J):=by
  intro b l;cases b <;> rfl
 have hs:∀ {α:Type} (f:α→List Rt),(∀ x,f x≠[])→∀ l:List α,∀ x ∈ l.map f,x≠[]:=by
  intro α f hf l x hx
  obtain ⟨y,_,rfl⟩:=List.mem_map.1 hx
  exact hf y
 have hopt:∀ (b:Bool) (l:List (List Rt)),(b=true→∀ x ∈ l,x≠[])→∀ x ∈ optR b l,x≠[]:=by
  intro b l hl x hx
  cases b with
  | false=>cases hx
  | true=>exact hl rfl x hx
 have two:∀ (x y:List Rt),x≠[]→y≠[]→∀ z ∈ [x,y],z≠[]:=by
  intro x y hx hy z hz
  rcases List.mem_cons.1 hz with rfl | hz
  ·exact hx
  ·rw [List.mem_singleton] at hz;rw [hz];exact hy
 have nil_of:∀ {α:Type} {l:List α},(!l.isEmpty)=true→l≠[]:=by
  intro α l h e;subst e;cases h
 unfold queR
 rw [← J_flat]
 ·unfold written
  simp only [List.map_append,opt_map,List.map_cons,List.map_nil]
  rw [J_comma aggR summing q.aggs aggR_ne aggR_txt,namesR_txt,J_comma condR condition q.conds (fun _=>by simp [condR]) condR_txt,J_comma (keyR q.names) (key q.names) q.keys (keyR_ne _) (keyR_txt _),← J_flat (q.sets.map setR) (hs setR setR_ne _),List.map_map,
   show q.sets.map (J ∘ setR)=q.sets.map set from List.map_congr_left fun x _=>setR_txt x]
  have ef:opt (q.fil.kind != 1) [J [wordR Prs.wWhere],J (askR q.fil)]=opt (q.fil.kind != 1) [bs Prs.wWhere,asking q.fil]:=by
   cases hk:(q.fil.kind != 1) with
   | false=>rfl
   | true=>rw [askR_txt q.fil (h3 (by simpa using hk))];rfl
  rw [ef]
  rfl
 ·intro x hx
  simp only [List.mem_append] at hx
  have sne:∀ (s:Rt) (l:List (List Rt)),l≠[]→(∀ x ∈ l,x≠[])→sep s l≠[]:=fun s l h h'=>sep_ne h h'
  rcases hx with ((((((((hx | hx) | hx) | hx) | hx) | hx) | hx) | hx) | hx) | hx
  ·exact two _ _ (by simp) (sne _ _ (by simpa using h1) (hs aggR aggR_ne _)) x hx
  ·exact hopt _ _ (fun hb=>two _ _ (by simp) (namesR_ne (nil_of hb))) x hx
  ·exact hopt _ _ (fun _ z hz=>by rw [List.mem_singleton] at hz;rw [hz];simp) x hx
  ·exact hopt _ _ (fun _ z hz=>by rw [List.mem_singleton] at hz;rw [hz];simp) x hx
  ·refine hopt _ _ (fun hb=>two _ _ (by simp) ?_) x hx
   have:=h2 (by simpa using hb)
   cases hq:q.sets with
   | nil=>exact absurd hq this
   | cons y r=>
     rw [List.map_cons,List.flatten_cons]
     intro e
     exact setR_ne y (List.append_eq_nil_iff.1 e).1
  ·exact hopt _ _ (fun _=>two _ _ (by simp) (by simp)) x hx
  ·exact hopt _ _ (fun _=>two _ _ (by simp) (askR_ne _)) x hx
  ·exact hopt _ _ (fun hb=>two _ _ (by simp) (sne _ _ (by simpa using nil_of hb) (hs condR (fun _=>by simp [condR]) _))) x hx
  ·exact hopt _ _ (fun hb=>two _ _ (by simp) (sne _ _ (by simpa using nil_of hb) (hs (keyR q.names) (keyR_ne _) _))) x hx
  ·exact hopt _ _ (fun _=>two _ _ (by simp) (by simp)) x hx
end Wr
end Tess
namespace Tess
open Go
namespace Prs
open Tok (Rt wordR nameR signR numR strR isNameB endT)
open Wr (sep aggR namesR setR condR keyR wordsR askR askRL queR)
abbrev tk (xs:List Rt):List Tok:=xs.map Rt.tok
theorem skip_cons (t:Tok) {r:List Tok} (h:r≠[]):skip (t :: r)=r:=by
 unfold skip
 rw [if_pos (by have:=List.length_pos_iff.2 h;simp;omega)]
 rfl
theorem isT_hit {l:List ByteArray} (t:Tok) {r:List Tok} (h:r≠[]) (hk:t.kind=1∨t.kind=5) (hw:hasW l t.text=true):isT l (t :: r)=some r:=by
 unfold isT
 have:next (t :: r)=t:=rfl
 rw [this,hw,skip_cons t h,if_pos]
 rcases hk with h | h <;> rw [h] <;> rfl
theorem isT_kind {l:List ByteArray} {ts:List Tok} (h1:(next ts).kind≠1) (h5:(next ts).kind≠5):isT l ts=none:=by
 unfold isT
 rw [if_neg]
 simp [h1,h5]
theorem isT_text {l:List ByteArray} {ts:List Tok} (h:hasW l (next ts).text=false):isT l ts=none:=by
 unfold isT
 rw [if_neg]
 simp [h]
section
variable {β:Type} {l:List ByteArray} {r:List Tok} {yes no:List Tok→R β}
theorem isR_word (w:ByteArray) (h:r≠[]) (hw:hasW l w=true):isR l ((wordR w).tok :: r) yes no=yes r:=by unfold isR;rw [isT_hit _ h (Or.inl rfl) hw]
theorem isR_sign (w:ByteArray) (h:r≠[]) (hw:hasW l w=true):isR l ((signR w).tok :: r) yes no=yes r:=by unfold isR;rw [isT_hit _ h (Or.inr rfl) hw]
theorem isR_miss (h:isT l r=none):isR l r yes no=no r:=by unfold isR;rw [h]
theorem must_word (w:ByteArray) {k:List Tok→R β} (h:r≠[]):must w ((wordR w).tok :: r) k=k r:=isR_word w h (by simp [hasW])
theorem must_sign (w:ByteArray) {k:List Tok→R β} (h:r≠[]):must w ((signR w).tok :: r) k=k r:=isR_sign w h (by simp [hasW])
theorem take_name (w:ByteArray) (h:r≠[]):take 2 ((nameR w).tok :: r) = .ok (w,r):=by
 unfold take
 rw [if_pos (show (next ((nameR w).tok :: r)).kind=2 from rfl),skip_cons _ h];rfl
theorem take_str (w:ByteArray) (h:r≠[]):take 4 ((strR w).tok :: r) = .ok (w,r):=by
 unfold take
 rw [if_pos (show (next ((strR w).tok :: r)).kind=4 from rfl),skip_cons _ h];rfl
theorem num_num {lo hi n:Int} (h:r≠[]) (h1:lo≤n) (h2:n≤hi):num lo hi ((numR n).tok :: r) = .ok (n,r):=by
 unfold num
 rw [if_pos ⟨rfl,h1,h2⟩,skip_cons _ h];rfl
end
theorem bind_ok {α β:Type} (x:α) (r:List Tok) (k:α→List Tok→R β):bindR (.ok (x,r)) k=k x r:=rfl
theorem isT_w {l:List ByteArray} {w:ByteArray} {r:List Tok} (h:hasW l w=false):isT l ((wordR w).tok :: r)=none:=isT_text h
theorem isT_s {l:List ByteArray} {w:ByteArray} {r:List Tok} (h:hasW l w=false):isT l ((signR w).tok :: r)=none:=isT_text h
theorem tk_ne {xs:List Rt} (h:xs≠[]) (r:List Tok):tk xs ++ r≠[]:=by
 cases xs with
 | nil=>exact absurd rfl h
 | cons x r=>simp
theorem sep_len (s:Rt) (l:List (List Rt)) (h:∀ x ∈ l,x≠[]):l.length≤(sep s l).length:=by
 induction l with
 | nil=>exact Nat.le_refl _
 | cons x r ih=>
   have h2:=ih (fun z hz=>h z (List.mem_cons_of_mem _ hz))
   have h1:=List.length_pos_iff.2 (h x List.mem_cons_self)
   cases r with
   | nil=>show 1≤x.length;omega
   | cons y r=>
     show _≤(x ++ s :: sep s (y :: r)).length
     rw [List.length_append,List.length_cons]
     simp only [List.length_cons] at h2 ⊢
     omega
theorem list_print {α:Type} (s:Rt) (hs:s.kind=1∨s.kind=5) (rd:List Tok→R α) (ren:α→List Rt) (F:List Tok→Prop) (hF:∀ r,F (s.tok :: r)):∀ (l:List α),l≠[]→(∀ x ∈ l,∀ r,r≠[]→F r→rd (tk (ren x) ++ r) = .ok (x,r)) →
  ∀ r,r≠[]→F r→isT [s.text] r=none→∀ f,l.length≤f→list s.text rd f (tk (sep s (l.map ren)) ++ r) = .ok (l,r):=by
 intro l
 induction l with
 | nil=>intro h;exact absurd rfl h
 | cons x l ih=>
   intro _ h r hr hf hm f hfl
   obtain ⟨f,rfl⟩:∃ g,f=g + 1:=⟨f - 1,by simp at hfl;omega⟩
   cases l with
   | nil=>
     show bindR (rd (tk (ren x) ++ r)) _=_
     rw [h x List.mem_cons_self r hr hf,bind_ok,isR_miss hm]
   | cons y l=>
     have e:tk (sep s ((x :: y :: l).map ren)) ++ r=tk (ren x) ++ (s.tok :: (tk (sep s ((y :: l).map ren)) ++ r)):=by
      show ((ren x) ++ s :: sep s ((y :: l).map ren)).map Rt.tok ++ r=_
      rw [List.map_append,List.append_assoc];rfl
     rw [e]
     show bindR (rd _) _=_
     have hne:tk (sep s ((y :: l).map ren)) ++ r≠[]:=by simp [hr]
     rw [h x List.mem_cons_self _ (by simp) (hF _),bind_ok]
     unfold isR
     rw [isT_hit s.tok hne hs (by simp [hasW,Rt.tok])]
     simp only
     rw [ih (by simp) (fun z hz=>h z (List.mem_cons_of_mem _ hz)) r hr hf hm f (by simp at hfl ⊢;omega),bind_ok]
def GoodA (a:Agg):Prop:=(a.kind=1∧a.met=ByteArray.empty)∨((a.kind=2∨a.kind=3∨a.kind=4∨a.kind=5)∧isNameB a.met=true)
theorem agg_print {a:Agg} (h:GoodA a) {r:List Tok} (hr:r≠[]):agg (tk (aggR a) ++ r) = .ok (a,r):=by
 obtain ⟨k,m⟩:=a
 unfold GoodA at h
 simp only at h
 rcases h with ⟨rfl,rfl⟩ | ⟨h,hm⟩
 ·show agg ((wordR wCount).tok :: r)=_
  unfold agg
  rw [if_neg (by show ¬ (1:Nat)≠1;decide)]
  show (match kindOf wCount with | none=>fail ((wordR wCount).tok :: r) | some k=>aggOf k (skip ((wordR wCount).tok :: r)))=_
  rw [show kindOf wCount=some 1 from rfl,skip_cons _ hr]
  rfl
 ·have go:∀ (w:ByteArray) (K:Nat),K≠1→kindOf w=some K→agg ((wordR w).tok :: (signR wOpen).tok :: (nameR m).tok :: (signR wClose).tok :: r) = .ok (⟨(K:Nat),m⟩,r):=by
   intro w K hK hw
   unfold agg
   rw [if_neg (by show ¬ (1:Nat)≠1;decide)]
   show (match kindOf w with | none=>fail ((wordR w).tok :: (signR wOpen).tok :: (nameR m).tok :: (signR wClose).tok :: r) | some k=>aggOf k (skip ((wordR w).tok :: (signR wOpen).tok :: (nameR m).tok :: (signR wClose).tok :: r)))=_
   rw [hw,skip_cons _ (by simp)]
   simp only
   unfold aggOf
   rw [if_neg hK,must_sign wOpen (by simp),take_name m (by simp),bind_ok,must_sign wClose hr]
  rcases h with rfl | rfl | rfl | rfl
  ·exact go wSum 2 (by decide) rfl
  ·exact go wMin 3 (by decide) (by decide)
  ·exact go wMax 4 (by decide) (by decide)
  ·exact go wAvg 5 (by decide) (by decide)
theorem names_print {l:List ByteArray} (hl:l≠[]) {r:List Tok} (hr:r≠[]) (hc:isT [wComma] r=none):names (tk (namesR l) ++ r) = .ok (l,r):=by
 unfold names
 refine list_print (signR wComma) (Or.inr rfl) (take 2) (fun x=>[nameR x]) (fun _=>True) (fun _=>trivial) l hl (fun x _ r hr _=>take_name x hr) r hr trivial hc _ ?_
 have:=sep_len (signR wComma) (l.map fun x=>[nameR x]) (by intro x hx;obtain ⟨y,_,rfl⟩:=List.mem_map.1 hx;simp)
 rw [List.length_map] at this
 show _≤(tk (namesR l) ++ r).length
 rw [List.length_append,List.length_map]
 unfold namesR
 omega
theorem set_print {l:List ByteArray} {r:List Tok} (hr:r≠[]):∃ ts,tk (setR l) ++ r=(signR wOpen).tok :: ts∧ts≠[]∧set ts = .ok (l,r):=by
 unfold setR
 cases l with
 | nil=>
   refine ⟨(signR wClose).tok :: r,rfl,by simp,?_⟩
   unfold set
   rw [isR_sign wClose hr (by simp [hasW])]
 | cons x l=>
   refine ⟨tk (namesR (x :: l)) ++ ((signR wClose).tok :: r),?_,by simp,?_⟩
   ·show ((signR wOpen) :: (namesR (x :: l) ++ [signR wClose])).map Rt.tok ++ r=_
    simp
   ·have hn:=names_print (l:=x :: l) (by simp) (r:=(signR wClose).tok :: r) (by simp) (isT_s (by decide))
    unfold set
    rw [isR_miss (isT_kind ?_ ?_),hn,bind_ok,must_sign wClose hr]
    ·cases l <;> exact (show ¬ (2:Nat)=1 by decide)
    ·cases l <;> exact (show ¬ (2:Nat)=5 by decide)
theorem sets_print:∀ (l:List (List ByteArray)),l≠[]→∀ {r:List Tok},r≠[]→isT [wOpen] r=none→∃ ts,tk (l.map setR).flatten ++ r=(signR wOpen).tok :: ts∧ts≠[]∧∀ f,l.length≤f→list wOpen set f ts = .ok (l,r):=by
 intro l
 induction l with
 | nil=>intro h;exact absurd rfl h
 | cons x l ih=>
   intro _ r hr hm
   cases l with
   | nil=>
     obtain ⟨ts,e,hne,hs⟩:=set_print (l:=x) hr
     refine ⟨ts,by rw [← e];simp,hne,fun f hf => ?_⟩
     obtain ⟨f,rfl⟩:∃ g,f=g + 1:=⟨f - 1,by simp at hf;omega⟩
     show bindR (set ts) _=_
     rw [hs,bind_ok,isR_miss hm]
   | cons y l=>
     obtain ⟨t2,e2,hne2,h2⟩:=ih (by simp) hr hm
     obtain ⟨ts,e,hne,hs⟩:=set_print (l:=x) (r:=(signR wOpen).tok :: t2) (by simp)
     refine ⟨ts,?_,hne,fun f hf => ?_⟩
     ·rw [← e,← e2];simp
     ·obtain ⟨f,rfl⟩:∃ g,f=g + 1:=⟨f - 1,by simp at hf;omega⟩
      show bindR (set ts) _=_
      rw [hs,bind_ok,isR_sign wOpen hne2 (by simp [hasW]),h2 f (by simp at hf ⊢;omega),bind_ok]
mutual
def GoodF:Fil→Prop
 | .mk k nm ws a b l=>
   (k=1∧nm=ByteArray.empty∧ws=[]∧a=0∧b=0∧l=[])∨(k=2∧isNameB nm=true∧ws≠[]∧a=0∧b=0∧l=[])∨(k=3∧isNameB nm=true∧ws=[]∧a=0∧b=0∧l=[]) ∨
   (k=4∧isNameB nm=true∧(∃ w,ws=[w])∧a=0∧b=0∧l=[])∨(k=5∧isNameB nm=true∧(∃ v w,ws=[v,w])∧a=0∧b=0∧l=[]) ∨
   (k=6∧nm=ByteArray.empty∧ws=[]∧(0≤a∧a≤9223372036854775807∧0≤b∧b≤9223372036854775807)∧l=[]) ∨
   (k=7∧nm=ByteArray.empty∧ws=[]∧a=0∧b=0∧l.length=1∧GoodFL l)∨((k=8∨k=9)∧nm=ByteArray.empty∧ws=[]∧a=0∧b=0∧2≤l.length∧GoodFL l)
def GoodFL:List Fil→Prop
 | []=>True
 | f :: r=>GoodF f∧GoodFL r
end
theorem GoodFL.mem {l:List Fil} (h:GoodFL l):∀ x ∈ l,GoodF x:=by
 induction l with
 | nil=>intro x hx;cases hx
 | cons f r ih=>
   unfold GoodFL at h
   intro x hx
   rcases List.mem_cons.1 hx with rfl | hx
   ·exact h.1
   ·exact ih h.2 x hx
theorem askRL_map (l:List Fil):askRL l=l.map askR:=by
 induction l with
 | nil=>rfl
 | cons f r ih=>unfold askRL;rw [ih];rfl
theorem sep_part {s:Rt} {l:List (List Rt)} {x:List Rt} (h:x ∈ l):x.length≤(sep s l).length:=by
 induction l with
 | nil=>cases h
 | cons y r ih=>
   cases r with
   | nil=>rw [List.mem_singleton] at h;rw [h];exact Nat.le_refl _
   | cons z r=>
     show _≤(y ++ s :: sep s (z :: r)).length
     rw [List.length_append,List.length_cons]
     rcases List.mem_cons.1 h with rfl | h
     ·omega
     ·have:=ih h;omega
theorem words_len (s:ByteArray) (l:List ByteArray):l.length≤(wordsR s l).length:=by
 have:=sep_len (signR s) (l.map fun x=>[strR x]) (by intro x hx;obtain ⟨y,_,rfl⟩:=List.mem_map.1 hx;simp)
 rw [List.length_map] at this
 exact this
theorem filter_print (n:Nat):∀ (x:Fil),(askR x).length≤n→GoodF x→∀ (r:List Tok),r≠[]→isT [wBar] r=none→filter n (tk (askR x) ++ r) = .ok (x,r):=by
 induction n with
 | zero=>
   intro x hx
   exact absurd (List.length_eq_zero_iff.1 (Nat.le_zero.1 hx)) (Wr.askR_ne x)
 | succ n ih=>
   intro x hx hg r hr hb
   obtain ⟨k,nm,ws,a,b,l⟩:=x
   unfold GoodF at hg
   have name:∀ ts:List Tok,ts≠[]→filter (n + 1) ((nameR nm).tok :: ts)=asked nm ts:=by
    intro ts hts
    show (if (next ((nameR nm).tok :: ts)).kind=2 then _ else _)=_
    rw [if_pos (show (next ((nameR nm).tok :: ts)).kind=2 from rfl),skip_cons _ hts];rfl
   have wordL:∀ (w:ByteArray) (ts:List Tok),filter (n + 1) ((wordR w).tok :: ts)=isR [wAll] ((wordR w).tok :: ts) (fun r => .ok (.mk 1 ByteArray.empty [] 0 0 [],r)) fun ts=>isR [wNot] ts (fun r=>bindR (filter n r) fun x r2 => .ok (.mk 7 ByteArray.empty [] 0 0 [x],r2)) fun ts=>
    isR [wTime] ts time fun ts=>isR [wOpen] ts (fun r=>bindR (filter n r) fun x r2=>several (filter n) x r2) fail:=by
    intro w ts
    show (if (next ((wordR w).tok :: ts)).kind=2 then _ else _)=_
    rw [if_neg (show ¬ (next ((wordR w).tok :: ts)).kind=2 by show ¬ (1:Nat)=2;decide)]
   rcases hg with ⟨rfl,rfl,rfl,rfl,rfl,rfl⟩ | ⟨rfl,h1,h2,rfl,rfl,rfl⟩ | ⟨rfl,h1,rfl,rfl,rfl,rfl⟩ | ⟨rfl,h1,⟨w,rfl⟩,rfl,rfl,rfl⟩ | ⟨rfl,h1,⟨v,w,rfl⟩,rfl,rfl,rfl⟩ | ⟨rfl,rfl,rfl,⟨h1,h2,h3,h4⟩,rfl⟩ | ⟨rfl,rfl,rfl,rfl,rfl,h1,h2⟩ | ⟨hk,rfl,rfl,rfl,rfl,h1,h2⟩
   ·show filter (n + 1) ((wordR wAll).tok :: r)=_
    rw [wordL,isR_word wAll hr (by simp [hasW])]
   ·have e:tk (askR (.mk 2 nm ws 0 0 [])) ++ r=(nameR nm).tok :: (wordR wIs).tok :: (tk (wordsR wBar ws) ++ r):=by
     unfold askR
     rfl
    rw [e,name _ (by simp)]
    unfold asked
    rw [isR_miss (isT_w (by decide)),isR_miss (isT_w (by decide)),isR_word wIs (by simp [hr]) (by simp [hasW])]
    have:=list_print (signR wBar) (Or.inr rfl) Prs.word (fun x=>[strR x]) (fun _=>True) (fun _=>trivial) ws h2 (fun x _ r hr _=>take_str x hr) r hr trivial hb (tk (wordsR wBar ws) ++ r).length (by
     have:=words_len wBar ws
     rw [List.length_append,List.length_map];omega)
    show bindR (list wBar Prs.word _ (tk (wordsR wBar ws) ++ r)) _=_
    unfold wordsR at this ⊢
    have this:list wBar Prs.word _ (tk (sep (signR wBar) (ws.map fun x=>[strR x])) ++ r) = .ok (ws,r):=this
    rw [this]
    rfl
   ·have e:tk (askR (.mk 3 nm [] 0 0 [])) ++ r=(nameR nm).tok :: (wordR wNone).tok :: r:=by
     unfold askR
     rfl
    rw [e,name _ (by simp)]
    unfold asked
    rw [isR_word wNone hr (by simp [hasW])]
   ·have e:tk (askR (.mk 4 nm [w] 0 0 [])) ++ r=(nameR nm).tok :: (wordR wPrefix).tok :: (strR w).tok :: r:=by
     unfold askR
     rfl
    rw [e,name _ (by simp)]
    unfold asked
    rw [isR_miss (isT_w (by decide)),isR_word wPrefix (by simp) (by simp [hasW])]
    unfold word
    rw [take_str w hr,bind_ok]
   ·have e:tk (askR (.mk 5 nm [v,w] 0 0 [])) ++ r=(nameR nm).tok :: (wordR wBetween).tok :: (strR v).tok :: (signR wDots).tok :: (strR w).tok :: r:=by
     unfold askR
     rfl
    rw [e,name _ (by simp)]
    unfold asked
    rw [isR_miss (isT_w (by decide)),isR_miss (isT_w (by decide)),isR_miss (isT_w (by decide)),isR_word wBetween (by simp) (by simp [hasW])]
    unfold word
    rw [take_str v (by simp),bind_ok,must_sign wDots (by simp),take_str w hr,bind_ok]
   ·have e:tk (askR (.mk 6 ByteArray.empty [] a b [])) ++ r=(wordR wTime).tok :: (numR a).tok :: (signR wDots).tok :: (numR b).tok :: r:=by
     unfold askR
     rfl
    rw [e,wordL,isR_miss (isT_w (by decide)),isR_miss (isT_w (by decide)),isR_word wTime (by simp) (by simp [hasW])]
    unfold time
    rw [num_num (by simp) h1 h2,bind_ok,must_sign wDots (by simp),num_num hr h3 h4,bind_ok]
   ·obtain ⟨x,rfl⟩:∃ x,l=[x]:=by
     cases l with
     | nil=>cases h1
     | cons x l=>cases l with
       | nil=>exact ⟨x,rfl⟩
       | cons y l=>simp at h1
    have e:tk (askR (.mk 7 ByteArray.empty [] 0 0 [x])) ++ r=(wordR wNot).tok :: (tk (askR x) ++ r):=by
     have h7:askR (.mk 7 ByteArray.empty [] 0 0 [x])=wordR wNot :: (askRL [x]).flatten:=by
      unfold askR
      rw [if_neg (by decide),if_neg (by decide),if_neg (by decide),if_neg (by decide),if_neg (by decide),if_neg (by decide),if_pos rfl]
     have:askR (.mk 7 ByteArray.empty [] 0 0 [x])=wordR wNot :: askR x:=by
      rw [h7,askRL_map]
      simp
     rw [this];rfl
    have hl:(askR (.mk 7 ByteArray.empty [] 0 0 [x])).length=(askR x).length + 1:=by
     have:=congrArg List.length e
     simp at this
     omega
    rw [e,wordL,isR_miss (isT_w (by decide)),isR_word wNot (by simp [hr]) (by simp [hasW]),ih x (by omega) (h2.mem x List.mem_cons_self) r hr hb,bind_ok]
   ·have many:∀ (W:ByteArray) (K:Int),hasW [wAnd,wOr] W=true→hasW [wBar] W=false→hasW [W] wClose=false→K=(if W=wOr then 9 else 8)→(∀ x ∈ l,(askR x).length≤n)→filter (n + 1) ((signR wOpen).tok :: (tk (sep (wordR W) (l.map askR)) ++ (signR wClose).tok :: r)) = .ok (.mk K ByteArray.empty [] 0 0 l,r):=by
     intro W K hW hWb hWc hK hn
     cases l with
     | nil=>simp at h1
     | cons x l=>
       cases l with
       | nil=>simp at h1
       | cons y l=>
         have e:tk (sep (wordR W) ((x :: y :: l).map askR)) ++ (signR wClose).tok :: r=tk (askR x) ++ ((wordR W).tok :: (tk (sep (wordR W) ((y :: l).map askR)) ++ (signR wClose).tok :: r)):=by
          show ((askR x) ++ wordR W :: sep (wordR W) ((y :: l).map askR)).map Rt.tok ++ _=_
          rw [List.map_append,List.append_assoc];rfl
         rw [e]
         show (if (next ((signR wOpen).tok :: _)).kind=2 then _ else _)=_
         rw [if_neg (by show ¬ (5:Nat)=2;decide),isR_miss (isT_s (by decide)),isR_miss (isT_s (by decide)),isR_miss (isT_s (by decide)),isR_sign wOpen (by simp) (by simp [hasW]),
          ih x (hn x List.mem_cons_self) (h2.mem x List.mem_cons_self) _ (by simp) (isT_w hWb),bind_ok]
         show several (filter n) x ((wordR W).tok :: _)=_
         unfold several
         rw [isR_word W (by simp) hW]
         have hl:=list_print (wordR W) (Or.inl rfl) (filter n) askR (fun r=>isT [wBar] r=none) (fun r=>isT_w hWb) (y :: l) (by simp) (fun z hz r hr hb=>ih z (hn z (List.mem_cons_of_mem _ hz)) (h2.mem z (List.mem_cons_of_mem _ hz)) r hr hb)
          ((signR wClose).tok :: r) (by simp) (isT_s (by decide)) (isT_s hWc) (tk (sep (wordR W) ((y :: l).map askR)) ++ (signR wClose).tok :: r).length (by
            have:=sep_len (wordR W) ((y :: l).map askR) (by intro x hx;obtain ⟨y,_,rfl⟩:=List.mem_map.1 hx;exact Wr.askR_ne y)
            rw [List.length_map] at this
            rw [List.length_append,List.length_map];omega)
         show bindR (list W (filter n) _ (tk (sep (wordR W) ((y :: l).map askR)) ++ (signR wClose).tok :: r)) _=_
         rw [show (wordR W).text=W from rfl] at hl
         rw [hl,bind_ok,must_sign wClose hr,hK]
         rfl
    have hlen:∀ (K:Int) (W:ByteArray),askR (.mk K ByteArray.empty [] 0 0 l)=signR wOpen :: (sep (wordR W) (askRL l) ++ [signR wClose])→(askR (.mk K ByteArray.empty [] 0 0 l)).length≤n + 1→∀ x ∈ l,(askR x).length≤n:=by
     intro K W e hx x hm
     rw [e,askRL_map,List.length_cons,List.length_append] at hx
     have:=sep_part (s:=wordR W) (List.mem_map_of_mem (f:=askR) hm)
     simp only [List.length_cons,List.length_nil] at hx
     omega
    have tks:∀ (K:Int) (W:ByteArray),askR (.mk K ByteArray.empty [] 0 0 l)=signR wOpen :: (sep (wordR W) (askRL l) ++ [signR wClose])→tk (askR (.mk K ByteArray.empty [] 0 0 l)) ++ r=(signR wOpen).tok :: (tk (sep (wordR W) (l.map askR)) ++ (signR wClose).tok :: r):=by
     intro K W e
     rw [e,askRL_map]
     simp
    rcases hk with rfl | rfl
    ·have e:askR (.mk 8 ByteArray.empty [] 0 0 l)=signR wOpen :: (sep (wordR wAnd) (askRL l) ++ [signR wClose]):=by
      unfold askR
      rw [if_neg (by decide),if_neg (by decide),if_neg (by decide),if_neg (by decide),if_neg (by decide),if_neg (by decide),if_neg (by decide),if_pos rfl]
     rw [tks 8 wAnd e]
     exact many wAnd 8 (by decide) (by decide) (by decide) (by decide) (hlen 8 wAnd e hx)
    ·have e:askR (.mk 9 ByteArray.empty [] 0 0 l)=signR wOpen :: (sep (wordR wOr) (askRL l) ++ [signR wClose]):=by
      unfold askR
      rw [if_neg (by decide),if_neg (by decide),if_neg (by decide),if_neg (by decide),if_neg (by decide),if_neg (by decide),if_neg (by decide),if_neg (by decide)]
     rw [tks 9 wOr e]
     exact many wOr 9 (by decide) (by decide) (by decide) (by decide) (hlen 9 wOr e hx)
end Prs
end Tess
namespace Tess
open Go
namespace Prs
open Tok (Rt wordR nameR signR numR strR isNameB endT)
open Wr (sep aggR namesR setR condR keyR wordsR askR askRL queR optR wrap opR nameAt)
structure GoodQ (q:Que):Prop where
 a:q.aggs≠[]∧∀ a ∈ q.aggs,GoodA a
 n:∀ x ∈ q.names,isNameB x=true
 m:(q.mode=1∧q.sets=[])∨(q.names≠[]∧((q.mode=2∧q.sets=[])∨(q.mode=3∧q.sets=[])∨(q.mode=4∧q.sets≠[]∧∀ l ∈ q.sets,∀ x ∈ l,isNameB x=true)))
 e:0≤q.every∧q.every≤9223372036854775807
 f:GoodF q.fil
 c:∀ c ∈ q.conds,0≤c.pos∧c.pos < 1000∧1≤c.op∧c.op≤6 ∧ -9223372036854775808≤c.n∧c.n≤9223372036854775807
 k:∀ k ∈ q.keys,(k.agg=true∧0≤k.pos∧k.pos < 1000)∨(k.agg=false∧∃ i:Nat,∃ h:i < q.names.length,k.pos=i∧idxW q.names q.names[i]=i)
 l:0≤q.limit∧q.limit≤1000000
theorem wrap_small {n:Int} (h1 : -9223372036854775808≤n) (h2:n≤9223372036854775807):wrap n=n:=by
 unfold wrap
 omega
def Heads (ws:List ByteArray) (r:List Tok):Prop:=r≠[]∧((next r).kind=6∨((next r).kind=1∧hasW ws (next r).text=true))
theorem Heads.miss {ws:List ByteArray} {r:List Tok} (h:Heads ws r) (l:List ByteArray) (hl:∀ x ∈ ws,hasW l x=false):isT l r=none:=by
 rcases h.2 with h | ⟨_,h⟩
 ·exact isT_kind (by rw [h];decide) (by rw [h];decide)
 ·refine isT_text (hl _ ((hasW_iff _ _).1 h))
theorem Heads.weak {ws us:List ByteArray} {r:List Tok} (h:Heads ws r) (hw:∀ x ∈ ws,x ∈ us):Heads us r:=by
 refine ⟨h.1,?_⟩
 rcases h.2 with h | ⟨h,h2⟩
 ·exact Or.inl h
 ·exact Or.inr ⟨h,(hasW_iff _ _).2 (hw _ ((hasW_iff _ _).1 h2))⟩
theorem Heads.word (w:ByteArray) {ws:List ByteArray} (r:List Tok) (h:w ∈ ws):Heads ws ((wordR w).tok :: r):=⟨by simp,Or.inr ⟨rfl,(hasW_iff _ _).2 h⟩⟩
theorem part_print {α:Type} {w:ByteArray} {x d:α} {rd:List Tok→R α} {b:Bool} {ren:List (List Rt)} {r:List Tok} {ws:List ByteArray} (hr:Heads ws r) (hw:∀ y ∈ ws,hasW [w] y=false) (hren:ren.flatten≠[]) (h:b=true→rd (tk ren.flatten ++ r) = .ok (x,r)) (hd:b=false→x=d) :
  part w d rd (tk (optR b ([wordR w] :: ren)).flatten ++ r) = .ok (x,r):=by
 cases b with
 | false=>
   show isR [w] r _ _=_
   rw [isR_miss (hr.miss [w] hw),hd rfl]
 | true=>
   show isR [w] ((wordR w).tok :: (tk ren.flatten ++ r)) _ _=_
   rw [isR_word w (tk_ne hren r) (by simp [hasW]),h rfl]
theorem part_print' {α:Type} {w:ByteArray} {x d:α} {rd:List Tok→R α} {b:Bool} {ren:List (List Rt)} {r:List Tok} {ws:List ByteArray} (hr:Heads ws r) (hw:∀ y ∈ ws,hasW [w] y=false) (h:b=true→ren.flatten≠[]∧rd (tk ren.flatten ++ r) = .ok (x,r)) (hd:b=false→x=d) :
  part w d rd (tk (optR b ([wordR w] :: ren)).flatten ++ r) = .ok (x,r):=by
 cases b with
 | false=>exact part_print (b:=false) (ren:=[[wordR w]]) hr hw (by simp) (fun h=>by cases h) hd
 | true=>exact part_print hr hw (h rfl).1 (fun _=>(h rfl).2) hd
theorem optR_heads {b:Bool} {w:ByteArray} {ren:List (List Rt)} {r:List Tok} {ws us:List ByteArray} (hr:Heads ws r) (hw:w ∈ us) (hs:∀ x ∈ ws,x ∈ us):Heads us (tk (optR b ([wordR w] :: ren)).flatten ++ r):=by
 cases b with
 | false=>exact hr.weak hs
 | true=>exact Heads.word w _ hw
theorem flat_one (x:List Rt):[x].flatten=x:=by simp
theorem isT_n {l:List ByteArray} {w:ByteArray} {r:List Tok}:isT l ((nameR w).tok :: r)=none:=isT_kind (show ¬ (2:Nat)=1 by decide) (show ¬ (2:Nat)=5 by decide)
theorem cond_print {c:Cond} (h:0≤c.pos∧c.pos < 1000∧1≤c.op∧c.op≤6 ∧ -9223372036854775808≤c.n∧c.n≤9223372036854775807) {r:List Tok} (hr:r≠[]):cond (tk (condR c) ++ r) = .ok (c,r):=by
 obtain ⟨p,o,n⟩:=c
 simp only at h
 obtain ⟨h1,h2,h3,h4,h5,h6⟩:=h
 show cond ((signR wHash).tok :: (numR (wrap (p + 1))).tok :: (signR (opR (wrap (o - 1)))).tok :: (numR n).tok :: r)=_
 unfold cond
 rw [must_sign wHash (by simp),wrap_small (by omega) (by omega),wrap_small (by omega) (by omega)]
 unfold place
 rw [num_num (by simp) (by omega) (by omega)]
 show cond2 (p + 1 - 1) _=_
 rw [show p + 1 - 1=p by omega]
 have hop:hasW ops (opR (o - 1))=true∧((idxW ops (opR (o - 1)):Nat):Int) + 1=o:=by
  have:o=1∨o=2∨o=3∨o=4∨o=5∨o=6:=by omega
  rcases this with rfl | rfl | rfl | rfl | rfl | rfl <;> exact ⟨by decide,by decide⟩
 unfold cond2
 rw [if_pos ⟨rfl,hop.1⟩,skip_cons _ (by simp),num_num hr h5 h6]
 show Except.ok ((⟨p,((idxW ops (opR (o - 1)):Nat):Int) + 1,n⟩:Cond),r)=_
 rw [hop.2]
theorem keyEnd_print (a:Bool) (p:Int) (d:Bool) {r:List Tok} (hr:r≠[]) (hd:isT [wDesc] r=none):keyEnd a p (tk (if d then [wordR wDesc] else []) ++ r) = .ok (⟨a,p,d⟩,r):=by
 unfold keyEnd
 cases d with
 | false=>
   show isR [wDesc] r _ _=_
   rw [isR_miss hd]
 | true=>
   show isR [wDesc] ((wordR wDesc).tok :: r) _ _=_
   rw [isR_word wDesc hr (by simp [hasW])]
theorem key_print {names:List ByteArray} {k:Key} (h:(k.agg=true∧0≤k.pos∧k.pos < 1000)∨(k.agg=false∧∃ i:Nat,∃ h:i < names.length,k.pos=i∧idxW names names[i]=i)) {r:List Tok} (hr:r≠[]) (hd:isT [wDesc] r=none):key names (tk (keyR names k) ++ r) = .ok (k,r):=by
 obtain ⟨a,p,d⟩:=k
 simp only at h
 rcases h with ⟨rfl,h1,h2⟩ | ⟨rfl,i,hi,rfl,hx⟩
 ·have e:tk (keyR names ⟨true,p,d⟩) ++ r=(signR wHash).tok :: (numR (wrap (p + 1))).tok :: (tk (if d then [wordR wDesc] else []) ++ r):=by
   unfold keyR
   cases d <;> rfl
  have hne:tk (if d then [wordR wDesc] else []) ++ r≠[]:=by simp [hr]
  rw [e]
  unfold key
  rw [isR_sign wHash (by simp) (by simp [hasW]),wrap_small (by omega) (by omega)]
  unfold place
  rw [num_num hne (by omega) (by omega)]
  show keyEnd true (p + 1 - 1) _=_
  rw [show p + 1 - 1=p by omega]
  exact keyEnd_print true p d hr hd
 ·have hn:nameAt names (i:Int)=names[i]:=by
   unfold nameAt
   rw [if_neg (by omega)]
   simp [List.getD,List.getElem?_eq_getElem hi]
  have e:tk (keyR names ⟨false,(i:Int),d⟩) ++ r=(nameR names[i]).tok :: (tk (if d then [wordR wDesc] else []) ++ r):=by
   unfold keyR
   rw [if_neg (by simp),hn]
   cases d <;> rfl
  have hne:tk (if d then [wordR wDesc] else []) ++ r≠[]:=by simp [hr]
  rw [e]
  unfold key
  rw [isR_miss (isT_n)]
  have hw:hasW names names[i]=true:=(hasW_iff _ _).2 (List.getElem_mem hi)
  rw [if_pos ⟨rfl,hw⟩,skip_cons _ hne]
  show keyEnd false ((idxW names names[i]:Nat):Int) _=_
  rw [hx]
  exact keyEnd_print false i d hr hd
theorem sepF_ne {α:Type} (s:Rt) (f:α→List Rt) (hf:∀ x,f x≠[]) {l:List α} (h:l≠[]):sep s (l.map f)≠[]:=Wr.sep_ne (by simpa using h) (by intro x hx;obtain ⟨y,_,rfl⟩:=List.mem_map.1 hx;exact hf y)
theorem len_sep {α:Type} (s:Rt) (f:α→List Rt) (hf:∀ x,f x≠[]) (l:List α) (r:List Tok):l.length≤(tk (sep s (l.map f)) ++ r).length:=by
 have:=sep_len s (l.map f) (by intro x hx;obtain ⟨y,_,rfl⟩:=List.mem_map.1 hx;exact hf y)
 rw [List.length_map] at this
 rw [List.length_append,List.length_map];omega
theorem nil_of {α:Type} {l:List α} (h:(!l.isEmpty)=true):l≠[]:=by
 intro e;subst e;cases h
theorem nil_of' {α:Type} {l:List α} (h:(!l.isEmpty)=false):l=[]:=by
 cases l with
 | nil=>rfl
 | cons a r=>cases h
theorem by_print {q:Que} (g:GoodQ q) (hn:q.names≠[]) {r:List Tok} (hr:Heads [wEvery,wWhere,wHaving,wOrder,wLimit] r) :
  by_ (tk (namesR q.names) ++ (tk (optR (q.mode == 2) [[wordR wCube]]).flatten ++ (tk (optR (q.mode == 3) [[wordR wRollup]]).flatten ++ (tk (optR (q.mode == 4) [[wordR wSets],(q.sets.map setR).flatten]).flatten ++ r)))) = .ok ((q.names,q.mode,q.sets),r):=by
 have hm:=g.m
 have m1:=hr.miss [wComma] (by decide)
 have m2:=hr.miss [wCube] (by decide)
 have m3:=hr.miss [wRollup] (by decide)
 have m4:=hr.miss [wSets] (by decide)
 have m5:=hr.miss [wOpen] (by decide)
 obtain ⟨aggs,names,mode,sets,every,fil,conds,keys,limit⟩:=q
 simp only at hm hn ⊢
 unfold by_
 rcases (show (mode=1∧sets=[])∨(mode=2∧sets=[])∨(mode=3∧sets=[])∨(mode=4∧sets≠[]) by
  rcases hm with h | ⟨_,h | h | h⟩
  ·exact Or.inl h
  ·exact Or.inr (Or.inl h)
  ·exact Or.inr (Or.inr (Or.inl h))
  ·exact Or.inr (Or.inr (Or.inr ⟨h.1,h.2.1⟩))) with ⟨rfl,rfl⟩ | ⟨rfl,rfl⟩ | ⟨rfl,rfl⟩ | ⟨rfl,hs⟩
 ·show bindR (Prs.names (tk (namesR names) ++ r)) _=_
  rw [names_print hn hr.1 m1,bind_ok,isR_miss m2,isR_miss m3,isR_miss m4]
 ·show bindR (Prs.names (tk (namesR names) ++ ((wordR wCube).tok :: r))) _=_
  rw [names_print hn (by simp) (isT_w (by decide)),bind_ok,isR_word wCube hr.1 (by simp [hasW])]
 ·show bindR (Prs.names (tk (namesR names) ++ ((wordR wRollup).tok :: r))) _=_
  rw [names_print hn (by simp) (isT_w (by decide)),bind_ok,isR_miss (isT_w (by decide)),isR_word wRollup hr.1 (by simp [hasW])]
 ·obtain ⟨ts,e,hne,hl⟩:=sets_print sets hs hr.1 m5
  have e2:tk (optR ((4:Int) == 4) [[wordR wSets],(sets.map setR).flatten]).flatten ++ r=(wordR wSets).tok :: (signR wOpen).tok :: ts:=by
   rw [← e]
   show tk ([[wordR wSets],(sets.map setR).flatten].flatten) ++ r=_
   simp
  rw [e2]
  show bindR (Prs.names (tk (namesR names) ++ ((wordR wSets).tok :: (signR wOpen).tok :: ts))) _=_
  rw [names_print hn (by simp) (isT_w (by decide)),bind_ok,isR_miss (isT_w (by decide)),isR_miss (isT_w (by decide)),isR_word wSets (by simp) (by simp [hasW]),must_sign wOpen hne]
  have hlen:sets.length≤ts.length:=by
   have h1:=congrArg List.length e
   have h2:∀ l:List (List ByteArray),l.length * 2≤(l.map setR).flatten.length:=by
    intro l
    induction l with
    | nil=>exact Nat.le_refl _
    | cons x l ih=>
      rw [List.map_cons,List.flatten_cons,List.length_append,List.length_cons]
      have:2≤(setR x).length:=by
       unfold setR
       split
       ·simp
       ·simp
      omega
   have h3:=h2 sets
   rw [List.length_append,List.length_map,List.length_cons] at h1
   have h4:=List.length_pos_iff.2 hr.1
   have h5:=List.length_pos_iff.2 hs
   omega
  rw [hl _ hlen]
  rfl
theorem query_print {q:Que} (g:GoodQ q):query (tk (queR q) ++ [endT]) = .ok (q,[endT]):=by
 have h7:Heads [] [endT]:=⟨by simp,Or.inl rfl⟩
 have h6:Heads [wLimit] (tk (optR (q.limit != 0) [[wordR wLimit],[numR q.limit]]).flatten ++ [endT]):=optR_heads h7 (by simp) (by simp)
 have p7:part wLimit 0 (num 0 1000000) (tk (optR (q.limit != 0) [[wordR wLimit],[numR q.limit]]).flatten ++ [endT]) = .ok (q.limit,[endT]):=
  part_print h7 (by decide) (by simp) (fun _=>num_num (by simp) g.l.1 g.l.2) (fun h=>by simpa using h)
 generalize hR6:tk (optR (q.limit != 0) [[wordR wLimit],[numR q.limit]]).flatten ++ [endT]=R6 at *
 have h5:Heads [wOrder,wLimit] (tk (optR (!q.keys.isEmpty) [[wordR wOrder],sep (signR wComma) (q.keys.map (keyR q.names))]).flatten ++ R6):=optR_heads h6 (by simp) (by simp)
 have p6:part wOrder [] (fun r=>list wComma (key q.names) r.length r) (tk (optR (!q.keys.isEmpty) [[wordR wOrder],sep (signR wComma) (q.keys.map (keyR q.names))]).flatten ++ R6) = .ok (q.keys,R6):=by
  refine part_print' h6 (by decide) ?_ ?_
  ·intro hb
   have hl:=nil_of hb
   refine ⟨by rw [flat_one];exact sepF_ne _ _ (Wr.keyR_ne _) hl,?_⟩
   rw [flat_one]
   exact list_print (signR wComma) (Or.inr rfl) (key q.names) (keyR q.names) (fun r=>isT [wDesc] r=none) (fun r=>isT_s (by decide)) q.keys hl (fun x hx r hr hd=>key_print (g.k x hx) hr hd) R6 h6.1 (h6.miss _ (by decide)) (h6.miss _ (by decide)) _ (len_sep _ _ (Wr.keyR_ne _) _ _)
  ·exact fun h=>nil_of' h
 generalize hR5:tk (optR (!q.keys.isEmpty) [[wordR wOrder],sep (signR wComma) (q.keys.map (keyR q.names))]).flatten ++ R6=R5 at *
 have h4:Heads [wHaving,wOrder,wLimit] (tk (optR (!q.conds.isEmpty) [[wordR wHaving],sep (signR wComma) (q.conds.map condR)]).flatten ++ R5):=optR_heads h5 (by simp) (by simp)
 have p5:part wHaving [] (fun r=>list wComma cond r.length r) (tk (optR (!q.conds.isEmpty) [[wordR wHaving],sep (signR wComma) (q.conds.map condR)]).flatten ++ R5) = .ok (q.conds,R5):=by
  refine part_print' h5 (by decide) ?_ ?_
  ·intro hb
   have hl:=nil_of hb
   refine ⟨by rw [flat_one];exact sepF_ne _ _ (fun _=>by simp [condR]) hl,?_⟩
   rw [flat_one]
   exact list_print (signR wComma) (Or.inr rfl) cond condR (fun _=>True) (fun _=>trivial) q.conds hl (fun x hx r hr _=>cond_print (g.c x hx) hr) R5 h5.1 trivial (h5.miss _ (by decide)) _ (len_sep _ _ (fun _=>by simp [condR]) _ _)
  ·exact fun h=>nil_of' h
 generalize hR4:tk (optR (!q.conds.isEmpty) [[wordR wHaving],sep (signR wComma) (q.conds.map condR)]).flatten ++ R5=R4 at *
 have h3:Heads [wWhere,wHaving,wOrder,wLimit] (tk (optR (q.fil.kind != 1) [[wordR wWhere],askR q.fil]).flatten ++ R4):=optR_heads h4 (by simp) (by simp)
 have p4:part wWhere (Fil.mk 1 ByteArray.empty [] 0 0 []) (fun r=>filter r.length r) (tk (optR (q.fil.kind != 1) [[wordR wWhere],askR q.fil]).flatten ++ R4) = .ok (q.fil,R4):=by
  refine part_print' h4 (by decide) ?_ ?_
  ·intro _
   refine ⟨by rw [flat_one];exact Wr.askR_ne _,?_⟩
   rw [flat_one]
   exact filter_print _ q.fil (by rw [List.length_append,List.length_map];omega) g.f R4 h4.1 (h4.miss _ (by decide))
  ·intro h
   have h1:q.fil.kind=1:=by simpa using h
   have gf:=g.f
   generalize q.fil=x at *
   obtain ⟨k,nm,ws,a,b,l⟩:=x
   simp only [Fil.kind] at h1
   subst h1
   unfold GoodF at gf
   rcases gf with ⟨_,rfl,rfl,rfl,rfl,rfl⟩ | h | h | h | h | h | h | h
   ·rfl
   all_goals exact absurd h.1 (by decide)
 generalize hR3:tk (optR (q.fil.kind != 1) [[wordR wWhere],askR q.fil]).flatten ++ R4=R3 at *
 have h2:Heads [wEvery,wWhere,wHaving,wOrder,wLimit] (tk (optR (q.every != 0) [[wordR wEvery],[numR q.every]]).flatten ++ R3):=optR_heads h3 (by simp) (by simp)
 have p3:part wEvery 0 (num 0 9223372036854775807) (tk (optR (q.every != 0) [[wordR wEvery],[numR q.every]]).flatten ++ R3) = .ok (q.every,R3):=
  part_print h3 (by decide) (by simp) (fun _=>num_num h3.1 g.e.1 g.e.2) (fun h=>by simpa using h)
 generalize hR2:tk (optR (q.every != 0) [[wordR wEvery],[numR q.every]]).flatten ++ R3=R2 at *
 have hby:∃ R1,tk (optR (!q.names.isEmpty) [[wordR wBy],namesR q.names]).flatten ++ (tk (optR (q.mode == 2) [[wordR wCube]]).flatten ++ (tk (optR (q.mode == 3) [[wordR wRollup]]).flatten ++ (tk (optR (q.mode == 4) [[wordR wSets],(q.sets.map setR).flatten]).flatten ++ R2)))=R1 ∧
   Heads [wBy,wEvery,wWhere,wHaving,wOrder,wLimit] R1∧part wBy ([],1,[]) by_ R1 = .ok ((q.names,q.mode,q.sets),R2):=by
  refine ⟨_,rfl,?_,?_⟩
  ·cases hb:(!q.names.isEmpty) with
   | true=>exact Heads.word wBy _ (by simp)
   | false=>
     have hn:=nil_of' hb
     rcases g.m with ⟨h,_⟩ | ⟨h,_⟩
     ·rw [h]
      exact h2.weak (by simp)
     ·exact absurd hn h
  ·cases hb:(!q.names.isEmpty) with
   | true=>
     have hn:=nil_of hb
     show isR [wBy] (tk ([[wordR wBy],namesR q.names].flatten) ++ _) _ _=_
     have e:∀ r,tk ([[wordR wBy],namesR q.names].flatten) ++ r=(wordR wBy).tok :: (tk (namesR q.names) ++ r):=by intro r;simp
     rw [e,isR_word wBy (tk_ne (Wr.namesR_ne hn) _) (by simp [hasW])]
     exact by_print g hn h2
   | false=>
     have hn:=nil_of' hb
     rcases g.m with ⟨h,h'⟩ | ⟨h,_⟩
     ·rw [h,h',hn]
      show isR [wBy] R2 _ _=_
      rw [isR_miss (h2.miss _ (by decide))]
     ·exact absurd hn h
 obtain ⟨R1,e1,h1,p2⟩:=hby
 have e0:tk (queR q) ++ [endT]=(wordR wSelect).tok :: (tk (sep (signR wComma) (q.aggs.map aggR)) ++ R1):=by
  rw [← e1,← hR2,← hR3,← hR4,← hR5,← hR6]
  unfold queR
  simp only [tk,List.flatten_append,List.map_append,List.append_assoc,List.flatten_cons,List.map_cons,List.cons_append,List.nil_append]
 rw [e0]
 unfold query
 rw [must_word wSelect (tk_ne (sepF_ne _ _ Wr.aggR_ne g.a.1) _)]
 have hla:=list_print (signR wComma) (Or.inr rfl) agg aggR (fun _=>True) (fun _=>trivial) q.aggs g.a.1 (fun x hx r hr _=>agg_print (g.a.2 x hx) hr) R1 h1.1 trivial (h1.miss _ (by decide)) _ (len_sep (signR wComma) _ Wr.aggR_ne _ R1)
 rw [show (signR wComma).text=wComma from rfl] at hla
 rw [hla]
 simp only [bindR,p2,p3,p4,p5,p6,p7]
 rfl
end Prs
end Tess
