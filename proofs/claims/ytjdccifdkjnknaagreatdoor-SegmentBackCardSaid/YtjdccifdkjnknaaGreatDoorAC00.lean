/- Joined by mergeK.py: T0, FrPl, FrP2, FrP3, FrP4, FrP5, K1p -/
import Derived.Laws.BitsAllLaws
import Derived.Laws.DeepNot64
import Derived.Lib.OthersKept
import Derived.RangeFuncRecord
import Derived.RangeFuncLeaves
import Derived.RowKit
import Derived.ProofKit
namespace Go
theorem wrap_i64 (x:Int):IntKind.i64.wrap x=RowKit.wrap64 x:=by
 unfold IntKind.wrap RowKit.wrap64 IntKind.bits IntKind.signed
 simp
 split <;> omega
theorem wrap_u64 (x:Int):IntKind.u64.wrap x=x % 18446744073709551616:=by unfold IntKind.wrap;rfl
theorem xor_all (a:Nat) (ha:a < 18446744073709551616):bits .xor .u64 (a:Int) 18446744073709551615=((18446744073709551615 - a:Nat):Int):=by
 have h:=u64_xor_nat a 18446744073709551615 ha (by decide)
 have e:a ^^^ 18446744073709551615=18446744073709551615 - a:=by
  have h2:=BitVec.xor_allOnes (x:=BitVec.ofNat 64 a)
  have h3:=congrArg BitVec.toNat h2
  rw [BitVec.toNat_xor,BitVec.toNat_not,BitVec.toNat_allOnes,BitVec.toNat_ofNat,Nat.mod_eq_of_lt ha] at h3
  have h4:(2:Nat) ^ 64 - 1=18446744073709551615:=by decide
  rw [h4] at h3
  rw [h3]
 rw [← e]
 exact h
theorem xor_none (a:Nat) (ha:a < 18446744073709551616):bits .xor .u64 (a:Int) 0=(a:Int):=by
 have h:=u64_xor_nat a 0 ha (by decide)
 rw [Nat.xor_zero] at h
 exact h
theorem i64_xor_m1 (a:Nat) (ha:a < 9223372036854775808):bits .xor .i64 (a:Int) (-1) = -1 - (a:Int):=by
 show IntKind.i64.wrap ((BitVec.ofInt 64 (a:Int) ^^^ BitVec.ofInt 64 (-1)).toNat:Int)=_
 rw [BitVec.xor_comm]
 exact i64_not a ha
theorem i64_xor_0 (a:Nat) (ha:a < 9223372036854775808):bits .xor .i64 (a:Int) 0=(a:Int):=by
 show IntKind.i64.wrap ((BitVec.ofInt 64 (a:Int) ^^^ BitVec.ofInt 64 0).toNat:Int)=_
 have h0:BitVec.ofInt 64 0=0#64:=by decide
 rw [h0,BitVec.xor_zero,ofInt_u64 a (by omega)]
 simp [IntKind.wrap,IntKind.bits,IntKind.signed]
 omega
def coll (k:Nat):Deferred:={ target:=.collected k,args:=#[] }
theorem lc2 {F:Fence} {n:Nat} {P:Program} {fn:Func} {tmps:Array Value} {R:Ending→World→Prop}:∀ (ks:List Nat) (w:World),ks.Nodup→(∀ k ∈ ks,w.heap[k]? = some (.deferred (some []))) →
  (∀ w',w'.os=w.os→w'.tape=w.tape→w'.output=w.output→w'.heap.size=w.heap.size→(∀ k,k ∉ ks→w'.heap[k]? = w.heap[k]?)→LeavesInM F n P fn tmps R [] .returning w')→LeavesInM F n P fn tmps R (ks.map coll) .returning w
 | [],w,_,_,h=>h w rfl rfl rfl rfl fun _ _=>rfl
 | k :: ks,w,hn,hk,h=>by
   have hn':=List.nodup_cons.1 hn
   refine ⟨by simp,.inl ⟨k,_,rfl,run_takeDeferred (hk k (by simp)),?_⟩⟩
   refine lc2 ks _ hn'.2 (fun j hj => ?_) fun w' h1 h2 h3 h4 h5 => ?_
   ·rw [World.putObj_heap_other (fun e=>hn'.1 (by rw [← e];exact hj))]
    exact hk j (by simp [hj])
   ·refine h w' h1 h2 h3 (h4.trans (by simp)) fun j hj => ?_
    rw [h5 j (fun e=>hj (by simp [e]))]
    exact World.putObj_heap_other (fun e=>hj (by simp [e]))
end Go
namespace Go.Lib
open Go.RowKit
theorem IsBuilderF.block {T e:TypeId} {B b:Nat} {bs:List Value} {w:World} (h:IsBuilderF T e B b bs w):B≤b∧∃ c,w.heap[b]? = some (.cells c T (0,0)):=by
 rcases h with ⟨h1,v,h2,_⟩ | ⟨h1,v,h2,_⟩
 ·exact ⟨h1,_,h2⟩
 ·exact ⟨h1,_,h2⟩
end Go.Lib
namespace Tess
def cs4 (n:Nat):Nat:=if n % 2=1 then (n / 2) ^^^ 3988292384 else n / 2
def cN2:Nat→Nat→Nat
 | 0,n=>n
 | k + 1,n=>cs4 (cN2 k n)
def crc1 (n:Nat) (c:UInt8):Nat:=cN2 8 (n ^^^ c.toNat)
def crcs (l:List UInt8):Nat:=l.foldl crc1 4294967295
def csum (l:List UInt8):Nat:=crcs l ^^^ 4294967295
theorem cNs2 (k:Nat) (n:Nat):cN2 (k + 1) n=cs4 (cN2 k n):=rfl
theorem xor_lt (a b:Nat) (ha:a < 4294967296) (hb:b < 4294967296):a ^^^ b < 4294967296:=Nat.xor_lt_two_pow (n:=32) ha hb
theorem cstep_lt (n:Nat) (h:n < 4294967296):cs4 n < 4294967296:=by
 unfold cs4;split
 ·exact xor_lt _ _ (by omega) (by omega)
 ·omega
theorem cNl (k n:Nat) (h:n < 4294967296):cN2 k n < 4294967296:=by
 induction k with
 | zero=>exact h
 | succ k ih=>exact cstep_lt _ ih
theorem crc1_lt (n:Nat) (c:UInt8) (h:n < 4294967296):crc1 n c < 4294967296:=
 cNl _ _ (xor_lt _ _ h (by have:=c.toNat_lt;omega))
theorem crcs_snoc (l:List UInt8) (c:UInt8):crcs (l ++ [c])=crc1 (crcs l) c:=by
 simp [crcs]
theorem foldl_lt (l:List UInt8):∀ n,n < 4294967296→l.foldl crc1 n < 4294967296:=by
 induction l with
 | nil=>exact fun n h=>h
 | cons c l ih=>exact fun n h=>ih _ (crc1_lt n c h)
theorem crcs_lt (l:List UInt8):crcs l < 4294967296:=foldl_lt l _ (by omega)
theorem csum_lt (l:List UInt8):csum l < 4294967296:=xor_lt _ _ (crcs_lt l) (by omega)
theorem ts2 (s:ByteArray) (k:Nat) (h:k < s.size):s.data.toList.take (k + 1)=s.data.toList.take k ++ [s[k]]:=by
 rw [List.take_succ_eq_append_getElem (by simpa using h)];rfl
theorem ct3 (s:ByteArray) (k:Nat) (h:k < s.size):crcs (s.data.toList.take (k + 1))=cN2 8 (crcs (s.data.toList.take k) ^^^ s[k].toNat):=by
 rw [ts2 s k h,crcs_snoc];rfl
theorem xor_half (a b:Nat):(a ^^^ b) / 2=a / 2 ^^^ b / 2:=Nat.xor_div_two ..
theorem xor_odd (a b:Nat):(a ^^^ b) % 2=(a % 2 + b % 2) % 2:=by
 have h:=Nat.xor_mod_two_pow (a:=a) (b:=b) (n:=1)
 rw [Nat.pow_one] at h
 rw [h]
 rcases Nat.mod_two_eq_zero_or_one a with ha | ha <;> rcases Nat.mod_two_eq_zero_or_one b with hb | hb <;> rw [ha,hb] <;> rfl
theorem xor_4 (a b p:Nat):a ^^^ b=(a ^^^ p) ^^^ (b ^^^ p):=by
 rw [Nat.xor_assoc,← Nat.xor_assoc p b p,Nat.xor_comm p b,Nat.xor_assoc b p p,Nat.xor_self,Nat.xor_zero]
theorem cstep_xor (a b:Nat):cs4 (a ^^^ b)=cs4 a ^^^ cs4 b:=by
 unfold cs4
 rw [xor_half,xor_odd]
 rcases Nat.mod_two_eq_zero_or_one a with ha | ha <;> rcases Nat.mod_two_eq_zero_or_one b with hb | hb <;> simp [ha,hb]
 ·rw [Nat.xor_assoc]
 ·rw [Nat.xor_assoc,Nat.xor_assoc,Nat.xor_comm (b / 2)]
 ·exact xor_4 _ _ _
theorem cstepN_xor (k a b:Nat):cN2 k (a ^^^ b)=cN2 k a ^^^ cN2 k b:=by
 induction k with
 | zero=>rfl
 | succ k ih=>rw [cN2,ih,cstep_xor];rfl
theorem cstep_even (q:Nat):cs4 (2 * q)=q:=by
 unfold cs4;rw [if_neg (by omega)];omega
theorem cstepN_256 (q:Nat):cN2 8 (256 * q)=q:=by
 rw [show 256 * q=2 * (2 * (2 * (2 * (2 * (2 * (2 * (2 * q))))))) from by omega]
 simp only [cN2,cstep_even]
theorem split_256 (n:Nat):n=(256 * (n / 256)) ^^^ (n % 256):=by
 apply Nat.eq_of_testBit_eq
 intro i
 rw [Nat.testBit_xor,show (256:Nat)=2 ^ 8 from rfl,Nat.testBit_two_pow_mul,Nat.testBit_mod_two_pow,Nat.testBit_div_two_pow]
 by_cases h:i < 8
 ·have:¬ 8≤i:=by omega
  simp [h,this]
 ·have h8:8≤i:=by omega
  simp [h,h8,show i - 8 + 8=i from by omega]
theorem crc_tab (n c:Nat):(n / 256) ^^^ cN2 8 ((n % 256) ^^^ c)=cN2 8 (n ^^^ c):=by
 conv=>rhs;rw [split_256 n]
 rw [Nat.xor_assoc,cstepN_xor 8 (256 * (n / 256)),cstepN_256]
def num4 (l:List UInt8):Nat:=l.foldl (fun n c=>n * 256 + c.toNat) 0
def be4 (n:Nat):ByteArray:=⟨#[UInt8.ofNat (n / 16777216 % 256),UInt8.ofNat (n / 65536 % 256),UInt8.ofNat (n / 256 % 256),UInt8.ofNat (n % 256)]⟩
theorem num4_snoc (l:List UInt8) (c:UInt8):num4 (l ++ [c])=num4 l * 256 + c.toNat:=by simp [num4]
theorem nt2 (s:ByteArray) (k:Nat) (h:k < s.size):num4 (s.data.toList.take (k + 1))=num4 (s.data.toList.take k) * 256 + s[k].toNat:=by
 rw [ts2 s k h,num4_snoc]
theorem num4_lt (l:List UInt8):num4 l < 256 ^ l.length:=by
 suffices h:∀ (l:List UInt8) (n:Nat),l.foldl (fun n c=>n * 256 + c.toNat) n < (n + 1) * 256 ^ l.length by
  have:=h l 0;simpa [num4] using this
 intro l
 induction l with
 | nil=>intro n;simp
 | cons c l ih=>
   intro n
   have h1:=ih (n * 256 + c.toNat)
   have h2:=c.toNat_lt
   simp only [List.foldl_cons,List.length_cons,Nat.pow_succ]
   refine Nat.lt_of_lt_of_le h1 ?_
   rw [Nat.mul_comm (256 ^ l.length) 256,← Nat.mul_assoc]
   exact Nat.mul_le_mul_right _ (by omega)
theorem num4_lt3 (l:List UInt8) (h:l.length≤3):num4 l < 16777216:=by
 have h1:=num4_lt l
 have h2:256 ^ l.length≤256 ^ 3:=Nat.pow_le_pow_right (by omega) h
 omega
theorem num4_lt4 (l:List UInt8) (h:l.length≤4):num4 l < 4294967296:=by
 have h1:=num4_lt l
 have h2:256 ^ l.length≤256 ^ 4:=Nat.pow_le_pow_right (by omega) h
 omega
theorem num4_take4 (s:ByteArray) (h:4≤s.size):num4 (s.data.toList.take 4)=((s[0].toNat * 256 + s[1].toNat) * 256 + s[2].toNat) * 256 + s[3].toNat:=by
 rw [nt2 s 3 (by omega),nt2 s 2 (by omega),nt2 s 1 (by omega),nt2 s 0 (by omega)]
 simp [num4]
def mkf (s:ByteArray):ByteArray:=be4 s.size ++ be4 (csum s.data.toList) ++ s
def frm (s:ByteArray) (k:Nat):ByteArray:=s.extract k s.size
def rd (s:ByteArray):ByteArray×ByteArray×Nat:=
 if s.size < 8 then (⟨#[]⟩,s,21)
 else if 60000 < num4 (s.data.toList.take 4) then (⟨#[]⟩,s,30)
 else if s.size < 8 + num4 (s.data.toList.take 4) then (⟨#[]⟩,s,21)
 else if csum (s.extract 8 (8 + num4 (s.data.toList.take 4))).data.toList=num4 ((frm s 4).data.toList.take 4) then (s.extract 8 (8 + num4 (s.data.toList.take 4)),frm s (8 + num4 (s.data.toList.take 4)),0)
 else (⟨#[]⟩,s,31)
end Tess
namespace Tess
theorem be4_num (n:Nat) (h:n < 4294967296):num4 (be4 n).data.toList=n:=by
 simp [num4,be4]
 omega
theorem ml4 (c:ByteArray):(mkf c).data.toList=(be4 c.size).data.toList ++ ((be4 (csum c.data.toList)).data.toList ++ c.data.toList):=by
 simp [mkf,ByteArray.data_append]
theorem ms3 (c:ByteArray):(mkf c).size=8 + c.size:=by
 simp only [mkf,ByteArray.size_append];show 4 + 4 + c.size=8 + c.size;omega
theorem be4_len (n:Nat):(be4 n).data.toList.length=4:=rfl
theorem ext_list (s:ByteArray) (a b:Nat):(s.extract a b).data.toList=(s.data.toList.drop a).take (b - a):=by
 simp [ByteArray.data_extract,Array.toList_extract,List.extract]
theorem sl5 (s:ByteArray):s.data.toList.length=s.size:=by simp
theorem mkf_num (c:ByteArray) (h:c.size≤60000) (t:List UInt8):num4 (((mkf c).data.toList ++ t).take 4)=c.size:=by
 rw [ml4,List.append_assoc,List.take_left' (be4_len _),be4_num _ (by omega)]
theorem rd_mkf (c t:ByteArray) (h:c.size≤60000):rd (mkf c ++ t)=(c,t,0):=by
 have hl:(mkf c ++ t).data.toList=(mkf c).data.toList ++ t.data.toList:=by simp [ByteArray.data_append]
 have hs:(mkf c ++ t).size=8 + c.size + t.size:=by rw [ByteArray.size_append,ms3]
 have hn:num4 ((mkf c ++ t).data.toList.take 4)=c.size:=by rw [hl];exact mkf_num c h _
 have h8:(be4 c.size ++ be4 (csum c.data.toList)).size=8:=rfl
 have e1:(mkf c ++ t).extract 8 (8 + c.size)=c:=by
  apply ByteArray.ext
  apply Array.toList_inj.1
  rw [ext_list,hl,ml4,← List.append_assoc,List.append_assoc _ c.data.toList,List.drop_left' (by rw [List.length_append];rfl),Nat.add_sub_cancel_left,List.take_left' (sl5 c)]
 have e2:frm (mkf c ++ t) (8 + c.size)=t:=by
  apply ByteArray.ext
  apply Array.toList_inj.1
  unfold frm
  rw [ext_list,hl,List.drop_left' (by rw [sl5,ms3]),hs,List.take_of_length_le (by rw [sl5];omega)]
 have e3:num4 ((frm (mkf c ++ t) 4).data.toList.take 4)=csum c.data.toList:=by
  unfold frm
  rw [ext_list,hl,ml4,List.append_assoc,List.drop_left' (be4_len _),List.take_take,Nat.min_eq_left (by omega),List.append_assoc,List.take_left' (be4_len _),be4_num _ (csum_lt _)]
 unfold rd
 rw [hn,hs,if_neg (by omega),if_neg (by omega),if_neg (by omega),e1,e2,e3,if_pos rfl]
end Tess
namespace Tess
def joinL (l:List ByteArray):ByteArray:=l.foldl (fun o s=>o ++ mkf s) ⟨#[]⟩
theorem joinL_snoc (l:List ByteArray) (s:ByteArray):joinL (l ++ [s])=joinL l ++ mkf s:=by simp [joinL]
theorem jLt (l:List ByteArray) (k:Nat) (h:k < l.length):joinL (l.take (k + 1))=joinL (l.take k) ++ mkf l[k]:=by
 rw [List.take_succ_eq_append_getElem h,joinL_snoc]
def sF:Nat→List ByteArray→ByteArray→List ByteArray×Nat
 | 0,out,_=>(out,0)
 | f + 1,out,s=>if s.size=0 then (out,0) else if (rd s).2.2=0 then sF f (out ++ [(rd s).1]) (rd s).2.1 else ([],(rd s).2.2)
theorem rr3 (s:ByteArray) (h:(rd s).2.2=0):(rd s).2.1.size + 8≤s.size∧(rd s).1.size≤s.size:=by
 unfold rd at h ⊢
 split
 ·rename_i h1;rw [if_pos h1] at h;cases h
 ·rename_i h1
  rw [if_neg h1] at h
  split
  ·rename_i h2;rw [if_pos h2] at h;cases h
  ·rename_i h2
   rw [if_neg h2] at h
   split
   ·rename_i h3;rw [if_pos h3] at h;cases h
   ·rename_i h3
    rw [if_neg h3] at h
    split
    ·simp only [frm,ByteArray.size_extract];omega
    ·rename_i h4;rw [if_neg h4] at h;cases h
theorem sFz (f:Nat) (out:List ByteArray) (s:ByteArray) (h:s.size=0):sF f out s=(out,0):=by
 cases f with
 | zero=>rfl
 | succ f=>rw [sF,if_pos h]
theorem sFe (f:Nat) (out:List ByteArray) (s:ByteArray) (h:s.size≠0) (hf:s.size≤f) (he:(rd s).2.2≠0):sF f out s=([],(rd s).2.2):=by
 cases f with
 | zero=>omega
 | succ f=>rw [sF,if_neg h,if_neg he]
theorem sFs (f:Nat) (out:List ByteArray) (s:ByteArray) (h:s.size≠0) (hf:s.size≤f) (he:(rd s).2.2=0):∃ f',(rd s).2.1.size≤f'∧sF f out s=sF f' (out ++ [(rd s).1]) (rd s).2.1:=by
 cases f with
 | zero=>omega
 | succ f=>
   refine ⟨f,?_,by rw [sF,if_neg h,if_pos he]⟩
   have:=(rr3 s he).1
   omega
end Tess
namespace Tess
theorem joinL_from (l:List ByteArray):∀ o:ByteArray,l.foldl (fun o s=>o ++ mkf s) o=o ++ joinL l:=by
 induction l with
 | nil=>intro o;exact (ByteArray.append_empty).symm
 | cons s l ih=>
   intro o
   have e:joinL (s :: l)=(⟨#[]⟩ ++ mkf s) ++ joinL l:=ih _
   rw [List.foldl_cons,ih,e,show (⟨#[]⟩:ByteArray) ++ mkf s=mkf s from ByteArray.empty_append,ByteArray.append_assoc]
theorem jLc (s:ByteArray) (l:List ByteArray):joinL (s :: l)=mkf s ++ joinL l:=by
 rw [joinL,List.foldl_cons,joinL_from,show (⟨#[]⟩:ByteArray) ++ mkf s=mkf s from ByteArray.empty_append]
end Tess
namespace Tess.Kl
structure Sto {K:Type} (lt:K→K→Bool):Prop where
 irr:∀ a,lt a a=false
 trans:∀ {a b c},lt a b=true→lt b c=true→lt a c=true
 tri:∀ {a b},lt a b=false→lt b a=false→a=b
section lex
variable {α:Type} (lt:α→α→Bool)
def lex:List α→List α→Bool
 | _,[]=>false
 | [],_ :: _=>true
 | a :: l,b :: m=>lt a b || (!lt b a && lex l m)
theorem lex_sto {lt:α→α→Bool} (h:Sto lt):Sto (lex lt) where
 irr l:=by
  induction l with
  | nil=>rfl
  | cons a l ih=>simp [lex,h.irr,ih]
 trans {l m n}:=by
  induction l generalizing m n with
  | nil=>cases m <;> cases n <;> simp [lex]
  | cons a l ih=>
    cases m with
    | nil=>simp [lex]
    | cons b m=>
      cases n with
      | nil=>simp [lex]
      | cons c n=>
        simp only [lex,Bool.or_eq_true,Bool.and_eq_true,Bool.not_eq_true']
        rintro (h1 | ⟨h1,h2⟩) (h3 | ⟨h3,h4⟩)
        ·exact Or.inl (h.trans h1 h3)
        ·cases hbc:lt b c
         ·obtain rfl:=h.tri hbc h3;exact Or.inl h1
         ·exact Or.inl (h.trans h1 hbc)
        ·cases hab:lt a b
         ·obtain rfl:=h.tri hab h1;exact Or.inl h3
         ·exact Or.inl (h.trans hab h3)
        ·cases hab:lt a b
         ·obtain rfl:=h.tri hab h1
          exact Or.inr ⟨h3,ih h2 h4⟩
         ·cases hbc:lt b c
          ·obtain rfl:=h.tri hbc h3;exact Or.inl hab
          ·exact Or.inl (h.trans hab hbc)
 tri {l m}:=by
  induction l generalizing m with
  | nil=>cases m <;> simp [lex]
  | cons a l ih=>
    cases m with
    | nil=>simp [lex]
    | cons b m=>
      simp only [lex,Bool.or_eq_false_iff,Bool.and_eq_false_iff,Bool.not_eq_false']
      rintro ⟨h1,h2⟩ ⟨h3,h4⟩
      obtain rfl:=h.tri h1 h3
      rcases h2 with h2 | h2
      ·rw [h.irr] at h2;cases h2
      rcases h4 with h4 | h4
      ·rw [h.irr] at h4;cases h4
      rw [ih h2 h4]
def pair {β:Type} (lt':β→β→Bool) (x y:α×β):Bool:=lt x.1 y.1 || (!lt y.1 x.1 && lt' x.2 y.2)
theorem pair_sto {β:Type} {lt:α→α→Bool} {lt':β→β→Bool} (h:Sto lt) (h':Sto lt'):Sto (pair lt lt') where
 irr x:=by simp [pair,h.irr,h'.irr]
 trans {x y z}:=by
  obtain ⟨a,l⟩:=x;obtain ⟨b,m⟩:=y;obtain ⟨c,n⟩:=z
  simp only [pair,Bool.or_eq_true,Bool.and_eq_true,Bool.not_eq_true']
  rintro (h1 | ⟨h1,h2⟩) (h3 | ⟨h3,h4⟩)
  ·exact Or.inl (h.trans h1 h3)
  ·cases hbc:lt b c
   ·obtain rfl:=h.tri hbc h3;exact Or.inl h1
   ·exact Or.inl (h.trans h1 hbc)
  ·cases hab:lt a b
   ·obtain rfl:=h.tri hab h1;exact Or.inl h3
   ·exact Or.inl (h.trans hab h3)
  ·cases hab:lt a b
   ·obtain rfl:=h.tri hab h1
    exact Or.inr ⟨h3,h'.trans h2 h4⟩
   ·cases hbc:lt b c
    ·obtain rfl:=h.tri hbc h3;exact Or.inl hab
    ·exact Or.inl (h.trans hab hbc)
 tri {x y}:=by
  obtain ⟨a,l⟩:=x;obtain ⟨b,m⟩:=y
  simp only [pair,Bool.or_eq_false_iff,Bool.and_eq_false_iff,Bool.not_eq_false']
  rintro ⟨h1,h2⟩ ⟨h3,h4⟩
  obtain rfl:=h.tri h1 h3
  rcases h2 with h2 | h2
  ·rw [h.irr] at h2;cases h2
  rcases h4 with h4 | h4
  ·rw [h.irr] at h4;cases h4
  rw [h'.tri h2 h4]
end lex
section keyed
variable {K P:Type} {lt:K→K→Bool} {add:P→P→P}
def ins (lt:K→K→Bool) (add:P→P→P) (x:K×P):List (K×P)→List (K×P)
 | []=>[x]
 | y :: r=>if lt y.1 x.1 then y :: ins lt add x r else if lt x.1 y.1 then x :: y :: r else (y.1,add y.2 x.2) :: r
def fold (lt:K→K→Bool) (add:P→P→P) (l:List (K×P)):List (K×P):=l.foldl (fun m x=>ins lt add x m) []
def oadd (add:P→P→P):Option P→Option P→Option P
 | none,b=>b
 | a,none=>a
 | some a,some b=>some (add a b)
def sum (add:P→P→P) (c:K→Bool):List (K×P)→Option P
 | []=>none
 | x :: r=>oadd add (if c x.1 then some x.2 else none) (sum add c r)
structure Com (add:P→P→P):Prop where
 comm:∀ a b,add a b=add b a
 assoc:∀ a b c,add (add a b) c=add a (add b c)
def Asc (lt:K→K→Bool) (l:List (K×P)):Prop:=l.Pairwise fun a b=>lt a.1 b.1=true
theorem on2 (a:Option P):oadd add a none=a:=by cases a <;> rfl
theorem no2 (a:Option P):oadd add none a=a:=by cases a <;> rfl
theorem oc4 (h:Com add) (a b:Option P):oadd add a b=oadd add b a:=by
 cases a <;> cases b <;> simp [oadd,h.comm]
theorem oa2 (h:Com add) (a b c:Option P):oadd add (oadd add a b) c=oadd add a (oadd add b c):=by
 cases a <;> cases b <;> cases c <;> simp [oadd,h.assoc]
theorem sum_append (h:Com add) (c:K→Bool) (l m:List (K×P)):sum add c (l ++ m)=oadd add (sum add c l) (sum add c m):=by
 induction l with
 | nil=>rw [List.nil_append,sum,no2]
 | cons x l ih=>rw [List.cons_append,sum,sum,ih,oa2 h]
theorem sn3 {c:K→Bool} {l:List (K×P)} (h:∀ x ∈ l,c x.1=false):sum add c l=none:=by
 induction l with
 | nil=>rfl
 | cons x l ih=>rw [sum,h x (by simp),ih fun y hy=>h y (by simp [hy])];rfl
theorem sum_some {c:K→Bool} {l:List (K×P)} {x:K×P} (hx:x ∈ l) (hc:c x.1=true):sum add c l≠none:=by
 induction l with
 | nil=>cases hx
 | cons y l ih=>
   rw [sum]
   rcases List.mem_cons.1 hx with rfl | h
   ·rw [hc,if_pos rfl];cases sum add c l <;> simp [oadd]
   ·have:=ih h
    cases hs:sum add c l
    ·exact absurd hs this
    ·cases (if c y.1 then some y.2 else none) <;> simp [oadd]
theorem sum_ins (hk:Sto lt) (h:Com add) (c:K→Bool) (x:K×P) (l:List (K×P)):sum add c (ins lt add x l)=oadd add (sum add c l) (if c x.1 then some x.2 else none):=by
 induction l with
 | nil=>simp only [ins,sum,on2,no2]
 | cons y l ih=>
   rw [ins]
   split
   ·rw [sum,sum,ih,oa2 h]
   split
   ·rw [sum,oc4 h]
   ·rename_i h1 h2
    obtain e:y.1=x.1:=hk.tri (by simpa using h1) (by simpa using h2)
    rw [sum,sum,← e,oa2 h,oc4 h (sum add c l),← oa2 h]
    cases c y.1 <;> rfl
theorem sum_foldl (hk:Sto lt) (h:Com add) (c:K→Bool) (l m:List (K×P)):sum add c (l.foldl (fun m x=>ins lt add x m) m)=oadd add (sum add c m) (sum add c l):=by
 induction l generalizing m with
 | nil=>rw [List.foldl_nil,sum,on2]
 | cons x l ih=>rw [List.foldl_cons,ih,sum_ins hk h,oa2 h];rfl
theorem sf3 (hk:Sto lt) (h:Com add) (c:K→Bool) (l:List (K×P)):sum add c (fold lt add l)=sum add c l:=by
 rw [fold,sum_foldl hk h,sum,no2]
theorem mem_ins {x y:K×P} {l:List (K×P)} (h:y ∈ ins lt add x l):y.1=x.1∨∃ z ∈ l,z.1=y.1:=by
 induction l with
 | nil=>simp only [ins,List.mem_singleton] at h;exact Or.inl (by rw [h])
 | cons z l ih=>
   rw [ins] at h
   split at h
   ·rcases List.mem_cons.1 h with rfl | h
    ·exact Or.inr ⟨_,by simp,rfl⟩
    ·rcases ih h with h | ⟨u,hu,e⟩
     ·exact Or.inl h
     ·exact Or.inr ⟨u,by simp [hu],e⟩
   split at h
   ·rcases List.mem_cons.1 h with rfl | h
    ·exact Or.inl rfl
    ·exact Or.inr ⟨y,h,rfl⟩
   ·rcases List.mem_cons.1 h with rfl | h
    ·exact Or.inr ⟨z,by simp,rfl⟩
    ·exact Or.inr ⟨y,by simp [h],rfl⟩
theorem ins_asc (hk:Sto lt) (x:K×P) {l:List (K×P)} (h:Asc lt l):Asc lt (ins lt add x l):=by
 induction l with
 | nil=>exact List.pairwise_singleton _ _
 | cons y l ih=>
   obtain ⟨h1,h2⟩:=List.pairwise_cons.1 h
   rw [ins]
   split
   ·rename_i hyx
    refine List.pairwise_cons.2 ⟨fun z hz => ?_,ih h2⟩
    rcases mem_ins hz with e | ⟨u,hu,e⟩
    ·rw [e];exact hyx
    ·rw [← e];exact h1 u hu
   split
   ·rename_i hxy
    refine List.pairwise_cons.2 ⟨fun z hz => ?_,h⟩
    rcases List.mem_cons.1 hz with rfl | hz
    ·exact hxy
    ·exact hk.trans hxy (h1 z hz)
   ·exact List.pairwise_cons.2 ⟨h1,h2⟩
theorem foldl_asc (hk:Sto lt) (l:List (K×P)) {m:List (K×P)} (h:Asc lt m):Asc lt (l.foldl (fun m x=>ins lt add x m) m):=by
 induction l generalizing m with
 | nil=>exact h
 | cons x l ih=>exact ih (ins_asc hk x h)
theorem fold_asc (hk:Sto lt) (l:List (K×P)):Asc lt (fold lt add l):=foldl_asc hk l List.Pairwise.nil
def at' (lt:K→K→Bool) (k:K) (x:K):Bool := !lt x k && !lt k x
theorem ai (hk:Sto lt) {k x:K}:at' lt k x=true↔x=k:=by
 unfold at'
 constructor
 ·intro h
  simp only [Bool.and_eq_true,Bool.not_eq_true'] at h
  exact hk.tri h.1 h.2
 ·rintro rfl
  simp [hk.irr]
theorem sa7 (hk:Sto lt) {x:K×P} {l:List (K×P)} (h:Asc lt (x :: l)):sum add (at' lt x.1) (x :: l)=some x.2:=by
 obtain ⟨h1,_⟩:=List.pairwise_cons.1 h
 rw [sum,sn3 (c:=at' lt x.1) (l:=l),(ai hk).2 rfl]
 ·rfl
 ·intro y hy
  have:=h1 y hy
  cases he:at' lt x.1 y.1
  ·rfl
  ·rw [(ai hk).1 he,hk.irr] at this;cases this
theorem ext (hk:Sto lt) {l m:List (K×P)} (hl:Asc lt l) (hm:Asc lt m) (h:∀ k,sum add (at' lt k) l=sum add (at' lt k) m):l=m:=by
 induction l generalizing m with
 | nil=>
   cases m with
   | nil=>rfl
   | cons y m=>have:=h y.1;rw [sa7 hk hm] at this;cases this
 | cons x l ih=>
   cases m with
   | nil=>have:=h x.1;rw [sa7 hk hl] at this;cases this
   | cons y m=>
     obtain ⟨a1,a2⟩:=List.pairwise_cons.1 hl
     obtain ⟨b1,b2⟩:=List.pairwise_cons.1 hm
     have Ac:x.1=y.1:=by
      have hx:=h x.1
      have hy:=h y.1
      rw [sa7 hk hl] at hx
      rw [sa7 hk hm] at hy
      cases e1:lt x.1 y.1
      ·cases e2:lt y.1 x.1
       ·exact hk.tri e1 e2
       ·exfalso
        have:sum add (at' lt y.1) (x :: l)=none:=sn3 fun z hz=>by
         cases he:at' lt y.1 z.1
         ·rfl
         ·have:=(ai hk).1 he
          rcases List.mem_cons.1 hz with rfl | hz
          ·rw [this,hk.irr] at e2;cases e2
          ·have h3:=hk.trans e2 (a1 z hz);rw [this,hk.irr] at h3;cases h3
        rw [this] at hy;cases hy
      ·exfalso
       have:sum add (at' lt x.1) (y :: m)=none:=sn3 fun z hz=>by
        cases he:at' lt x.1 z.1
        ·rfl
        ·have:=(ai hk).1 he
         rcases List.mem_cons.1 hz with rfl | hz
         ·rw [this,hk.irr] at e1;cases e1
         ·have h3:=hk.trans e1 (b1 z hz);rw [this,hk.irr] at h3;cases h3
       rw [this] at hx;cases hx
     have Aa:x.2=y.2:=by
      have hx:=h x.1
      rw [sa7 hk hl,Ac,sa7 hk hm] at hx
      exact Option.some.inj hx
     have Ad:x=y:=Prod.ext Ac Aa
     subst Ad
     congr 1
     refine ih a2 b2 fun k => ?_
     have Ab:=h k
     rw [sum,sum] at Ab
     cases hc:at' lt k x.1
     ·rw [hc] at Ab
      simpa [no2] using Ab
     ·have e:=(ai hk).1 hc
      rw [sn3 (l:=l),sn3 (l:=m)]
      ·intro z hz
       cases he:at' lt k z.1
       ·rfl
       ·have h3:=b1 z hz;rw [(ai hk).1 he,e,hk.irr] at h3;cases h3
      ·intro z hz
       cases he:at' lt k z.1
       ·rfl
       ·have h3:=a1 z hz;rw [(ai hk).1 he,e,hk.irr] at h3;cases h3
end keyed
section regroup
variable {K L P:Type} {lt:K→K→Bool} {lt':L→L→Bool} {add:P→P→P}
end regroup
end Tess.Kl
