/- Joined by mergeK.py: D21p, D21, D22, U7, UV, T1, D23, D24, D25 -/
import Derived.Test.YtjdccifdkjnknaaGreatDoorAC13
import Derived.LaidEql
import Derived.Stop.Asserts
import Derived.Test.YtjdccifdkjnknaaGreatDoorRows
import Derived.ChangeSame
import Derived.ChangeVars
import Derived.JoinedOf
import Derived.Lay
import Derived.RowKit
import Derived.RowKitTokens
import Derived.LaidLaws
import Derived.LaidHandle
import Derived.Stop.Joined
import Derived.Stop.LaidTwo
import Derived.Stop.ErrReads
import Derived.Test.YtjdccifdkjnknaaGreatDoorAC00
namespace Tess
def dec:List UInt8→Nat
 | []=>0
 | c :: cs=>c.toNat % 128 + 128 * dec cs
theorem da2 (L:List UInt8) (c:UInt8):dec (L ++ [c])=dec L + 128 ^ L.length * (c.toNat % 128):=by
 induction L with
 | nil=>simp [dec]
 | cons a L ih=>
   simp only [List.cons_append,dec,ih,List.length_cons,Nat.pow_succ]
   rw [Nat.mul_add,Nat.add_assoc]
   congr 2
   rw [← Nat.mul_assoc,Nat.mul_comm 128]
theorem dec_lt (L:List UInt8):dec L < 128 ^ L.length:=by
 induction L with
 | nil=>simp [dec]
 | cons a L ih=>
   simp only [dec,List.length_cons,Nat.pow_succ]
   have:=Nat.mod_lt a.toNat (show 0 < 128 by omega)
   omega
theorem pow_128 (k:Nat):128 ^ k=2 ^ (7 * k):=by rw [Nat.pow_mul]
theorem acc_step (L:List UInt8) (c:UInt8) (k:Nat) (hL:L.length=k) (hk:k≤9) :
  (dec L % 18446744073709551616) ||| (((c.toNat % 128) * 2 ^ (7 * k)) % 18446744073709551616)=dec (L ++ [c]) % 18446744073709551616:=by
 rw [da2,hL,pow_128]
 have hb:dec L < 2 ^ (7 * k):=by have:=dec_lt L;rw [hL,pow_128] at this;exact this
 generalize dec L=x at hb
 generalize c.toNat % 128=d
 obtain ⟨m,hm⟩:∃ m,64=7 * k + m:=⟨64 - 7 * k,by omega⟩
 rw [show (18446744073709551616:Nat)=2 ^ (7 * k) * 2 ^ m by rw [← Nat.pow_add,← hm]]
 have hp:0 < 2 ^ (7 * k):=Nat.pow_pos (by omega)
 have Aa:0 < 2 ^ m:=Nat.pow_pos (by omega)
 have e1:x % (2 ^ (7 * k) * 2 ^ m)=x:=Nat.mod_eq_of_lt (Nat.lt_of_lt_of_le hb (Nat.le_mul_of_pos_right _ Aa))
 rw [e1,Nat.mul_comm d,Nat.mul_mod_mul_left,Nat.or_comm,← Nat.two_pow_add_eq_or_of_lt hb,Nat.add_comm x,Nat.mod_mul,Nat.mul_add_mod,Nat.mod_eq_of_lt hb]
 rw [Nat.mul_add_div hp,Nat.div_eq_of_lt hb,Nat.add_zero,Nat.add_comm]
def goesOn (L:List UInt8):Prop:=∀ j (h:j < L.length),128≤L[j].toNat
theorem putL_dec (L:List UInt8):∀ (c:UInt8),goesOn L→c.toNat < 128→(L=[]∨c≠0)→putL (dec (L ++ [c]))=L ++ [c]:=by
 induction L with
 | nil=>
   intro c _ hc _
   rw [show dec ([] ++ [c])=c.toNat by simp [dec];omega,pLl2 _ hc]
   simp
 | cons a L ih=>
   intro c hg hc h0
   have ha:128≤a.toNat:=hg 0 (by simp)
   have Ac:=a.toNat_lt
   have Aa:c≠0:=by rcases h0 with h | h;cases h;exact h
   have hr:=ih c (fun j hj=>hg (j + 1) (by simpa using hj)) hc (.inr Aa)
   have Ab:0 < dec (L ++ [c]):=by
    rw [da2]
    have:0 < c.toNat % 128:=by
     rw [Nat.mod_eq_of_lt hc]
     exact Nat.pos_of_ne_zero fun e=>Aa (UInt8.toNat_inj.1 (by simpa using e))
    have:=Nat.mul_pos (Nat.pow_pos (n:=L.length) (show 0 < 128 by omega)) this
    omega
   rw [List.cons_append,show dec (a :: (L ++ [c]))=a.toNat % 128 + 128 * dec (L ++ [c]) from rfl,pLg _ (by omega)]
   rw [show (a.toNat % 128 + 128 * dec (L ++ [c])) / 128=dec (L ++ [c]) by omega,hr]
   congr 1
   apply UInt8.toNat_inj.1
   rw [UInt8.toNat_ofNat']
   omega
theorem dpL (k:Nat):∀ n,n < 128 ^ (k + 1)→dec (putL n)=n:=by
 induction k with
 | zero=>
   intro n hn
   rw [pLl2 n (by simpa using hn)]
   simp only [dec,UInt8.toNat_ofNat']
   omega
 | succ k ih=>
   intro n hn
   by_cases h:n < 128
   ·rw [pLl2 n h];simp only [dec,UInt8.toNat_ofNat'];omega
   ·rw [pLg n h]
    simp only [dec,UInt8.toNat_ofNat']
    rw [ih (n / 128) (by rw [Nat.pow_succ] at hn;omega)]
    omega
theorem pLl4 (k:Nat):∀ n,n < 128 ^ (k + 1)→∀ (L:List UInt8) (c:UInt8),putL n=L ++ [c]→L=[]∨c≠0:=by
 induction k with
 | zero=>
   intro n hn L c h
   rw [pLl2 n (by simpa using hn)] at h
   left
   cases L with
   | nil=>rfl
   | cons a L=>simp at h
 | succ k ih=>
   intro n hn L c h
   by_cases h1:n < 128
   ·rw [pLl2 n h1] at h
    left
    cases L with
    | nil=>rfl
    | cons a L=>simp at h
   ·rw [pLg n h1] at h
    cases L with
    | nil=>left;rfl
    | cons a L=>
      rw [List.cons_append] at h
      obtain ⟨_,h2⟩:=List.cons.inj h
      rcases ih (n / 128) (by rw [Nat.pow_succ] at hn;omega) L c h2 with h3 | h3
      ·right
       subst h3
       intro hc
       subst hc
       have:=congrArg dec h2
       rw [dpL k _ (by rw [Nat.pow_succ] at hn;omega)] at this
       simp [dec] at this
       omega
      ·right;exact h3
def stop (L:List UInt8):Nat:=(L.take 10).findIdx fun c=>decide (c.toNat < 128)
def gV (L:List UInt8) (k:Nat):Bool:=(decide (k=0) || decide (L.getD k 0≠0)) && (decide (k < 9) || decide ((L.getD k 0).toNat≤1))
def getW (s:ByteArray):Nat×ByteArray×Nat:=
 if stop s.data.toList < min s.size 10 then
  (if gV s.data.toList (stop s.data.toList) then (dec (s.data.toList.take (stop s.data.toList + 1)),s.extract (stop s.data.toList + 1) s.size,0) else (0,s,20))
 else (0,s,if s.size < 10 then 21 else 20)
theorem stop_at (L:List UInt8) (k:Nat) (_hk:k≤min L.length 10) (h:∀ j (hj:j < L.length),j < k→128≤L[j].toNat) (he:k=min L.length 10∨∃ hk:k < L.length,k < 10∧L[k].toNat < 128):stop L=k:=by
 unfold stop
 rcases he with he | ⟨Aa,Ab,he⟩
 ·rw [show k=(L.take 10).length by simp;omega,List.findIdx_eq_length]
  intro c hc
  obtain ⟨j,hj,rfl⟩:=List.getElem_of_mem hc
  simp only [List.length_take] at hj
  have:=h j (by omega) (by omega)
  rw [List.getElem_take]
  simpa using this
 ·rw [List.findIdx_eq (by simp;omega)]
  refine ⟨by rw [List.getElem_take];simpa using he,fun j hj => ?_⟩
  have:=h j (by omega) hj
  rw [List.getElem_take]
  simpa using this
theorem take_split (L:List UInt8) (k:Nat) (hk:k < L.length):L.take (k + 1)=L.take k ++ [L[k]]:=List.take_succ_eq_append_getElem hk
theorem again (L:List UInt8) (k:Nat) (hk:k < L.length) (hk9:k < 10) (h:∀ j (hj:j < L.length),j < k→128≤L[j].toNat) (hc:L[k].toNat < 128) :
  (putL (dec (L.take (k + 1)) % 18446744073709551616)=L.take (k + 1)↔gV L k=true)∧(gV L k=true→dec (L.take (k + 1)) < 18446744073709551616):=by
 have Ad:(L.take k).length=k:=by simp;omega
 have hg:L.getD k 0=L[k]:=by simp [hk]
 have Af:goesOn (L.take k):=fun j hj=>by rw [List.getElem_take];exact h j (by simp at hj;omega) (by simp at hj;omega)
 have hd:dec (L.take k ++ [L[k]])=dec (L.take k) + 128 ^ k * (L[k].toNat % 128):=by rw [da2,Ad]
 have Ag:dec (L.take k) < 128 ^ k:=by have:=dec_lt (L.take k);rwa [Ad] at this
 rw [take_split L k hk]
 have Aa:(k < 9∨L[k].toNat≤1)→dec (L.take k ++ [L[k]]) < 18446744073709551616:=by
  intro Ac
  rcases Ac with Ae | h1
  ·have:=dec_lt (L.take k ++ [L[k]])
   rw [List.length_append,Ad,List.length_singleton] at this
   have h2:128 ^ (k + 1)≤128 ^ 9:=Nat.pow_le_pow_right (by omega) (by omega)
   have h3:(128:Nat) ^ 9=9223372036854775808:=by decide
   omega
  ·rw [hd]
   have h2:128 ^ k≤128 ^ 9:=Nat.pow_le_pow_right (by omega) (by omega)
   have h3:(128:Nat) ^ 9=9223372036854775808:=by decide
   have h4:128 ^ k * (L[k].toNat % 128)≤128 ^ k * 1:=Nat.mul_le_mul_left _ (by omega)
   omega
 have Ab:gV L k=true↔(k=0∨L[k]≠0)∧(k < 9∨L[k].toNat≤1):=by
  unfold gV
  rw [hg]
  simp only [Bool.and_eq_true,Bool.or_eq_true,decide_eq_true_eq]
 refine ⟨⟨fun heq => ?_,fun hgv => ?_⟩,fun hgv=>Aa (Ab.1 hgv).2⟩
 ·rw [Ab]
  constructor
  ·rcases pLl4 9 _ (Nat.lt_of_lt_of_le (Nat.mod_lt _ (by omega)) (by decide)) _ _ heq with h1 | h1
   ·left
    have:=congrArg List.length h1
    rw [Ad] at this;simpa using this
   ·exact .inr h1
  ·have h1:=congrArg dec heq
   rw [dpL 9 _ (Nat.lt_of_lt_of_le (Nat.mod_lt _ (by omega)) (by decide))] at h1
   have h2:dec (L.take k ++ [L[k]]) < 18446744073709551616:=by rw [← h1];exact Nat.mod_lt _ (by omega)
   by_cases h9:k < 9
   ·exact .inl h9
   ·right
    obtain rfl:k=9:=by omega
    rw [hd] at h2
    have h3:(128:Nat) ^ 9=9223372036854775808:=by decide
    rw [h3] at h2
    omega
 ·obtain ⟨h1,h2⟩:=Ab.1 hgv
  rw [Nat.mod_eq_of_lt (Aa h2)]
  refine putL_dec _ _ Af hc ?_
  rcases h1 with h1 | h1
  ·left;subst h1;rfl
  ·exact .inr h1
end Tess
namespace Go.Proofs.YtjdccifdkjnknaaGreatDoor
open Go.RowKit Go.Sort Go.Shelf
set_option maxRecDepth 100000 in
theorem and_bits (c:UInt8):bits .and .u8 (c.toNat:Int) 127=((c.toNat % 128:Nat):Int):=by
 have Aa:∀ r:Fin 256,bits .and .u8 ((r.val:Nat):Int) 127=((r.val % 128:Nat):Int):=by decide +kernel
 exact Aa ⟨c.toNat,c.toNat_lt⟩
theorem wum (x:Int):IntKind.u64.wrap x=x % 18446744073709551616:=by
 unfold IntKind.wrap
 rfl
theorem shl_cast (d q:Nat):IntKind.u64.wrap ((d:Int) % 128 * 2 ^ q)=((((d % 128) * 2 ^ q) % 18446744073709551616:Nat):Int):=by
 rw [wum,Int.natCast_emod,Int.natCast_mul,Int.natCast_emod,Int.natCast_pow]
 rfl
def deV (a0 a1:Addr) (code:Nat):Value:=if code=0 then .nilIface else .iface 314 (.pointer (some (if code=21 then a0 else a1)))
structure DV2 (a0 a1:Addr) (w:World):Prop where
 ne:a0≠a1
 g0:w.cell? ⟨3,0,none⟩=some (.iface 222 (.agg #[.pointer (some ⟨5,75,none⟩)]))
 g1:w.cell? ⟨2,0,none⟩=some (.iface 314 (.pointer (some a0)))
 g2:w.cell? ⟨1,0,none⟩=some (.iface 314 (.pointer (some a1)))
 b0:∃ c0 t0,w.heap[a0.block]? = some (.cells c0 t0 (0,0))
 b1:∃ c1 t1,w.heap[a1.block]? = some (.cells c1 t1 (0,0))
set_option maxRecDepth 100000 in
set_option maxHeartbeats 4000000 in
theorem na3 (a0 a1:Addr) (p:Nat) (s:ByteArray) (w:World) (hv:DV2 a0 a1 w) (hp:w.cell? ⟨p,0,none⟩=some (.string s)) (hz:w.frozen? ⟨p,0,none⟩=false) :
  Calls Tryz.prog 170 #[.pointer (some ⟨p,0,none⟩)] w fun e w'=>e = .returned (.tuple #[.int .u64 ((Tess.getW s).1:Nat),deV a0 a1 (Tess.getW s).2.2])∧w'.cell? ⟨p,0,none⟩=some (.string (Tess.getW s).2.1)∧w'.frozen? ⟨p,0,none⟩=false∧Kept w.heap.size p w w':=by
 have g1:=hv.g1
 have g2:=hv.g2
 have Bb:=Hd (World.block_lt_of_cell? _ _ hp)
 refine (callsIn_wide (n:=5)).1 ?_
 refine callsIn_of_wp Tryz.func170 rfl trivial ?_ rfl
 simp only [Tryz.ntmps170,List.size_toArray,List.length_cons,List.length_nil,Nat.reduceAdd,Nat.reduceSub,Array.replicate_succ,Array.replicate_zero,List.push_toArray,List.append_toArray,List.nil_append,List.cons_append]
 gi_wp2
 refine Rf.wIs ?_
 gi_wp2
 refine wpIn_label ?_
 gi_wp2
 refine wpIn_wide.2 ?_
 go_loopw [4,5,15] (fun s4 s5 i wr => ∃ k:Nat,k≤min s.size 10∧i = .int .i64 k∧s5 = .int .i64 0∧s4 = .int .u64 (Tess.dec (s.data.toList.take k) % 18446744073709551616:Nat)∧(∀ j (hj:j < s.data.toList.length),j < k→128≤s.data.toList[j].toNat)∧wr=w) (fun _ _ i _=>10 - (intOf i).toNat)
 case atStart=>exact ⟨0,Nat.zero_le _,rfl,rfl,rfl,fun j _ h=>absurd h (Nat.not_lt_zero _),rfl⟩
 case round=>
  obtain ⟨k,hk,rfl,rfl,rfl,Al,rfl⟩:=hrel
  have HA:=Hd Al
  clear Al
  by_cases hlt:k < min s.size 10
  ·have An:k < s.size:=by omega
   have Bd:(k:Int) < (s.size:Int):=by omega
   have A4:(k:Int) < min (s.size:Int) 10:=by omega
   have A2:k≤9:=by omega
   have A0:=and_bits s[k]
   obtain ⟨q,hq⟩:∃ q,q=7 * k:=⟨_,rfl⟩
   have h7:(7:Int) * (k:Int)=(q:Int):=by omega
   have Ba:(0:Int)≤(q:Int):=by omega
   have A3:(q:Int)≤64:=by omega
   have A9:IntKind.i64.wrap (q:Int)=(q:Int):=by go_bits;first | trivial | omega
   obtain ⟨A,hA⟩:∃ A,A=Tess.dec (s.data.toList.take k) % 18446744073709551616:=⟨_,rfl⟩
   obtain ⟨B,hB⟩:∃ B,B=((s[k].toNat % 128) * 2 ^ (7 * k)) % 18446744073709551616:=⟨_,rfl⟩
   obtain ⟨C,hC⟩:∃ C,C=Tess.dec (s.data.toList.take (k + 1)) % 18446744073709551616:=⟨_,rfl⟩
   have Aj:A ||| B=C:=by
    rw [hA,hB,hC,Tess.take_split _ k (by simpa using An)]
    exact Tess.acc_step (s.data.toList.take k) s.data.toList[k] k (by simp;omega) A2
   have Am:A < 18446744073709551616:=by rw [hA];exact Nat.mod_lt _ (by omega)
   have Ao:B < 18446744073709551616:=by rw [hB];exact Nat.mod_lt _ (by omega)
   have A8:bits .or .u64 (A:Int) (B:Int)=(C:Int):=by rw [bits_or_u64_nat A B Am Ao,Aj]
   have A7:IntKind.u64.wrap (((s[k].toNat:Nat):Int) % 128 * 2 ^ q)=(B:Int):=by rw [shl_cast,hB,hq]
   rw [← hA]
   have HC:=Hd hC
   clear hA hB hC Aj hq Am Ao
   have Ai:s.data.toList[k]'(by simpa using An)=s[k]:=by simp;rfl
   have A6:IntKind.i64.wrap ((k:Int) + 1)=(k:Int) + 1:=by go_bits;first | trivial | omega
   have A5:IntKind.i64.wrap (k:Int)=(k:Int):=by go_bits;first | trivial | omega
   have A1:(k:Int) + 1 - 1=(k:Int):=by omega
   have Ay:((k:Int) + 1 == 0)=false:=by rw [beq_eq_false_iff_ne];omega
   have Ai:s.data.toList[k]'(by simpa using An)=s[k]:=by simp;rfl
   have A6:IntKind.i64.wrap ((k:Int) + 1)=(k:Int) + 1:=by go_bits;first | trivial | omega
   have A5:IntKind.i64.wrap (k:Int)=(k:Int):=by go_bits;first | trivial | omega
   have A1:(k:Int) + 1 - 1=(k:Int):=by omega
   have Ay:((k:Int) + 1 == 0)=false:=by rw [beq_eq_false_iff_ne];omega
   by_cases hc:s[k].toNat < 128
   ·have Az:((s[k].toNat:Nat):Int) < 128:=by omega
    have Ab:=Tess.stop_at s.data.toList k (by simp;omega) HA.out (.inr ⟨by simpa using An,by omega,by rw [Ai];exact hc⟩)
    have Au:=Tess.again s.data.toList k (by simpa using An) (by omega) HA.out (by rw [Ai];exact hc)
    have Aw:Tess.gV s.data.toList k=((decide (k=0) || decide (s[k]≠0)) && (decide (k < 9) || decide (s[k].toNat≤1))):=by
     unfold Tess.gV
     rw [show s.data.toList.getD k 0=s[k] by rw [← Ai,List.getD_eq_getElem?_getD,List.getElem?_eq_getElem];rfl]
    have Ad:=Hd Ab
    have Av:=Hd Au
    have Ax:=Hd Aw
    clear Ab Au Aw Ai
    have Ae:Tess.gV s.data.toList k=true→Tess.getW s=(C,s.extract (k + 1) s.size,0):=fun hg=>by
     unfold Tess.getW
     rw [Ad.out,if_pos hlt,if_pos hg,HC.out,Nat.mod_eq_of_lt (Av.out.2 hg)]
    have Af:Tess.gV s.data.toList k=false→Tess.getW s=(0,s,20):=fun hg=>by
     unfold Tess.getW
     rw [Ad.out,if_pos hlt,if_neg (by rw [hg];decide)]
    rw [Ax.out] at Ae Af
    have Aa:=Hd Ae
    have Ac:=Hd Af
    clear Ae Af Ax Av Ad HC
    have Bc:(k:Int) + 1≤(s.size:Int):=by omega
    by_cases h0:k=0
    ·have HG:=Hd (Aa.out (by rw [decide_eq_true h0,decide_eq_true (show k < 9 by omega)];rfl))
     have Ar:¬ (1:Int) < (k:Int) + 1:=by omega
     have At:decide ((1:Int) < (k:Int) + 1)=false:=decide_eq_false Ar
     have Ak:((k:Int) + 1 == 10)=false:=by rw [beq_eq_false_iff_ne];omega
     clear h0 Aa Ac
     go_wp2
     refine wpIn_wide.2 ?_
     go_wp2
     refine ⟨rfl,_,results_tmp2 rfl _ _ _,?_⟩
     rw [HG.out]
     refine ⟨rfl,World.cell?_setCell_same' _ _ _ (by rw [hp];rfl),by simpa using hz,Kept.setCell _ _ _ _ _⟩
    ·have Ar:(1:Int) < (k:Int) + 1:=by omega
     have At:decide ((1:Int) < (k:Int) + 1)=true:=decide_eq_true Ar
     by_cases hcz:s[k]=0
     ·have HG:=Hd (Ac.out (by rw [hcz,decide_eq_false h0];rfl))
      have Ap:(((s[k].toNat:Nat):Int) == 0)=true:=by rw [hcz];rfl
      clear h0 hcz Aa Ac
      go_wp2
      refine wpIn_wide.2 ?_
      go_wp2
      go_quiet (fail)
      go_wp2
      refine ⟨rfl,_,results_tmp2 rfl _ _ _,?_⟩
      rw [HG.out]
      exact ⟨rfl,hp,hz,⟨rfl,rfl,rfl,Nat.le_refl _,fun _ _ _=>rfl⟩⟩
     ·have Ap:(((s[k].toNat:Nat):Int) == 0)=false:=by
       rw [beq_eq_false_iff_ne]
       intro e
       exact hcz (UInt8.toNat_inj.1 (by simpa using e))
      by_cases h9:k=9
      ·have Ak:((k:Int) + 1 == 10)=true:=by rw [beq_iff_eq];omega
       by_cases hc1:s[k].toNat≤1
       ·have HG:=Hd (Aa.out (by rw [decide_eq_true (show s[k]≠0 from hcz),decide_eq_true hc1];simp))
        have Ag:¬ (1:Int) < ((s[k].toNat:Nat):Int):=by omega
        have Aq:decide ((1:Int) < ((s[k].toNat:Nat):Int))=false:=decide_eq_false Ag
        clear h0 hcz Aa Ac h9
        go_wp2
        refine wpIn_wide.2 ?_
        go_wp2
        refine ⟨rfl,_,results_tmp2 rfl _ _ _,?_⟩
        rw [HG.out]
        refine ⟨rfl,World.cell?_setCell_same' _ _ _ (by rw [hp];rfl),by simpa using hz,Kept.setCell _ _ _ _ _⟩
       ·have HG:=Hd (Ac.out (by rw [decide_eq_false hc1,decide_eq_false (show ¬ k < 9 by omega)];simp))
        have Ag:(1:Int) < ((s[k].toNat:Nat):Int):=by omega
        have Aq:decide ((1:Int) < ((s[k].toNat:Nat):Int))=true:=decide_eq_true Ag
        clear h0 hcz Aa Ac h9
        go_wp2
        refine wpIn_wide.2 ?_
        go_wp2
        go_quiet (fail)
        go_wp2
        refine ⟨rfl,_,results_tmp2 rfl _ _ _,?_⟩
        rw [HG.out]
        exact ⟨rfl,hp,hz,⟨rfl,rfl,rfl,Nat.le_refl _,fun _ _ _=>rfl⟩⟩
      ·have HG:=Hd (Aa.out (by rw [decide_eq_true (show s[k]≠0 from hcz),decide_eq_true (show k < 9 by omega)];simp))
       have Ak:((k:Int) + 1 == 10)=false:=by rw [beq_eq_false_iff_ne];omega
       clear h0 hcz Aa Ac h9
       go_wp2
       refine wpIn_wide.2 ?_
       go_wp2
       refine ⟨rfl,_,results_tmp2 rfl _ _ _,?_⟩
       rw [HG.out]
       refine ⟨rfl,World.cell?_setCell_same' _ _ _ (by rw [hp];rfl),by simpa using hz,Kept.setCell _ _ _ _ _⟩
   ·have Az:¬ ((s[k].toNat:Nat):Int) < 128:=by omega
    go_wp2
    go_roundw
    case rel=>
     refine ⟨k + 1,by omega,by go_num,rfl,by rw [HC.out],fun j hj hjk => ?_,trivial⟩
     by_cases hjk2:j < k
     ·exact HA.out j hj hjk2
     ·obtain rfl:j=k:=by omega
      rw [Ai];omega
    case measure=>simp [intOf];omega
  ·have A4:¬ (k:Int) < min (s.size:Int) 10:=by omega
   have Ab:=Tess.stop_at s.data.toList k (by simpa using hk) HA.out (.inl (by simp;omega))
   have hW:Tess.getW s=(0,s,if s.size < 10 then 21 else 20):=by
    unfold Tess.getW
    rw [Ab,if_neg hlt]
   have HG:=Hd hW
   clear Ab hW
   by_cases h10:s.size < 10
   ·have Ah:(s.size:Int) < 10:=by omega
    have As:decide ((s.size:Int) < 10)=true:=decide_eq_true Ah
    go_wp2
    refine wpIn_wide.2 ?_
    go_wp2
    go_quiet (fail)
    go_wp2
    refine ⟨rfl,_,results_tmp2 rfl _ _ _,?_⟩
    rw [HG.out,if_pos h10]
    exact ⟨rfl,hp,hz,⟨rfl,rfl,rfl,Nat.le_refl _,fun _ _ _=>rfl⟩⟩
   ·have Ah:¬ (s.size:Int) < 10:=by omega
    have As:decide ((s.size:Int) < 10)=false:=decide_eq_false Ah
    go_wp2
    refine wpIn_wide.2 ?_
    go_wp2
    go_quiet (fail)
    go_wp2
    refine ⟨rfl,_,results_tmp2 rfl _ _ _,?_⟩
    rw [HG.out,if_neg h10]
    exact ⟨rfl,hp,hz,⟨rfl,rfl,rfl,Nat.le_refl _,fun _ _ _=>rfl⟩⟩
end Go.Proofs.YtjdccifdkjnknaaGreatDoor
namespace Go.Proofs.YtjdccifdkjnknaaGreatDoor
open Go.RowKit Go.Sort Go.Extern.Stop Go.Stop Go.Extern
theorem diT (v:Value) (w:World):(Extern.ReflectliteType.typeOf #[.iface 314 v]).run Tryz.prog w = .ok (.iface 222 (.agg #[.pointer (some ⟨5,314,none⟩)])) w:=by kernel_rfl
def dcE : Array Value → Sem Value := Extern.ReflectliteType.method fun t => do Rtype.noPackHeld "Comparable" t; pure (.bool (← typeInfo t).comparable)
theorem diC (w:World):(dcE #[.agg #[.pointer (some ⟨5,314,none⟩)]]).run Tryz.prog w = .ok (.bool true) w:=by kernel_rfl
theorem diM (v : Value) (w : World) : (Go.method 445 222 v "Comparable").run Tryz.prog w = .ok (261, v) w := by kernel_rfl
theorem d_isComp:(Tryz.prog.info? 314).map (·.comparable)=some true:=by kernel_rfl
theorem d_isSize:(Tryz.prog.info? 333).map (·.size)=some 1:=by kernel_rfl
theorem d_noIsE (v:Value) (xT:TypeId) (w:World):(Instr.typeAssert (.iface 314 v) xT 224 true).run Tryz.prog w = .ok (.tuple #[.nilIface,.bool false]) w:=run_typeAssert_lacksB Tryz.underlying224 (by kernel_rfl) (by kernel_rfl) v xT w
theorem d_noUnwrapE (v:Value) (xT:TypeId) (w:World):(Instr.typeAssert (.iface 314 v) xT 227 true).run Tryz.prog w = .ok (.tuple #[.nilIface,.bool false]) w:=run_typeAssert_lacksB Tryz.underlying227 (by kernel_rfl) (by kernel_rfl) v xT w
theorem dnU (v:Value) (xT:TypeId) (w:World):(Instr.typeAssert (.iface 314 v) xT 229 true).run Tryz.prog w = .ok (.tuple #[.nilIface,.bool false]) w:=run_typeAssert_lacksB Tryz.underlying229 (by kernel_rfl) (by kernel_rfl) v xT w
theorem dis (a:Addr) (w:World) :
  Calls Tryz.prog 81 #[.iface 314 (.pointer (some a)),.iface 314 (.pointer (some a))] w fun e w'=>e = .returned (.bool true)∧w'=w:=by
 obtain ⟨i,hi,Aa⟩:=Option.map_eq_some_iff.1 d_isComp
 obtain ⟨j,hj,Ab⟩:=Option.map_eq_some_iff.1 d_isSize
 have h8:=@run_callFunc_extern Tryz.prog 129 _ Extern.ReflectliteType.typeOf Tryz.func129 (by kernel_rfl) (by kernel_rfl) (by kernel_rfl) (by kernel_rfl)
 have Ac:=@run_callFunc_extern Tryz.prog 261 _ dcE Tryz.func261 (by kernel_rfl) (by kernel_rfl) (by kernel_rfl) (by kernel_rfl)
 have tT:=diT
 have cT:=diC
 have mR:=diM
 have Ad:=run_eql_iface_ptr_same (P:=Tryz.prog) w a Tryz.underlying75 Tryz.underlying314 hi Aa hj
 go_enter Tryz.func81,Tryz.ntmps81
 go_wp2
 refine wp_loop_rounds 1 ?_
 rw [rounds_succ]
 go_wp2
 go_ret
 exact ⟨rfl,rfl⟩
theorem din (b:Addr) (w:World) :
  Calls Tryz.prog 81 #[.nilIface,.iface 314 (.pointer (some b))] w fun e w'=>e = .returned (.bool false)∧w'=w:=by
 have hn:=run_eql_iface_nil_left (P:=Tryz.prog) w 314 (.pointer (some b)) Tryz.underlying75
 go_enter Tryz.func81,Tryz.ntmps81
 go_wp2
 go_ret
 exact ⟨rfl,rfl⟩
theorem d_is_other (a b:Addr) (ca cb:Array Value) (ta tb:TypeId) (w:World) (hne:a≠b) (ha:w.heap[a.block]? = some (.cells ca ta (0,0))) (hb:w.heap[b.block]? = some (.cells cb tb (0,0))) :
  Calls Tryz.prog 81 #[.iface 314 (.pointer (some a)),.iface 314 (.pointer (some b))] w fun e w'=>e = .returned (.bool false)∧w'=w:=by
 obtain ⟨i,hi,Aa⟩:=Option.map_eq_some_iff.1 d_isComp
 obtain ⟨j,hj,Ab⟩:=Option.map_eq_some_iff.1 d_isSize
 have h8:=@run_callFunc_extern Tryz.prog 129 _ Extern.ReflectliteType.typeOf Tryz.func129 (by kernel_rfl) (by kernel_rfl) (by kernel_rfl) (by kernel_rfl)
 have Ac:=@run_callFunc_extern Tryz.prog 261 _ dcE Tryz.func261 (by kernel_rfl) (by kernel_rfl) (by kernel_rfl) (by kernel_rfl)
 have tT:=diT
 have cT:=diC
 have mR:=diM
 have nE:=d_noIsE
 have uE:=d_noUnwrapE
 have vE:=dnU
 have Ad:=run_eql_iface_ptr_other (P:=Tryz.prog) w Tryz.underlying75 Tryz.underlying314 hi Aa hj (by rw [Ab];decide) hne ha hb
 go_enter Tryz.func81,Tryz.ntmps81
 go_wp2
 refine wp_loop_rounds 1 ?_
 rw [rounds_succ]
 go_wp2
 go_ret
 exact ⟨rfl,rfl⟩
set_option maxRecDepth 100000 in
theorem va2 (a0 a1:Addr) (code:Nat) (w:World) (hv:DV2 a0 a1 w) (hc:code=0∨code=20∨code=21) :
  Calls Tryz.prog 172 #[deV a0 a1 code] w fun e w'=>e = .returned (.int .i64 (code:Nat))∧w'=w:=by
 have g1:=hv.g1
 have g2:=hv.g2
 obtain ⟨c0,t0,Ab⟩:=hv.b0
 obtain ⟨c1,t1,Aa⟩:=hv.b1
 have i1:=din a0 w
 have i2:=din a1 w
 have i3:=dis a0 w
 have i4:=dis a1 w
 have i5:=d_is_other a1 a0 c1 c0 t1 t0 w hv.ne.symm Aa Ab
 have I1:=Hd i1
 have I2:=Hd i2
 have I3:=Hd i3
 have I4:=Hd i4
 have I5:=Hd i5
 clear i1 i2 i3 i4 i5 hv Ab Aa
 unfold deV
 rcases hc with rfl | rfl | rfl
 ·simp only [if_true]
  go_enter Tryz.func172,Tryz.ntmps172
  go_wp2_with (first
   | (go_at_call 81;with_reducible refine I1.out.mono ?_;rintro e w' ⟨rfl,rfl⟩)
   | (go_at_call 81;with_reducible refine I2.out.mono ?_;rintro e w' ⟨rfl,rfl⟩))
  go_ret
  exact ⟨rfl,rfl⟩
 ·simp only [if_false,show (20:Nat)≠0 by decide,show (20:Nat)≠21 by decide]
  go_enter Tryz.func172,Tryz.ntmps172
  go_wp2_with (first
   | (go_at_call 81;with_reducible refine I5.out.mono ?_;rintro e w' ⟨rfl,rfl⟩)
   | (go_at_call 81;with_reducible refine I4.out.mono ?_;rintro e w' ⟨rfl,rfl⟩))
  go_ret
  exact ⟨rfl,rfl⟩
 ·simp only [if_true,if_false,show (21:Nat)≠0 by decide]
  go_enter Tryz.func172,Tryz.ntmps172
  go_wp2_with (go_at_call 81;with_reducible refine I3.out.mono ?_;rintro e w' ⟨rfl,rfl⟩)
  go_ret
  exact ⟨rfl,rfl⟩
end Go.Proofs.YtjdccifdkjnknaaGreatDoor
namespace Go.Proofs.YtjdccifdkjnknaaGreatDoor
open Go.RowKit Go.Sort
structure SV (a2:Addr) (w:World):Prop where
 g3:w.cell? ⟨0,0,none⟩=some (.iface 314 (.pointer (some a2)))
theorem SV.below {a2:Addr} {w w':World} (h:SV a2 w) (hb:Below w.heap.size w w'):SV a2 w':=
 ⟨(hb.cell (p:=⟨0,0,none⟩) (World.block_lt_of_cell? _ _ h.g3)).trans h.g3⟩
def sErr (a2:Addr) (ok:Bool):Value:=if ok then .nilIface else .iface 314 (.pointer (some a2))
theorem sa8 (a2:Addr) (ok:Bool) (w:World) (hv:SV a2 w) :
  Calls Tryz.prog 33 #[sErr a2 ok] w fun e w'=>e = .returned (.int .i64 ((if ok then 0 else 130:Nat):Nat))∧w'=w:=by
 have g3:=hv.g3
 have I1:=Hd (din a2 w)
 have I2:=Hd (dis a2 w)
 clear hv
 unfold sErr
 cases ok
 ·go_enter Tryz.func33,Tryz.ntmps33
  go_wp2_with (go_at_call 81;with_reducible refine I2.out.mono ?_;rintro e w' ⟨rfl,rfl⟩)
  go_ret
  exact ⟨rfl,rfl⟩
 ·go_enter Tryz.func33,Tryz.ntmps33
  go_wp2_with (go_at_call 81;with_reducible refine I1.out.mono ?_;rintro e w' ⟨rfl,rfl⟩)
  go_ret
  exact ⟨rfl,rfl⟩
end Go.Proofs.YtjdccifdkjnknaaGreatDoor
namespace Go.Proofs.YtjdccifdkjnknaaGreatDoor
open Go.ChangeShapes Go.WideShapes Go.RowKit
theorem gEt : Tryz.prog.globalNamed "errors.errorType" = some 3 := by kernel_rfl
theorem gMore : Tryz.prog.globalNamed "tesserae/varint.errMore" = some 2 := by kernel_rfl
theorem gNone : Tryz.prog.globalNamed "tesserae/varint.errNone" = some 1 := by kernel_rfl
theorem gSeg : Tryz.prog.globalNamed "tesserae/segment.errNone" = some 0 := by kernel_rfl
theorem gMoreT:(Tryz.prog.globals[2]?).map (·.type)=some 75:=by kernel_rfl
theorem gNoneT:(Tryz.prog.globals[1]?).map (·.type)=some 75:=by kernel_rfl
theorem gSegT:(Tryz.prog.globals[0]?).map (·.type)=some 75:=by kernel_rfl
theorem gRt : (Tryz.prog.cutTypes.find? (·.1 == "internal/reflectlite.rtype")).map (·.2) = some 222 := by kernel_rfl
theorem gOne:((List.range Tryz.prog.types.size).filter fun t=>Tryz.prog.rowNamed t [101,114,114,111,114])=[75]:=by kernel_rfl
theorem gStar : "*" ++ "errors.errorString" = "*errors.errorString" := by decide
theorem gRow (u : TypeId) (h : Tryz.prog.typeName? 3 u = some "*errors.errorString") : u = 314 :=
 typeName_ptr_named (nm := "errors.errorString") (by rw [gStar]; kernel_rfl) (by kernel_rfl) (by decide) u (by rw [gStar]; exact h)
theorem gCells:Tryz.prog.cellsOf 333=1:=by kernel_rfl
theorem gCells2:Tryz.prog.cellsOf 9=1:=by kernel_rfl
abbrev laidVars : List (String × DataW Unit) := [("errors.errorType", Rows.laid_errors_errorType), ("tesserae/varint.errMore", Rows.laid_tesserae_varint_errMore), ("tesserae/varint.errNone", Rows.laid_tesserae_varint_errNone), ("tesserae/segment.errNone", Rows.laid_tesserae_segment_errNone)]
theorem vol {W:World} (h:laidMetH Tryz.prog laidVars W):∃ a0 a1 a2,DV2 a0 a1 W∧SV a2 W:=by
 have h' : laidMet Tryz.prog [("tesserae/varint.errMore", Rows.laid_tesserae_varint_errMore), ("tesserae/varint.errNone", Rows.laid_tesserae_varint_errNone), ("tesserae/segment.errNone", Rows.laid_tesserae_segment_errNone)] W ∧ handlesMet Tryz.prog [("errors.errorType", Rows.laid_errors_errorType)] W := h
 obtain ⟨name,u,ty,e1,e2,e3,e4,e5⟩:=h'.2 _ (List.mem_singleton.2 rfl)
 have en:name=[101,114,114,111,114]:=(Option.some.inj e1).symm
 subst en
 obtain rfl:=Option.some.inj (gRt.symm.trans e2)
 have hm:ty ∈ (List.range Tryz.prog.types.size).filter fun t=>Tryz.prog.rowNamed t [101,114,114,111,114]:=List.mem_filter.2 ⟨List.mem_range.2 e3,e4⟩
 rw [gOne] at hm
 obtain rfl:=List.mem_singleton.1 hm
 have hh:typeHandle Tryz.prog 75 = .pointer (some ⟨5,75,none⟩):=by kernel_rfl
 rw [hh] at e5
 obtain ⟨a0,a1,s0,s1,c0,c1,t0,t1,Ab,Ac,_,_,_,_,_,_,Ae,Af,Aa⟩:=laid_sentinels2 h'.1 gMore gMoreT gNone gNoneT Tryz.underlying75 gRow Tryz.underlying314 Tryz.underlying333 rfl rfl Tryz.underlying9 gCells gCells2
 obtain ⟨_,a2,_,_,_,_,_,_,_,Ad,_,_,_,_,_,_,_,_,_⟩:=laid_sentinels2 (r:=[]) h'.1.tail gNone gNoneT gSeg gSegT Tryz.underlying75 gRow Tryz.underlying314 Tryz.underlying333 rfl rfl Tryz.underlying9 gCells gCells2
 exact ⟨a0,a1,a2,⟨Ae,by simpa using World.var?_cell gEt e5 0,by simpa using World.var?_cell gMore Ab 0,by simpa using World.var?_cell gNone Ac 0,⟨c0,t0,Af⟩,⟨c1,t1,Aa⟩⟩,⟨by simpa using World.var?_cell gSeg Ad 0⟩⟩
abbrev moreS:ByteArray:={ data:=#[109,111,114,101] }
abbrev noneS:ByteArray:={ data:=#[110,111,32,118,97,114,105,110,116] }
abbrev segS:ByteArray:={ data:=#[110,111,32,115,101,103,109,101,110,116] }
noncomputable def low:Nat:=(World.holding Tryz.prog default ⟨#[],#[],[]⟩).heap.size
noncomputable def lW (os:Os):World:=
 let w0:=World.holding Tryz.prog os ⟨#[.cells #[.string moreS] 333,.cells #[.string noneS] 333,.cells #[.string segS] 333],#[],[]⟩
 { w0 with heap:=(((w0.heap.modify 3 fun
     | .cells _ t frozen => .cells #[.iface 222 (.agg #[.pointer (some ⟨5,75,none⟩)])] t frozen
     | o=>o).modify 2 fun
     | .cells _ t frozen => .cells #[.iface 314 (.pointer (some ⟨low,0,none⟩))] t frozen
     | o=>o).modify 1 fun
     | .cells _ t frozen => .cells #[.iface 314 (.pointer (some ⟨low + 1,0,none⟩))] t frozen
     | o=>o).modify 0 fun
     | .cells _ t frozen => .cells #[.iface 314 (.pointer (some ⟨low + 2,0,none⟩))] t frozen
     | o=>o }
theorem lWo (os:Os):(lW os).os=os:=rfl
theorem lWm (os:Os) (args:Array Value):laidMetH Tryz.prog laidVars ((lW os).forCall (fun _ _=>0) ⟨#[],args,[]⟩).memory:=
 laidMetH_of_parts (laidMet_of_run (ps:=[.cell 2 0,.cell low 0,.cell 1 0,.cell (low + 1) 0,.cell 0 0,.cell (low + 2) 0]) 8 (by kernel_rfl) (by kernel_rfl) (by kernel_rfl)) (by kernel_rfl)
set_option maxRecDepth 100000 in
theorem lWs (os:Os) (args:Array Value):((lW os).forCall (fun _ _=>0) ⟨#[],args,[]⟩).Shaped Tryz.prog:=World.shaped_of_ZipB (by kernel_rfl) (by kernel_rfl)
theorem own:ownKnob Tryz.prog.godebug=none:=by kernel_rfl
theorem laidOut:laidOutB Tryz.prog=true:=by kernel_rfl
end Go.Proofs.YtjdccifdkjnknaaGreatDoor
namespace Go.Proofs.YtjdccifdkjnknaaGreatDoor
open Go.RowKit Go.Sort Go.Shelf
abbrev Bd (b:Nat) (l:List UInt8) (w:World):Prop:=Lib.IsBuilder 88 5 b b (Lib.byteCells l) w
abbrev Oth (b:Nat) (w w':World):Prop:=Lib.OthersKept 5 (some b) w w'
theorem copy_k (B b:Nat) (bs:List Value) (w:World) (h:Lib.IsBuilder 88 5 B b bs w) :
  Calls Tryz.prog 92 #[.pointer (some ⟨b,0,none⟩)] w fun e w'=>e = .returned (.tuple #[])∧(Lib.BuilderAt 88 5 B b (.pointer (some ⟨b,0,none⟩)) bs w'∧Below B w w'∧Lib.OthersKept 5 (some b) w w'):=by
 rcases h with h | h
 ·refine (cf2 b w h.cell0 h.shape h.frozen0).mono ?_
  rintro e w' ⟨rfl,rfl⟩
  exact ⟨rfl,h.used _,(Below.refl B w).setCell (p:=⟨b,0,none⟩) h.1 _,(Lib.OthersKept.refl _ _ w).setCell ⟨b,0,none⟩ rfl _⟩
 ·refine (cu2 b w h.cell0).mono ?_
  rintro e w' ⟨rfl,rfl⟩
  exact ⟨rfl,h,Below.refl B _,Lib.OthersKept.refl _ _ _⟩
theorem ok3 {base:Nat} {e:TypeId} {size:Nat} {v:Value} {m:Nat} {xs:List Value} {w:World} (h:w.ownsRow base e size v m xs):∀ g,v.ownBlock=some g→∃ c fz,w.heap[g]? = some (.cells c e fz):=by
 intro g hg
 rcases h.2 with ⟨rfl,_⟩ | ⟨g',Ab,Aa,hv,_,h3,_⟩
 ·simp [Value.ownBlock] at hg
 ·subst hv
  simp only [Value.ownBlock,Option.some.injEq] at hg
  subst hg
  exact ⟨_,_,h3⟩
set_option maxHeartbeats 2000000 in
set_option maxRecDepth 100000 in
theorem wBk (B b:Nat) (bs:List Value) (c:Int) (w:World) (h:Lib.IsBuilder 88 5 B b bs w) (hlen:bs.length + 1≤140737488355328) (hBw:B≤w.heap.size) :
  Calls Tryz.prog 142 #[.pointer (some ⟨b,0,none⟩),.int .u8 c] w fun e w'=>e = .returned .nilIface∧(Lib.BuilderAt 88 5 B b (.pointer (some ⟨b,0,none⟩)) (bs ++ [.int .u8 c]) w'∧Below B w w'∧Lib.OthersKept 5 (some b) w w'):=by
 obtain ⟨i0,hi,Ah,Ai,Al⟩:=info_parts (P:=Tryz.prog) (e:=5) (z:=.int .u8 0) (size:=1) (bytes:=1) (by kernel_rfl)
 go_enter Tryz.func142,Tryz.ntmps142
 go_wp2_with (go_at_call 92;refine (copy_k B b bs _ h).mono ?_)
 rintro e w1 ⟨rfl,h1,Ad,Aj⟩
 obtain ⟨hB,v,Ag,Ac,Am⟩:=h1
 have c0:w1.cell? ⟨b,0,none⟩=some (.pointer (some ⟨b,0,none⟩)):=by rw [Lib.cell_of_heap Ag];rfl
 have c1:w1.cell? ⟨b,1,none⟩=some v:=by rw [Lib.cell_of_heap Ag];rfl
 go_wp2_with (at_builtin;refine wpList_append_own _ rfl _ _ 86 rfl B 5 i0 (.int .u8 0) 1 1 Tryz.underlying86 hi Ah Ai Al rfl (by decide) _ _ _ rfl (Ac.alloc _) ⟨w1.heap.size,0,none⟩ 1 1 [.int .u8 c] rfl rfl ?c1 ?c2 ?c3 ?c4 ?c5 ?_)
 case c1=>
  intro j u hj
  match j,hj with
  | 0,hj=>simp at hj;subst hj;simp [Addr.add]
 case c2=>intro u hu;simp at hu;subst hu;rfl
 case c3=>unfold maxLen;omega
 case c4=>omega
 case c5=>have:=Ad.size;simp;omega
 intro v' w2 Ab Aa _
 have Ak:b < w1.heap.size:=(Array.getElem?_eq_some_iff.1 Ag).1
 have Ae:w2.heap[b]? = some (.cells #[.pointer (some ⟨b,0,none⟩),v] 88 (0,0)):=by
  rw [Aa.block b (by simp;omega) (fun e=>Am e.symm),Lib.alloc_old w1 _ b Ak]
  exact Ag
 have d0:w2.cell? ⟨b,0,none⟩=some (.pointer (some ⟨b,0,none⟩)):=by rw [Lib.cell_of_heap Ae];rfl
 have d1:w2.cell? ⟨b,1,none⟩=some v:=by rw [Lib.cell_of_heap Ae];rfl
 have f1:w2.frozen? ⟨b,1,none⟩=false:=Lib.frozen_of_heap Ae 1
 obtain ⟨g,Af,rfl⟩:∃ g Af,v' = .slice (some ⟨g,0,none⟩) (bs.length + 1) Af:=by
  rcases Ab.2 with ⟨_,h0⟩ | ⟨g,Af,An,hv,_⟩
  ·omega
  ·exact ⟨g,Af,hv⟩
 go_wp2
 go_ret
 refine ⟨rfl,?_,?_,((Aj.alloc _).grown Aa (ok3 (Ac.alloc _))).setCell ⟨b,1,none⟩ rfl _⟩
 ·exact Lib.BuilderAt.put (T:=88) (e:=5) hB Ae (bs':=bs ++ [.int .u8 c]) (by simpa using Ab) (by decide)
 ·exact ((Ad.alloc (by have:=Ad.size;omega) _).grown Aa (by have:=Ad.size;simp;omega) (fun k hk=>(Ac.lt k hk).1)).setCell (p:=⟨b,1,none⟩) hB _
set_option maxHeartbeats 2000000 in
set_option maxRecDepth 100000 in
theorem wSk (B b:Nat) (bs:List Value) (s:ByteArray) (w:World) (h:Lib.IsBuilder 88 5 B b bs w) (hlen:bs.length + s.size≤140737488355328) (hBw:B≤w.heap.size) :
  Calls Tryz.prog 41 #[.pointer (some ⟨b,0,none⟩),.string s] w fun e w'=>e = .returned (.tuple #[.int .i64 s.size,.nilIface])∧(Lib.BuilderAt 88 5 B b (.pointer (some ⟨b,0,none⟩)) (bs ++ Lib.strCells s) w'∧Below B w w'∧Lib.OthersKept 5 (some b) w w'):=by
 obtain ⟨i0,hi,Ah,Ai,Al⟩:=info_parts (P:=Tryz.prog) (e:=5) (z:=.int .u8 0) (size:=1) (bytes:=1) (by kernel_rfl)
 go_enter Tryz.func41,Tryz.ntmps41
 go_wp2_with (go_at_call 92;refine (copy_k B b bs _ h).mono ?_)
 rintro e w1 ⟨rfl,h1,Af,Aj⟩
 obtain ⟨hB,v,Ae,Ac,Am⟩:=h1
 have c0:w1.cell? ⟨b,0,none⟩=some (.pointer (some ⟨b,0,none⟩)):=by rw [Lib.cell_of_heap Ae];rfl
 have c1:w1.cell? ⟨b,1,none⟩=some v:=by rw [Lib.cell_of_heap Ae];rfl
 go_wp2_with (at_builtin;refine Lib.wpList_append_own_string _ rfl _ _ 86 9 rfl B 5 i0 Tryz.underlying86 Tryz.underlying9 hi Ah Ai Al _ _ _ rfl Ac s rfl ?c3 ?c4 ?c5 ?_)
 case c3=>unfold maxLen;omega
 case c4=>omega
 case c5=>have:=Af.size;omega
 intro v' w2 Ab Aa _
 have Ak:b < w1.heap.size:=(Array.getElem?_eq_some_iff.1 Ae).1
 have Ad:w2.heap[b]? = some (.cells #[.pointer (some ⟨b,0,none⟩),v] 88 (0,0)):=by
  rw [Aa.block b Ak (fun e=>Am e.symm)]
  exact Ae
 have d0:w2.cell? ⟨b,0,none⟩=some (.pointer (some ⟨b,0,none⟩)):=by rw [Lib.cell_of_heap Ad];rfl
 have d1:w2.cell? ⟨b,1,none⟩=some v:=by rw [Lib.cell_of_heap Ad];rfl
 have f1:w2.frozen? ⟨b,1,none⟩=false:=Lib.frozen_of_heap Ad 1
 obtain ⟨ao,n',Ag,rfl⟩:∃ ao n' Ag,v' = .slice ao n' Ag:=by
  rcases Ab.2 with ⟨hv,_⟩ | ⟨g,Ag,An,hv,_⟩
  ·exact ⟨_,_,_,hv⟩
  ·exact ⟨_,_,_,hv⟩
 go_wp2
 go_ret2
 refine ⟨rfl,?_,?_,(Aj.grown Aa (ok3 Ac)).setCell ⟨b,1,none⟩ rfl _⟩
 ·exact Lib.BuilderAt.put (T:=88) (e:=5) hB Ad (bs':=bs ++ Lib.strCells s) (by simpa [Lib.strCells_length] using Ab) (by decide)
 ·exact (Af.grown Aa (by have:=Af.size;omega) (fun k hk=>(Ac.lt k hk).1)).setCell (p:=⟨b,1,none⟩) hB _
theorem bd_bytes {b:Nat} {l:List UInt8} {s:ByteArray} {p:Value} {w:World} (h:Lib.BuilderAt 88 5 b b p (Lib.byteCells l ++ Lib.strCells s) w):Lib.BuilderAt 88 5 b b p (Lib.byteCells (l ++ s.data.toList)) w:=by
 have e:Lib.byteCells (l ++ s.data.toList)=Lib.byteCells l ++ Lib.strCells s:=by
  unfold Lib.byteCells Lib.strCells
  rw [List.map_append]
 rw [e]
 exact h
theorem bAs {b:Nat} {p:Value} {bs:List Value} {w w':World} (h:Lib.BuilderAt 88 5 b b p bs w) (hb:w'.heap[b]? = w.heap[b]?) (hk:∀ (k:Nat) (c:Array Value) (fz:Nat×Nat),w.heap[k]? = some (Obj.cells c 5 fz)→w'.heap[k]? = w.heap[k]?):Lib.BuilderAt 88 5 b b p bs w':=by
 obtain ⟨hB,v,h1,h2,h3⟩:=h
 refine ⟨hB,v,hb.trans h1,⟨h2.1,?_⟩,h3⟩
 rcases h2.2 with h | ⟨g,Ac,Aa,hv,Ab,hg,r⟩
 ·exact .inl h
 ·exact .inr ⟨g,Ac,Aa,hv,Ab,(hk g Aa _ hg).trans hg,r⟩
theorem bs2 {b:Nat} {l:List UInt8} {w w':World} (h:Bd b l w) (hb:w'.heap[b]? = w.heap[b]?) (hk:∀ (k:Nat) (c:Array Value) (fz:Nat×Nat),w.heap[k]? = some (Obj.cells c 5 fz)→w'.heap[k]? = w.heap[k]?):Bd b l w':=
 h.imp (fun h=>bAs h hb hk) fun h=>bAs h hb hk
theorem bd_fresh {b:Nat} {w:World} (h:w.heap[b]? = some (.cells #[.pointer none,.slice none 0 0] 88 (0,0))):Bd b [] w:=
 .inl ⟨Nat.le_refl _,_,h,World.ownsRow_nil _ _ _ _,by simp [Value.ownBlock]⟩
theorem string_k (b:Nat) (l:List UInt8) (w:World) (h:Bd b l w) (h0:l≠[]) :
  Calls Tryz.prog 43 #[.pointer (some ⟨b,0,none⟩)] w fun e w'=>e = .returned (.string ⟨l.toArray⟩)∧Below b w w'∧Oth b w w':=by
 refine (Tryz.Builder_String_k b b l w (Lib.IsBuilderF.of h) h0).mono ?_
 rintro e w' ⟨rfl,_,hb,ho⟩
 exact ⟨rfl,hb,ho⟩
end Go.Proofs.YtjdccifdkjnknaaGreatDoor
namespace Go.Proofs.YtjdccifdkjnknaaGreatDoor
open Go.RowKit Go.Sort Go.Shelf
theorem DV2.below {a0 a1:Addr} {w w':World} (h:DV2 a0 a1 w) (hb:Below w.heap.size w w'):DV2 a0 a1 w':=by
 obtain ⟨c0,t0,h0⟩:=h.b0
 obtain ⟨c1,t1,h1⟩:=h.b1
 exact ⟨h.ne,(hb.cell (p:=⟨3,0,none⟩) (World.block_lt_of_cell? _ _ h.g0)).trans h.g0,(hb.cell (p:=⟨2,0,none⟩) (World.block_lt_of_cell? _ _ h.g1)).trans h.g1,(hb.cell (p:=⟨1,0,none⟩) (World.block_lt_of_cell? _ _ h.g2)).trans h.g2,
  ⟨c0,t0,(hb.block _ (Array.getElem?_eq_some_iff.1 h0).1).trans h0⟩,⟨c1,t1,(hb.block _ (Array.getElem?_eq_some_iff.1 h1).1).trans h1⟩⟩
theorem gWc (s:ByteArray):(Tess.getW s).2.2=0∨(Tess.getW s).2.2=20∨(Tess.getW s).2.2=21:=by
 unfold Tess.getW
 split
 ·split
  ·exact .inl rfl
  ·exact .inr (.inl rfl)
 ·show (if s.size < 10 then 21 else 20)=0∨_
  split
  ·exact .inr (.inr rfl)
  ·exact .inr (.inl rfl)
def GP2 (s:ByteArray) (w:World) (e:Ending) (w':World):Prop:=e = .returned (.tuple #[.int .u64 ((Tess.getW s).1:Nat),.string (Tess.getW s).2.1,.int .i64 ((Tess.getW s).2.2:Nat)])∧Below w.heap.size w w'
set_option maxHeartbeats 1000000 in
set_option maxRecDepth 100000 in
theorem get_any (a0 a1:Addr) (s:ByteArray) (w:World) (hv:DV2 a0 a1 w):Calls Tryz.prog 176 #[.string s] w (GP2 s w):=by
 obtain ⟨w0,Ab⟩:∃ w0,w0=w.alloc (.cells #[.string s] 236):=⟨_,rfl⟩
 have Ad:Below w.heap.size w w0:=by rw [Ab];exact (Below.refl _ _).alloc (Nat.le_refl _) _
 have Ah:=hv.below Ad
 have hn:=na3 a0 a1 w.heap.size s w0 Ah (by rw [Ab];exact cell_new_sl w _ _) (by rw [Ab];simp)
 have Aa:∀ W,Below w.heap.size w W→Calls Tryz.prog 172 #[deV a0 a1 (Tess.getW s).2.2] W fun e w'=>e = .returned (.int .i64 ((Tess.getW s).2.2:Nat))∧w'=W:=fun W hB=>va2 a0 a1 _ W (hv.below hB) (gWc s)
 unfold GP2
 obtain ⟨⟨n,rest,c⟩,hg⟩:∃ g,g=Tess.getW s:=⟨_,rfl⟩
 rw [← hg] at hn Aa ⊢
 obtain ⟨er,Ag⟩:∃ er,er=deV a0 a1 c:=⟨_,rfl⟩
 simp only at hn Aa ⊢
 rw [← Ag] at hn Aa
 have HN:=Hd hn
 have HT:=Hd Aa
 have HW:=Hd Ab
 have Al:=Hd Ad
 clear hn Aa Ab hv Ah hg Ag Ad
 go_enter Tryz.func176,Tryz.ntmps176
 go_wp2_with (go_at_call 170;rw [← HW.out];refine HN.out.mono ?_;rintro e w1 ⟨rfl,Ai,_,Af⟩)
 have Ac:Below w.heap.size w w1:=Al.out.trans (Af.below (by rw [HW.out];simp))
 have Ak:=Hd (fun d os=>Calls.regrown_of ((HT.out (grow (redrawn w1 d) os) (Bt Ac (below_regrown w1 d os))).mono fun _ _ ⟨h1,h2⟩=>⟨h1,by rw [h2];exact Below.refl _ _⟩))
 have q1:=fun d os=>cell_regrown Ai d os
 have An:=Hd Ac
 clear Af Ac Ai
 refine wp_region_quiet_below (by kernel_rfl) (by kernel_rfl) ?_
 repeat (go_big_quiet_step (exact Ak.out _ _))
 refine wpQuiet_nil ?_
 intro _ Ao
 obtain ⟨⟨dq,Aj⟩,Ae⟩:=Ao
 subst Ae
 have Am:=Hd (Bt An.out (below_regrown w1 dq Aj))
 generalize grow (redrawn w1 dq) Aj=w2 at *
 clear Ak q1
 go_wp2
 go_ret3
 exact ⟨rfl,Am.out⟩
end Go.Proofs.YtjdccifdkjnknaaGreatDoor
namespace Go.Proofs.YtjdccifdkjnknaaGreatDoor
open Go.RowKit Go.Sort Go.Extern.Stop Go.Stop Go.Extern
theorem as_nil (t:Value) (w:World) :
  Calls Tryz.prog 208 #[.nilIface,t] w fun e w'=>e = .returned (.bool false)∧w'=w:=by
 go_enter Tryz.func208,Tryz.ntmps208
 go_wp2
 go_ret
 exact ⟨rfl,rfl⟩
theorem valueOfP (t:Addr) (w:World):(ReflectliteValue.unpack (.iface 276 (.pointer (some t)))).run Tryz.prog w
  = .ok (.agg #[.pointer (some ⟨5,276,none⟩),.pointer (some ⟨w.heap.size,0,none⟩),.int .u64 150]) (w.alloc (.cells #[.pointer (some t)] 276)):=by kernel_rfl
theorem typeP (a : Addr) (w : World) : (ReflectliteValue.methodAny (ReflectliteValue.valueError "reflectlite.Value.Type" 0) (fun t _ _ _ => ReflectliteType.toType t) #[.agg #[.pointer (some ⟨5, 276, none⟩), .pointer (some a), .int .u64 150]]).run Tryz.prog w
  = .ok (.iface 222 (.agg #[.pointer (some ⟨5,276,none⟩)])) w:=by kernel_rfl
theorem methodKind (h : Value) (w : World) : (Go.method 445 222 (.agg #[h]) "Kind").run Tryz.prog w = .ok (255, h) w := by kernel_rfl
theorem kindP (w:World):((ReflectliteType.abiMethod fun t=>(fun a:Nat=>Value.int IntKind.u8 (a:Int)) <$> Rtype.kind t) #[.pointer (some ⟨5,276,none⟩)]).run Tryz.prog w = .ok (.int .u8 22) w:=by kernel_rfl
theorem kindS (w:World):((ReflectliteType.abiMethod fun t=>(fun a:Nat=>Value.int IntKind.u8 (a:Int)) <$> Rtype.kind t) #[.pointer (some ⟨5,274,none⟩)]).run Tryz.prog w = .ok (.int .u8 25) w:=by kernel_rfl
theorem rlm (z:Sem Value) (f:TypeId→Addr→Nat→Nat→Sem Value) (v:Value) :
  ReflectliteValue.method z f #[v]=(do match ← ReflectliteValue.parts v with | none=>z | some (t,a,fl)=>f t a fl (fl % 32)):=rfl
theorem partsP (a:Addr) (w:World):(ReflectliteValue.parts (.agg #[.pointer (some ⟨5,276,none⟩),.pointer (some a),.int .u64 150])).run Tryz.prog w = .ok (some (276,a,150)) w:=by kernel_rfl
theorem isNilP (a p:Addr) (W:World) (ha:W.cell? a=some (.pointer (some p))) :
  (ReflectliteValue.method (ReflectliteValue.valueError "reflectlite.Value.IsNil" 0) ReflectliteValue.isNil #[.agg #[.pointer (some ⟨5, 276, none⟩), .pointer (some a), .int .u64 150]]).run Tryz.prog W = .ok (.bool false) W := by
 rw [rlm]
 simp only [Sem.run_bind,partsP,Result.andThen]
 simp [ReflectliteValue.isNil,loadVar,isAgg,underlying,Tryz.underlying276,ha,Result.andThen]
theorem methodElem (h : Value) (w : World) : (Go.method 445 222 (.agg #[h]) "Elem").run Tryz.prog w = .ok (262, .agg #[h]) w := by kernel_rfl
theorem mI2 (h : Value) (w : World) : (Go.method 445 222 (.agg #[h]) "Implements").run Tryz.prog w = .ok (263, .agg #[h]) w := by kernel_rfl
theorem mAT (h : Value) (w : World) : (Go.method 445 222 (.agg #[h]) "AssignableTo").run Tryz.prog w = .ok (260, .agg #[h]) w := by kernel_rfl
theorem elemP (w:World):(ReflectliteType.method ReflectliteType.elem #[.agg #[.pointer (some ⟨5,276,none⟩)]]).run Tryz.prog w = .ok (.iface 222 (.agg #[.pointer (some ⟨5,274,none⟩)])) w:=by kernel_rfl
theorem iS3 (w : World) : (ReflectliteType.relation "Implements" ReflectliteType.implements_ #[.agg #[.pointer (some ⟨5, 274, none⟩)], .iface 222 (.agg #[.pointer (some ⟨5, 75, none⟩)])]).run Tryz.prog w = .ok (.bool true) w := by kernel_rfl
theorem typeOfS (v:Value) (w:World):(ReflectliteType.typeOf #[.iface 274 v]).run Tryz.prog w = .ok (.iface 222 (.agg #[.pointer (some ⟨5,274,none⟩)])) w:=by kernel_rfl
theorem aS (w : World) : (ReflectliteType.relation "AssignableTo" ReflectliteType.assignableTo #[.agg #[.pointer (some ⟨5, 274, none⟩)], .iface 222 (.agg #[.pointer (some ⟨5, 274, none⟩)])]).run Tryz.prog w = .ok (.bool true) w := by kernel_rfl
theorem valueOfS (c:Int) (w:World):(ReflectliteValue.unpack (.iface 274 (.agg #[.int .i64 c]))).run Tryz.prog w
  = .ok (.agg #[.pointer (some ⟨5,274,none⟩),.pointer (some ⟨w.heap.size,0,none⟩),.int .u64 153]) (w.alloc (.cells #[.int .i64 c] 274)):=by kernel_rfl
theorem elemOfP (w:World):(Rtype.elem? 276).run Tryz.prog w = .ok (some 274) w:=by kernel_rfl
theorem mkS (p:Addr) (w:World):(ReflectliteValue.mk 274 p ReflectliteValue.flagAddr).run Tryz.prog w = .ok (.agg #[.pointer (some ⟨5,274,none⟩),.pointer (some p),.int .u64 409]) w:=by kernel_rfl
theorem elemVP (a p:Addr) (W:World) (ha:W.cell? a=some (.pointer (some p))) :
  (ReflectliteValue.method (ReflectliteValue.valueError "reflectlite.Value.Elem" 0) ReflectliteValue.elem #[.agg #[.pointer (some ⟨5, 276, none⟩), .pointer (some a), .int .u64 150]]).run Tryz.prog W
   = .ok (.agg #[.pointer (some ⟨5,274,none⟩),.pointer (some p),.int .u64 409]) W:=by
 rw [rlm]
 simp only [Sem.run_bind,partsP,Result.andThen]
 simp [ReflectliteValue.elem,loadVar,isAgg,underlying,Tryz.underlying276,ha,Result.andThen,elemOfP,mkS]
theorem rls (v x:Value):ReflectliteValue.set #[v,x]=(do
  let (some (dst,a,fl),some (src,b,_)):=(← ReflectliteValue.parts v,← ReflectliteValue.parts x)
   | unsupported (.noEntry "extern/(internal/reflectlite.Value).Set.zeroValue")
  if fl / ReflectliteValue.flagAddr % 2 == 0 then unsupported (.noEntry "extern/(internal/reflectlite.Value).Set.unaddressable")
  let val ← loadVar src b
  if ← Rtype.directlyAssignable dst src then storeVar dst a val
  else if ← Rtype.implements dst src then
   if (← Rtype.kind src) == 20 then
    match val with
    | .nilIface => unsupported (.noEntry "extern/reflectlite: a nil value of one interface type handed on as a value of another")
    | _=>storeVar dst a val
   else storeVar dst a (.iface src val)
  else panicString ("reflectlite.Set: value of type " ++ (← Rtype.spelt src) ++ " is not assignable to type " ++ (← Rtype.spelt dst))
  pure (.tuple #[])):=rfl
theorem partsSa (a:Addr) (w:World):(ReflectliteValue.parts (.agg #[.pointer (some ⟨5,274,none⟩),.pointer (some a),.int .u64 409])).run Tryz.prog w = .ok (some (274,a,409)) w:=by kernel_rfl
theorem pS2 (a:Addr) (w:World):(ReflectliteValue.parts (.agg #[.pointer (some ⟨5,274,none⟩),.pointer (some a),.int .u64 153])).run Tryz.prog w = .ok (some (274,a,153)) w:=by kernel_rfl
theorem directS (w:World):(Rtype.directlyAssignable 274 274).run Tryz.prog w = .ok true w:=by kernel_rfl
theorem setS (ta b:Addr) (c:Int) (old:Value) (W:World) (hb:W.cell? b=some (.int .i64 c)) (ht:W.cell? ta=some old) (hf:W.frozen? ta=false) :
  (ReflectliteValue.set #[.agg #[.pointer (some ⟨5,274,none⟩),.pointer (some ta),.int .u64 409],.agg #[.pointer (some ⟨5,274,none⟩),.pointer (some b),.int .u64 153]]).run Tryz.prog W
   = .ok (.tuple #[]) (W.setCell ta (.int .i64 c)):=by
 rw [rls]
 simp only [Sem.run_bind,partsSa,pS2,Result.andThen]
 have hl:(loadVar 274 b).run Tryz.prog W = .ok (.agg #[.int .i64 c]) W:=by
  have hc:=run_loadCells_list (P:=Tryz.prog) W b [.int .i64 c] (fun j v hj=>by
   match j,hj with
   | 0,hj=>simp at hj;subst hj;simpa [Addr.add] using hb)
  simp only [List.length_singleton] at hc
  simp [loadVar,Result.andThen,hc]
 simp [ReflectliteValue.flagAddr,hl,Result.andThen,directS,storeVar,Value.cells,storeCells,Addr.add]
 rw [run_store Tryz.prog W ta _ _ (by rfl)]
 simp [ht,hf]
set_option maxRecDepth 100000 in
set_option maxHeartbeats 4000000 in
theorem as_hit (t:Addr) (c:Int) (old:Value) (w:World) (hg:w.cell? ⟨3,0,none⟩=some (.iface 222 (.agg #[.pointer (some ⟨5,75,none⟩)]))) (ht0:w.cell? t=some old) (hf0:w.frozen? t=false) :
  Calls Tryz.prog 208 #[.iface 274 (.agg #[.int .i64 c]),.iface 276 (.pointer (some t))] w fun ev w'=>ev = .returned (.bool true)∧w'=((((w.alloc (.cells #[.pointer (some t)] 276)).alloc (.cells #[.pointer (some ⟨5,276,none⟩),.pointer (some ⟨w.heap.size,0,none⟩),.int .u64 150] 294)).alloc (.cells #[.pointer (some ⟨5,276,none⟩),.pointer (some ⟨w.heap.size,0,none⟩),.int .u64 150] 294)).alloc (.cells #[.int .i64 c] 274)).setCell t (.int .i64 c):=by
 have h6:=@run_callFunc_extern Tryz.prog 227 _ (fun args=>ReflectliteValue.unpack (args.getD 0 (.tuple #[]))) Tryz.func227 (by kernel_rfl) (by kernel_rfl) (by kernel_rfl) (by kernel_rfl)
 have h7 := @run_callFunc_extern Tryz.prog 228 _ (ReflectliteValue.methodAny (ReflectliteValue.valueError "reflectlite.Value.Type" 0) (fun t _ _ _ => ReflectliteType.toType t)) Tryz.func228 (by kernel_rfl) (by kernel_rfl) (by kernel_rfl) (by kernel_rfl)
 have h8 := @run_callFunc_extern Tryz.prog 229 _ (ReflectliteValue.method (ReflectliteValue.valueError "reflectlite.Value.IsNil" 0) ReflectliteValue.isNil) Tryz.func229 (by kernel_rfl) (by kernel_rfl) (by kernel_rfl) (by kernel_rfl)
 have Ak:=@run_callFunc_extern Tryz.prog 255 _ (ReflectliteType.abiMethod fun t=>do pure (.int .u8 (← Rtype.kind t))) Tryz.func255 (by kernel_rfl) (by kernel_rfl) (by kernel_rfl) (by kernel_rfl)
 have Ap:=@run_callFunc_extern Tryz.prog 262 _ (ReflectliteType.method ReflectliteType.elem) Tryz.func262 (by kernel_rfl) (by kernel_rfl) (by kernel_rfl) (by kernel_rfl)
 have Af := @run_callFunc_extern Tryz.prog 263 _ (ReflectliteType.relation "Implements" ReflectliteType.implements_) Tryz.func263 (by kernel_rfl) (by kernel_rfl) (by kernel_rfl) (by kernel_rfl)
 have Ac:=@run_callFunc_extern Tryz.prog 129 _ ReflectliteType.typeOf Tryz.func129 (by kernel_rfl) (by kernel_rfl) (by kernel_rfl) (by kernel_rfl)
 have Ao := @run_callFunc_extern Tryz.prog 260 _ (ReflectliteType.relation "AssignableTo" ReflectliteType.assignableTo) Tryz.func260 (by kernel_rfl) (by kernel_rfl) (by kernel_rfl) (by kernel_rfl)
 have Ag := @run_callFunc_extern Tryz.prog 238 _ (ReflectliteValue.method (ReflectliteValue.valueError "reflectlite.Value.Elem" 0) ReflectliteValue.elem) Tryz.func238 (by kernel_rfl) (by kernel_rfl) (by kernel_rfl) (by kernel_rfl)
 have Aj:=@run_callFunc_extern Tryz.prog 239 _ ReflectliteValue.set Tryz.func239 (by kernel_rfl) (by kernel_rfl) (by kernel_rfl) (by kernel_rfl)
 have tO:=typeOfS
 have mA:=mAT
 have Ae:=aS
 have Ah:=valueOfS
 have f6:=valueOfP
 have f7:=typeP
 have mK:=methodKind
 have mE:=methodElem
 have mI:=mI2
 have Al:=kindP
 have Ai:=kindS
 have An:=elemP
 have Am:=iS3
 have n8:=isNilP ⟨w.heap.size,0,none⟩ t ((w.alloc (.cells #[.pointer (some t)] 276)).alloc (.cells #[.pointer (some ⟨5,276,none⟩),.pointer (some ⟨w.heap.size,0,none⟩),.int .u64 150] 294)) (by simp)
 have Ab:3 < w.heap.size:=World.block_lt_of_cell? _ _ hg
 have Ad:((w.alloc (.cells #[.pointer (some t)] 276)).alloc (.cells #[.pointer (some ⟨5,276,none⟩),.pointer (some ⟨w.heap.size,0,none⟩),.int .u64 150] 294)).cell? ⟨3,0,none⟩=some (.iface 222 (.agg #[.pointer (some ⟨5,75,none⟩)])):=by
  rw [World.cell?_alloc_lt _ _ ⟨3,0,none⟩ (by show 3 < _;rw [World.size_alloc];omega),World.cell?_alloc_lt _ _ ⟨3,0,none⟩ Ab];exact hg
 have Aa:t.block < w.heap.size:=World.block_lt_of_cell? _ _ ht0
 have el:=elemVP ⟨w.heap.size,0,none⟩ t (((w.alloc (.cells #[.pointer (some t)] 276)).alloc (.cells #[.pointer (some ⟨5,276,none⟩),.pointer (some ⟨w.heap.size,0,none⟩),.int .u64 150] 294)).alloc (.cells #[.pointer (some ⟨5,276,none⟩),.pointer (some ⟨w.heap.size,0,none⟩),.int .u64 150] 294)) (by rw [World.cell?_alloc_lt _ _ ⟨w.heap.size,0,none⟩ (by simp;omega)];simp)
 have st:=setS t ⟨w.heap.size + 1 + 1 + 1,0,none⟩ c old ((((w.alloc (.cells #[.pointer (some t)] 276)).alloc (.cells #[.pointer (some ⟨5,276,none⟩),.pointer (some ⟨w.heap.size,0,none⟩),.int .u64 150] 294)).alloc (.cells #[.pointer (some ⟨5,276,none⟩),.pointer (some ⟨w.heap.size,0,none⟩),.int .u64 150] 294)).alloc (.cells #[.int .i64 c] 274))
  (by rw [World.cell?_alloc_at _ _ _ _ (by simp)];rfl)
  (by rw [World.cell?_alloc_lt _ _ t (by simp;omega),World.cell?_alloc_lt _ _ t (by simp;omega),World.cell?_alloc_lt _ _ t (by simp;omega),World.cell?_alloc_lt _ _ t Aa];exact ht0)
  (by rw [World.frozen?_alloc_old _ _ t (by simp;omega),World.frozen?_alloc_old _ _ t (by simp;omega),World.frozen?_alloc_old _ _ t (by simp;omega),World.frozen?_alloc_old _ _ t (Nat.ne_of_lt Aa)];exact hf0)
 go_enter Tryz.func208,Tryz.ntmps208
 go_wp2
 refine wp_loop_rounds 1 ?_
 rw [rounds_succ]
 go_wp2
 go_ret
 exact ⟨rfl,rfl⟩
def dErr (code:Nat):Value:=if code=0 then .nilIface else .iface 274 (.agg #[.int .i64 code])
theorem dtold_any (a0 a1:Addr) (code:Nat) (w:World) (hv:DV2 a0 a1 w):Calls Tryz.prog 175 #[dErr code] w fun e w'=>e = .returned (.int .i64 (code:Nat))∧Below w.heap.size w w':=by
 obtain ⟨w0,Aa⟩:∃ w0,w0=w.alloc (.cells #[.int .i64 0] 274):=⟨_,rfl⟩
 have Ac:Below w.heap.size w w0:=by rw [Aa];exact (Below.refl _ _).alloc (Nat.le_refl _) _
 unfold dErr
 by_cases h:code=0
 ·subst h
  rw [if_pos rfl]
  have i1:=as_nil (.iface 276 (.pointer (some ⟨w.heap.size,0,none⟩))) w0
  have I1:=Hd i1
  have HW:=Hd Aa
  clear i1 Aa
  go_enter Tryz.func175,Tryz.ntmps175
  go_wp2_with (go_at_call 208;rw [← HW.out];refine I1.out.mono ?_;rintro e w' ⟨rfl,rfl⟩)
  go_ret
  exact ⟨rfl,Ac⟩
 ·rw [if_neg h]
  have Ab:w0.cell? ⟨w.heap.size,0,none⟩=some (.int .i64 0):=by rw [Aa];exact cell_new_sl w _ _
  have i1:=as_hit ⟨w.heap.size,0,none⟩ (code:Int) (.int .i64 0) w0 (hv.below Ac).g0 Ab (by rw [Aa];simp)
  have Ad:w.heap.size < w0.heap.size:=World.block_lt_of_cell? _ _ Ab
  have i2:=i1.mono (R':=fun ev w'=>ev = .returned (.bool true)∧w'.cell? ⟨w.heap.size,0,none⟩=some (.int .i64 code)∧Below w.heap.size w0 w') (by
   rintro e w' ⟨he,hw⟩
   refine ⟨he,?_,?_⟩
   ·rw [hw]
    refine World.cell?_setCell_same' _ _ _ ?_
    rw [World.cell?_alloc_lt _ _ ⟨w.heap.size,0,none⟩ (by simp;omega),World.cell?_alloc_lt _ _ ⟨w.heap.size,0,none⟩ (by simp;omega),World.cell?_alloc_lt _ _ ⟨w.heap.size,0,none⟩ (by simp;omega),World.cell?_alloc_lt _ _ ⟨w.heap.size,0,none⟩ Ad,Ab]
    rfl
   ·rw [hw]
    exact (((((Below.refl w.heap.size w0).alloc (by omega) _).alloc (by simp;omega) _).alloc (by simp;omega) _).alloc (by simp;omega) _).setCell (p:=⟨w.heap.size,0,none⟩) (Nat.le_refl _) _)
  have I2:=Hd i2
  have HW:=Hd Aa
  clear i1 i2 Aa Ab Ad
  go_enter Tryz.func175,Tryz.ntmps175
  go_wp2_with (go_at_call 208;rw [← HW.out];refine I2.out.mono ?_;rintro e w1 ⟨rfl,Af,Ae⟩)
  go_ret
  exact ⟨rfl,Ac.trans Ae⟩
theorem da3 (g code:Nat) (w:World) (hc:w.cell? ⟨g,0,none⟩=some (.int .i64 code)) :
  Calls Tryz.prog 207 #[.slice (some ⟨g,0,none⟩) 1 1] w fun e w'=>e = .returned (dErr code)∧w'=w:=by
 unfold dErr
 by_cases h:code=0
 ·subst h
  rw [if_pos rfl]
  go_enter Tryz.func207,Tryz.ntmps207
  go_wp2
  refine wp_loop_rounds 2 ?_
  rw [rounds_succ]
  go_wp2
  rw [rounds_succ]
  go_wp2
  go_ret
  exact ⟨rfl,rfl⟩
 ·rw [if_neg h]
  have Ab:((code:Int) != 0)=true:=by rw [bne_iff_ne];omega
  have Aa:¬ (code:Int)=0:=by omega
  go_enter Tryz.func207,Tryz.ntmps207
  go_wp2
  refine wp_loop_rounds 1 ?_
  rw [rounds_succ]
  go_wp2
  go_ret
  exact ⟨rfl,rfl⟩
end Go.Proofs.YtjdccifdkjnknaaGreatDoor
