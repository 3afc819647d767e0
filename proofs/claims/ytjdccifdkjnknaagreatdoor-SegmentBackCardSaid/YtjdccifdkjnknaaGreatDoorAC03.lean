/- Joined by mergeK.py: F8, D1, F31p, F36p, F41p, H2p, K2p, K3p, K4p, HR, K8, U0, F9, F10, F11, F12, F13, F14, F15, FlR, F16, F17, F18, HQ -/
import Derived.Test.YtjdccifdkjnknaaGreatDoorAC02
import Derived.Test.YtjdccifdkjnknaaGreatDoorRows
import Derived.Test.YtjdccifdkjnknaaGreatDoorAC01
import Derived.Test.YtjdccifdkjnknaaGreatDoorAC00
import Derived.Sort.Walk0
import Derived.Laws.Externs
import Derived.Laws.OwnMore
import Derived.Maps.AppendAt
import Derived.Still
import Derived.StillTail
import Derived.Below
import Derived.Deep.QuietTactic
import Derived.WalkKit
namespace Go.Proofs.YtjdccifdkjnknaaGreatDoor
open Go.RowKit Go.Sort
set_option maxRecDepth 100000 in
set_option maxHeartbeats 2000000 in
theorem sRa (v:Value) (s:Tess.Sch) (p:Nat→Prop) (w:World) (hv:SA p w v s) :
  Calls Tryz.prog 23 #[v] w fun e w'=>e = .returned (.bool (Tess.sO s))∧Below w.heap.size w w':=by
 obtain ⟨vd,vm,rfl,hd,hm,Ad,Ae⟩:=hv
 obtain ⟨ds,ms,g⟩:=s
 simp only at hd hm Ad Ae
 obtain ⟨ad,Al,rfl,At⟩:=sl3 hd
 obtain ⟨am,Ak,rfl,As⟩:=sl3 hm
 have Ao:=Hd (show ∀ x ∈ ds ++ ms,x.size≤maxLen from fun x hx=>by rcases List.mem_append.1 hx with h | h;exact Ad x h;exact Ae x h)
 have HD:=Hd hd
 have HM:=Hd hm
 clear hd hm Ad Ae
 have HW:=Hd (fun w=>swithin_any ds.length 1 6 w)
 have Aa:RowKit.Hid (Tess.sO ⟨ds,ms,g⟩=(Tess.Fil.inW ds.length (1,6) && decide (ms.length≤4) && decide (1≤g) && decide (g≤1000000000) && Tess.nO2 (ds ++ ms))):=Hd rfl
 by_cases h1:Tess.Fil.inW ds.length (1,6)=true
 ·by_cases h2:ms.length≤4
  ·have Aq:decide ((ms.length:Int)≤4)=true:=decide_eq_true (by omega)
   by_cases h3:1≤g
   ·by_cases h4:g≤1000000000
    ·have Ab:1≤ds.length∧ds.length≤6:=by unfold Tess.Fil.inW at h1;simpa using h1
     have HF:RowKit.Hid (Tess.sO ⟨ds,ms,g⟩=Tess.nO2 (ds ++ ms)):=Hd (by rw [Aa.out,h1,decide_eq_true h2,decide_eq_true h3,decide_eq_true h4];rfl)
     have HL:=Hd Ab
     clear Aa
     have Ac:decide (1≤g)=true:=decide_eq_true h3
     have Ag:decide (g≤1000000000)=true:=decide_eq_true h4
     clear Ab
     rw [HF.out]
     have Aj:=Hd (fun (b:Nat) (W:World) (hB:Below w.heap.size w W)=>concat_any b _ _ ds ms W (HD.out.1.below hB) (HM.out.1.below hB) HM.out.2.2 HL.out.1 HL.out.2 (by omega))
     have Ap:=Hd (fun (v:Value) (W:World) (h:SlOf W v ((ds ++ ms).map .string))=>aNa v (ds ++ ms) W h Ao.out)
     generalize Tess.nO2 (ds ++ ms)=nk at *
     go_enter Tryz.func23,Tryz.ntmps23
     go_wp2_with (first
      | (go_at_call 54;refine (HW.out _).mono ?_;rintro e w2 ⟨rfl,rfl⟩;rw [h1])
      | (go_at_call 56;refine (Aj.out _ _ (((Below.refl _ _).alloc (Nat.le_refl _) _).alloc (by simp) _) (by simp) (by simp)).mono ?_;rintro e w3 ⟨v3,rfl,Ai,Ah⟩;have Am:=Hd Ai;have Ar:=Hd ((((Below.refl _ _).alloc (Nat.le_refl _) _).alloc (by simp) _).trans (Ah.mono (by simp <;> omega)));clear Ai Ah)
      | (go_at_call 55;refine (Ap.out _ _ Am.out).mono ?_;rintro e w4 ⟨rfl,Af⟩;have An:=Hd (Bt Ar.out Af);clear Af))
     go_ret
     exact ⟨rfl,An.out⟩
    ·have Ag:decide (g≤1000000000)=false:=decide_eq_false h4
     have Ac:decide (1≤g)=true:=decide_eq_true h3
     rw [Aa.out,Ag,Bool.and_false,Bool.false_and]
     clear Aa
     go_enter Tryz.func23,Tryz.ntmps23
     go_wp2_with (go_at_call 54;refine (HW.out _).mono ?_;rintro e w2 ⟨rfl,rfl⟩;rw [h1])
     go_ret
     exact ⟨rfl,(Below.refl _ _).alloc (Nat.le_refl _) _⟩
   ·have Ac:decide (1≤g)=false:=decide_eq_false h3
    rw [Aa.out,Ac,Bool.and_false,Bool.false_and,Bool.false_and]
    clear Aa
    go_enter Tryz.func23,Tryz.ntmps23
    go_wp2_with (go_at_call 54;refine (HW.out _).mono ?_;rintro e w2 ⟨rfl,rfl⟩;rw [h1])
    go_ret
    exact ⟨rfl,(Below.refl _ _).alloc (Nat.le_refl _) _⟩
  ·have Aq:decide ((ms.length:Int)≤4)=false:=decide_eq_false (by omega)
   rw [Aa.out,decide_eq_false h2,Bool.and_false,Bool.false_and,Bool.false_and,Bool.false_and]
   clear Aa
   go_enter Tryz.func23,Tryz.ntmps23
   go_wp2_with (go_at_call 54;refine (HW.out _).mono ?_;rintro e w2 ⟨rfl,rfl⟩;rw [h1])
   go_ret
   exact ⟨rfl,(Below.refl _ _).alloc (Nat.le_refl _) _⟩
 ·have h1:Tess.Fil.inW ds.length (1,6)=false:=by simpa using h1
  rw [Aa.out,h1,Bool.false_and,Bool.false_and,Bool.false_and,Bool.false_and]
  clear Aa
  go_enter Tryz.func23,Tryz.ntmps23
  go_wp2_with (go_at_call 54;refine (HW.out _).mono ?_;rintro e w2 ⟨rfl,rfl⟩;rw [h1])
  go_ret
  exact ⟨rfl,(Below.refl _ _).alloc (Nat.le_refl _) _⟩
end Go.Proofs.YtjdccifdkjnknaaGreatDoor
namespace Go.Proofs.YtjdccifdkjnknaaGreatDoor
open Go.RowKit Go.Sort
theorem diS:(Tryz.prog.info? 9).map (fun i=>(i.zero,i.size,i.bytes))=some (some (.string ByteArray.empty),1,16):=by kernel_rfl
end Go.Proofs.YtjdccifdkjnknaaGreatDoor
namespace Tess
open Go
def vO (v:Val):Bool:=(v.null && decide (v.s=ByteArray.empty)) || (!v.null && decide (v.s.size≤100))
def rowFits (s:Sch) (t:Int) (l:List Val) (n:Nat):Bool:=sO s && decide (0≤t) && decide (t≤1000000000000) && decide (l.length=s.dims.length) && decide (n=s.mets.length) && l.all vO
end Tess
namespace Tess
open Go
structure Agg where
 kind:Int
 met:ByteArray
structure Cond where
 pos:Int
 op:Int
 n:Int
structure Key where
 agg:Bool
 pos:Int
 desc:Bool
structure Que where
 aggs:List Agg
 names:List ByteArray
 mode:Int
 sets:List (List ByteArray)
 every:Int
 fil:Fil
 conds:List Cond
 keys:List Key
 limit:Int
namespace Que
def setFrom (l:List ByteArray):Nat→List ByteArray→Nat
 | _,[]=>0
 | i,x :: r=>(if hasW l x then 0 else 2 ^ i) + setFrom l (i + 1) r
def setOf (names l:List ByteArray):Nat:=setFrom l 0 names
end Que
end Tess
namespace Tess
open Go Kl
abbrev DV:=Option ByteArray
def Val.c (v:Val):DV:=if v.null then none else some v.s
def valOf:DV→Val
 | none=>⟨ByteArray.empty,true⟩
 | some b=>⟨b,false⟩
theorem c_valOf (x:DV):(valOf x).c=x:=by cases x <;> rfl
theorem valOf_c {v:Val} (h:vO v=true):valOf v.c=v:=by
 obtain ⟨s,b⟩:=v
 cases b
 ·rfl
 ·simp only [vO,Bool.true_and,Bool.not_true,Bool.false_and,Bool.or_false,decide_eq_true_eq] at h
  subst h;rfl
theorem vOc {l:List Val} (h:l.all vO=true):(l.map Val.c).map valOf=l:=by
 rw [List.map_map]
 refine (List.map_congr_left fun v hv => ?_).trans (List.map_id l)
 exact valOf_c (List.all_eq_true.1 h v hv)
theorem blT (a b:ByteArray):bl a b=decide (a.toList < b.toList):=Go.Proofs.bytesLess_eq _ _
def vLt:DV→DV→Bool
 | _,none=>false
 | none,some _=>true
 | some a,some b=>bl a b
theorem v_sto:Sto vLt where
 irr a:=by
  cases a with
  | none=>rfl
  | some a=>rw [vLt,blT];exact decide_eq_false (List.lt_irrefl _)
 trans {a b c}:=by
  cases a <;> cases b <;> cases c <;> simp only [vLt,Bool.false_eq_true,false_implies,implies_true]
  rw [blT,blT,blT]
  intro h h'
  exact decide_eq_true (List.lt_trans (of_decide_eq_true h) (of_decide_eq_true h'))
 tri {a b}:=by
  cases a <;> cases b <;> simp only [vLt,Bool.true_eq_false,false_implies,implies_true]
  rw [blT,blT]
  intro h h'
  have:=List.le_antisymm (List.not_lt.1 (of_decide_eq_false h')) (List.not_lt.1 (of_decide_eq_false h))
  rw [ByteArray.toList_eq,ByteArray.toList_eq] at this
  rw [ByteArray.ext (Array.toList_inj.1 this)]
def iLt (a b:Int):Bool:=decide (a < b)
theorem i_sto:Sto iLt where
 irr a:=by simp [iLt]
 trans {a b c}:=by simp only [iLt,decide_eq_true_eq];omega
 tri {a b}:=by simp only [iLt,decide_eq_false_iff_not];omega
abbrev CK:=Int×List DV
def ckLt:CK→CK→Bool:=pair iLt (lex vLt)
theorem cs3:Sto ckLt:=pair_sto i_sto (lex_sto v_sto)
structure Pay where
 n:Int
 sums:List Int
 mins:List Int
 maxs:List Int
def Pay.add (a b:Pay):Pay:=⟨a.n + b.n,List.zipWith (· + ·) a.sums b.sums,List.zipWith min a.mins b.mins,List.zipWith max a.maxs b.maxs⟩
theorem zc2 {f:Int→Int→Int} (h:∀ a b,f a b=f b a) (l m:List Int):List.zipWith f l m=List.zipWith f m l:=by
 induction l generalizing m with
 | nil=>simp
 | cons a l ih=>cases m with
   | nil=>simp
   | cons b m=>simp [h a b,ih]
theorem za2 {f:Int→Int→Int} (h:∀ a b c,f (f a b) c=f a (f b c)) (l m n:List Int):List.zipWith f (List.zipWith f l m) n=List.zipWith f l (List.zipWith f m n):=by
 induction l generalizing m n with
 | nil=>simp
 | cons a l ih=>cases m with
   | nil=>simp
   | cons b m=>cases n with
     | nil=>simp
     | cons c n=>simp [h a b c,ih]
theorem pc5:Com Pay.add where
 comm a b:=by
  obtain ⟨a1,a2,a3,a4⟩:=a;obtain ⟨b1,b2,b3,b4⟩:=b
  simp only [Pay.add,Pay.mk.injEq]
  exact ⟨Int.add_comm _ _,zc2 Int.add_comm _ _,zc2 Int.min_comm _ _,zc2 Int.max_comm _ _⟩
 assoc a b c:=by
  obtain ⟨a1,a2,a3,a4⟩:=a;obtain ⟨b1,b2,b3,b4⟩:=b;obtain ⟨c1,c2,c3,c4⟩:=c
  simp only [Pay.add,Pay.mk.injEq]
  exact ⟨Int.add_assoc _ _ _,za2 Int.add_assoc _ _ _,za2 (fun a b c=>by omega) _ _ _,za2 (fun a b c=>by omega) _ _ _⟩
structure Row where
 t:Int
 l:List Val
 ns:List Int
def Row.ok (s:Sch) (r:Row):Bool:=rowFits s r.t r.l r.ns.length
def Row.kp (g:Int) (r:Row):CK×Pay:=((r.t - r.t % g,r.l.map Val.c),⟨1,r.ns,r.ns,r.ns⟩)
def rP (g:Int) (rows:List Row):List (CK×Pay):=fold ckLt Pay.add (rows.map (Row.kp g))
section
variable (s:Sch) (q:Que) (set:Nat) (g:Int)
end
theorem ok_parts {s:Sch} {r:Row} (h:Row.ok s r=true):sO s=true∧(0≤r.t∧r.t≤1000000000000)∧r.l.length=s.dims.length∧r.ns.length=s.mets.length∧r.l.all vO=true:=by
 simp only [Row.ok,rowFits,Bool.and_eq_true,decide_eq_true_eq] at h
 exact ⟨h.1.1.1.1.1,⟨h.1.1.1.1.2,h.1.1.1.2⟩,h.1.1.2,h.1.2,h.2⟩
end Tess
namespace Tess
open Go Kl
namespace Kl
section
variable {K P:Type} {lt:K→K→Bool} {add:P→P→P}
theorem ins_all {R:P→Prop} (ha:∀ a b,R a→R b→R (add a b)) {x:K×P} (hx:R x.2):∀ {l:List (K×P)},(∀ y ∈ l,R y.2)→∀ y ∈ ins lt add x l,R y.2
 | [],_,y,hy=>by rw [ins,List.mem_singleton] at hy;rw [hy];exact hx
 | z :: l,hl,y,hy=>by
   rw [ins] at hy
   have hz:=hl z (by simp)
   have hr:∀ y ∈ l,R y.2:=fun y hy=>hl y (by simp [hy])
   split at hy
   ·rcases List.mem_cons.1 hy with rfl | hy
    ·exact hz
    ·exact ins_all ha hx hr y hy
   split at hy
   ·rcases List.mem_cons.1 hy with rfl | hy
    ·exact hx
    ·exact hl y hy
   ·rcases List.mem_cons.1 hy with rfl | hy
    ·exact ha _ _ hz hx
    ·exact hr y hy
theorem fa8 {R:P→Prop} (ha:∀ a b,R a→R b→R (add a b)):∀ (l m:List (K×P)),(∀ y ∈ l,R y.2)→(∀ y ∈ m,R y.2)→∀ y ∈ l.foldl (fun m x=>ins lt add x m) m,R y.2
 | [],_,_,hm=>hm
 | x :: l,m,hl,hm=>fa8 ha l _ (fun y hy=>hl y (by simp [hy])) (ins_all ha (hl x (by simp)) hm)
theorem fold_all {R:P→Prop} (ha:∀ a b,R a→R b→R (add a b)) {l:List (K×P)} (hl:∀ y ∈ l,R y.2):∀ y ∈ fold lt add l,R y.2:=
 fa8 ha l [] hl fun _ h=>by cases h
theorem fk2 {R:K→Prop}:∀ (l m:List (K×P)),(∀ y ∈ l,R y.1)→(∀ y ∈ m,R y.1)→∀ y ∈ l.foldl (fun m x=>ins lt add x m) m,R y.1
 | [],_,_,hm=>hm
 | x :: l,m,hl,hm=>fk2 l _ (fun y hy=>hl y (by simp [hy])) fun y hy=>by
   rcases mem_ins hy with e | ⟨z,hz,e⟩
   ·rw [e];exact hl x (by simp)
   ·rw [← e];exact hm z hz
theorem fold_keys {R:K→Prop} {l:List (K×P)} (hl:∀ y ∈ l,R y.1):∀ y ∈ fold lt add l,R y.1:=fk2 l [] hl fun _ h=>by cases h
theorem san {l:List (K×P)} (h:sum add (fun _=>true) l=none):l=[]:=by
 cases l with
 | nil=>rfl
 | cons x l=>exact absurd h (sum_some (c:=fun _=>true) (x:=x) (by simp) rfl)
def put (lt:K→K→Bool) (add:P→P→P) (l:List (K×P)) (x:K×P):List (K×P):=
 match l with
 | []=>[x]
 | y :: r=>if at' lt x.1 y.1 then (y.1,add y.2 x.2) :: r else y :: put lt add r x
end
end Kl
def Pay.len (M:Nat) (p:Pay):Prop:=p.sums.length=M∧p.mins.length=M∧p.maxs.length=M
theorem Pay.len_add {M:Nat} (a b:Pay) (ha:a.len M) (hb:b.len M):(a.add b).len M:=by
 simp only [Pay.len,Pay.add,List.length_zipWith] at *
 omega
theorem zgD {f:Int→Int→Int} {l m:List Int} {k:Nat} (h1:k < l.length) (h2:k < m.length):(List.zipWith f l m).getD k 0=f (l.getD k 0) (m.getD k 0):=by
 simp [List.getD,List.getElem?_zipWith,h1,h2]
theorem tn3:∀ {l:List (CK×Pay)} {p:Pay},sum Pay.add (fun _=>true) l=some p→p.n=(l.map (·.2.n)).sum
 | [],_,h=>by cases h
 | x :: l,p,h=>by
   rw [sum,if_pos rfl] at h
   cases hs:sum Pay.add (fun _=>true) l with
   | none=>rw [hs] at h;cases h;rw [san hs];simp
   | some r=>rw [hs] at h;cases h;rw [List.map_cons,List.sum_cons,← tn3 hs];rfl
section
variable {s:Sch} {q:Que} {set:Nat} {C:List (CK×Pay)}
end
end Tess
namespace Tess
open Go Kl
def iSP (s n l h:Int):Bool:=if n=1 then decide (l=h) && decide (s=l) else decide (l≤h) && decide (l + h + l * (n - 2)≤s) && decide (s≤l + h + h * (n - 2))
def SO2 (s n l h:Int):Prop:=l≤h∧l * (n - 1) + h≤s∧s≤h * (n - 1) + l
theorem isSum_of {s n l h:Int} (hs:SO2 s n l h):iSP s n l h=true:=by
 obtain ⟨h1,h2,h3⟩:=hs
 unfold iSP
 split
 ·rename_i hn
  subst hn
  rw [Bool.and_eq_true,decide_eq_true_eq,decide_eq_true_eq]
  omega
 ·rw [Bool.and_eq_true,Bool.and_eq_true,decide_eq_true_eq,decide_eq_true_eq,decide_eq_true_eq]
  have e1:l * (n - 1)=l * (n - 2) + l:=by rw [show n - 1=(n - 2) + 1 by omega,Int.mul_add,Int.mul_one]
  have e2:h * (n - 1)=h * (n - 2) + h:=by rw [show n - 1=(n - 2) + 1 by omega,Int.mul_add,Int.mul_one]
  omega
theorem sumOk_add {s1 n1 l1 h1 s2 n2 l2 h2:Int} (hn1:1≤n1) (hn2:1≤n2) (a:SO2 s1 n1 l1 h1) (b:SO2 s2 n2 l2 h2):SO2 (s1 + s2) (n1 + n2) (min l1 l2) (max h1 h2):=by
 obtain ⟨a1,a2,a3⟩:=a
 obtain ⟨b1,b2,b3⟩:=b
 generalize hl:min l1 l2=l
 generalize hh:max h1 h2=h
 have p1:l * (n1 - 1)≤l1 * (n1 - 1):=Int.mul_le_mul_of_nonneg_right (by omega) (by omega)
 have p2:l * (n2 - 1)≤l2 * (n2 - 1):=Int.mul_le_mul_of_nonneg_right (by omega) (by omega)
 have p3:h1 * (n1 - 1)≤h * (n1 - 1):=Int.mul_le_mul_of_nonneg_right (by omega) (by omega)
 have p4:h2 * (n2 - 1)≤h * (n2 - 1):=Int.mul_le_mul_of_nonneg_right (by omega) (by omega)
 have e1:l * (n1 + n2 - 1)=l * (n1 - 1) + l * (n2 - 1) + l:=by
  rw [show n1 + n2 - 1=(n1 - 1) + (n2 - 1) + 1 by omega,Int.mul_add,Int.mul_add,Int.mul_one]
 have e2:h * (n1 + n2 - 1)=h * (n1 - 1) + h * (n2 - 1) + h:=by
  rw [show n1 + n2 - 1=(n1 - 1) + (n2 - 1) + 1 by omega,Int.mul_add,Int.mul_add,Int.mul_one]
 unfold SO2
 rw [e1,e2]
 omega
structure PO (M:Nat) (p:Pay):Prop where
 len:p.len M
 one:1≤p.n
 sum:∀ m < M,SO2 (p.sums.getD m 0) p.n (p.mins.getD m 0) (p.maxs.getD m 0)
 rng:∀ m < M,-9223372036854775808≤p.mins.getD m 0∧p.mins.getD m 0≤9223372036854775807 ∧ -9223372036854775808≤p.maxs.getD m 0∧p.maxs.getD m 0≤9223372036854775807
theorem pOa {M:Nat} (a b:Pay) (ha:PO M a) (hb:PO M b):PO M (a.add b):=by
 have hg:∀ m < M,(a.add b).sums.getD m 0=a.sums.getD m 0 + b.sums.getD m 0∧(a.add b).mins.getD m 0=min (a.mins.getD m 0) (b.mins.getD m 0)∧(a.add b).maxs.getD m 0=max (a.maxs.getD m 0) (b.maxs.getD m 0):=fun m hm=>by
  obtain ⟨a1,a2,a3⟩:=ha.len
  obtain ⟨b1,b2,b3⟩:=hb.len
  exact ⟨zgD (by omega) (by omega),zgD (by omega) (by omega),zgD (by omega) (by omega)⟩
 refine ⟨Pay.len_add a b ha.len hb.len,?_,fun m hm => ?_,fun m hm => ?_⟩
 ·show 1≤a.n + b.n
  have:=ha.one
  have:=hb.one
  omega
 ·obtain ⟨e1,e2,e3⟩:=hg m hm
  rw [e1,e2,e3]
  exact sumOk_add ha.one hb.one (ha.sum m hm) (hb.sum m hm)
 ·obtain ⟨_,e2,e3⟩:=hg m hm
  rw [e2,e3]
  have:=ha.rng m hm
  have:=hb.rng m hm
  omega
structure CO3 (s:Sch) (x:CK×Pay):Prop where
 time:0≤x.1.1∧x.1.1≤1000000000000∧x.1.1 % s.grain=0
 dims:x.1.2.length=s.dims.length∧(x.1.2.map valOf).all vO=true
 most:x.2.n≤1000000
 pay:PO s.mets.length x.2
structure CO (s:Sch) (C:List (CK×Pay)):Prop where
 sch:sO s=true
 len:C.length≤1000
 each:∀ x ∈ C,CO3 s x
 asc:Asc ckLt C
def Row.rng (r:Row):Prop:=∀ z ∈ r.ns,-9223372036854775808≤z∧z≤9223372036854775807
theorem row_pay {s:Sch} {r:Row} (h:Row.ok s r=true) (hr:r.rng) (g:Int):PO s.mets.length (Row.kp g r).2:=by
 obtain ⟨_,_,_,hl,_⟩:=ok_parts h
 refine ⟨⟨hl,hl,hl⟩,Int.le_refl _,fun m hm => ?_,fun m hm => ?_⟩
 ·show SO2 (r.ns.getD m 0) 1 (r.ns.getD m 0) (r.ns.getD m 0)
  unfold SO2
  omega
 ·show -9223372036854775808≤r.ns.getD m 0∧r.ns.getD m 0≤9223372036854775807 ∧ -9223372036854775808≤r.ns.getD m 0∧r.ns.getD m 0≤9223372036854775807
  have Aa:m < r.ns.length:=by omega
  have e:r.ns.getD m 0=r.ns[m]:=by simp [List.getD,Aa]
  rw [e]
  have:=hr _ (List.getElem_mem Aa)
  omega
theorem lls:∀ {l:List (CK×Pay)},(∀ x ∈ l,1≤x.2.n)→(l.length:Int)≤(l.map (·.2.n)).sum∧∀ x ∈ l,x.2.n≤(l.map (·.2.n)).sum
 | [],_=>⟨by simp,fun x hx=>by cases hx⟩
 | x :: l,h=>by
   obtain ⟨h1,h2⟩:=lls (l:=l) fun y hy=>h y (by simp [hy])
   have hx:=h x (by simp)
   rw [List.map_cons,List.sum_cons]
   refine ⟨by rw [List.length_cons];omega,fun y hy => ?_⟩
   rcases List.mem_cons.1 hy with rfl | hy
   ·omega
   ·have:=h2 y hy;omega
theorem rows_n (g:Int):∀ (rows:List Row) (p:Pay),sum Pay.add (fun _=>true) (rows.map (Row.kp g))=some p→p.n=rows.length
 | [],_,h=>by cases h
 | r :: rows,p,h=>by
   rw [List.map_cons,sum,if_pos rfl] at h
   cases hs:sum Pay.add (fun _=>true) (rows.map (Row.kp g)) with
   | none=>
     rw [hs] at h;cases h
     have:=san hs
     rw [List.map_eq_nil_iff] at this
     subst this;rfl
   | some q=>
     rw [hs] at h;cases h
     have:=rows_n g rows q hs
     show (1:Int) + q.n=((r :: rows).length:Int)
     rw [this,List.length_cons];omega
theorem roll_sum {g:Int} {rows:List Row} (hp:∀ x ∈ rP g rows,1≤x.2.n):(rP g rows).length≤rows.length∧∀ x ∈ rP g rows,x.2.n≤rows.length:=by
 obtain ⟨h1,h2⟩:=lls hp
 have e:sum Pay.add (fun _=>true) (rP g rows)=sum Pay.add (fun _=>true) (rows.map (Row.kp g)):=sf3 cs3 pc5 _ _
 cases hs:sum Pay.add (fun _=>true) (rP g rows) with
 | none=>rw [san hs];exact ⟨by simp,fun x hx=>by cases hx⟩
 | some p=>
   have hn:=tn3 hs
   rw [e] at hs
   have:=rows_n g rows p hs
   rw [← hn,this] at h1 h2
   exact ⟨by omega,h2⟩
theorem roll_ok {s:Sch} {rows:List Row} (hs:sO s=true) (hr:∀ r ∈ rows,Row.ok s r=true) (hn:∀ r ∈ rows,r.rng) (hl:rows.length≤1000):CO s (rP s.grain rows):=by
 have hp:∀ x ∈ rP s.grain rows,PO s.mets.length x.2:=fold_all pOa fun y hy=>by
  obtain ⟨r,hm,rfl⟩:=List.mem_map.1 hy
  exact row_pay (hr r hm) (hn r hm) _
 have hk:∀ x ∈ rP s.grain rows,((0≤x.1.1∧x.1.1≤1000000000000∧x.1.1 % s.grain=0)∧x.1.2.length=s.dims.length∧(x.1.2.map valOf).all vO=true):=fold_keys (R:=fun k:CK=>((0≤k.1∧k.1≤1000000000000∧k.1 % s.grain=0)∧k.2.length=s.dims.length∧(k.2.map valOf).all vO=true)) fun y hy=>by
  obtain ⟨r,hm,rfl⟩:=List.mem_map.1 hy
  obtain ⟨_,⟨t0,t1⟩,hd,_,hv⟩:=ok_parts (hr r hm)
  have hg:1≤s.grain:=by
   simp only [sO,Bool.and_eq_true,decide_eq_true_eq] at hs
   exact hs.1.1.2
  have m0:=Int.emod_nonneg r.t (show s.grain≠0 by omega)
  have m1:=Int.mul_ediv_add_emod r.t s.grain
  have m2:r.t - r.t % s.grain=s.grain * (r.t / s.grain):=by omega
  have m3:0≤s.grain * (r.t / s.grain):=Int.mul_nonneg (by omega) (Int.ediv_nonneg t0 (by omega))
  refine ⟨⟨?_,?_,?_⟩,?_,?_⟩
  ·show 0≤r.t - r.t % s.grain;omega
  ·show r.t - r.t % s.grain≤1000000000000;omega
  ·show (r.t - r.t % s.grain) % s.grain=0;rw [m2];exact Int.mul_emod_right _ _
  ·show (r.l.map Val.c).length=_;rw [List.length_map];exact hd
  ·show ((r.l.map Val.c).map valOf).all vO=true;rw [vOc hv];exact hv
 obtain ⟨h1,h2⟩:=roll_sum fun x hx=>(hp x hx).one
 exact ⟨hs,by omega,fun x hx=>⟨(hk x hx).1,(hk x hx).2,by have:=h2 x hx;omega,hp x hx⟩,fold_asc cs3 _⟩
end Tess
namespace Go.Proofs.YtjdccifdkjnknaaGreatDoor
open Go.RowKit Go.Sort
def RA {α:Type} (k:Nat) (f:α→List Value) (p:Nat→Prop) (w:World) (v:Value) (l:List α):Prop:=
 ∃ a cap,v = .slice a l.length cap∧l.length≤maxLen∧l.length≤cap∧(a=none→cap=0) ∧
   (0 < l.length→∃ b off,a=some ⟨b,off,none⟩∧b < w.heap.size∧p b∧∀ j (h:j < l.length) i,i < k→w.cell? ⟨b,off + j * k + i,none⟩=(f l[j])[i]?)
section
variable {α:Type} {k:Nat} {f:α→List Value} {p q:Nat→Prop} {w w':World} {v:Value} {l:List α}
theorem RA.ag (h:RA k f p w v l) (hg:Ag p w w'):RA k f p w' v l:=by
 obtain ⟨a,Ab,hv,h1,h2,h3,h4⟩:=h
 refine ⟨a,Ab,hv,h1,h2,h3,fun hl => ?_⟩
 obtain ⟨b,Aa,ha,hb,hp,hc⟩:=h4 hl
 exact ⟨b,Aa,ha,Nat.lt_of_lt_of_le hb hg.1,hp,fun j hj i hi=>(hg.cell hb hp).trans (hc j hj i hi)⟩
theorem RA.weak (hpq:∀ b,p b→q b) (h:RA k f p w v l):RA k f q w v l:=by
 obtain ⟨a,Ab,hv,h1,h2,h3,h4⟩:=h
 refine ⟨a,Ab,hv,h1,h2,h3,fun hl => ?_⟩
 obtain ⟨b,Aa,ha,hb,hp,hc⟩:=h4 hl
 exact ⟨b,Aa,ha,hb,hpq b hp,hc⟩
theorem RA.lt (h:RA k f p w v l):RA k f (fun b=>p b∧b < w.heap.size) w v l:=by
 obtain ⟨a,Ab,hv,h1,h2,h3,h4⟩:=h
 refine ⟨a,Ab,hv,h1,h2,h3,fun hl => ?_⟩
 obtain ⟨b,Aa,ha,hb,hp,hc⟩:=h4 hl
 exact ⟨b,Aa,ha,hb,⟨hp,hb⟩,hc⟩
theorem RA.nil (k:Nat) (f:α→List Value) (p:Nat→Prop) (w:World):RA k f p w (.slice none 0 0) []:=⟨none,0,rfl,Nat.zero_le _,Nat.zero_le _,fun _=>rfl,fun h=>absurd h (Nat.lt_irrefl 0)⟩
theorem RA.take (h:RA k f p w v l) (n:Nat) (hn:n≤l.length):∃ a cap,v = .slice a l.length cap∧RA k f p w (.slice a n cap) (l.take n):=by
 obtain ⟨a,cap,hv,h1,h2,h3,h4⟩:=h
 have e:(l.take n).length=n:=by simp;omega
 refine ⟨a,cap,hv,a,cap,by rw [e],by rw [e];omega,by rw [e];omega,h3,fun hl => ?_⟩
 rw [e] at hl
 obtain ⟨b,Aa,ha,hb,hp,hc⟩:=h4 (by omega)
 refine ⟨b,Aa,ha,hb,hp,fun j hj i hi => ?_⟩
 rw [e] at hj
 rw [hc j (by omega) i hi];simp
end
end Go.Proofs.YtjdccifdkjnknaaGreatDoor
namespace Go.Proofs.YtjdccifdkjnknaaGreatDoor
open Go.RowKit Go.Sort
theorem can2 {W:World} {B:Nat} {t:TypeId} {x0 x1:Value} (h:W.heap[B]? = some (.cells #[x0,x1] t (0,0))) :
  (W.cell? ⟨B,0,none⟩=some x0∧W.cell? ⟨B,1,none⟩=some x1)∧W.frozen? ⟨B,0,none⟩=false∧W.frozen? ⟨B,1,none⟩=false:=
 ⟨⟨cell_of_row _ _ 0 _ _ _ h,cell_of_row _ _ 1 _ _ _ h⟩,frozen_of_row _ _ 0 _ _ h,frozen_of_row _ _ 1 _ _ h⟩
def wHi (n:Int):Int:=n / 18446744073709551616
def wLo (n:Int):Int:=n % 18446744073709551616
def wF (n:Int):List Value:=[.int .i64 (wHi n),.int .u64 (wLo n)]
def intF (n:Int):List Value:=[.int .i64 n]
def WOk (n:Int):Prop := -170141183460469231731687303715884105728≤n∧n < 170141183460469231731687303715884105728
def I64 (n:Int):Prop := -9223372036854775808≤n∧n≤9223372036854775807
theorem I64.w {n:Int} (h:I64 n):WOk n:=⟨by have:=h.1;omega,by have:=h.2;omega⟩
theorem wHi_i64 {n:Int} (h:I64 n):n / 9223372036854775808=wHi n:=by
 unfold I64 at h;unfold wHi
 rcases Int.lt_or_le n 0 with h0 | h0 <;> omega
theorem wu (n:Int):IntKind.u64.wrap n=n % 18446744073709551616:=by rw [IntKind.wrap_u64]
set_option maxRecDepth 100000 in
theorem wOf_eq (n:Int) (h:I64 n) (w:World):Calls Tryz.prog 59 #[.int .i64 n] w fun e w'=>e = .returned (.agg #[.int .i64 (wHi n),.int .u64 (wLo n)])∧Below w.heap.size w w':=by
 have HH:=Hd (wHi_i64 h)
 go_enter Tryz.func59,Tryz.ntmps59
 go_wp2
 have hB:=(la2 w (.cells #[.int .i64 (n / 9223372036854775808),.int .u64 (IntKind.u64.wrap n)] 100)).2.2
 have hl:=(la2 w (.cells #[.int .i64 (n / 9223372036854775808),.int .u64 (IntKind.u64.wrap n)] 100)).1
 have e0:=cell_of_row _ w.heap.size 0 _ _ _ hl
 have e1:=cell_of_row _ w.heap.size 1 _ _ _ hl
 refine bodyPost_ret (v:=.agg #[.int .i64 (n / 9223372036854775808),.int .u64 (IntKind.u64.wrap n)]) (by simp [results,Tryz.results59,go_sem]) rfl ⟨?_,hB⟩
 rw [HH.out,wu];rfl
theorem ar2 (x y c:Nat) (hc:c≤1) (w:World) :
  (callFunc 154 #[.int .u64 x,.int .u64 y,.int .u64 c]).run Tryz.prog w =
   .ok (.value (.tuple #[.int .u64 (((x + y + c) % 18446744073709551616:Nat):Int),.int .u64 (((x + y + c) / 18446744073709551616:Nat):Int)])) w:=by
 rw [run_callFunc_extern Tryz.func154 (by kernel_rfl) (by kernel_rfl) (by kernel_rfl) (e:=add64Entry) (by kernel_rfl),run_add64 x y c (by omega) (by omega) (by omega) (by omega)]
 simp only [Result.andThen]
 congr 5 <;> omega
set_option maxRecDepth 100000 in
theorem wAa (n m:Int) (hs:WOk (n + m)) (w:World):Calls Tryz.prog 117 #[.agg #[.int .i64 (wHi n),.int .u64 (wLo n)],.agg #[.int .i64 (wHi m),.int .u64 (wLo m)]] w fun e w'=>e = .returned (.agg #[.int .i64 (wHi (n + m)),.int .u64 (wLo (n + m))])∧Below w.heap.size w w':=by
 obtain ⟨l,hl⟩:∃ l:Nat,wLo n=l:=⟨(wLo n).toNat,by unfold wLo;omega⟩
 obtain ⟨l',Ab⟩:∃ l:Nat,wLo m=l:=⟨(wLo m).toNat,by unfold wLo;omega⟩
 obtain ⟨u,hu⟩:∃ u:Nat,IntKind.u64.wrap (wHi n)=u:=⟨(wHi n % 18446744073709551616).toNat,by rw [wu];omega⟩
 obtain ⟨u',Ae⟩:∃ u:Nat,IntKind.u64.wrap (wHi m)=u:=⟨(wHi m % 18446744073709551616).toNat,by rw [wu];omega⟩
 have Ad:=hu;have Aa:=Ae
 rw [wu] at Ad Aa
 obtain ⟨c,hc⟩:∃ c,(l + l' + 0) / 18446744073709551616=c:=⟨_,rfl⟩
 obtain ⟨x,hx⟩:∃ x,(l + l' + 0) % 18446744073709551616=x:=⟨_,rfl⟩
 obtain ⟨y,hy⟩:∃ y,(u + u' + c) % 18446744073709551616=y:=⟨_,rfl⟩
 have Ag:c≤1:=by unfold wLo at hl Ab;omega
 have A1:∀ w,(callFunc 154 #[.int .u64 l,.int .u64 l',.int .u64 0]).run Tryz.prog w = .ok (.value (.tuple #[.int .u64 x,.int .u64 c])) w:=fun w=>by
  have:=ar2 l l' 0 (by omega) w
  rwa [hc,hx] at this
 have A2:∀ w,(callFunc 154 #[.int .u64 u,.int .u64 u',.int .u64 c]).run Tryz.prog w = .ok (.value (.tuple #[.int .u64 y,.int .u64 _])) w:=fun w=>by
  have:=ar2 u u' c Ag w
  rwa [hy] at this
 have Ah:IntKind.i64.wrap (y:Int)=wHi (n + m):=by
  unfold wLo wHi WOk at *
  rw [IntKind.wrap_i64]
  omega
 have Ac:(x:Int)=wLo (n + m):=by
  unfold wLo at *
  omega
 rw [hl,Ab,← Ac]
 generalize wHi (n + m)=z at *
 clear hl Ab Ad Aa hx hy hc Ac hs
 generalize wHi n=h at *
 generalize wHi m=h' at *
 obtain ⟨W0,Af⟩:∃ W0,((w.alloc (.cells #[.int .i64 h,.int .u64 l] 100)).alloc (.cells #[.int .i64 h',.int .u64 l'] 100)).alloc (.cells #[.int .i64 0,.int .u64 0] 100)=W0:=⟨_,rfl⟩
 obtain ⟨k0,k1,k2,kS,kB⟩:=laid3 w (.cells #[.int .i64 h,.int .u64 l] 100) (.cells #[.int .i64 h',.int .u64 l'] 100) (.cells #[.int .i64 0,.int .u64 0] 100)
 rw [Af] at k0 k1 k2 kS kB
 rw [show w.heap.size + 2=w.heap.size + 1 + 1 by omega] at k2
 obtain ⟨⟨x0,x1⟩,_⟩:=can2 k0
 obtain ⟨⟨y0,y1⟩,_⟩:=can2 k1
 obtain ⟨_,z0,z1⟩:=can2 k2
 go_enter Tryz.func117,Tryz.ntmps117
 go_wp2
 have q1:=heap_setCell_same _ _ 1 _ _ (.int .u64 x) (heap_setCell_same _ _ 0 _ _ (.int .i64 z) k2)
 obtain ⟨⟨e0,e1⟩,_⟩:=can2 q1
 refine bodyPost_ret (v:=.agg #[.int .i64 z,.int .u64 x]) (by simp [results,Tryz.results117,go_sem,e0,e1]) rfl ⟨rfl,(kB.setCell (by show _≤w.heap.size + 1 + 1;omega) _).setCell (by show _≤w.heap.size + 1 + 1;omega) _⟩
end Go.Proofs.YtjdccifdkjnknaaGreatDoor
namespace Go
open Go.RowKit
theorem so3 {α:Type} (f:α→Value) {w:World} {v:Value} {l:List α} (h:SlOf w v (l.map f)):∃ a cap,v = .slice a l.length cap∧l.length≤9223372036854775807 ∧
  ∀ W,Below w.heap.size w W→∀ k,(hk:k < l.length)→∃ b off,a=some ⟨b,off,none⟩∧b < W.heap.size∧W.cell? ⟨b,off + k,none⟩=some (f l[k]):=by
 obtain ⟨h0,a,cap,hv,hc⟩:=h
 simp only [List.length_map] at h0 hv hc
 refine ⟨a,cap,hv,by unfold maxLen at h0;omega,fun W hW k hk => ?_⟩
 obtain ⟨b,off,ha,hb,Aa⟩:=hc (by omega)
 exact ⟨b,off,ha,Nat.lt_of_lt_of_le hb hW.size,by rw [hW.cell (p:=⟨b,off + k,none⟩) hb,Aa k (by simpa using hk),List.getElem_map]⟩
theorem ap2 (b off n:Nat):(⟨b,off,none⟩:Addr).add n=⟨b,off + n,none⟩:=by unfold Addr.add;split <;> simp_all
end Go
namespace Go.Proofs.YtjdccifdkjnknaaGreatDoor
open Go.RowKit Go.Sort
open Tess (Fil)
def FA2 (p:Nat→Prop):Nat→World→Value→Fil→Prop
 | 0,_,_,_=>False
 | n + 1,w,v,f => ∃ vw a cap,v = .agg #[.int .i64 f.kind,.string f.name,vw,.int .i64 f.frm,.int .i64 f.to,.slice a f.l.length cap]∧f.name.size≤maxLen∧SlP p w vw (f.words.map .string)∧(∀ x ∈ f.words,x.size≤maxLen)∧f.l.length≤maxLen∧(a=none→cap=0) ∧
     (0 < f.l.length→∃ b off,a=some ⟨b,off,none⟩∧b < w.heap.size∧p b∧∀ j (h:j < f.l.length),∃ c0 c1 c2 c3 c4 c5,FA2 p n w (.agg #[c0,c1,c2,c3,c4,c5]) f.l[j] ∧
       w.cell? ⟨b,off + j * 6,none⟩=some c0∧w.cell? ⟨b,off + j * 6 + 1,none⟩=some c1∧w.cell? ⟨b,off + j * 6 + 2,none⟩=some c2∧w.cell? ⟨b,off + j * 6 + 3,none⟩=some c3∧w.cell? ⟨b,off + j * 6 + 4,none⟩=some c4∧w.cell? ⟨b,off + j * 6 + 5,none⟩=some c5)
theorem FA2.ag {p:Nat→Prop}:∀ {n:Nat} {w w':World} {v:Value} {f:Fil},FA2 p n w v f→Ag p w w'→FA2 p n w' v f
 | 0,_,_,_,_,h,_=>h.elim
 | n + 1,w,w',v,f,h,hg=>by
   obtain ⟨vw,a,cap,hv,h1,h2,h3,h4,h5,h6⟩:=h
   refine ⟨vw,a,cap,hv,h1,h2.ag hg,h3,h4,h5,fun hl => ?_⟩
   obtain ⟨b,off,ha,hb,hp,hc⟩:=h6 hl
   refine ⟨b,off,ha,Nat.lt_of_lt_of_le hb hg.1,hp,fun j hj => ?_⟩
   obtain ⟨c0,c1,c2,c3,c4,c5,hf,e0,e1,e2,e3,e4,e5⟩:=hc j hj
   exact ⟨c0,c1,c2,c3,c4,c5,hf.ag hg,(hg.cell hb hp).trans e0,(hg.cell hb hp).trans e1,(hg.cell hb hp).trans e2,(hg.cell hb hp).trans e3,(hg.cell hb hp).trans e4,(hg.cell hb hp).trans e5⟩
theorem FA2.weak {p q:Nat→Prop} (hpq:∀ b,p b→q b):∀ {n:Nat} {w:World} {v:Value} {f:Fil},FA2 p n w v f→FA2 q n w v f
 | 0,_,_,_,h=>h.elim
 | n + 1,w,v,f,h=>by
   obtain ⟨vw,a,cap,hv,h1,h2,h3,h4,h5,h6⟩:=h
   refine ⟨vw,a,cap,hv,h1,h2.weak hpq,h3,h4,h5,fun hl => ?_⟩
   obtain ⟨b,off,ha,hb,hp,hc⟩:=h6 hl
   refine ⟨b,off,ha,hb,hpq b hp,fun j hj => ?_⟩
   obtain ⟨c0,c1,c2,c3,c4,c5,hf,e⟩:=hc j hj
   exact ⟨c0,c1,c2,c3,c4,c5,hf.weak hpq,e⟩
theorem FA2.shape {p:Nat→Prop} {n:Nat} {w:World} {v:Value} {f:Fil} (h:FA2 p n w v f):∃ x a cap,v = .agg #[.int .i64 f.kind,.string f.name,x,.int .i64 f.frm,.int .i64 f.to,.slice a f.l.length cap]:=by
 cases n with
 | zero=>exact h.elim
 | succ n=>obtain ⟨vw,a,cap,hv,_⟩:=h;exact ⟨vw,a,cap,hv⟩
end Go.Proofs.YtjdccifdkjnknaaGreatDoor
namespace Tess
open Go
namespace Fil
end Fil
end Tess
namespace Go.Proofs.YtjdccifdkjnknaaGreatDoor
open Go.RowKit Go.Sort
open Tess (Fil)
theorem FA2.lt {p:Nat→Prop}:∀ {n:Nat} {w:World} {v:Value} {f:Fil},FA2 p n w v f→FA2 (fun b=>p b∧b < w.heap.size) n w v f
 | 0,_,_,_,h=>h.elim
 | n + 1,w,v,f,h=>by
   obtain ⟨vw,a,cap,hv,h1,h2,h3,h4,h5,h6⟩:=h
   refine ⟨vw,a,cap,hv,h1,h2.lt,h3,h4,h5,fun hl => ?_⟩
   obtain ⟨b,off,ha,hb,hp,hc⟩:=h6 hl
   refine ⟨b,off,ha,hb,⟨hp,hb⟩,fun j hj => ?_⟩
   obtain ⟨c0,c1,c2,c3,c4,c5,hf,e⟩:=hc j hj
   exact ⟨c0,c1,c2,c3,c4,c5,hf.lt,e⟩
theorem FA2.mono {p:Nat→Prop}:∀ {n m:Nat} {w:World} {v:Value} {f:Fil},n≤m→FA2 p n w v f→FA2 p m w v f
 | 0,_,_,_,_,_,h=>h.elim
 | n + 1,0,_,_,_,hnm,_=>by omega
 | n + 1,m + 1,w,v,f,hnm,h=>by
   obtain ⟨vw,a,cap,hv,h1,h2,h3,h4,h5,h6⟩:=h
   refine ⟨vw,a,cap,hv,h1,h2,h3,h4,h5,fun hl => ?_⟩
   obtain ⟨b,off,ha,hb,hp,hc⟩:=h6 hl
   refine ⟨b,off,ha,hb,hp,fun j hj => ?_⟩
   obtain ⟨c0,c1,c2,c3,c4,c5,hf,e⟩:=hc j hj
   exact ⟨c0,c1,c2,c3,c4,c5,hf.mono (by omega),e⟩
theorem oca {w:World} {base:Nat} {e:TypeId} {size:Nat} {v:Value} {n:Nat} {xs:List Value} (h:w.ownsRow base e size v n xs) (hn:0 < n) :
  ∃ g cap,v = .slice (some ⟨g,0,none⟩) n cap∧base≤g∧g < w.heap.size∧n≤cap∧cap≤maxLen∧∀ j,j < n * size→w.cell? ⟨g,j,none⟩=xs[j]? := by
 obtain ⟨hl,h⟩:=h
 rcases h with ⟨_,h0⟩ | ⟨g,cap,Ab,hv,hb,hg,Aa,hm,hs,ht⟩
 ·omega
 ·refine ⟨g,cap,hv,hb,(Array.getElem?_eq_some_iff.1 hg).1,Aa,hm,fun j hj => ?_⟩
  rw [cell_of_row _ _ _ _ _ _ hg,← ht,List.getElem?_take,if_pos hj,Array.getElem?_toList]
theorem set6 {W:World} {g:Nat} {x0 x1 x2 x3 x4 x5:Value} {t:TypeId} (y0 y1 y2 y3 y4 y5:Value) (h:W.heap[g]? = some (.cells #[x0,x1,x2,x3,x4,x5] t (0,0))) :
  ((((((W.setCell ⟨g,0,none⟩ y0).setCell ⟨g,1,none⟩ y1).setCell ⟨g,2,none⟩ y2).setCell ⟨g,3,none⟩ y3).setCell ⟨g,4,none⟩ y4).setCell ⟨g,5,none⟩ y5).heap[g]? = some (.cells #[y0,y1,y2,y3,y4,y5] t (0,0)):=
 heap_setCell_same _ _ _ _ _ _ (heap_setCell_same _ _ _ _ _ _ (heap_setCell_same _ _ _ _ _ _ (heap_setCell_same _ _ _ _ _ _ (heap_setCell_same _ _ _ _ _ _ (heap_setCell_same _ _ _ _ _ _ h)))))
theorem so6 {W:World} {g k:Nat} (y0 y1 y2 y3 y4 y5:Value) (h:k≠g) :
  ((((((W.setCell ⟨g,0,none⟩ y0).setCell ⟨g,1,none⟩ y1).setCell ⟨g,2,none⟩ y2).setCell ⟨g,3,none⟩ y3).setCell ⟨g,4,none⟩ y4).setCell ⟨g,5,none⟩ y5).heap[k]? = W.heap[k]? := by
 rw [heap_setCell_other _ _ _ _ h,heap_setCell_other _ _ _ _ h,heap_setCell_other _ _ _ _ h,heap_setCell_other _ _ _ _ h,heap_setCell_other _ _ _ _ h,heap_setCell_other _ _ _ _ h]
theorem sb2 {B:Nat} {a W:World} {g:Nat} (y0 y1 y2 y3 y4 y5:Value) (h:Below B a W) (hg:B≤g) :
  Below B a ((((((W.setCell ⟨g,0,none⟩ y0).setCell ⟨g,1,none⟩ y1).setCell ⟨g,2,none⟩ y2).setCell ⟨g,3,none⟩ y3).setCell ⟨g,4,none⟩ y4).setCell ⟨g,5,none⟩ y5):=
 (((((h.setCell hg _).setCell hg _).setCell hg _).setCell hg _).setCell hg _).setCell hg _
theorem ss4 {W:World} {g:Nat} (y0 y1 y2 y3 y4 y5:Value):((((((W.setCell ⟨g,0,none⟩ y0).setCell ⟨g,1,none⟩ y1).setCell ⟨g,2,none⟩ y2).setCell ⟨g,3,none⟩ y3).setCell ⟨g,4,none⟩ y4).setCell ⟨g,5,none⟩ y5).heap.size=W.heap.size:=by simp [World.setCell]
section
variable {w W W':World} {g:Nat} {bx:Array Value} {k fr to:Int} {nm:ByteArray} {wv lv:Value}
end
end Go.Proofs.YtjdccifdkjnknaaGreatDoor
namespace Go
open Go.RowKit
def asIs (v:Value):Option (DataW Value×List MemPlace):=some (.held v,[])
end Go
namespace Go.Proofs.YtjdccifdkjnknaaGreatDoor
open Go.RowKit Go.Sort Go.Maps
open Tess (Fil)
def fV2 (x:Bool×Bool×(Nat×Nat)×(Nat×Nat)):Value:=.agg #[.bool x.1,.bool x.2.1,.int .i64 (x.2.2.1.1:Nat),.int .i64 (x.2.2.1.2:Nat),.int .i64 (x.2.2.2.1:Nat),.int .i64 (x.2.2.2.2:Nat)]
def formsD:DataW Value:=
 (((((((((DataW.map []).put (.int .i64 1) (.held (fV2 (false,false,(0,0),(0,0))))).put (.int .i64 2) (.held (fV2 (true,false,(1,8),(0,0))))).put (.int .i64 3) (.held (fV2 (true,false,(0,0),(0,0))))).put (.int .i64 4) (.held (fV2 (true,false,(1,1),(0,0))))).put (.int .i64 5) (.held (fV2 (true,false,(2,2),(0,0))))).put (.int .i64 6) (.held (fV2 (false,true,(0,0),(0,0))))).put (.int .i64 7) (.held (fV2 (false,false,(0,0),(1,1))))).put (.int .i64 8) (.held (fV2 (false,false,(0,0),(2,8))))).put (.int .i64 9) (.held (fV2 (false,false,(0,0),(2,8))))
def FormsAt (w:World) (b:Nat):Prop:=w.ownsMap Tryz.prog 3 asIs b 9 formsD
end Go.Proofs.YtjdccifdkjnknaaGreatDoor
namespace Go.FlowR
open Go Go.RowKit
structure Rel where
 r:World→World→Prop
 rf:∀ w,r w w
 tr:∀ {a b c},r a b→r b c→r a c
 drew:∀ w:World,r w { w with drawn:=w.drawn + 1 }
abbrev Spec:=Value ⊕ (Value→World→Prop)
def Spec.holds:Spec→Value→World→Prop
 | .inl u,v,_=>v=u
 | .inr V,v,w=>V v w
def Spec.ok:Spec→Value→Prop
 | .inl u,v=>v=u
 | .inr _,_=>True
def Mono (R:Rel) (p:World→Prop):Prop:=∀ w w',p w→R.r w w'→p w'
def Spec.mono (R:Rel) (s:Spec):Prop:=∀ v,Mono R (s.holds v)
theorem mi {R:Rel} (u:Value):Spec.mono R (.inl u):=fun _ _ _ h _=>h
section
variable {R:Rel} {P:Program} {ops:Array Oper}
def yields (P:Program) (o:Oper) (ρ:Operand→Value) (w:World) (R:Value→World→Prop):Prop:=
 match (execOp ρ o).run P w with
 | .ok (.value v) w'=>R v w'
 | .ok .skip w'=>R undef w'
 | .ok (.enter f args) w'=>Calls P f args w' fun e w'' => ∃ v,e = .returned v∧R v w''
 | _=>False
theorem ym2 {o:Oper} {ρ:Operand→Value} {w:World} {R R':Value→World→Prop} (h:∀ v w,R v w→R' v w) (hy:yields P o ρ w R):yields P o ρ w R':=by
 unfold yields at *
 generalize (execOp ρ o).run P w=r at *
 cases r with
 | ok n w'=>
   cases n <;> first
    | exact h _ _ hy
    | exact Calls.mono hy (fun e w'' ⟨v,he,hr⟩=>⟨v,he,h _ _ hr⟩)
    | exact hy
 | halt x w'=>exact hy
theorem woy {o:Oper} {a:Act} {w:World} {K:Act→World→Prop} {Q:Exit→Act→World→Prop} (hy:yields P o a.eval w fun v w'=>K (a.put o.dst v) w'):o.wp P a w K Q:=by
 unfold yields at hy
 unfold Oper.wp
 generalize (execOp a.eval o).run P w=r at *
 cases r with
 | ok n w'=>
   cases n <;> simp only [Oper.upon] <;> first
    | exact hy
    | exact (show False from hy).elim
    | exact Calls.mono hy (fun e w'' ⟨v,he,hr⟩=>by subst he;exact hr)
 | halt x w'=>exact hy.elim
def Runs (R:Rel) (P:Program) (ops:Array Oper) (o:Oper) (s:Spec) (a:Act) (w:World):Prop:=
 if Region.wanted o (yielded ops a.tmps) then yields P o a.eval w (fun v w'=>R.r w w'∧s.holds v w') else s.holds undef w
def dep (o:Oper) (j:Nat):Bool:=o.after.any fun e=>Region.binds .any e && e.on == j
def Ru (R:Rel) (P:Program) (ops:Array Oper) (w0:World) (o:Oper) (s:Spec) (a:Act) (Γ:Nat→World→Prop):Prop:=
 ∀ w,R.r w0 w→(∀ j,dep o j=true→Γ j w)→Runs R P ops o s a w
def upd (Γ:Nat→World→Prop) (i:Nat) (p:World→Prop):Nat→World→Prop:=fun j=>if j=i then p else Γ j
theorem upd_ne {Γ:Nat→World→Prop} {i j:Nat} {p:World→Prop} (h:j≠i):upd Γ i p j=Γ j:=by simp [upd,h]
theorem upd_same {Γ:Nat→World→Prop} {i:Nat} {p:World→Prop}:upd Γ i p i=p:=by simp [upd]
theorem uc2 {Γ:Nat→World→Prop} {i j:Nat} {p q:World→Prop} (h:j≠i):upd (upd Γ i p) j q=upd (upd Γ j q) i p:=by
 funext k;unfold upd
 by_cases h1:k=j
 ·subst h1;simp [h]
 ·simp [h1]
def sp (S:Nat→Value→Spec) (σ:Nat→Nat) (i:Nat) (a:Act):Spec:=S i (a.tmps.getD (σ i) undef)
def SpOk (ops:Array Oper) (S:Nat→Value→Spec) (σ:Nat→Nat):Prop:=∀ i oi,ops[i]? = some oi→σ i ∈ oi.looksAt ops∨∀ x y,S i x=S i y
theorem sp_put {S:Nat→Value→Spec} {σ:Nat→Nat} (hS:SpOk ops S σ) {i:Nat} {oi:Oper} (hi:ops[i]? = some oi) (a:Act) (dst:Option Tmp) (v:Value) (h:∀ d,dst=some d→d ∉ oi.looksAt ops):sp S σ i (a.put dst v)=sp S σ i a:=by
 rcases hS i oi hi with h1 | h1
 ·unfold sp
  cases dst with
  | none=>rfl
  | some d=>
    have Aa:d≠σ i:=fun e=>h d rfl (e ▸ h1)
    congr 1
    simp [Act.put,Aa]
 ·exact h1 _ _
def fOp (R:Rel) (P:Program) (ops:Array Oper) (S:Nat→Value→Spec) (σ:Nat→Nat) (w0:World) (i:Nat) (K:Act→(Nat→World→Prop)→Prop) (a:Act) (Γ:Nat→World→Prop):Prop:=
 match ops[i]? with
 | none=>K a Γ
 | some o=>Ru R P ops w0 o (sp S σ i a) a Γ∧∀ v,(sp S σ i a).ok v→K (a.put o.dst v) (upd Γ i ((sp S σ i a).holds v))
def anyF (R:Rel) (P:Program) (ops:Array Oper) (S:Nat→Value→Spec) (σ:Nat→Nat) (w0:World) (E:Act→(Nat→World→Prop)→Prop):Nat→Array Bool→Act→(Nat→World→Prop)→Prop
 | 0,listed,a,Γ=>Region.ready .any ops listed=[]∧E a Γ
 | fuel + 1,listed,a,Γ=>
   (Region.ready .any ops listed=[]→E a Γ) ∧
   ∀ i ∈ Region.ready .any ops listed,fOp R P ops S σ w0 i (anyF R P ops S σ w0 E fuel (listed.setIfInBounds i true)) a Γ
theorem wAo2 {S:Nat→Value→Spec} {σ:Nat→Nat} {w0:World} (hS:∀ i x,Spec.mono R (S i x)) {E:Act→(Nat→World→Prop)→Prop} {Q:Exit→Act→World→Prop}
  (hE:∀ a Γ w,E a Γ→R.r w0 w→(∀ j,Γ j w)→Q .normal a w):∀ (fuel:Nat) (listed:Array Bool) (a:Act) (Γ:Nat→World→Prop) (w:World),
  anyF R P ops S σ w0 E fuel listed a Γ→R.r w0 w→(∀ j,Γ j w)→(∀ j,Mono R (Γ j))→wpAny P .any ops Q fuel listed a w
 | 0,_,_,_,_,h,hB,hG,_=>⟨h.1,hE _ _ _ h.2 hB hG⟩
 | fuel + 1,listed,a,Γ,w,h,hB,hG,hM=>by
   refine ⟨fun h0=>hE _ _ _ (h.1 h0) hB hG,fun i hi => ?_⟩
   have h1:=h.2 i hi
   unfold fOp at h1
   unfold wpOp
   have hM':∀ v j,Mono R (upd Γ i ((sp S σ i a).holds v) j):=fun v j=>by
    by_cases e:j=i
    ·subst e;rw [upd_same];exact hS j _ v
    ·rw [upd_ne e];exact hM j
   have hG':∀ v w',R.r w w'→(sp S σ i a).holds v w'→∀ j,upd Γ i ((sp S σ i a).holds v) j w':=fun v w' hb hv j=>by
    by_cases e:j=i
    ·subst e;rw [upd_same];exact hv
    ·rw [upd_ne e];exact hM j _ _ (hG j) hb
   have hok:∀ v w',(sp S σ i a).holds v w'→(sp S σ i a).ok v:=fun v w' hv=>by
    cases hs:sp S σ i a with
    | inl u=>rw [hs] at hv;exact hv
    | inr V=>trivial
   split
   ·rename_i ho
    simp only [ho] at h1
    exact wAo2 hS hE fuel _ _ _ _ h1 hB hG hM
   ·rename_i o ho
    simp only [ho] at h1
    have h2:=h1.1 w hB (fun j _=>hG j)
    unfold Runs at h2
    split
    ·rename_i hw
     simp only [hw,if_true] at h2
     refine .inl (woy (ym2 ?_ h2))
     intro v w' ⟨hb,hv⟩
     exact wAo2 hS hE fuel _ _ _ _ (h1.2 v (hok v w' hv)) (R.tr hB hb) (hG' v w' hb hv) (hM' v)
    ·rename_i hw
     simp only [hw] at h2
     exact wAo2 hS hE fuel _ _ _ _ (h1.2 undef (hok _ _ h2)) hB (hG' _ _ (R.rf _) h2) (hM' _)
theorem Ru.of_same {w0:World} {o:Oper} {s:Spec} {a a':Act} {Γ Γ':Nat→World→Prop} (h:Ru R P ops w0 o s a Γ) (he:execOp a'.eval o=execOp a.eval o)
  (hw:Region.wanted o (yielded ops a'.tmps)=Region.wanted o (yielded ops a.tmps)) (hg:∀ j,dep o j=true→Γ' j=Γ j):Ru R P ops w0 o s a' Γ':=by
 intro w hB hG
 have:=h w hB (fun j hj=>by rw [← hg j hj];exact hG j hj)
 unfold Runs yields at *
 rw [he,hw]
 exact this
theorem nd2 {o:Oper} {i:Nat} (h:∀ e ∈ o.after,Region.binds .any e=true→e.on≠i) {j:Nat} (hj:dep o j=true):j≠i:=by
 obtain ⟨e,he,hb⟩:=Array.any_eq_true'.1 hj
 rw [Bool.and_eq_true,beq_iff_eq] at hb
 intro e2
 exact h e he hb.1 (by rw [hb.2,e2])
theorem aFf2 {S:Nat→Value→Spec} {σ:Nat→Nat} {w0:World} {E:Act→(Nat→World→Prop)→Prop} {i:Nat} {oi:Oper} (hSp:SpOk ops S σ) (hi:ops[i]? = some oi) (hsel:∀ (j:Nat) (o:Oper) cs b,ops[j]? = some o→o.op ≠ .select cs b) :
  ∀ (fuel:Nat) (listed:Array Bool) (a:Act) (Γ:Nat→World→Prop),
    (∀ j oj,ops[j]? = some oj→j≠i→listed.getD j true=false→(∀ e ∈ oj.after,Region.binds .any e=true→e.on≠i)→oi.apart ops oj=true) →
    i ∈ Region.ready .any ops listed→Ru R P ops w0 oi (sp S σ i a) a Γ →
    (∀ v,(sp S σ i a).ok v→anyF R P ops S σ w0 E fuel (listed.setIfInBounds i true) (a.put oi.dst v) (upd Γ i ((sp S σ i a).holds v)))→anyF R P ops S σ w0 E (fuel + 1) listed a Γ:=by
 have Al:∀ a,∃ v,(sp S σ i a).ok v:=fun a=>by
  cases hs:sp S σ i a with
  | inl u=>exact ⟨u,rfl⟩
  | inr V=>exact ⟨undef,trivial⟩
 intro fuel
 induction fuel with
 | zero=>
   intro listed a Γ _ hr hy H
   obtain ⟨v0,Ah⟩:=Al a
   refine ⟨fun h=>(by rw [h] at hr;cases hr),fun j hj => ?_⟩
   by_cases hji:j=i
   ·subst hji
    unfold fOp;simp only [hi];exact ⟨hy,H⟩
   ·have:=ready_mono hj hji
    rw [(H v0 Ah).1] at this
    cases this
 | succ fuel ih=>
   intro listed a Γ Aa hr hy H
   obtain ⟨v0,Ah⟩:=Al a
   refine ⟨fun h=>(by rw [h] at hr;cases hr),fun j hj => ?_⟩
   by_cases hji:j=i
   ·subst hji
    unfold fOp;simp only [hi];exact ⟨hy,H⟩
   ·obtain ⟨Ac,oj,Ae,Ai⟩:=mem_ready.1 hj
    have Aj:=(mem_ready.1 hr).1
    have Ak:∀ k,listed.getD k true=false→listed.getD k false=true→False:=fun k h1 h0=>by
     rcases Nat.lt_or_ge k listed.size with h' | h'
     ·simp [h'] at h0 h1;rw [h0] at h1;cases h1
     ·simp [Array.getElem?_eq_none h'] at h1
    have Af:∀ e ∈ oj.after,Region.binds .any e=true→e.on≠i:=fun e he hb heq=>Ak i Aj (by rw [← heq];exact Ai e he hb)
    have Ag:∀ e ∈ oi.after,Region.binds .any e=true→e.on≠j:=fun e he hb heq=>by
     obtain ⟨_,o',Am,Ad⟩:=mem_ready.1 hr
     rw [hi] at Am;cases Am
     exact Ak j Ac (by rw [← heq];exact Ad e he hb)
    have An:=Aa j oj Ae hji Ac Af
    obtain ⟨h1,h2,h3⟩:=Oper.apart_spec An
    have Ab:∀ k ok,ops[k]? = some ok→k≠i→(listed.setIfInBounds j true).getD k true=false →
      (∀ e ∈ ok.after,Region.binds .any e=true→e.on≠i)→oi.apart ops ok=true:=fun k ok hk hki hun hno=>by
     refine Aa k ok hk hki ?_ hno
     by_cases hjk:j=k
     ·subst hjk;exact Ac
     ·rw [getD_set_ne true hjk] at hun;exact hun
    have ej:∀ v,sp S σ j (a.put oi.dst v)=sp S σ j a:=fun v=>sp_put hSp Ae a oi.dst v h1
    have ei:∀ u,sp S σ i (a.put oj.dst u)=sp S σ i a:=fun u=>sp_put hSp hi a oj.dst u h3
    have Hj:∀ v,(sp S σ i a).ok v→Ru R P ops w0 oj (sp S σ j a) (a.put oi.dst v) (upd Γ i ((sp S σ i a).holds v))∧∀ u,(sp S σ j a).ok u →
      anyF R P ops S σ w0 E fuel ((listed.setIfInBounds i true).setIfInBounds j true) ((a.put oi.dst v).put oj.dst u) (upd (upd Γ i ((sp S σ i a).holds v)) j ((sp S σ j a).holds u)):=fun v hv=>by
     have:=(H v hv).2 j (ready_mono hj hji)
     unfold fOp at this
     simpa only [Ae,ej v] using this
    unfold fOp
    simp only [Ae]
    refine ⟨(Hj v0 Ah).1.of_same (execOp_put oj (fun cs b=>hsel j oj cs b Ae) a oi.dst v0 h1).symm (wanted_put oj a oi.dst v0 h1).symm (fun k hk => ?_),fun u hu => ?_⟩
    ·exact (upd_ne (nd2 Af hk)).symm
    ·refine ih (listed.setIfInBounds j true) _ _ Ab (ready_mono hr (Ne.symm hji)) ?_ (fun v hv => ?_)
     ·rw [ei u]
      exact hy.of_same (execOp_put oi (fun cs b=>hsel i oi cs b hi) a oj.dst u h3) (wanted_put oi a oj.dst u h3) (fun k hk=>upd_ne (nd2 Ag hk))
     ·rw [ei u] at hv ⊢
      have:=(Hj v hv).2 u hu
      rw [Array.setIfInBounds_comm _ _ hji,← Act.put_comm a v u h2,← uc2 hji]
      exact this
def Tree (R:Rel) (P:Program) (ops:Array Oper) (S:Nat→Value→Spec) (σ:Nat→Nat) (w0:World) (E:Act→(Nat→World→Prop)→Prop):List Oper→Nat→Act→(Nat→World→Prop)→Prop
 | [],_,a,Γ=>E a Γ
 | o :: rest,i,a,Γ=>Ru R P ops w0 o (sp S σ i a) a Γ∧∀ v,(sp S σ i a).ok v→Tree R P ops S σ w0 E rest (i + 1) (a.put o.dst v) (upd Γ i ((sp S σ i a).holds v))
theorem aFl2 {S:Nat→Value→Spec} {σ:Nat→Nat} {w0:World} {E:Act→(Nat→World→Prop)→Prop} (hSp:SpOk ops S σ) (hs:Region.noSelect ops=true):∀ (l:List Oper) (k:Nat) (listed:Array Bool) (a:Act) (Γ:Nat→World→Prop),(∀ j,l[j]? = ops[k + j]?) →
  Region.lexFrom .any ops l.length k listed=true→Tree R P ops S σ w0 E l k a Γ→anyF R P ops S σ w0 E l.length listed a Γ
 | [],_,_,_,_,_,hB,h=>⟨by simpa [Region.lexFrom] using hB,h⟩
 | o :: l,k,listed,a,Γ,hl,hB,h=>by
   have h0:ops[k]? = some o:=by simpa using (hl 0).symm
   simp only [List.length_cons,Region.lexFrom,Bool.and_eq_true] at hB
   obtain ⟨⟨hr,hf⟩,Aa⟩:=hB
   exact aFf2 hSp h0 (Region.noSelect_spec hs) l.length listed a Γ (Region.free_spec h0 hf) (by simpa using hr) h.1
    (fun v hv=>aFl2 hSp hs l (k + 1) _ _ _ (fun j=>by have:=hl (j + 1);simpa [Nat.add_assoc,Nat.add_comm 1 j] using this) Aa (h.2 v hv))
theorem wrf2 {id:Nat} {Q:Exit→Act→World→Prop} {a:Act} {w:World} {l:List Oper} (S:Nat→Value→Spec) (σ:Nat→Nat) (hSp:SpOk l.toArray S σ) (hm:P.follows .mixedOrders=true) (hB:Region.lexB .any l.toArray=true) (hS:∀ i x,Spec.mono R (S i x))
  (h:Tree R P l.toArray S σ w (fun a' Γ => ∀ w',R.r w w'→(∀ j,Γ j w')→Q .normal a' w') l 0 a (fun _ _=>True)):(Code.region id l.toArray true).wp P Q a w:=by
 simp only [Region.lexB,Bool.and_eq_true] at hB
 refine wp_region_any hm (wAo2 (S:=S) (σ:=σ) (w0:=w) (E:=fun a' Γ => ∀ w',R.r w w'→(∀ j,Γ j w')→Q .normal a' w') (Γ:=fun _ _=>True) hS (fun a' Γ w' hE hb hG=>hE w' hb hG) _ _ _ _ ?_ (R.drew _) (fun _=>trivial) (fun _ _ _ _ _=>trivial))
 have:=aFl2 hSp hB.1 l 0 (Array.replicate l.toArray.size false) a (fun _ _=>True) (by simp) (by simpa using hB.2) h
 simpa using this
theorem tn2 {S:Nat→Value→Spec} {σ:Nat→Nat} {w0:World} {E:Act→(Nat→World→Prop)→Prop} {i:Nat} {a:Act} {Γ:Nat→World→Prop} (h:E a Γ):Tree R P ops S σ w0 E [] i a Γ:=h
theorem tv3 {S:Nat→Value→Spec} {σ:Nat→Nat} {w0:World} {E:Act→(Nat→World→Prop)→Prop} {o:Oper} {rest:List Oper} {i:Nat} {a:Act} {Γ:Nat→World→Prop} (u:Value) (hs:sp S σ i a = .inl u)
  (hr:∀ w,R.r w0 w→(∀ j,dep o j=true→Γ j w)→Runs R P ops o (.inl u) a w) (h:Tree R P ops S σ w0 E rest (i + 1) (a.put o.dst u) (upd Γ i (fun _=>True))):Tree R P ops S σ w0 E (o :: rest) i a Γ:=by
 refine ⟨by rw [hs];exact hr,fun v hv => ?_⟩
 rw [hs] at hv ⊢
 cases hv
 have:(fun w=>Spec.holds (.inl u) u w)=fun _=>True:=by funext w;simp [Spec.holds]
 rw [show Spec.holds (.inl u) u=fun _=>True from this]
 exact h
theorem tv2 {S:Nat→Value→Spec} {σ:Nat→Nat} {w0:World} {E:Act→(Nat→World→Prop)→Prop} {o:Oper} {rest:List Oper} {i:Nat} {a:Act} {Γ:Nat→World→Prop} (V:Value→World→Prop) (hs:sp S σ i a = .inr V)
  (hr:∀ w,R.r w0 w→(∀ j,dep o j=true→Γ j w)→Runs R P ops o (.inr V) a w) (h:∀ v,Tree R P ops S σ w0 E rest (i + 1) (a.put o.dst v) (upd Γ i (V v))):Tree R P ops S σ w0 E (o :: rest) i a Γ:=by
 refine ⟨by rw [hs];exact hr,fun v _ => ?_⟩
 rw [hs]
 exact h v
@[go_sem] theorem rel_rf (R:Rel) (w:World):R.r w w=True:=eq_true (R.rf w)
def sp3 (n:Nat) (f:Value→Spec) (l:List Spec):Nat→Value→Spec:=fun i x=>if i=n then f x else l.getD i (.inl undef)
theorem sm2 {n:Nat} {f:Value→Spec} {l:List Spec} (hf:∀ x,Spec.mono R (f x)) (h:∀ s ∈ l,Spec.mono R s):∀ i x,Spec.mono R (sp3 n f l i x):=fun i x=>by
 unfold sp3
 split
 ·exact hf x
 ·rcases Nat.lt_or_ge i l.length with h' | h'
  ·rw [List.getD_eq_getElem?_getD,List.getElem?_eq_getElem h'];exact h _ (List.getElem_mem h')
  ·rw [List.getD_eq_getElem?_getD,List.getElem?_eq_none h'];exact mi _
theorem so5 {n s:Nat} {f:Value→Spec} {l:List Spec} (h:(match ops[n]? with | some o=>(o.looksAt ops).contains s | none=>true)=true):SpOk ops (sp3 n f l) (fun _=>s):=fun i oi hi=>by
 by_cases e:i=n
 ·subst e
  rw [hi] at h
  exact .inl (by simpa using h)
 ·exact .inr fun x y=>by unfold sp3;rw [if_neg e,if_neg e]
theorem runs_ok {o:Oper} {a:Act} {w w':World} {s:Spec} {u:Value} (hw:Region.wanted o (yielded ops a.tmps)=true) (h:(execOp a.eval o).run P w = .ok (.value u) w') (hb:R.r w w') (hv:s.holds u w'):Runs R P ops o s a w:=by
 unfold Runs yields
 rw [if_pos hw,h]
 exact ⟨hb,hv⟩
theorem tvK {S:Nat→Value→Spec} {σ:Nat→Nat} {w0:World} {E:Act→(Nat→World→Prop)→Prop} {o:Oper} {rest:List Oper} {i:Nat} {a:Act} {Γ:Nat→World→Prop} {u:Value} (hs:sp S σ i a = .inl u)
  (h:∀ K:Act→Prop,(∀ a',Tree R P ops S σ w0 E rest (i + 1) a' (upd Γ i (fun _=>True))→K a')→(∀ w,R.r w0 w→(∀ j,dep o j=true→Γ j w)→Runs R P ops o (.inl u) a w)∧K (a.put o.dst u)):Tree R P ops S σ w0 E (o :: rest) i a Γ:=
 tv3 u hs (h (fun _=>True) (fun _ _=>trivial)).1 (h _ (fun _ h=>h)).2
theorem tvK2 {S:Nat→Value→Spec} {σ:Nat→Nat} {w0:World} {E:Act→(Nat→World→Prop)→Prop} {o:Oper} {rest:List Oper} {i:Nat} {a:Act} {Γ:Nat→World→Prop} {V:Value→World→Prop} (hs:sp S σ i a = .inr V)
  (h:∀ K:Act→(World→Prop)→Prop,(∀ a' v,Tree R P ops S σ w0 E rest (i + 1) a' (upd Γ i (V v))→K a' (V v))→(∀ w,R.r w0 w→(∀ j,dep o j=true→Γ j w)→Runs R P ops o (.inr V) a w)∧∀ v,K (a.put o.dst v) (V v)):Tree R P ops S σ w0 E (o :: rest) i a Γ:=by
 refine tv2 V hs (h (fun _ _=>True) (fun _ _ _=>trivial)).1 fun v => ?_
 have:=(h (fun a' p=>Tree R P ops S σ w0 E rest (i + 1) a' (upd Γ i p)) (fun _ _ h=>h)).2 v
 exact this
@[go_sem] theorem holds_inl (u v:Value) (w:World):Spec.holds (.inl u) v w=(v=u):=rfl
theorem ln2:∀ s ∈ ([]:List Spec),Spec.mono R s:=fun _ h=>by cases h
theorem li2 {u:Value} {l:List Spec} (h:∀ s ∈ l,Spec.mono R s):∀ s ∈ (.inl u :: l:List Spec),Spec.mono R s:=fun s hs=>by
 rcases List.mem_cons.1 hs with rfl | hs
 ·exact mi u
 ·exact h s hs
theorem li3 {V:Value→World→Prop} {l:List Spec} (hV:Spec.mono R (.inr V)) (h:∀ s ∈ l,Spec.mono R s):∀ s ∈ (.inr V :: l:List Spec),Spec.mono R s:=fun s hs=>by
 rcases List.mem_cons.1 hs with rfl | hs
 ·exact hV
 ·exact h s hs
end
end Go.FlowR
namespace Go.FlowR
open Go Go.RowKit
section
variable {B:Nat} {t:TypeId} {Z Y:Array Value} {w w':World}
end
end Go.FlowR
namespace Go.Proofs.YtjdccifdkjnknaaGreatDoor
open Go.RowKit Go.Sort
open Tess (Fil)
theorem FormsAt.below {w w':World} {b:Nat} (h:FormsAt w b) (hb:Below w.heap.size w w'):FormsAt w' b:=World.ownsMap.kept h (Below.gN hb) (by simp)
end Go.Proofs.YtjdccifdkjnknaaGreatDoor
namespace Go.Proofs.YtjdccifdkjnknaaGreatDoor
open Go.RowKit Go.Sort
open Tess (Fil)
open Tess.Fil (spanOk gO2 sF2 spanHas)
set_option maxRecDepth 100000 in
set_option maxHeartbeats 1000000 in
theorem areGrains1 (b:Nat) (g:Int) (w:World) (hc:w.cell? ⟨b,0,none⟩=some (.int .i64 g)) :
  Calls Tryz.prog 113 #[.slice (some ⟨b,0,none⟩) 1 1] w fun e w'=>e = .returned (.bool (gO2 g))∧w=w':=by
 unfold gO2
 by_cases h1:1≤g
 ·have d1:decide (1≤g)=true:=decide_eq_true h1
  have Ab:decide (g < 1)=false:=decide_eq_false (by omega)
  by_cases h2:g≤1000000000
  ·have d2:decide (g≤1000000000)=true:=decide_eq_true h2
   have Aa:decide (1000000000 < g)=false:=decide_eq_false (by omega)
   rw [d1,d2]
   go_enter Tryz.func113,Tryz.ntmps113
   go_wp2
   refine wp_loop_rounds 2 ?_
   rw [rounds_succ]
   go_wp2
   rw [rounds_succ]
   go_wp2
   go_ret
   exact ⟨rfl,rfl⟩
  ·have d2:decide (g≤1000000000)=false:=decide_eq_false h2
   have Aa:decide (1000000000 < g)=true:=decide_eq_true (by omega)
   rw [d1,d2]
   go_enter Tryz.func113,Tryz.ntmps113
   go_wp2
   refine wp_loop_rounds 2 ?_
   rw [rounds_succ]
   go_wp2
   go_ret
   exact ⟨rfl,rfl⟩
 ·have d1:decide (1≤g)=false:=decide_eq_false h1
  have Ab:decide (g < 1)=true:=decide_eq_true (by omega)
  rw [d1,Bool.false_and]
  go_enter Tryz.func113,Tryz.ntmps113
  go_wp2
  refine wp_loop_rounds 2 ?_
  rw [rounds_succ]
  go_wp2
  go_ret
  exact ⟨rfl,rfl⟩
end Go.Proofs.YtjdccifdkjnknaaGreatDoor
namespace Go.Proofs.YtjdccifdkjnknaaGreatDoor
open Go.RowKit Go.Sort
open Tess (Fil Que)
def aggF (a:Tess.Agg):List Value:=[.int .i64 a.kind,.string a.met]
def condF (c:Tess.Cond):List Value:=[.int .i64 c.pos,.int .i64 c.op,.int .i64 c.n]
def keyF (k:Tess.Key):List Value:=[.bool k.agg,.int .i64 k.pos,.bool k.desc]
def SA2 (p:Nat→Prop) (w:World) (v:Value) (l:List (List ByteArray)):Prop:=
 ∃ a cap,v = .slice a l.length cap∧l.length≤maxLen∧l.length≤cap∧(a=none→cap=0) ∧
   (0 < l.length→∃ b off,a=some ⟨b,off,none⟩∧b < w.heap.size∧p b∧∀ j (h:j < l.length),∃ c,w.cell? ⟨b,off + j,none⟩=some c∧SlP p w c (l[j].map .string)∧∀ x ∈ l[j],x.size≤maxLen)
section
variable {p q:Nat→Prop} {w w':World} {v:Value} {l:List (List ByteArray)}
theorem SA2.ag (h:SA2 p w v l) (hg:Ag p w w'):SA2 p w' v l:=by
 obtain ⟨a,Ab,hv,h1,h2,h3,h4⟩:=h
 refine ⟨a,Ab,hv,h1,h2,h3,fun hl => ?_⟩
 obtain ⟨b,Aa,ha,hb,hp,hc⟩:=h4 hl
 refine ⟨b,Aa,ha,Nat.lt_of_lt_of_le hb hg.1,hp,fun j hj => ?_⟩
 obtain ⟨c,e1,e2,e3⟩:=hc j hj
 exact ⟨c,(hg.cell hb hp).trans e1,e2.ag hg,e3⟩
theorem SA2.weak (hpq:∀ b,p b→q b) (h:SA2 p w v l):SA2 q w v l:=by
 obtain ⟨a,Ab,hv,h1,h2,h3,h4⟩:=h
 refine ⟨a,Ab,hv,h1,h2,h3,fun hl => ?_⟩
 obtain ⟨b,Aa,ha,hb,hp,hc⟩:=h4 hl
 refine ⟨b,Aa,ha,hb,hpq b hp,fun j hj => ?_⟩
 obtain ⟨c,e1,e2,e3⟩:=hc j hj
 exact ⟨c,e1,e2.weak hpq,e3⟩
theorem SA2.nil (p:Nat→Prop) (w:World):SA2 p w (.slice none 0 0) []:=⟨none,0,rfl,Nat.zero_le _,Nat.zero_le _,fun _=>rfl,fun h=>absurd h (Nat.lt_irrefl 0)⟩
end
structure QueAt (p:Nat→Prop) (n:Nat) (w:World) (v:Value) (q:Que) (va vb vs f0 f1 f2 f3 f4 f5 vh vo:Value):Prop where
 e:v = .agg #[va,vb,.int .i64 q.mode,vs,.int .i64 q.every,f0,f1,f2,f3,f4,f5,vh,vo,.int .i64 q.limit]
 aggs:RA 2 aggF p w va q.aggs
 mets:∀ x ∈ q.aggs,x.met.size≤maxLen
 names:SlP p w vb (q.names.map .string)
 small:∀ x ∈ q.names,x.size≤maxLen
 sets:SA2 p w vs q.sets
 fil:FA2 p n w (.agg #[f0,f1,f2,f3,f4,f5]) q.fil
 conds:RA 3 condF p w vh q.conds
 keys:RA 3 keyF p w vo q.keys
section
variable {p q:Nat→Prop} {n:Nat} {w w':World} {v:Value} {x:Que} {va vb vs f0 f1 f2 f3 f4 f5 vh vo:Value}
theorem QueAt.ag (h:QueAt p n w v x va vb vs f0 f1 f2 f3 f4 f5 vh vo) (hg:Ag p w w'):QueAt p n w' v x va vb vs f0 f1 f2 f3 f4 f5 vh vo:=
 ⟨h.e,h.aggs.ag hg,h.mets,h.names.ag hg,h.small,h.sets.ag hg,h.fil.ag hg,h.conds.ag hg,h.keys.ag hg⟩
theorem QueAt.weak (hpq:∀ b,p b→q b) (h:QueAt p n w v x va vb vs f0 f1 f2 f3 f4 f5 vh vo):QueAt q n w v x va vb vs f0 f1 f2 f3 f4 f5 vh vo:=
 ⟨h.e,h.aggs.weak hpq,h.mets,h.names.weak hpq,h.small,h.sets.weak hpq,h.fil.weak hpq,h.conds.weak hpq,h.keys.weak hpq⟩
end
section
variable {W:World} {B:Nat} {t:TypeId} {x0 x1 x2 x3 x4 x5 x6 x7 x8 x9 xa xb xc xd:Value}
end
end Go.Proofs.YtjdccifdkjnknaaGreatDoor
