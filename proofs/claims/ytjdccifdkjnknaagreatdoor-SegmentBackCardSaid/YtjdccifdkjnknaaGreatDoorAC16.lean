/- Joined by mergeK.py: S3p, S4p, S5p, S6p, S7p, U6, U13, F23, F24 -/
import Derived.Test.YtjdccifdkjnknaaGreatDoorAC15
import Derived.Test.YtjdccifdkjnknaaGreatDoorAC03
import Derived.Lib.RowBridge
import Derived.Test.YtjdccifdkjnknaaGreatDoorAC14
import Derived.Test.YtjdccifdkjnknaaGreatDoorAC13
import Derived.Laws.CopyOwn
import Derived.Laws.AppendOwnNone
import Derived.Deep.DeepAppendRoom
import Derived.Sort.Walk0
import Derived.Test.YtjdccifdkjnknaaGreatDoorAC12
import Derived.Test.YtjdccifdkjnknaaGreatDoorAC08
namespace Tess
open Go Kl Go.RowKit Go.Proofs.YtjdccifdkjnknaaGreatDoor
theorem sFj (l:List ByteArray):∀ (f:Nat) (out:List ByteArray),(∀ s ∈ l,s.size≤60000)→(joinL l).size≤f→sF f out (joinL l)=(out ++ l,0):=by
 induction l with
 | nil=>intro f out _ _;rw [sFz f out _ rfl,List.append_nil]
 | cons s l ih=>
   intro f out h hf
   have hr:rd (joinL (s :: l))=(s,joinL l,0):=by rw [jLc];exact rd_mkf s _ (by have:=h s (by simp);omega)
   have hz:(joinL (s :: l)).size≠0:=by rw [jLc,ByteArray.size_append,ms3];omega
   obtain ⟨f',Aa,e⟩:=sFs f out (joinL (s :: l)) hz hf (by rw [hr])
   rw [e,hr,ih f' _ (fun x hx=>h x (by simp [hx])) (by rw [hr] at Aa;exact Aa)]
   simp
def nB2 (x:ByteArray):List UInt8:=putL x.size ++ x.data.toList
def hB13 (s:Sch):List UInt8:=putL s.dims.length ++ (putL s.mets.length ++ (putL s.grain.toNat ++ (s.dims ++ s.mets).flatMap nB2))
theorem sf2 {s:Sch} (h:sO s=true):s.dims.length≤6∧s.mets.length≤4∧1≤s.grain∧s.grain≤1000000000∧∀ x ∈ s.dims ++ s.mets,x.size≤20:=by
 unfold sO nO2 at h
 simp only [Bool.and_eq_true,decide_eq_true_eq] at h
 obtain ⟨⟨⟨⟨⟨_,h1⟩,h2⟩,h3⟩,h4⟩,_,h5⟩:=h
 refine ⟨h1,h2,h3,h4,fun x hx => ?_⟩
 have:=List.all_eq_true.1 h5 x hx
 unfold nO at this
 rw [Bool.and_eq_true,decide_eq_true_eq] at this
 exact this.1
def I64s (l:List Int):Prop:=∀ x ∈ l,-9223372036854775808≤x∧x≤9223372036854775807
def nR (n:Nat) (s:ByteArray):Option (List Int×ByteArray):=if (uW s).2.2=0∧(uW s).1.length=n then some ((uW s).1,(uW s).2.1) else none
theorem nb2 (l:List Int) (hl:l.length≤1000) (h:I64s l) (r:List UInt8):nR l.length (mk (pL2 l ++ r))=some (l,mk r):=by
 unfold nR
 rw [unpack_pack l hl h r]
 simp
def colT (C:List (CK×Pay)):List UInt8:=pL2 (C.map (·.1.1)) ++ pL2 (C.map (·.2.n))
def tR2 (s:ByteArray):Option (List Int×List Int):=
 if (uW s).2.2=0 then
  match nR (uW s).1.length s with
  | some (l,r)=>match nR (uW s).1.length r with
    | some (m,e)=>if e.size=0 then some (l,m) else none
    | none=>none
  | none=>none
 else none
theorem times_back (C:List (CK×Pay)) (hC:C.length≤1000) (h1:I64s (C.map (·.1.1))) (h2:I64s (C.map (·.2.n))):tR2 (mk (colT C))=some (C.map (·.1.1),C.map (·.2.n)):=by
 have e1:=unpack_pack (C.map (fun x:CK×Pay=>x.1.1)) (by simpa using hC) h1 (pL2 (C.map (fun x:CK×Pay=>x.2.n)))
 have e2:=nb2 (C.map (fun x:CK×Pay=>x.1.1)) (by simpa using hC) h1 (pL2 (C.map (fun x:CK×Pay=>x.2.n)))
 have e3:=nb2 (C.map (fun x:CK×Pay=>x.2.n)) (by simpa using hC) h2 []
 rw [List.append_nil] at e3
 rw [List.length_map] at e2 e3
 unfold tR2 colT
 rw [e1]
 simp only [if_true,List.length_map,e2,e3]
 rfl
def dW (C:List (CK×Pay)) (i:Nat):List ByteArray:=C.filterMap fun x=>x.1.2.getD i none
def dO (C:List (CK×Pay)) (i:Nat):List ByteArray:=sW2 (dW C i)
def idOf (d:List ByteArray):DV→Nat
 | none=>d.length
 | some b=>place d b
def colD (C:List (CK×Pay)) (i:Nat):List UInt8:=encL (dO C i) ++ pN2 (C.map fun x=>idOf (dO C i) (x.1.2.getD i none))
def vA2 (d:List ByteArray) (n:Nat):Option DV:=if d.length < n then none else if h:n < d.length then some (some d[n]) else some none
def dimR (n:Nat) (s:ByteArray):Option (List DV):=
 if (decW s).2.2=0 then
  (if (uP (decW s).2.1).2.2=0∧(uP (decW s).2.1).1.length=n then
    (if (uP (decW s).2.1).2.1.size=0 then (uP (decW s).2.1).1.mapM (vA2 (decW s).1) else none)
  else none)
 else none
theorem mapM_some {α β:Type} (f:α→Option β) (g:α→β):∀ (l:List α),(∀ x ∈ l,f x=some (g x))→l.mapM f=some (l.map g)
 | [],_=>rfl
 | x :: l,h=>by
   rw [List.mapM_cons,h x (by simp),mapM_some f g l fun y hy=>h y (by simp [hy])]
   rfl
theorem sWf (l:List ByteArray):(sW2 l).length≤l.length:=by
 rw [← sWl]
 have h:∀ zs:List Lt,(Lib.compact zs).length≤zs.length:=fun zs=>Lib.compact_length_le zs
 have:=h (sB3 l)
 rw [sBl] at this
 exact this
theorem dim_back (C:List (CK×Pay)) (i:Nat) (hC:C.length≤1000) (hw:∀ x ∈ C,∀ b,x.1.2.getD i none=some b→b.size≤100):dimR C.length (mk (colD C i))=some (C.map fun x=>x.1.2.getD i none):=by
 obtain ⟨d,hd⟩:∃ d,dO C i=d:=⟨_,rfl⟩
 have Aa:∀ b,b ∈ d↔b ∈ dW C i:=fun b=>by rw [← hd];exact sWa _ b
 have Ae:d.length≤1000:=by
  rw [← hd]
  have h1:=sWf (dW C i)
  have h2:(dW C i).length≤C.length:=List.length_filterMap_le _ _
  unfold dO
  omega
 have Ag:∀ y ∈ d,y.size≤100:=fun y hy=>by
  obtain ⟨x,hx,e⟩:=List.mem_filterMap.1 ((Aa y).1 hy)
  exact hw x hx y e
 have Ad:Asc d:=by rw [← hd];exact up_asc (sWu _)
 have hr:=right_of d Ae Ag Ad
 have he:encW d=(mk (encL d),0):=by unfold encW;rw [if_pos hr];rfl
 have Af:∀ b,b ∈ d→∃ h:place d b < d.length,d[place d b]=b:=fun b hb=>by
  obtain ⟨j,hj,rfl⟩:=List.getElem_of_mem hb
  have e:=pm3 d Ad j hj
  exact ⟨by rw [e];exact hj,by simp only [e]⟩
 have Ac:∀ x ∈ C,idOf d (x.1.2.getD i none)≤1000∧vA2 d (idOf d (x.1.2.getD i none))=some (x.1.2.getD i none):=fun x hx=>by
  cases hv:x.1.2.getD i none with
  | none=>
    refine ⟨Ae,?_⟩
    unfold vA2 idOf
    simp
  | some b=>
    obtain ⟨h1,h2⟩:=Af b ((Aa b).2 (List.mem_filterMap.2 ⟨x,hx,hv⟩))
    refine ⟨by unfold idOf;simp only;omega,?_⟩
    unfold vA2 idOf
    simp only
    rw [if_neg (by omega),dif_pos h1,h2]
 obtain ⟨t,ht⟩:∃ t,pN2 (C.map fun x=>idOf d (x.1.2.getD i none))=t:=⟨_,rfl⟩
 have hp:=upN (C.map fun x=>idOf d (x.1.2.getD i none)) (by simpa using hC) (fun n hn=>by
  obtain ⟨x,hx,rfl⟩:=List.mem_map.1 hn
  have:=(Ac x hx).1
  omega) []
 rw [List.append_nil,ht] at hp
 have Ab:decW (mk (encL d ++ t))=(d,mk t,0):=by
  have:=(dec_enc d hr (mk t)).2
  rw [he,ma2] at this
  exact this
 unfold dimR colD
 rw [hd,ht,Ab]
 simp only [if_true]
 rw [hp]
 simp only [List.length_map,and_self,if_true]
 rw [if_pos (by rfl),mapM_some (vA2 d) (fun n=>(vA2 d n).getD none) _ (fun n hn=>by
  obtain ⟨x,hx,rfl⟩:=List.mem_map.1 hn
  rw [(Ac x hx).2];rfl),List.map_map]
 congr 1
 exact List.map_congr_left fun x hx=>by show (vA2 d (idOf d (x.1.2.getD i none))).getD none=_;rw [(Ac x hx).2];rfl
end Tess
namespace Tess
open Go Kl Go.RowKit Go.Proofs.YtjdccifdkjnknaaGreatDoor
def colM (C:List (CK×Pay)) (m:Nat):List UInt8:=
 pL2 (C.map fun x=>wHi (x.2.sums.getD m 0)) ++ (pL2 (C.map fun x=>wrap64 (wLo (x.2.sums.getD m 0))) ++ (pL2 (C.map fun x=>x.2.mins.getD m 0) ++ pL2 (C.map fun x=>x.2.maxs.getD m 0)))
def wO (h l:Int):Int:=h * 18446744073709551616 + l % 18446744073709551616
theorem wide_back (n:Int):wO (wHi n) (wrap64 (wLo n))=n:=by unfold wO wHi wLo wrap64;omega
def metR (n:Nat) (s:ByteArray):Option (List Int×List Int×List Int):=
 match nR n s with
 | some (a,r1)=>match nR n r1 with
   | some (b,r2)=>match nR n r2 with
     | some (c,r3)=>match nR n r3 with
       | some (d,r4)=>if r4.size=0 then some (List.zipWith wO a b,c,d) else none
       | none=>none
     | none=>none
   | none=>none
 | none=>none
theorem zip_wide:∀ (l:List Int),List.zipWith wO (l.map wHi) (l.map fun n=>wrap64 (wLo n))=l
 | []=>rfl
 | n :: l=>by rw [List.map_cons,List.map_cons,List.zipWith_cons_cons,wide_back,zip_wide l]
theorem met_back (C:List (CK×Pay)) (m:Nat) (hC:C.length≤1000) (h1:I64s (C.map fun x=>wHi (x.2.sums.getD m 0))) (h3:I64s (C.map fun x=>x.2.mins.getD m 0)) (h4:I64s (C.map fun x=>x.2.maxs.getD m 0)) :
  metR C.length (mk (colM C m))=some (C.map fun x=>x.2.sums.getD m 0,C.map fun x=>x.2.mins.getD m 0,C.map fun x=>x.2.maxs.getD m 0):=by
 have h2:I64s (C.map fun x=>wrap64 (wLo (x.2.sums.getD m 0))):=fun z hz=>by
  obtain ⟨x,_,rfl⟩:=List.mem_map.1 hz
  exact wr5 _
 have e1:=nb2 _ (by simpa using hC) h1 (pL2 (C.map fun x=>wrap64 (wLo (x.2.sums.getD m 0))) ++ (pL2 (C.map fun x=>x.2.mins.getD m 0) ++ pL2 (C.map fun x=>x.2.maxs.getD m 0)))
 have e2:=nb2 _ (by simpa using hC) h2 (pL2 (C.map fun x=>x.2.mins.getD m 0) ++ pL2 (C.map fun x=>x.2.maxs.getD m 0))
 have e3:=nb2 _ (by simpa using hC) h3 (pL2 (C.map fun x=>x.2.maxs.getD m 0))
 have e4:=nb2 _ (by simpa using hC) h4 []
 rw [List.length_map] at e1 e2 e3 e4
 rw [List.append_nil] at e4
 unfold metR colM
 rw [e1]
 simp only
 rw [e2]
 simp only
 rw [e3]
 simp only
 rw [e4]
 simp only
 rw [if_pos (by rfl)]
 have:=zip_wide (C.map fun x=>x.2.sums.getD m 0)
 rw [List.map_map,List.map_map] at this
 exact congrArg some (Prod.ext this rfl)
def pS2 (s:Sch) (C:List (CK×Pay)):List (List UInt8):=hB13 s :: colT C :: ((List.range s.dims.length).map (colD C) ++ (List.range s.mets.length).map (colM C))
def encS (s:Sch) (C:List (CK×Pay)):ByteArray:=joinL ((pS2 s C).map mk)
def rS2 (D M:Nat) (l:List ByteArray):Option (List (CK×Pay)):=
 if l.length=2 + D + M then
  match tR2 (l.getD 1 w0) with
  | none=>none
  | some (ts,ns)=>match (List.range D).mapM fun i=>dimR ts.length (l.getD (2 + i) w0) with
    | none=>none
    | some ds=>match (List.range M).mapM fun m=>metR ts.length (l.getD (2 + D + m) w0) with
      | none=>none
      | some ms=>some ((List.range ts.length).map fun k=>((ts.getD k 0,ds.map (·.getD k none)),⟨ns.getD k 0,ms.map (·.1.getD k 0),ms.map (·.2.1.getD k 0),ms.map (·.2.2.getD k 0)⟩))
 else none
theorem getD_map {α β:Type} (f:α→β) (l:List α) (k:Nat) (h:k < l.length) (a:β):(l.map f).getD k a=f l[k]:=by
 rw [List.getD_eq_getElem?_getD,List.getElem?_map,List.getElem?_eq_getElem h];rfl
theorem rgD {α:Type} (l:List α) (a:α):(List.range l.length).map (fun i=>l.getD i a)=l:=by
 refine List.ext_getElem (by simp) fun i h1 h2 => ?_
 rw [List.getElem_map,List.getElem_range,List.getD_eq_getElem?_getD,List.getElem?_eq_getElem h2];rfl
theorem read_back {s:Sch} {C:List (CK×Pay)} (h:CO s C):rS2 s.dims.length s.mets.length ((pS2 s C).map mk)=some C:=by
 have hC:=h.len
 have Aa:∀ x ∈ C,∀ m,m < s.mets.length → -9223372036854775808≤wHi (x.2.sums.getD m 0)∧wHi (x.2.sums.getD m 0)≤9223372036854775807:=fun x hx m hm=>by
  have hp:=(h.each x hx).pay
  obtain ⟨h1,h2,h3⟩:=hp.sum m hm
  obtain ⟨r1,r2,r3,r4⟩:=hp.rng m hm
  have h0:=hp.one
  have Ac:=(h.each x hx).most
  have m1 : -9223372036854775808 * (x.2.n - 1)≤x.2.mins.getD m 0 * (x.2.n - 1):=Int.mul_le_mul_of_nonneg_right r1 (by omega)
  have m2:x.2.maxs.getD m 0 * (x.2.n - 1)≤9223372036854775807 * (x.2.n - 1):=Int.mul_le_mul_of_nonneg_right r4 (by omega)
  unfold wHi
  omega
 have hT:I64s (C.map fun x=>x.1.1):=fun z hz=>by
  obtain ⟨x,hx,rfl⟩:=List.mem_map.1 hz
  have:=(h.each x hx).time
  omega
 have hN:I64s (C.map fun x=>x.2.n):=fun z hz=>by
  obtain ⟨x,hx,rfl⟩:=List.mem_map.1 hz
  have:=(h.each x hx).most
  have:=(h.each x hx).pay.one
  omega
 have hl:((pS2 s C).map mk).length=2 + s.dims.length + s.mets.length:=by
  unfold pS2
  simp
  omega
 have g1:((pS2 s C).map mk).getD 1 w0=mk (colT C):=rfl
 have g2:∀ i,i < s.dims.length→((pS2 s C).map mk).getD (2 + i) w0=mk (colD C i):=fun i hi=>by
  unfold pS2
  rw [show 2 + i=i + 1 + 1 by omega,List.map_cons,List.map_cons,List.getD_cons_succ,List.getD_cons_succ,List.map_append,List.getD_eq_getElem?_getD,List.getElem?_append_left (by simpa using hi),List.getElem?_map,List.getElem?_map,List.getElem?_range hi]
  rfl
 have g3:∀ m,m < s.mets.length→((pS2 s C).map mk).getD (2 + s.dims.length + m) w0=mk (colM C m):=fun m hm=>by
  unfold pS2
  rw [show 2 + s.dims.length + m=s.dims.length + m + 1 + 1 by omega,List.map_cons,List.map_cons,List.getD_cons_succ,List.getD_cons_succ,List.map_append,List.getD_eq_getElem?_getD,List.getElem?_append_right (by simp),List.getElem?_map,List.getElem?_map]
  simp only [List.length_map,List.length_range,Nat.add_sub_cancel_left]
  rw [List.getElem?_range hm]
  rfl
 have hd:(List.range s.dims.length).mapM (fun i=>dimR C.length (((pS2 s C).map mk).getD (2 + i) w0))=some ((List.range s.dims.length).map fun i=>C.map fun x=>x.1.2.getD i none):=
  mapM_some _ _ _ fun i hi=>by
   rw [g2 i (List.mem_range.1 hi)]
   refine dim_back C i hC fun x hx b hb => ?_
   have hv:=(h.each x hx).dims.2
   rw [List.all_eq_true] at hv
   have hm:some b ∈ x.1.2:=by
    rw [List.getD_eq_getElem?_getD] at hb
    cases he:x.1.2[i]? with
    | none=>rw [he] at hb;cases hb
    | some v=>rw [he] at hb;exact hb ▸ List.mem_of_getElem? he
   have:=hv (valOf (some b)) (List.mem_map.2 ⟨_,hm,rfl⟩)
   unfold vO valOf at this
   simpa using this
 have Ad:(List.range s.mets.length).mapM (fun m=>metR C.length (((pS2 s C).map mk).getD (2 + s.dims.length + m) w0))=some ((List.range s.mets.length).map fun m=>(C.map fun x=>x.2.sums.getD m 0,C.map fun x=>x.2.mins.getD m 0,C.map fun x=>x.2.maxs.getD m 0)):=
  mapM_some _ _ _ fun m hm=>by
   have hm:=List.mem_range.1 hm
   rw [g3 m hm]
   refine met_back C m hC (fun z hz => ?_) (fun z hz => ?_) (fun z hz => ?_)
   ·obtain ⟨x,hx,rfl⟩:=List.mem_map.1 hz;exact Aa x hx m hm
   ·obtain ⟨x,hx,rfl⟩:=List.mem_map.1 hz;have:=(h.each x hx).pay.rng m hm;omega
   ·obtain ⟨x,hx,rfl⟩:=List.mem_map.1 hz;have:=(h.each x hx).pay.rng m hm;omega
 unfold rS2
 rw [if_pos hl,g1,times_back C hC hT hN]
 simp only [List.length_map]
 rw [hd]
 simp only
 rw [Ad]
 simp only
 congr 1
 refine List.ext_getElem (by simp) fun k h1 h2 => ?_
 rw [List.getElem_map,List.getElem_range,getD_map _ C k h2,getD_map _ C k h2]
 simp only [List.map_map]
 have hx:=h.each _ (List.getElem_mem h2)
 have e1:(List.range s.dims.length).map ((fun l:List DV=>l.getD k none) ∘ fun i=>C.map fun x=>x.1.2.getD i none)=C[k].1.2:=by
  rw [← hx.dims.1]
  refine Eq.trans (List.map_congr_left fun i _ => ?_) (rgD C[k].1.2 none)
  exact getD_map _ C k h2 none
 obtain ⟨l1,l2,l3⟩:=hx.pay.len
 have Ab:∀ (f:Pay→List Int),(f C[k].2).length=s.mets.length→(List.range s.mets.length).map (fun m=>(C.map fun x=>(f x.2).getD m 0).getD k 0)=f C[k].2:=fun f hf=>by
  rw [← hf]
  refine Eq.trans (List.map_congr_left fun m _ => ?_) (rgD (f C[k].2) 0)
  exact getD_map _ C k h2 0
 have e2:=Ab (fun p=>p.sums) l1
 have e3:=Ab (fun p=>p.mins) l2
 have e4:=Ab (fun p=>p.maxs) l3
 rw [e1]
 show ((C[k].1.1,C[k].1.2),(⟨C[k].2.n,(List.range s.mets.length).map (fun m=>(C.map fun x=>x.2.sums.getD m 0).getD k 0),(List.range s.mets.length).map (fun m=>(C.map fun x=>x.2.mins.getD m 0).getD k 0),(List.range s.mets.length).map (fun m=>(C.map fun x=>x.2.maxs.getD m 0).getD k 0)⟩:Pay))=C[k]
 rw [e2,e3,e4]
end Tess
namespace Tess
open Go Kl Go.RowKit Go.Proofs.YtjdccifdkjnknaaGreatDoor
noncomputable def celsB (s:Sch) (C:List (CK×Pay)):Bool:=by classical exact decide (CO s C)
theorem cBi {s:Sch} {C:List (CK×Pay)}:celsB s C=true↔CO s C:=by unfold celsB;simp
noncomputable def encP (s:Sch) (C:List (CK×Pay)):ByteArray×Nat:=
 if ¬ sO s=true then (mk [],100)
 else if ¬ celsB s C=true then (mk [],120)
 else if ∀ x ∈ pS2 s C,x.length≤60000 then (encS s C,0) else (mk [],30)
noncomputable def decP (s:Sch) (b:ByteArray):List (CK×Pay)×Nat:=
 if ¬ sO s=true then ([],100)
 else if (sF b.size [] b).2≠0 then ([],(sF b.size [] b).2)
 else match rS2 s.dims.length s.mets.length (sF b.size [] b).1 with
  | none=>([],130)
  | some C=>if encP s C=(b,0) then (C,0) else ([],130)
theorem encP_ok {s:Sch} {C:List (CK×Pay)} (h:(encP s C).2=0):sO s=true∧CO s C∧(∀ x ∈ pS2 s C,x.length≤60000)∧encP s C=(encS s C,0):=by
 unfold encP at *
 split at h
 ·cases h
 ·rename_i h1
  split at h
  ·cases h
  ·rename_i h2
   split at h
   ·rename_i h3
    have h1:sO s=true:=by simpa using h1
    have h2:celsB s C=true:=by simpa using h2
    exact ⟨h1,cBi.1 h2,h3,by rw [if_neg (by simp [h1]),if_neg (by simp [h2]),if_pos h3]⟩
   ·cases h
theorem se2 {s:Sch} {C:List (CK×Pay)} (h:∀ x ∈ pS2 s C,x.length≤60000):sF (encS s C).size [] (encS s C)=((pS2 s C).map mk,0):=by
 have:=sFj ((pS2 s C).map mk) (encS s C).size [] (fun x hx=>by
  obtain ⟨y,hy,rfl⟩:=List.mem_map.1 hx
  rw [ms2];exact h y hy) (Nat.le_refl _)
 rw [List.nil_append] at this
 exact this
theorem dec_encP {s:Sch} {C:List (CK×Pay)} (h:(encP s C).2=0):decP s (encP s C).1=(C,0):=by
 obtain ⟨h1,h2,h3,h4⟩:=encP_ok h
 have h5:=se2 h3
 unfold decP
 rw [h4]
 simp only [h1,h5]
 rw [if_neg (by simp),if_neg (by simp),read_back h2]
 simp only
 rw [if_pos h4]
end Tess
namespace Tess
open Go Kl Go.RowKit Go.Proofs.YtjdccifdkjnknaaGreatDoor
theorem pLm:∀ (m n:Nat),n≤m→(putL n).length≤(putL m).length:=by
 intro m
 induction m using Nat.strongRecOn with
 | ind m ih=>
   intro n h
   by_cases hm:m < 128
   ·rw [pLl2 m hm,pLl2 n (by omega)];exact Nat.le_refl _
   ·rw [pLg m hm,List.length_cons]
    by_cases hn:n < 128
    ·rw [pLl2 n hn];simp
    ·rw [pLg n hn,List.length_cons]
     have:=ih (m / 128) (by omega) (n / 128) (by omega)
     omega
theorem dt2:∀ (l:List Int) (k:Nat) (last:Int),di last (l.take k)=(di last l).take k
 | [],k,_=>by simp [di]
 | n :: l,0,_=>by simp [di]
 | n :: l,k + 1,last=>by rw [List.take_succ_cons,di,di,List.take_succ_cons,dt2 l k n]
theorem ft3 {α:Type} (f:α→List UInt8) (l:List α) (k:Nat):((l.take k).flatMap f).length≤(l.flatMap f).length:=by
 conv=>rhs;rw [← List.take_append_drop k l,List.flatMap_append,List.length_append]
 omega
theorem pLt2 (l:List Int) (k:Nat):(pL2 (l.take k)).length≤(pL2 l).length:=by
 unfold pL2
 rw [List.length_append,List.length_append,dt2]
 have h1:=pLm l.length (l.take k).length (by rw [List.length_take];omega)
 have h2:=ft3 (fun d=>putL (tN d)) (di 0 l) k
 omega
theorem shr_mid:∀ (x y z:List UInt8),min (shr x y) (shr y z)≤shr x z
 | [],_,_=>by simp [shr]
 | _ :: _,[],_=>by simp [shr]
 | _ :: _,_ :: _,[]=>by simp [shr]
 | a :: x,b :: y,c :: z=>by
   have ih:=shr_mid x y z
   unfold shr
   by_cases h1:a=b
   ·by_cases h2:b=c
    ·rw [if_pos h1,if_pos h2,if_pos (h1.trans h2)];omega
    ·rw [if_neg h2];omega
   ·rw [if_neg h1];omega
theorem ps4 {n:Nat} (h:n < 128):(putL n).length=1:=by rw [pLl2 n h];rfl
theorem oc3 (a y:ByteArray) (h:y.size≤100):(one a y).length=2 + (y.size - shared a y):=by
 have:=(sl4 a y).2
 unfold one
 rw [List.length_append,List.length_append,ps4 (by omega),ps4 (by omega),List.length_drop,show y.data.toList.length=y.size from Array.length_toList]
theorem one_skip (a y z:ByteArray) (hy:y.size≤100) (hz:z.size≤100):(one a z).length≤(one a y).length + (one y z).length:=by
 rw [oc3 a z hz,oc3 a y hy,oc3 y z hz]
 have h1:min (shared a y) (shared y z)≤shared a z:=shr_mid _ _ _
 have h2:=sl4 a y
 have h3:=sl4 y z
 omega
theorem enc_skip (a y:ByteArray) (l:List ByteArray) (hy:y.size≤100) (hl:∀ z ∈ l,z.size≤100):(eF a l).length≤(one a y).length + (eF y l).length:=by
 cases l with
 | nil=>simp [eF]
 | cons z l=>
   rw [eF,eF,List.length_append,List.length_append]
   have:=one_skip a y z hy (hl z (by simp))
   omega
theorem enc_sub {l' l:List ByteArray} (h:l'.Sublist l):(∀ z ∈ l,z.size≤100)→∀ a,(eF a l').length≤(eF a l).length:=by
 induction h with
 | slnil=>intro _ a;exact Nat.le_refl _
 | @cons l' l y hs ih=>
   intro hl a
   rw [eF,List.length_append]
   have h1:=ih (fun z hz=>hl z (by simp [hz])) y
   have h2:=enc_skip a y l' (hl y (by simp)) fun z hz=>hl z (List.mem_cons_of_mem _ (hs.subset hz))
   omega
 | @cons_cons l' l y hs ih=>
   intro hl a
   rw [eF,eF,List.length_append,List.length_append]
   have h1:=ih (fun z hz=>hl z (by simp [hz])) y
   omega
theorem encL_sub {l' l:List ByteArray} (h:l'.Sublist l) (hl:∀ z ∈ l,z.size≤100):(encL l').length≤(encL l).length:=by
 rw [eLf,eLf,List.length_append,List.length_append]
 have h1:=pLm l.length l'.length h.length_le
 have h2:=enc_sub h hl w0
 omega
theorem up_sub:∀ (l l':List ByteArray),Up l→Up l'→(∀ x ∈ l',x ∈ l)→l'.Sublist l
 | [],l',_,_,h=>by
   cases l' with
   | nil=>exact List.Sublist.refl _
   | cons x r=>cases h x (by simp)
 | y :: l,[],_,_,_=>List.nil_sublist _
 | y :: l,x :: r,h1,h2,h=>by
   obtain ⟨g1,g2⟩:=List.pairwise_cons.1 h1
   obtain ⟨k1,k2⟩:=List.pairwise_cons.1 h2
   by_cases e:x=y
   ·subst e
    refine List.Sublist.cons_cons _ (up_sub l r g2 k2 fun z hz => ?_)
    rcases List.mem_cons.1 (h z (by simp [hz])) with h3 | h3
    ·subst h3
     have:=k1 z hz
     rw [bi2] at this;cases this
    ·exact h3
   ·refine List.Sublist.cons _ (up_sub l (x :: r) g2 h2 fun z hz => ?_)
    rcases List.mem_cons.1 (h z hz) with h3 | h3
    ·exfalso
     subst h3
     rcases List.mem_cons.1 (h x (by simp)) with h4 | h4
     ·exact e h4
     ·have hx:=g1 x h4
      rcases List.mem_cons.1 hz with h5 | h5
      ·exact e h5.symm
      ·exact ba2 hx (k1 z h5)
    ·exact h3
theorem pc4:∀ (l:List ByteArray) (x:ByteArray),Up l→place l x=(l.filter fun y=>bl y x).length
 | [],_,_=>rfl
 | y :: l,x,h=>by
   obtain ⟨h1,h2⟩:=List.pairwise_cons.1 h
   have ih:=pc4 l x h2
   unfold place at *
   rw [List.findIdx_cons,List.filter_cons]
   cases hb:bl y x
   ·simp only [Bool.not_false,cond_true,Bool.false_eq_true,if_false]
    symm
    rw [List.length_eq_zero_iff,List.filter_eq_nil_iff]
    intro z hz hzx
    have:=bt2 (h1 z hz) hzx
    rw [hb] at this;cases this
   ·simp only [Bool.not_true,cond_false,if_true,List.length_cons,ih]
theorem place_sub {l' l:List ByteArray} (h:l'.Sublist l) (hu:Up l) (hu':Up l') (x:ByteArray):place l' x≤place l x:=by
 rw [pc4 l x hu,pc4 l' x hu']
 exact (h.filter _).length_le
theorem bitLen_mono {a b:Nat} (h:a≤b):bitLen a≤bitLen b:=by
 by_cases h0:a=0
 ·rw [h0,show bitLen 0=0 by unfold bitLen;simp];exact Nat.zero_le _
 ·have h1:=(bitLen_spec a).2 h0
  have h2:=(bitLen_spec b).1
  rcases Nat.lt_or_ge (bitLen b) (bitLen a) with h3 | h3
  ·have:2 ^ bitLen b≤2 ^ (bitLen a - 1):=Nat.pow_le_pow_right (by omega) (by omega)
   omega
  ·exact h3
theorem pNl (l:List Nat):(pN2 l).length=(putL l.length).length + 1 + sP l.length (widN l):=by
 unfold pN2
 rw [List.length_append,List.length_cons,bBl]
 omega
theorem dict_sub (C:List (CK×Pay)) (k i:Nat):(dO (C.take k) i).Sublist (dO C i):=by
 refine up_sub _ _ (sWu _) (sWu _) fun x hx => ?_
 unfold dO at *
 rw [sWa] at *
 obtain ⟨y,hy,e⟩:=List.mem_filterMap.1 hx
 exact List.mem_filterMap.2 ⟨y,List.mem_of_mem_take hy,e⟩
theorem id_sub (C:List (CK×Pay)) (k i:Nat) (v:DV):idOf (dO (C.take k) i) v≤idOf (dO C i) v:=by
 have hs:=dict_sub C k i
 cases v with
 | none=>exact hs.length_le
 | some b=>exact place_sub hs (sWu _) (sWu _) b
theorem colD_take (C:List (CK×Pay)) (k i:Nat) (hw:∀ z ∈ dO C i,z.size≤100):(colD (C.take k) i).length≤(colD C i).length:=by
 unfold colD
 rw [List.length_append,List.length_append,pNl,pNl,List.length_map,List.length_map]
 have h1:=encL_sub (dict_sub C k i) hw
 have hl:(C.take k).length≤C.length:=by rw [List.length_take];omega
 have h2:=pLm C.length (C.take k).length hl
 have h3:widN ((C.take k).map fun x=>idOf (dO (C.take k) i) (x.1.2.getD i none))≤widN (C.map fun x=>idOf (dO C i) (x.1.2.getD i none)):=by
  unfold widN
  refine bitLen_mono (mNl _ _ _ (Nat.zero_le _) fun n hn => ?_)
  obtain ⟨x,hx,rfl⟩:=List.mem_map.1 hn
  exact Nat.le_trans (id_sub C k i _) ((mNg _ 0).2 _ (List.mem_map.2 ⟨x,List.mem_of_mem_take hx,rfl⟩))
 have h4:sP (C.take k).length (widN ((C.take k).map fun x=>idOf (dO (C.take k) i) (x.1.2.getD i none)))≤sP C.length (widN (C.map fun x=>idOf (dO C i) (x.1.2.getD i none))):=by
  unfold sP
  have:=Nat.mul_le_mul hl h3
  omega
 omega
theorem mt2 {α β:Type} (f:α→β) (l:List α) (k:Nat):(l.take k).map f=(l.map f).take k:=List.map_take
theorem colT_take (C:List (CK×Pay)) (k:Nat):(colT (C.take k)).length≤(colT C).length:=by
 unfold colT
 rw [List.length_append,List.length_append,mt2,mt2]
 have h1:=pLt2 (C.map fun x=>x.1.1) k
 have h2:=pLt2 (C.map fun x=>x.2.n) k
 omega
theorem colM_take (C:List (CK×Pay)) (k m:Nat):(colM (C.take k) m).length≤(colM C m).length:=by
 unfold colM
 simp only [List.length_append,mt2]
 have h1:=pLt2 (C.map fun x=>wHi (x.2.sums.getD m 0)) k
 have h2:=pLt2 (C.map fun x=>wrap64 (wLo (x.2.sums.getD m 0))) k
 have h3:=pLt2 (C.map fun x=>x.2.mins.getD m 0) k
 have h4:=pLt2 (C.map fun x=>x.2.maxs.getD m 0) k
 omega
theorem jLl:∀ (l:List ByteArray),(joinL l).size=(l.map fun x=>x.size + 8).sum
 | []=>rfl
 | s :: l=>by
   rw [jLc,ByteArray.size_append,ms3,jLl l,List.map_cons,List.sum_cons]
   omega
theorem sum_le {α:Type} (f g:α→Nat):∀ (l:List α),(∀ x ∈ l,f x≤g x)→(l.map f).sum≤(l.map g).sum
 | [],_=>Nat.le_refl _
 | x :: l,h=>by
   rw [List.map_cons,List.map_cons,List.sum_cons,List.sum_cons]
   have h1:=h x (by simp)
   have h2:=sum_le f g l fun y hy=>h y (by simp [hy])
   omega
theorem encS_len (s:Sch) (C:List (CK×Pay)):(encS s C).size=(hB13 s).length + 8 + ((colT C).length + 8) + ((List.range s.dims.length).map fun i=>(colD C i).length + 8).sum + ((List.range s.mets.length).map fun m=>(colM C m).length + 8).sum:=by
 unfold encS
 rw [jLl]
 unfold pS2
 simp only [List.map_cons,List.map_append,List.map_map,List.sum_cons,List.sum_append]
 have e1:((fun x:ByteArray=>x.size + 8) ∘ mk ∘ colD C)=fun i=>(colD C i).length + 8:=funext fun i=>by show (mk (colD C i)).size + 8=_;rw [ms2]
 have e2:((fun x:ByteArray=>x.size + 8) ∘ mk ∘ colM C)=fun m=>(colM C m).length + 8:=funext fun i=>by show (mk (colM C i)).size + 8=_;rw [ms2]
 rw [e1,e2,ms2,ms2]
 omega
theorem encS_take (s:Sch) (C:List (CK×Pay)) (k:Nat) (hw:∀ i < s.dims.length,∀ z ∈ dO C i,z.size≤100):(encS s (C.take k)).size≤(encS s C).size:=by
 rw [encS_len,encS_len]
 have h1:=colT_take C k
 have h2:=sum_le (fun i=>(colD (C.take k) i).length + 8) (fun i=>(colD C i).length + 8) (List.range s.dims.length) fun i hi=>by
  have:=colD_take C k i (hw i (List.mem_range.1 hi))
  omega
 have h3:=sum_le (fun m=>(colM (C.take k) m).length + 8) (fun m=>(colM C m).length + 8) (List.range s.mets.length) fun m _=>by
  have:=colM_take C k m
  omega
 omega
end Tess
namespace Tess
open Go Kl Go.RowKit Go.Proofs.YtjdccifdkjnknaaGreatDoor
theorem pLt {n:Nat} (h:n < 18446744073709551616):(putL n).length≤10:=pLl3 n 9 (Nat.lt_of_lt_of_le h (by decide))
theorem fl2 {α:Type} (f:α→List UInt8) (B:Nat):∀ l:List α,(∀ x ∈ l,(f x).length≤B)→(l.flatMap f).length≤l.length * B
 | [],_=>by simp
 | x :: l,h=>by
   rw [List.flatMap_cons,List.length_append,List.length_cons,Nat.succ_mul]
   have h1:=h x (by simp)
   have h2:=fl2 f B l fun y hy=>h y (by simp [hy])
   omega
theorem dl2:∀ (l:List Int) (last:Int),(di last l).length=l.length
 | [],_=>rfl
 | n :: l,last=>by rw [di,List.length_cons,List.length_cons,dl2 l n]
theorem dr2:∀ (l:List Int) (last:Int),∀ d ∈ di last l,-9223372036854775808≤d∧d≤9223372036854775807
 | [],_,d,h=>by cases h
 | n :: l,last,d,h=>by
   rw [di] at h
   rcases List.mem_cons.1 h with rfl | h
   ·exact wr5 _
   ·exact dr2 l n d h
theorem pLf (l:List Int) (h:l.length≤1000):(pL2 l).length≤10 + l.length * 10:=by
 unfold pL2
 rw [List.length_append]
 have h1:=pLt (n:=l.length) (by omega)
 have h2:=fl2 (fun d=>putL (tN d)) 10 (di 0 l) fun d hd=>pLt (turn_lt d (dr2 l 0 d hd))
 rw [dl2] at h2
 omega
theorem enc_few:∀ (l:List ByteArray) (a:ByteArray),(∀ z ∈ l,z.size≤100)→(eF a l).length≤l.length * 102
 | [],_,_=>by simp [eF]
 | y :: l,a,h=>by
   rw [eF,List.length_append,List.length_cons,Nat.succ_mul,oc3 a y (h y (by simp))]
   have h1:=h y (by simp)
   have h2:=enc_few l y fun z hz=>h z (by simp [hz])
   omega
theorem head_few {s:Sch} (h:sO s=true):(hB13 s).length≤400:=by
 obtain ⟨h1,h2,h3,h4,h5⟩:=sf2 h
 unfold hB13
 simp only [List.length_append]
 have e1:=pLt (n:=s.dims.length) (by omega)
 have e2:=pLt (n:=s.mets.length) (by omega)
 have e3:=pLt (n:=s.grain.toNat) (by omega)
 have e4:=fl2 nB2 30 (s.dims ++ s.mets) fun x hx=>by
  have:=h5 x hx
  unfold nB2
  rw [List.length_append,show x.data.toList.length=x.size from Array.length_toList]
  have:=pLt (n:=x.size) (by omega)
  omega
 rw [List.length_append] at e4
 omega
theorem dict_few (C:List (CK×Pay)) (i:Nat):(dO C i).length≤C.length:=by
 have h1:=sWf (dW C i)
 have h2:(dW C i).length≤C.length:=List.length_filterMap_le _ _
 unfold dO
 omega
theorem ds4 {s:Sch} {C:List (CK×Pay)} (h:CO s C) (i:Nat):∀ z ∈ dO C i,z.size≤100:=fun z hz=>by
 unfold dO at hz
 rw [sWa] at hz
 obtain ⟨x,hx,hb⟩:=List.mem_filterMap.1 hz
 have hv:=(h.each x hx).dims.2
 rw [List.all_eq_true] at hv
 have hm:some z ∈ x.1.2:=by
  rw [List.getD_eq_getElem?_getD] at hb
  cases he:x.1.2[i]? with
  | none=>rw [he] at hb;cases hb
  | some v=>rw [he] at hb;exact hb ▸ List.mem_of_getElem? he
 have:=hv (valOf (some z)) (List.mem_map.2 ⟨_,hm,rfl⟩)
 unfold vO valOf at this
 simpa using this
theorem colD_few {s:Sch} {C:List (CK×Pay)} (h:CO s C) (hC:C.length≤50) (i:Nat):(colD C i).length≤6000:=by
 unfold colD
 rw [List.length_append,pNl,List.length_map,eLf,List.length_append]
 have hd:=dict_few C i
 have e1:=pLt (n:=(dO C i).length) (by omega)
 have e2:=enc_few (dO C i) w0 (ds4 h i)
 have e3:=pLt (n:=C.length) (by omega)
 have e4:widN (C.map fun x=>idOf (dO C i) (x.1.2.getD i none))≤16:=wNl _ fun n hn=>by
  obtain ⟨x,hx,rfl⟩:=List.mem_map.1 hn
  cases x.1.2.getD i none with
  | none=>show (dO C i).length≤65535;omega
  | some b=>
    have:place (dO C i) b≤(dO C i).length:=List.findIdx_le_length
    show place (dO C i) b≤65535
    omega
 have e5:sP C.length (widN (C.map fun x=>idOf (dO C i) (x.1.2.getD i none)))≤101:=by
  unfold sP
  have:=Nat.mul_le_mul hC e4
  omega
 have e6:(dO C i).length * 102≤50 * 102:=Nat.mul_le_mul_right _ (by omega)
 omega
theorem pf2 {s:Sch} {C:List (CK×Pay)} (h:CO s C) (hC:C.length≤50):∀ x ∈ pS2 s C,x.length≤60000:=by
 intro x hx
 have Aa:∀ l:List Int,l.length=C.length→(pL2 l).length≤510:=fun l hl=>by
  have:=pLf l (by omega)
  omega
 unfold pS2 at hx
 rcases List.mem_cons.1 hx with rfl | hx
 ·have:=head_few h.sch;omega
 rcases List.mem_cons.1 hx with rfl | hx
 ·unfold colT
  rw [List.length_append]
  have h1:=Aa (C.map fun x=>x.1.1) (by simp)
  have h2:=Aa (C.map fun x=>x.2.n) (by simp)
  omega
 rcases List.mem_append.1 hx with hx | hx
 ·obtain ⟨i,_,rfl⟩:=List.mem_map.1 hx
  have:=colD_few h hC i
  omega
 ·obtain ⟨m,_,rfl⟩:=List.mem_map.1 hx
  unfold colM
  simp only [List.length_append]
  have h1:=Aa (C.map fun x=>wHi (x.2.sums.getD m 0)) (by simp)
  have h2:=Aa (C.map fun x=>wrap64 (wLo (x.2.sums.getD m 0))) (by simp)
  have h3:=Aa (C.map fun x=>x.2.mins.getD m 0) (by simp)
  have h4:=Aa (C.map fun x=>x.2.maxs.getD m 0) (by simp)
  omega
theorem efo {s:Sch} {C:List (CK×Pay)} (h:CO s C) (hC:C.length≤50):encP s C=(encS s C,0):=by
 unfold encP
 rw [if_neg (by simp [h.sch]),if_neg (by simp [cBi.2 h]),if_pos (pf2 h hC)]
theorem ct2 {s:Sch} {C:List (CK×Pay)} (h:CO s C) (k:Nat):CO s (C.take k):=
 ⟨h.sch,by have:=h.len;rw [List.length_take];omega,fun x hx=>h.each x (List.mem_of_mem_take hx),h.asc.sublist (List.take_sublist k C)⟩
theorem seg_grows {s:Sch} {C:List (CK×Pay)} (h:CO s C) (hC:C.length≤50) (k:Nat):(encP s C).2=0∧(encP s (C.take k)).2=0∧(encP s (C.take k)).1.size≤(encP s C).1.size ∧
  sF (encP s C).1.size [] (encP s C).1=((pS2 s C).map mk,0)∧sF (encP s (C.take k)).1.size [] (encP s (C.take k)).1=((pS2 s (C.take k)).map mk,0)∧(pS2 s C).length=(pS2 s (C.take k)).length∧3≤(pS2 s C).length:=by
 have h2:=ct2 h k
 have Aa:(C.take k).length≤50:=by rw [List.length_take];omega
 rw [efo h hC,efo h2 Aa]
 refine ⟨rfl,rfl,encS_take s C k fun i _=>ds4 h i,se2 (pf2 h hC),se2 (pf2 h2 Aa),by unfold pS2;simp,?_⟩
 have hd:1≤s.dims.length:=by
  have:=h.sch
  unfold sO at this
  simp only [Bool.and_eq_true,decide_eq_true_eq] at this
  omega
 unfold pS2
 simp
 omega
end Tess
namespace Tess
def headW (s:Sch):ByteArray×Nat:=if sO s then (mk (hB13 s),0) else (ByteArray.empty,100)
def hN5 (s:Sch):List Nat:=[s.dims.length,s.mets.length,s.grain.toNat]
theorem headB_eq (s:Sch):hB13 s=(hN5 s).flatMap putL ++ (s.dims ++ s.mets).flatMap nB2:=by simp [hB13,hN5]
theorem fn2 {α:Type} (f:α→List UInt8) (l:List α) (k:Nat) (h:k < l.length):(l.take (k + 1)).flatMap f=(l.take k).flatMap f ++ f l[k]:=by
 rw [List.take_succ_eq_append_getElem h,List.flatMap_append]
 simp
theorem putl_ne6 (n:Nat):putL n≠[]:=by
 by_cases h:n < 128
 ·rw [pLl2 n h];simp
 ·rw [pLg n h];simp
end Tess
namespace Go.Proofs.YtjdccifdkjnknaaGreatDoor
open Go.RowKit Go.Sort
section
variable {P:Program} {w:World} {ops:Array Oper} {rest:List Oper} {o:Oper} {a:Act} {Q:Exit→Act→World→Prop}
theorem wLm (l c:Operand) (t:TypeId) (hop:o.op=Op.makeSlice t l c)
  (e:TypeId) (i:TypeInfo) (z:Value) (h1:P.underlying t=some (.slice e)) (h2:P.info? e=some i) (h3:i.zero=some z) (h4:i.size=1) (hz:z.cells=#[z])
  (kl kc:IntKind) (L C:Int) (n m:Nat) (hl:a.eval l = .int kl L) (hc:a.eval c = .int kc C) (hL:L=(n:Int)) (hC:C=(m:Int)) (hnm:n≤m) (b2:i.bytes * m≤281474976710656) (b3:m≤9223372036854775807)
  (h:∀ w1:World,Below w.heap.size w w1→w1.heap.size=w.heap.size + 1→w1.heap[w.heap.size]? = some (.cells (List.replicate m z).toArray e (0,0))→wpList P ops Q rest (a.put o.dst (.slice (some ⟨w.heap.size,0,none⟩) n m)) w1) (hgd:Region.wanted o (yielded ops a.tmps)=true:=by first | (simp only [Region.wanted];done) | (simp [Region.wanted,yielded];done)) :
  wpList P ops Q (o :: rest) a w:=by
 refine wLw hgd fun K hK => ?_
 subst hL
 subst hC
 have Aa:=run_make (P:=P) w t e i z h1 h2 h3 kl kc n m (by omega) (by omega) (by rw [← Int.natCast_mul];omega) (by omega)
 simp only [Int.toNat_natCast,h4,Nat.mul_one,hz] at Aa
 unfold Oper.wp
 simp only [execOp,hop,hl,hc,Aa,Result.andThen,Sem.run_bind,Sem.run_pure]
 refine hK _ _ (h _ ((Below.refl _ _).alloc (Nat.le_refl _) _) (by simp) ?_)
 rw [heap_alloc_new]
 have e1:=toList_madeCells_one z m
 rw [← e1]
theorem wLa2 (hgd:o.guard=none) (s x:Operand) (t:TypeId)
  (ho:o.op = .call { callee:=.builtin .append,args:=#[s,x],argTypes:=#[t,t] })
  (base:Nat) (e:TypeId) (i:TypeInfo) (ht:P.underlying t=some (.slice e)) (hi:P.info? e=some i) (hsize:i.size=1)
  (g n cap:Nat) (xs:List Value) (hs:a.eval s = .slice (some ⟨g,0,none⟩) n cap) (hown:w.ownsRow base e 1 (.slice (some ⟨g,0,none⟩) n cap) n xs)
  (ao:Option Addr) (m c:Nat) (news:List Value) (hx:a.eval x = .slice ao m c) (hl:news.length=m) (hnil:ao=none→m=0∧c=0)
  (hnews:∀ b off,ao=some ⟨b,off,none⟩→∀ j u,news[j]? = some u→w.cell? ⟨b,off + j,none⟩=some u) (hao:∀ ad,ao=some ad→m=0∨∃ b off,ad=⟨b,off,none⟩) (h1:∀ u ∈ news,u.oneCell'=true)
  (hroom:n + m≤cap)
  (h:∀ w',w'.ownsRow base e 1 (.slice (some ⟨g,0,none⟩) (n + m) cap) (n + m) (xs ++ news)→w.grownBy w' (some g)→wpList P ops Q rest (a.put o.dst (.slice (some ⟨g,0,none⟩) (n + m) cap)) w'):wpList P ops Q (o :: rest) a w:=by
 cases ao with
 | none=>
   obtain ⟨rfl,rfl⟩:=hnil rfl
   obtain rfl:=List.eq_nil_of_length_eq_zero hl
   exact wpList_append_own_none hgd s x t ho base e i 1 ht hi _ n xs hs hown hx (h w (by simpa using hown) (World.grownBy.refl _ _))
 | some ad=>
   refine wpList_append_own_spare _ hgd s x t ho base e i 1 ht hi hsize g n cap xs hs hown ad m c news hx (by omega) (fun j u hj => ?_) h1 hroom h
   have Aa:=(List.getElem?_eq_some_iff.1 hj).1
   rcases hao _ rfl with h0 | ⟨b,off,rfl⟩
   ·omega
   ·rw [ap2]
    exact hnews b off rfl j u hj
end
structure Hw (w:World) (g b:Nat) (N0 N1 N2:Obj) (l:List UInt8) (W:World):Prop where
 kb:Bd b l W
 k0:W.heap[w.heap.size]? = some N0
 k1:W.heap[g]? = some N1
 k2:W.heap[b + 1]? = some N2
 below:Below w.heap.size w W
theorem Hw.later {w:World} {g b:Nat} {N0 N1 N2:Obj} {l:List UInt8} {W W':World} (h:Hw w g b N0 N1 N2 l W) (hb:Below W.heap.size W W') (hbl:b < W.heap.size):Hw w g b N0 N1 N2 l W' where
 kb:=bs2 h.kb (hb.block b hbl) fun k _ _ hk=>hb.block k (Array.getElem?_eq_some_iff.1 hk).1
 k0:=(hb.block w.heap.size (Array.getElem?_eq_some_iff.1 h.k0).1).trans h.k0
 k1:=(hb.block g (Array.getElem?_eq_some_iff.1 h.k1).1).trans h.k1
 k2:=(hb.block (b + 1) (Array.getElem?_eq_some_iff.1 h.k2).1).trans h.k2
 below:=Bt h.below hb
theorem Hw.wrote {w:World} {g b:Nat} {N0:Obj} {c1 c2:Array Value} {t1 t2:TypeId} {f1 f2:Nat×Nat} {l:List UInt8} {s:ByteArray} {W W':World} (h:Hw w g b N0 (.cells c1 t1 f1) (.cells c2 t2 f2) l W) (hb:Lib.BuilderAt 88 5 b b (.pointer (some ⟨b,0,none⟩)) (Lib.byteCells l ++ Lib.strCells s) W') (hB:Below b W W') (hk:Oth b W W') (hg:g < b) (hw:w.heap.size < b) (ht:t2≠5):Hw w g b N0 (.cells c1 t1 f1) (.cells c2 t2 f2) (l ++ s.data.toList) W' where
 kb:=.inr (bd_bytes hb)
 k0:=(hB.block w.heap.size (by omega)).trans h.k0
 k1:=(hB.block g hg).trans h.k1
 k2:=hk (b + 1) _ h.k2 (by simp) (fun c fz e=>by cases e;exact ht rfl)
 below:=h.below.trans (hB.mono (Nat.le_of_lt hw))
theorem Hw.grown {w:World} {g b:Nat} {N0 N1 N2:Obj} {c1:Array Value} {f1:Nat×Nat} {l:List UInt8} {W W':World} (h:Hw w g b N0 (.cells c1 9 f1) N2 l W) (hg:W.grownBy W' (some g)) (hgb:g < b) (hwg:w.heap.size < g) (hbl:b < W.heap.size) (k1':W'.heap[g]? = some N1):Hw w g b N0 N1 N2 l W' where
 kb:=bs2 h.kb (hg.block b hbl (fun e=>by have:=Option.some.inj e;omega)) fun k _ _ hk=>hg.block k (Array.getElem?_eq_some_iff.1 hk).1 (fun e=>by
  have e':=Option.some.inj e
  subst e'
  have:=hk.symm.trans h.k1
  cases this)
 k0:=(hg.block _ (Array.getElem?_eq_some_iff.1 h.k0).1 (fun e=>by have:=Option.some.inj e;omega)).trans h.k0
 k1:=k1'
 k2:=(hg.block _ (Array.getElem?_eq_some_iff.1 h.k2).1 (fun e=>by have:=Option.some.inj e;omega)).trans h.k2
 below:=h.below.grown hg h.below.size (fun k e=>by cases e;omega)
set_option maxHeartbeats 4000000 in
set_option maxRecDepth 100000 in
theorem ha4 (p:Nat→Prop) (v:Value) (s:Tess.Sch) (w:World) (hv:SA p w v s) :
  Calls Tryz.prog 18 #[v] w fun e w'=>e = .returned (.tuple #[.string (Tess.headW s).1,.int .i64 ((Tess.headW s).2:Nat)])∧Below w.heap.size w w':=by
 obtain ⟨i0,hi,Cw,Be,C8⟩:=info_parts iS2
 have HR:=Hd (fun (W:World) (hB:Below w.heap.size w W)=>sRa v s p W (hv.ag (Ag.new p hB)))
 obtain ⟨vd,vm,rfl,hd,hm,Cx,Ct⟩:=hv
 obtain ⟨ad,An,rfl,Dn⟩:=sl3 hd
 obtain ⟨am,Aa,rfl,Df⟩:=sl3 hm
 have HD:=Hd hd.1
 have HM:=Hd hm.1
 have C0:=Hd hm.2.2
 have A8:RowKit.Hid (Tess.headW s=if Tess.sO s then (Tess.mk (Tess.hB13 s),0) else (ByteArray.empty,100)):=Hd rfl
 have C5:=Hd (fun h:Tess.sO s=true=>Tess.sf2 h)
 have C6:=Hd (Tess.headB_eq s)
 have Ap:RowKit.Hid (Tess.hN5 s=[s.dims.length,s.mets.length,s.grain.toNat]):=Hd rfl
 clear hd hm Cx Ct
 go_enter Tryz.func18,Tryz.ntmps18
 obtain ⟨ds,ms,g⟩:=s
 dsimp only at *
 by_cases hok:Tess.sO ⟨ds,ms,g⟩=true
 ·have hf:=C5.out hok
  obtain ⟨f1,f2,f3,f4,f5⟩:=hf
  rw [if_pos hok] at A8
  have Bq:=Hd f5
  clear f5
  go_wp2_with (first
   | (go_at_call 23;refine (HR.out _ ((Below.refl _ _).alloc (Nat.le_refl _) _)).mono ?_;rintro e w1 ⟨rfl,Ao⟩;rw [hok];have A6:=Hd (((Below.refl _ _).alloc (Nat.le_refl _) _).trans (Ao.mono (by simp)));have k1:=(Ao.block w.heap.size (by simp)).trans (la2 w _).1;have c0:=cell_of_row _ _ 0 _ _ _ k1;have c1:=cell_of_row _ _ 1 _ _ _ k1;have c2:=cell_of_row _ _ 2 _ _ _ k1;simp at c0 c1 c2;have Bh:=Hd k1;clear Ao k1)
   | (at_make;refine wLm (.tmp 15) (.tmp 22) 22 rfl 9 i0 (.string ByteArray.empty) Tryz.underlying22 hi Cw Be rfl .i64 .i64 _ _ ds.length (ds.length + ms.length) rfl rfl (by omega) (by omega) (by omega) (by rw [C8];omega) (by omega) ?_))
  intro w2 Bu Ck Ai
  have A5:w.heap.size < w1.heap.size:=(Array.getElem?_eq_some_iff.1 Bh.out).1
  have Aw:=Hd ((Bu.block w.heap.size A5).trans Bh.out)
  have A4:=Hd (Bt A6.out Bu)
  have Bi:w2.heap.size=w1.heap.size + 1:=Ck
  have Bk:=Hd Ai
  have Co:w.heap.size≤w1.heap.size:=by omega
  have c0:=cell_of_row _ _ 0 _ _ _ Aw.out
  have c1:=cell_of_row _ _ 1 _ _ _ Aw.out
  have c2:=cell_of_row _ _ 2 _ _ _ Aw.out
  simp at c0 c1 c2
  obtain ⟨nb,B7⟩:∃ nb,nb=w1.heap.size:=⟨_,rfl⟩
  rw [← B7] at Bk Bi A5 Co ⊢
  clear Bu Ck Ai Bh A6 B7
  have A1:(Tryz.prog.info? 9).map (·.size)=some 1:=by rw [hi];simp [Be]
  have B8:=Hd (HD.out.below A4.out)
  have Cs:=Hd (HM.out.below A4.out)
  obtain ⟨cs,A7⟩:∃ cs,cs=ds.map Value.string:=⟨_,rfl⟩
  have Al:cs.length=ds.length:=by rw [A7,List.length_map]
  have Bf:=Hd A7
  have Ac:=Hd (show ∀ v ∈ cs,v.oneCell'=true by rw [A7];intro v hv;obtain ⟨x,_,rfl⟩:=List.mem_map.1 hv;rfl)
  clear A7
  go_wp2_with (refine wpList_copy_splice rfl (.tmp 24) (.tmp 26) 22 22 rfl 9 Tryz.underlying22 A1 _ _ _ _ _ _ rfl rfl nb 0 _ _ Bk.out cs ?_ ?_ ?_ Ac.out nb w2 (Below.refl _ _) (Nat.le_refl _) ?_)
  ·simpa using Al
  ·intro Cy
   obtain ⟨a',Bd,Br,_,Aq⟩:=so2 B8.out
   obtain ⟨b,Af,ha,_,_⟩:=Aq 0 (by omega)
   cases Br
   try refine ⟨rfl,?_⟩
   refine ⟨⟨b,Af,none⟩,ha,fun j v hj => ?_⟩
   rw [Bf.out] at hj
   obtain ⟨Bj,rfl⟩:=List.getElem?_eq_some_iff.1 hj
   obtain ⟨b',Bo,Au,_,Ab⟩:=Aq j (by simpa using Bj)
   rw [ha] at Au
   cases Au
   rw [ap2,Ab]
   simp
  ·simp;omega
  intro w3 Cd Bs
  have Ay:=Hd ((Bs.block w.heap.size A5).trans Aw.out)
  have Cr:=Hd (A4.out.trans (Bs.mono Co))
  have c0:=cell_of_row _ _ 0 _ _ _ Ay.out
  have c1:=cell_of_row _ _ 1 _ _ _ Ay.out
  have c2:=cell_of_row _ _ 2 _ _ _ Ay.out
  simp at c0 c1 c2
  have Cj:splice (List.replicate (ds.length + ms.length) (Value.string ByteArray.empty)) 0 cs=ds.map Value.string ++ List.replicate ms.length (Value.string ByteArray.empty):=by
   rw [← Bf.out]
   unfold splice
   simp [Al]
  have Ae:=Cd.out
  rw [Cj] at Ae
  have Ci:=Hd Ae
  have As:nb < w3.heap.size:=(Array.getElem?_eq_some_iff.1 Ae).1
  have Ax:w.heap.size < w3.heap.size:=by omega
  clear Ae Cd Cj Bk Aw A4 Bs B8 Cs Ac Bf Al
  obtain ⟨gn,rfl⟩:∃ gn:Nat,g=(gn:Int):=⟨g.toNat,by omega⟩
  rw [Int.toNat_natCast] at Ap
  go_wp2
  obtain ⟨W0,B9⟩:∃ W0,(w3.alloc (.cells #[.pointer none,.slice none 0 0] 88)).alloc (.cells #[.int .i64 (ds.length:Int),.int .i64 (ms.length:Int),.int .i64 (gn:Int)] 2)=W0:=⟨_,rfl⟩
  obtain ⟨j1,j2,jS,jB⟩:=la3 w3 (.cells #[.pointer none,.slice none 0 0] 88) (.cells #[.int .i64 (ds.length:Int),.int .i64 (ms.length:Int),.int .i64 (gn:Int)] 2)
  rw [B9] at j1 j2 jS jB ⊢
  clear B9
  have B5:=Hd (Bt Cr.out jB)
  have HH:=Hd (show Hw w nb w3.heap.size (.cells #[.slice ad ds.length An,.slice am ms.length Aa,.int .i64 (gn:Int)] 24 (0,0)) (.cells (ds.map Value.string ++ List.replicate ms.length (Value.string ByteArray.empty)).toArray 9 (0,0)) (.cells #[.int .i64 (ds.length:Int),.int .i64 (ms.length:Int),.int .i64 (gn:Int)] 2 (0,0)) [] W0 from ⟨bd_fresh j1,(jB.block w.heap.size Ax).trans Ay.out,(jB.block nb As).trans Ci.out,j2,B5.out⟩)
  have Bp:=Hd Ax
  have Bb:=Hd As
  have Bl:=Hd (show ∀ k,(((Tess.hN5 ⟨ds,ms,gn⟩).take k).flatMap Tess.putL).length≤1000 from fun k=>by
   have h1:=Tess.fl2 Tess.putL 10 ((Tess.hN5 ⟨ds,ms,gn⟩).take k) (fun n hn=>by
    have Bx:=List.mem_of_mem_take hn
    rw [Ap.out] at Bx
    simp at Bx
    exact Tess.pLt (by omega))
   have h2:((Tess.hN5 ⟨ds,ms,gn⟩).take k).length≤3:=by rw [Ap.out,List.length_take];simp;omega
   omega)
  generalize w3.heap.size=b at *
  have Dk:=Hd jS
  clear j1 j2 jB jS c0 c1 c2 A1 Ay Cr Ci B5
  go_loopw [38] (fun i wr => ∃ k:Nat,k≤3∧i = .int .i64 k∧Hw w nb b (.cells #[.slice ad ds.length An,.slice am ms.length Aa,.int .i64 (gn:Int)] 24 (0,0)) (.cells (ds.map Value.string ++ List.replicate ms.length (Value.string ByteArray.empty)).toArray 9 (0,0)) (.cells #[.int .i64 (ds.length:Int),.int .i64 (ms.length:Int),.int .i64 (gn:Int)] 2 (0,0)) (((Tess.hN5 ⟨ds,ms,gn⟩).take k).flatMap Tess.putL) wr) (fun i _=>3 - (intOf i).toNat)
  case atStart=>exact ⟨0,by omega,rfl,HH.out⟩
  case round=>
   obtain ⟨k,hk,rfl,hH⟩:=hrel
   have HH:=Hd hH
   by_cases hk3:k < 3
   ·obtain ⟨n,hn,Dj,C7⟩:∃ n:Nat,(Tess.hN5 ⟨ds,ms,gn⟩)[k]? = some n∧n≤1000000000∧wr.cell? ⟨b + 1,k,none⟩=some (.int .i64 (n:Int)):=by
     have e:=cell_of_row wr (b + 1) k _ _ _ hH.k2
     rw [Ap.out,e]
     match k,hk3 with
     | 0,_=>exact ⟨_,rfl,by omega,rfl⟩
     | 1,_=>exact ⟨_,rfl,by omega,rfl⟩
     | 2,_=>exact ⟨_,rfl,by omega,rfl⟩
    have Dc:=Tess.pWs n (by omega)
    have Ar:b < wr.heap.size:=by have:=(Array.getElem?_eq_some_iff.1 hH.k2).1;omega
    have Bn:(((Tess.hN5 ⟨ds,ms,gn⟩).take k).flatMap Tess.putL).length≤1000:=Bl.out k
    obtain ⟨Ca,B3⟩:=List.getElem?_eq_some_iff.1 hn
    have HT:=Hd (Tess.fn2 Tess.putL _ k Ca)
    rw [B3] at HT
    obtain ⟨L,hL⟩:∃ L,L=((Tess.hN5 ⟨ds,ms,gn⟩).take k).flatMap Tess.putL:=⟨_,rfl⟩
    rw [← hL] at HT HH Bn
    clear hH hn B3 hL Ca
    go_wp2_with (first
     | (go_at_call 42;refine (dpa n _ (by omega)).mono ?_;rintro e w5 ⟨rfl,Bv⟩;have Ce:=Hd (HH.out.later Bv Ar);have Dg:=Bv.size;clear Bv)
     | (go_at_call 41;go_loud (refine (wSk b b (Lib.byteCells L) (Tess.putW n) _ Ce.out.kb (by rw [Lib.byteCells_length];omega) (by omega)).mono ?_;rintro e w6 ⟨rfl,B2,Cn,Cp⟩;have Bm:=Hd (Ce.out.wrote B2 Cn Cp Bb.out Bp.out (by decide));clear B2 Cn Cp)))
    go_roundw
    case rel=>exact ⟨k + 1,by omega,by go_num,by rw [HT.out];exact Bm.out⟩
    case measure=>simp [intOf];omega
   ·obtain rfl:k=3:=by omega
    have Cg:=Hd (HM.out.below hH.below)
    have Ar:b < wr.heap.size:=by have:=(Array.getElem?_eq_some_iff.1 hH.k2).1;omega
    have C2:=Bl.out 3
    have c1:=cell_of_row _ _ 1 _ _ _ hH.k0
    simp at c1
    obtain ⟨L,hL⟩:∃ L,L=((Tess.hN5 ⟨ds,ms,gn⟩).take 3).flatMap Tess.putL:=⟨_,rfl⟩
    have Cl:L=(Tess.hN5 ⟨ds,ms,gn⟩).flatMap Tess.putL:=by rw [hL,List.take_of_length_le (by rw [Ap.out];simp)]
    rw [← hL] at HH C2
    have Db:=Hd Cl
    have Az:=Hd (show wr.ownsRow nb 9 1 (.slice (some ⟨nb,0,none⟩) ds.length (ds.length + ms.length)) ds.length (ds.map Value.string) from ⟨by simp,.inr ⟨nb,ds.length + ms.length,_,rfl,Nat.le_refl _,hH.k1,by omega,by unfold maxLen;omega,by simp,by simp⟩⟩)
    obtain ⟨A0,Aj,By⟩:(am=none→ms.length=0∧Aa=0)∧(∀ b Af,am=some ⟨b,Af,none⟩→∀ j u,(ms.map Value.string)[j]? = some u→wr.cell? ⟨b,Af + j,none⟩=some u)∧(∀ ad,am=some ad→ms.length=0∨∃ b Af,ad=⟨b,Af,none⟩):=by
     obtain ⟨a',Bd,Br,_,Aq⟩:=so2 Cg.out
     cases Br
     refine ⟨fun e=>⟨?_,?_⟩,fun b Af e j u hj => ?_,fun ad e => ?_⟩
     ·rcases Nat.eq_zero_or_pos ms.length with h0 | h0
      ·exact h0
      ·obtain ⟨b,Af,ha,_,_⟩:=Aq 0 h0
       rw [e] at ha
       cases ha
     ·exact C0.out ms.length Aa (by rw [e])
     ·obtain ⟨Bj,rfl⟩:=List.getElem?_eq_some_iff.1 hj
      obtain ⟨b',Bo,Au,_,Ab⟩:=Aq j (by simpa using Bj)
      rw [e] at Au
      cases Au
      rw [Ab]
      simp
     ·rcases Nat.eq_zero_or_pos ms.length with h0 | h0
      ·exact .inl h0
      ·obtain ⟨b,Af,ha,_,_⟩:=Aq 0 h0
       rw [e] at ha
       cases ha
       exact .inr ⟨_,_,rfl⟩
    have A3:=Hd A0
    have Ak:=Hd Aj
    have Cf:=Hd By
    have Ac:=Hd (show ∀ v ∈ ms.map Value.string,v.oneCell'=true by intro v hv;obtain ⟨x,_,rfl⟩:=List.mem_map.1 hv;rfl)
    clear A0 Aj By hH hL Cl hk Cg Bl Ap
    go_wp2_with (at_builtin;refine wLa2 rfl _ _ 22 rfl nb 9 i0 Tryz.underlying22 hi Be nb ds.length (ds.length + ms.length) (ds.map Value.string) rfl Az.out am ms.length Aa (ms.map Value.string) rfl (by simp) A3.out Ak.out Cf.out Ac.out (by omega) ?_)
    intro w6 Ah Ad
    obtain ⟨Am,Bz,A2⟩:∃ Am:Array Value,w6.heap[nb]? = some (.cells Am 9 (0,0))∧∀ k x,(ds ++ ms)[k]? = some x→Am[k]? = some (Value.string x):=by
     obtain ⟨_,⟨hv,_⟩ | ⟨g',Dl,Am,hv,_,h3,_,_,_,h7⟩⟩:=Ah
     ·cases hv
     ·cases hv
      refine ⟨Am,h3,fun k x hk => ?_⟩
      have C3:=(List.getElem?_eq_some_iff.1 hk).1
      rw [List.length_append] at C3
      have e:(Am.toList.take ((ds.length + ms.length) * 1))[k]? = some (Value.string x):=by
       rw [h7,← List.map_append,List.getElem?_map,hk]
       rfl
      rw [List.getElem?_take_of_lt (by omega)] at e
      simpa using e
    have At:=Hd A2
    have Bm:=Hd (HH.out.grown Ad Bb.out A5 Ar Bz)
    clear Ah Ad Bz A2 HH Az A3 Ak Cf Ac c1 Ar
    have Bc:(ds ++ ms).length=ds.length + ms.length:=List.length_append
    have C4:=Hd Bc
    have Ch:RowKit.Hid (∃ al,al=ds ++ ms):=Hd ⟨_,rfl⟩
    obtain ⟨al,A9⟩:=Ch.out
    rw [← A9] at At C4 Bq Bc
    have Cz:=Hd A9
    have B0:al.length≤10:=by omega
    have C1:=Hd (show ∀ k,((al.take k).flatMap Tess.nB2).length≤1000 from fun k=>by
     have h1:=Tess.fl2 Tess.nB2 30 (al.take k) (fun x hx=>by
      have:=Bq.out x (List.mem_of_mem_take hx)
      have De:=Tess.pLt (n:=x.size) (by omega)
      have:x.data.toList.length=x.size:=Array.length_toList
      unfold Tess.nB2
      rw [List.length_append]
      omega)
     have h2:(al.take k).length≤10:=by rw [List.length_take];omega
     omega)
    have Cm:(ds.length:Int) + (ms.length:Int)=(al.length:Int):=by omega
    have Av:ds.length + ms.length=al.length:=by omega
    clear A9 Bc Ch
    go_wp2
    try simp only [Cm,Av]
    clear Cm Av
    go_loopw [52] (fun i wr => ∃ k:Nat,k≤al.length∧i = .int .i64 k∧Hw w nb b (.cells #[.slice ad ds.length An,.slice am ms.length Aa,.int .i64 (gn:Int)] 24 (0,0)) (.cells Am 9 (0,0)) (.cells #[.int .i64 (ds.length:Int),.int .i64 (ms.length:Int),.int .i64 (gn:Int)] 2 (0,0)) (L ++ (al.take k).flatMap Tess.nB2) wr) (fun i _=>al.length - (intOf i).toNat)
    case atStart=>exact ⟨0,by omega,rfl,by simpa using Bm.out⟩
    case round=>
     obtain ⟨k,hk,rfl,hH⟩:=hrel
     have HH:=Hd hH
     have Bn:=C1.out k
     have Ar:b < wr.heap.size:=by have:=(Array.getElem?_eq_some_iff.1 hH.k2).1;omega
     by_cases hkl:k < al.length
     ·have C7:wr.cell? ⟨nb,k,none⟩=some (.string al[k]):=(cell_of_row wr nb k _ _ _ hH.k1).trans (At.out k _ (List.getElem?_eq_getElem hkl))
      have C9:=Bq.out al[k] (List.getElem_mem hkl)
      have HT:=Hd (Tess.fn2 Tess.nB2 al k hkl)
      obtain ⟨M,hM⟩:∃ M,M=(al.take k).flatMap Tess.nB2:=⟨_,rfl⟩
      rw [← hM] at HT HH Bn
      generalize al[k]=x at *
      have Dc:=Tess.pWs x.size (by omega)
      have Dd:(Tess.putW x.size).size + x.size≤9223372036854775807:=by omega
      have Dh:(Lib.byteCells (L ++ M)).length≤2000:=by rw [Lib.byteCells_length,List.length_append];omega
      have Di:(Tess.putW x.size ++ x).size≤40:=by rw [ByteArray.size_append];omega
      have HY:=Hd (show (Tess.putW x.size ++ x).data.toList=Tess.nB2 x by unfold Tess.nB2 Tess.putW;simp)
      clear hH hM
      go_wp2_with (first
       | (go_at_call 42;refine (dpa x.size _ (by omega)).mono ?_;rintro e w7 ⟨rfl,Bg⟩;have B1:=Hd (HH.out.later Bg Ar);have Dm:=Bg.size;clear Bg)
       | (go_at_call 41;go_loud (refine (wSk b b (Lib.byteCells (L ++ M)) (Tess.putW x.size ++ x) _ B1.out.kb (by omega) (by omega)).mono ?_;rintro e w8 ⟨rfl,Cb,B6,B4⟩;have Cv:=Hd (B1.out.wrote Cb B6 B4 Bb.out Bp.out (by decide));clear Cb B6 B4)))
      go_roundw
      case rel=>exact ⟨k + 1,by omega,by go_num,by rw [HT.out,← List.append_assoc,← HY.out];exact Cv.out⟩
      case measure=>simp [intOf];omega
     ·obtain rfl:k=al.length:=by omega
      rw [List.take_of_length_le (Nat.le_refl _)] at HH
      have HE:=Hd (show L ++ al.flatMap Tess.nB2=Tess.hB13 ⟨ds,ms,gn⟩ by rw [C6.out,← Db.out,← Cz.out])
      rw [HE.out] at HH
      have Cc:Tess.hB13 ⟨ds,ms,gn⟩≠[]:=fun e=>by
       unfold Tess.hB13 at e
       exact Tess.putl_ne6 _ (List.append_eq_nil_iff.1 e).1
      have Bw:=string_k b _ wr HH.out.kb Cc
      have Cu:=Hd Bw
      have HW:=Hd HH.out.below
      clear hH Bw Cc HH
      go_wp2_with (go_at_call 43;refine Cu.out.mono ?_;rintro e w9 ⟨rfl,Cq,_⟩;have Da:=Hd (HW.out.trans (Cq.mono (Nat.le_of_lt Bp.out)));clear Cq)
      go_ret2
      exact ⟨by rw [A8.out];rfl,Da.out⟩
 ·have Ba:Tess.sO ⟨ds,ms,g⟩=false:=by simpa using hok
  rw [if_neg hok] at A8
  go_wp2_with (go_at_call 23;refine (HR.out _ ((Below.refl _ _).alloc (Nat.le_refl _) _)).mono ?_;rintro e w1 ⟨rfl,Ao⟩;rw [Ba];have A6:=Hd (((Below.refl _ _).alloc (Nat.le_refl _) _).trans (Ao.mono (by simp)));clear Ao)
  go_ret2
  exact ⟨by rw [A8.out];rfl,A6.out⟩
end Go.Proofs.YtjdccifdkjnknaaGreatDoor
namespace Go.Proofs.YtjdccifdkjnknaaGreatDoor
open Go.RowKit Go.Sort
set_option maxRecDepth 100000 in
theorem segenc_sch (p:Nat→Prop) (v vl:Value) (s:Tess.Sch) (w:World) (hv:SA p w v s) (hok:Tess.sO s=false) :
  Calls Tryz.prog 11 #[v,vl] w fun e w'=>e = .returned (.tuple #[.string (Tess.mk []),.int .i64 100])∧Below w.heap.size w w':=by
 have HH:=Hd (fun (W:World) (hB:Below w.heap.size w W)=>ha4 p v s W (hv.ag (Ag.new p hB)))
 have HW:=Hd (show Tess.headW s=(ByteArray.empty,100) by unfold Tess.headW;rw [hok];rfl)
 obtain ⟨vd,vm,rfl,_⟩:=hv
 obtain ⟨g,hg⟩:∃ g,g=s.grain:=⟨_,rfl⟩
 rw [← hg] at HH ⊢
 clear hg
 go_enter Tryz.func11,Tryz.ntmps11
 go_wp2_with (go_at_call 18;refine (HH.out _ ((Below.refl _ _).alloc (Nat.le_refl _) _)).mono ?_;rintro e w1 ⟨rfl,Aa⟩;rw [HW.out];have Ab:=Hd (((Below.refl _ _).alloc (Nat.le_refl _) _).trans (Aa.mono (by simp)));clear Aa)
 go_ret2
 exact ⟨rfl,Ab.out⟩
set_option maxRecDepth 100000 in
theorem sc3 (p:Nat→Prop) (v vl:Value) (s:Tess.Sch) (w:World) (hv:SA p w v s) (hok:Tess.sO s=true)
  (hr:∀ W,Below w.heap.size w W→Calls Tryz.prog 17 #[v,vl] W fun e w'=>e = .returned (.bool false)∧Below W.heap.size W w') :
  Calls Tryz.prog 11 #[v,vl] w fun e w'=>e = .returned (.tuple #[.string (Tess.mk []),.int .i64 120])∧Below w.heap.size w w':=by
 have HH:=Hd (fun (W:World) (hB:Below w.heap.size w W)=>ha4 p v s W (hv.ag (Ag.new p hB)))
 have HW:=Hd (show Tess.headW s=(Tess.mk (Tess.hB13 s),0) by unfold Tess.headW;rw [hok];rfl)
 have HR:=Hd hr
 clear hr
 obtain ⟨vd,vm,rfl,_⟩:=hv
 obtain ⟨g,hg⟩:∃ g,g=s.grain:=⟨_,rfl⟩
 rw [← hg] at HH HR ⊢
 clear hg
 go_enter Tryz.func11,Tryz.ntmps11
 go_wp2_with (first
  | (go_at_call 18;refine (HH.out _ ((Below.refl _ _).alloc (Nat.le_refl _) _)).mono ?_;rintro e w1 ⟨rfl,Aa⟩;rw [HW.out];have k1:=(Aa.block w.heap.size (by simp)).trans (la2 w _).1;have c0:=cell_of_row _ _ 0 _ _ _ k1;have c1:=cell_of_row _ _ 1 _ _ _ k1;have c2:=cell_of_row _ _ 2 _ _ _ k1;simp at c0 c1 c2;have Ab:=Hd (((Below.refl _ _).alloc (Nat.le_refl _) _).trans (Aa.mono (by simp)));clear Aa k1)
  | (go_at_call 17;refine (HR.out _ Ab.out).mono ?_;rintro e w2 ⟨rfl,Ac⟩;have Ad:=Hd (Bt Ab.out Ac);clear Ac))
 go_ret2
 exact ⟨rfl,Ad.out⟩
end Go.Proofs.YtjdccifdkjnknaaGreatDoor
namespace Go.Proofs.YtjdccifdkjnknaaGreatDoor
open Go.RowKit Go.Sort Go.Shelf
open Tess (Fil)
end Go.Proofs.YtjdccifdkjnknaaGreatDoor
