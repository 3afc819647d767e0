/- Joined by mergeK.py: U11, U9, U14, U12p, K26, F40, K17 -/
import Derived.Test.YtjdccifdkjnknaaGreatDoorAC22
import Derived.Test.YtjdccifdkjnknaaGreatDoorAC24
import Derived.Test.YtjdccifdkjnknaaGreatDoorAC13
import Derived.Test.YtjdccifdkjnknaaGreatDoorAC01
import Derived.Test.YtjdccifdkjnknaaGreatDoorAC14
import Derived.Test.YtjdccifdkjnknaaGreatDoorAC03
import Derived.Test.YtjdccifdkjnknaaGreatDoorAC16
import Derived.Test.YtjdccifdkjnknaaGreatDoorAC06
import Derived.Test.YtjdccifdkjnknaaGreatDoorAC05
import Derived.Test.YtjdccifdkjnknaaGreatDoorAC21
import Derived.Test.YtjdccifdkjnknaaGreatDoorAC18
import Derived.Test.YtjdccifdkjnknaaGreatDoorAC19
import Derived.Test.YtjdccifdkjnknaaGreatDoorAC04
namespace Tess
open Go Go.RowKit Go.Proofs.YtjdccifdkjnknaaGreatDoor
def cS3 (D M:Nat) (C:List (CK×Pay)):List (List UInt8):=colT C :: ((List.range D).map (colD C) ++ (List.range M).map (colM C))
theorem dict_facts (C:List (CK×Pay)) (i:Nat) (hC:C.length≤1000) (hw:∀ y ∈ dW C i,y.size≤100):right (dO C i)=true∧∀ n ∈ iO C i (dO C i),n≤65535:=by
 obtain ⟨d,hd⟩:∃ d,dO C i=d:=⟨_,rfl⟩
 have Aa:∀ b,b ∈ d↔b ∈ dW C i:=fun b=>by rw [← hd];exact sWa _ b
 have Ac:d.length≤1000:=by
  rw [← hd]
  have h1:=sWf (dW C i)
  have h2:(dW C i).length≤C.length:=List.length_filterMap_le _ _
  unfold dO
  omega
 have Ab:Asc d:=by rw [← hd];exact up_asc (sWu _)
 rw [hd]
 refine ⟨right_of d Ac (fun y hy=>hw y ((Aa y).1 hy)) Ab,fun n hn => ?_⟩
 unfold iO at hn
 obtain ⟨x,hx,rfl⟩:=List.mem_map.1 hn
 cases hv:x.1.2.getD i none with
 | none=>unfold idOf;simp only;omega
 | some b=>
   obtain ⟨j,hj,e⟩:=List.getElem_of_mem ((Aa b).2 (List.mem_filterMap.2 ⟨x,hx,hv⟩))
   have e2:=pm3 d Ab j hj
   rw [e] at e2
   unfold idOf
   simp only
   omega
end Tess
namespace Go.Proofs.YtjdccifdkjnknaaGreatDoor
open Go.RowKit Go.Sort
open Tess (CK Pay)
attribute [local go_sem] Oper.semAt_some
def IterS (gf:FuncId) (lb:Array Value) (m:Nat) (vs:List (Array Value)) (q:Nat→Prop) (W0:World):Prop:=
 ∀ (l:Nat) (fn0:FuncId) (T:Array Value→Array Value) (A B:Code) (Inv:Nat→World→Prop),
   (∀ k W W',Inv k W→Below W.heap.size W W'→Inv k W')→(∀ k W,Inv k W→l < W.heap.size∧Ag q W0 W) →
   (∀ k W,Inv k W→∀ z:Array Value,z.size=m→(Instr.yield l z).run Tryz.prog W = .ok (.round l fn0 (T z) A B) W) →
   (∀ k W (hk:k < vs.length),Inv k W→RoundIn Fence.wide 5 Tryz.prog l fn0 (T vs[k]) A B W (fun e W'=>e = .returned (.bool true)∧Inv (k + 1) W')) →
   ∀ W,Inv 0 W→Calls Tryz.prog gf (#[.func (.yield l) #[] #[]] ++ lb) W fun e W'=>(∃ v,e = .returned v)∧Inv vs.length W'
set_option maxRecDepth 100000 in
set_option maxHeartbeats 4000000 in
theorem ci2 (b D M:Nat) (ad am:Option Addr) (capd capm:Nat) (g:Int) (vl:Value) (C:List (CK×Pay)) (p q:Nat→Prop) (hpq:∀ c,p c→q c) (W0:World)
  (h0:W0.heap[b]? = some (.cells #[.slice ad D capd,.slice am M capm,.int .i64 g] 24 (0,0))) (h1:W0.cell? ⟨b + 1,0,none⟩=some vl) (hb0:q b) (hb1:q (b + 1)) (hv:CA2 p W0 vl C) (hC:C.length≤1000)
  (hD:D≤6) (hM:M≤4) (hdl:∀ x ∈ C,x.1.2.length=D) (hw:∀ i,∀ y ∈ Tess.dW C i,y.size≤100) (hfew:∀ i,(Tess.colD C i).length≤1000000000)
  (hml:∀ x ∈ C,x.2.sums.length=M∧x.2.mins.length=M∧x.2.maxs.length=M) (h3:∀ m,m < M→∀ x ∈ C,I64 (wHi (x.2.sums.getD m 0))) (h5:∀ m,m < M→∀ x ∈ C,I64 (x.2.mins.getD m 0)) (h6:∀ m,m < M→∀ x ∈ C,I64 (x.2.maxs.getD m 0))
  (ht:∀ x ∈ C,I64 x.1.1) (hn:∀ x ∈ C,I64 x.2.n) :
  IterS 65 #[.pointer (some ⟨b + 1,0,none⟩),.pointer (some ⟨b,0,none⟩)] 1 ((Tess.cS3 D M C).map fun x=>#[.string (Tess.mk x)]) q W0:=by
 intro l By T A B Ac A0 Bf hy hr W hI
 have HI:=Hd hI
 have Aa:=Hd A0
 have An:=Hd Bf
 have HY:=Hd hy
 have HR:=Hd hr
 have HV:=Hd (fun k X (h:Ac k X)=>hv.ag ((An.out k X h).2.weak hpq))
 have Ak:=(Array.getElem?_eq_some_iff.1 h0).1
 have Ad:=World.block_lt_of_cell? W0 _ h1
 have Am:=Hd (fun k X (h:Ac k X)=>((An.out k X h).2.cell Ad hb1).trans h1)
 have Bh:=Hd (fun k X (h:Ac k X)=>((An.out k X h).2.2 b Ak hb0).trans h0)
 have HT:=Hd ht
 have HN:=Hd hn
 have Bx:=Hd hdl
 have Bt:=Hd hml
 have H3:=Hd h3
 have H5:=Hd h5
 have H6:=Hd h6
 have A4:=Hd hw
 have Ar:=Hd hfew
 obtain ⟨a,B0,rfl,_⟩:=hv.opened
 clear hI A0 Bf hy hr hv ht hn h0 h1 hdl hw hfew hml h3 h5 h6
 have c1:=Am.out 0 W HI.out
 obtain ⟨W1,Bp⟩:∃ W1,W.alloc (.cells #[.func (.func 67) #[] #[],.func (.func 68) #[] #[]] 117)=W1:=⟨_,rfl⟩
 obtain ⟨k1,A9,At⟩:=la2 W (.cells #[.func (.func 67) #[] #[],.func (.func 68) #[] #[]] 117)
 rw [Bp] at k1 A9 At
 have Bb:=Hd (Aa.out 0 W W1 HI.out At)
 have Bl:=Hd (colT_any p _ C W.heap.size 2 _ W1 (HV.out 0 W1 Bb.out) hC k1 HT.out HN.out)
 clear k1 A9 At
 refine (callsIn_wide (n:=5)).1 ?_
 refine callsIn_of_wp Tryz.func65 rfl trivial ?_ rfl
 simp only [Tryz.ntmps65,List.size_toArray,List.length_cons,List.length_nil,Nat.reduceAdd,Nat.reduceSub,Array.replicate_succ,Array.replicate_zero,List.push_toArray,List.append_toArray,List.nil_append,List.cons_append]
 gi_wp2_with (refine ⟨trivial,?_⟩;gi_at_call 66;refine (callsIn_wide.2 Bl.out).mono ?_;rintro e w2 ⟨rfl,Be⟩;have Af:=Hd (Aa.out 0 W1 w2 Bb.out Be);have Ae:=HY.out 0 w2 Af.out #[.string (Tess.mk (Tess.colT C))] rfl;clear Be)
 have A7:=Hd (HR.out 0 w2 (by simp [Tess.cS3]) Af.out)
 refine rIa (A7.out.mono ?_)
 clear Ae A7
 rintro e w3 ⟨rfl,hinv⟩
 have Ai:=Hd hinv
 clear hinv
 have c0:=cell_of_row _ _ 0 _ _ _ (Bh.out 1 w3 Ai.out)
 simp at c0
 gi_wp2
 gi_loopw [20] (fun i wr => ∃ k:Nat,k≤D∧i = .int .i64 k∧Ac (1 + k) wr) (fun i _=>D - (intOf i).toNat)
 case atStart=>exact ⟨0,Nat.zero_le _,rfl,Ai.out⟩
 case round=>
  obtain ⟨k,hk,rfl,hI⟩:=hrel
  have HJ:=Hd hI
  clear hI c0 c1
  by_cases hlt:k < D
  ·have Bj:(k:Int) < (D:Int):=by omega
   have c1:=Am.out _ wr HJ.out
   obtain ⟨Au,Ag⟩:=Tess.dict_facts C k hC (A4.out k)
   have Bm:=Hd Au
   have As:=Hd Ag
   have A1:∀ x ∈ C,k < x.1.2.length:=fun x hx=>by rw [Bx.out x hx];exact hlt
   have Bd:=Hd A1
   have A3:=Hd (show Tess.mk (Tess.encL (Tess.dO C k)) ++ Tess.mk (Tess.pN2 (Tess.iO C k (Tess.dO C k)))=Tess.mk (Tess.colD C k) from Tess.ma2 _ _)
   have hf:=Ar.out k
   have Bw:(Tess.mk (Tess.encL (Tess.dO C k))).size + (Tess.mk (Tess.pN2 (Tess.iO C k (Tess.dO C k)))).size≤9223372036854775807:=by
    rw [← ByteArray.size_append,A3.out,Tess.ms2]
    omega
   have Bk:=Hd (show Tess.encW (Tess.dO C k)=(Tess.mk (Tess.encL (Tess.dO C k)),0) by unfold Tess.encW;rw [if_pos Au];rfl)
   clear Au Ag A1 hf
   gi_wp2_with (first
    | (refine ⟨trivial,?_⟩;gi_at_call 69;refine (callsIn_wide.2 (words_any p _ C k wr (HV.out _ wr HJ.out) Bd.out hC (A4.out k))).mono ?_;rintro e w4 ⟨v,rfl,Av,Ah⟩;obtain ⟨av,cv,rfl,_⟩:=so2 Av;have Bc:=Hd Av;have Bu:=Hd (Aa.out _ _ w4 HJ.out Ah);clear Av Ah)
    | (refine ⟨trivial,?_⟩;gi_at_call 70;refine (callsIn_wide.2 (ea2 _ _ _ Bc.out)).mono ?_;rintro e w5 ⟨rfl,Ay⟩;rw [Bk.out];have Bo:=Hd (Bc.out.below Ay);have Ao:=Hd (Aa.out _ _ w5 Bu.out Ay);have c5:=Am.out _ w5 Ao.out;clear Ay)
    | (refine ⟨trivial,?_⟩;gi_at_call 72;refine (callsIn_wide.2 (ids_any p _ _ C _ k w5 (HV.out _ w5 Ao.out) Bo.out Bm.out Bd.out hC)).mono ?_;rintro e w6 ⟨a6,c6,rfl,Aj,Aq,Bg⟩;have Bz:=Hd Aq;have Bs:=Hd (Aa.out _ _ w6 Ao.out Bg);have Bi:=Hd (ppack_any a6 c6 (Tess.iO C k (Tess.dO C k)) w6 (by rw [Tess.iOl];exact Aq) (by rw [Tess.iOl];exact Aj) As.out (by rw [Tess.iOl];exact hC));rw [Tess.iOl] at Bi;clear Aq Bg)
    | (refine ⟨trivial,?_⟩;gi_at_call 71;refine (callsIn_wide.2 Bi.out).mono ?_;rintro e w7 ⟨rfl,A6⟩;have Ba:=Hd (Aa.out _ _ w7 Bs.out A6);have Ae:=HY.out _ w7 Ba.out #[.string (Tess.mk (Tess.encL (Tess.dO C k)) ++ Tess.mk (Tess.pN2 (Tess.iO C k (Tess.dO C k))))] rfl;clear A6))
   rw [A3.out]
   have hR:=HR.out (1 + k) w7 (by simp [Tess.cS3];omega) Ba.out
   have Ab:((Tess.cS3 D M C).map fun x=>#[Value.string (Tess.mk x)])[1 + k]'(by simp [Tess.cS3];omega)=#[.string (Tess.mk (Tess.colD C k))]:=by
    rw [List.getElem_map]
    unfold Tess.cS3
    simp only [Nat.add_comm 1 k,List.getElem_cons_succ]
    rw [List.getElem_append_left (by simpa using hlt),List.getElem_map,List.getElem_range]
   rw [Ab] at hR
   refine rIa (hR.mono ?_)
   clear hR Ae Ab c5 c1
   rintro e w8 ⟨rfl,hinv⟩
   have Aw:=Hd hinv
   clear hinv
   gi_wp2
   go_roundw
   case rel=>exact ⟨k + 1,by omega,by go_num,Aw.out⟩
   case measure=>simp [intOf];omega
  ·have Bj:¬ (k:Int) < (D:Int):=by omega
   obtain rfl:k=D:=by omega
   have c2:=cell_of_row _ _ 1 _ _ _ (Bh.out _ wr HJ.out)
   simp at c2
   gi_wp2
   gi_loopw [49] (fun i wr => ∃ m:Nat,m≤M∧i = .int .i64 m∧Ac (1 + k + m) wr) (fun i _=>M - (intOf i).toNat)
   case atStart=>exact ⟨0,Nat.zero_le _,rfl,HJ.out⟩
   case round=>
    clear c2
    obtain ⟨m,hm,rfl,hI⟩:=hrel
    have HJ:=Hd hI
    clear hI
    by_cases hlm:m < M
    ·have Bv:(m:Int) < (M:Int):=by omega
     obtain ⟨W2,Bn⟩:∃ W2,wr.alloc (.cells #[.int .i64 (m:Int)] 3)=W2:=⟨_,rfl⟩
     obtain ⟨k2,A5,Ap⟩:=la2 wr (.cells #[.int .i64 (m:Int)] 3)
     rw [Bn] at k2 A5 Ap
     have Af:=Hd (Aa.out _ wr W2 HJ.out Ap)
     have c1:=Am.out _ W2 Af.out
     obtain ⟨W3,Bq⟩:∃ W3,W2.alloc (.cells #[.func (.func 73) #[] #[.pointer (some ⟨wr.heap.size,0,none⟩)],.func (.func 74) #[] #[.pointer (some ⟨wr.heap.size,0,none⟩)],.func (.func 75) #[] #[.pointer (some ⟨wr.heap.size,0,none⟩)],.func (.func 76) #[] #[.pointer (some ⟨wr.heap.size,0,none⟩)]] 117)=W3:=⟨_,rfl⟩
     obtain ⟨k3,A2,Al⟩:=la2 W2 (.cells #[.func (.func 73) #[] #[.pointer (some ⟨wr.heap.size,0,none⟩)],.func (.func 74) #[] #[.pointer (some ⟨wr.heap.size,0,none⟩)],.func (.func 75) #[] #[.pointer (some ⟨wr.heap.size,0,none⟩)],.func (.func 76) #[] #[.pointer (some ⟨wr.heap.size,0,none⟩)]] 117)
     rw [Bq] at k3 A2 Al
     have Ai:=Hd (Aa.out _ W2 W3 Af.out Al)
     have Az:W3.cell? ⟨wr.heap.size,0,none⟩=some (.int .i64 (m:Int)):=(Al.cell (p:=⟨wr.heap.size,0,none⟩) (by show wr.heap.size < W2.heap.size;omega)).trans (cell_of_row _ _ 0 _ _ _ k2)
     have Br:=Hd (colM_any p _ C W2.heap.size wr.heap.size m 4 _ W3 (HV.out _ W3 Ai.out) hC k3 Az (fun x hx=>by
      obtain ⟨e1,e2,e3⟩:=Bt.out x hx
      omega) (H3.out m hlm) (H5.out m hlm) (H6.out m hlm))
     clear k2 A5 Ap k3 A2 Al Az
     gi_wp2_with (refine ⟨trivial,?_⟩;gi_at_call 66;refine (callsIn_wide.2 Br.out).mono ?_;rintro e w4 ⟨rfl,Ah⟩;have A8:=Hd (Aa.out _ W3 w4 Ai.out Ah);have Ae:=HY.out _ w4 A8.out #[.string (Tess.mk (Tess.colM C m))] rfl;clear Ah)
     have Ax:1 + k + m < ((Tess.cS3 k M C).map fun x=>#[Value.string (Tess.mk x)]).length:=by simp [Tess.cS3];omega
     have hR:=HR.out (1 + k + m) w4 Ax A8.out
     have Ab:((Tess.cS3 k M C).map fun x=>#[Value.string (Tess.mk x)])[1 + k + m]'Ax=#[.string (Tess.mk (Tess.colM C m))]:=by
      rw [List.getElem_map]
      unfold Tess.cS3
      simp only [show 1 + k + m=k + m + 1 by omega,List.getElem_cons_succ]
      rw [List.getElem_append_right (by simp),List.getElem_map,List.getElem_range]
      simp
     rw [Ab] at hR
     refine rIa (hR.mono ?_)
     clear hR Ae Ab c1
     rintro e w8 ⟨rfl,hinv⟩
     have Aw:=Hd hinv
     clear hinv
     gi_wp2
     go_roundw
     case rel=>exact ⟨m + 1,by omega,by go_num,Aw.out⟩
     case measure=>simp [intOf];omega
    ·have Bv:¬ (m:Int) < (M:Int):=by omega
     obtain rfl:m=M:=by omega
     gi_wp2
     go_end0
     refine ⟨⟨_,rfl⟩,?_⟩
     have e:(Tess.cS3 k m C).length=1 + k + m:=by simp [Tess.cS3];omega
     rw [e]
     exact HJ.out
end Go.Proofs.YtjdccifdkjnknaaGreatDoor
namespace Go.Proofs.YtjdccifdkjnknaaGreatDoor
open Go.RowKit Go.Sort
def colF (g:Nat):Value:=.func (.func 65) #[] #[.pointer (some ⟨g + 1,0,none⟩),.pointer (some ⟨g,0,none⟩)]
set_option maxRecDepth 100000 in
theorem columns_any (vd vm:Value) (g:Int) (a:Option Addr) (n c:Nat) (w:World) :
  Calls Tryz.prog 28 #[.agg #[vd,vm,.int .i64 g],.slice a n c] w fun e w'=>e = .returned (colF w.heap.size)∧Below w.heap.size w w'∧w'.heap[w.heap.size]? = some (.cells #[vd,vm,.int .i64 g] 24 (0,0))∧w'.heap[w.heap.size + 1]? = some (.cells #[.slice a n c] 28 (0,0))∧w'.heap.size=w.heap.size + 2:=by
 obtain ⟨k1,k2,kS,kB⟩:=la3 w (.cells #[vd,vm,.int .i64 g] 24) (.cells #[.slice a n c] 28)
 have K1:=Hd k1
 have K2:=Hd k2
 have KS:=Hd kS
 have KB:=Hd kB
 clear k1 k2 kS kB
 go_enter Tryz.func28,Tryz.ntmps28
 go_wp2
 go_ret
 exact ⟨rfl,KB.out,K1.out,K2.out,KS.out⟩
end Go.Proofs.YtjdccifdkjnknaaGreatDoor
namespace Go.Proofs.YtjdccifdkjnknaaGreatDoor
open Go.RowKit Go.Sort
open Tess (CK Pay)
attribute [local go_sem] Oper.semAt_some
set_option maxRecDepth 100000 in
set_option maxHeartbeats 4000000 in
theorem segenc_ok (p:Nat→Prop) (ad am a:Option Addr) (capd capm cap:Nat) (s:Tess.Sch) (C:List (CK×Pay)) (w:World) (hs:SA p w (.agg #[.slice ad s.dims.length capd,.slice am s.mets.length capm,.int .i64 s.grain]) s) (hok:Tess.sO s=true) (hv:CA2 p w (.slice a C.length cap) C)
  (hfs:∀ x ∈ (Tess.pS2 s C).map Tess.mk,x.size≤maxLen) (hfl:((Tess.pS2 s C).map Tess.mk).length≤1000)
  (hiter:∀ W0 b,Below w.heap.size w W0→W0.heap[b]? = some (.cells #[.slice ad s.dims.length capd,.slice am s.mets.length capm,.int .i64 s.grain] 24 (0,0))→W0.heap[b + 1]? = some (.cells #[.slice a C.length cap] 28 (0,0))→IterS 65 #[.pointer (some ⟨b + 1,0,none⟩),.pointer (some ⟨b,0,none⟩)] 1 ((Tess.cS3 s.dims.length s.mets.length C).map fun x=>#[.string (Tess.mk x)]) (fun x=>(p x∧x < w.heap.size)∨x=b∨x=b + 1) W0)
  (hr:∀ W,Below w.heap.size w W→Calls Tryz.prog 17 #[(.agg #[.slice ad s.dims.length capd,.slice am s.mets.length capm,.int .i64 s.grain]),(.slice a C.length cap)] W fun e w'=>e = .returned (.bool true)∧Below W.heap.size W w') :
  Calls Tryz.prog 11 #[(.agg #[.slice ad s.dims.length capd,.slice am s.mets.length capm,.int .i64 s.grain]),(.slice a C.length cap)] w fun e w'=>e = .returned (.tuple #[.string (Tess.jP ((Tess.pS2 s C).map Tess.mk)).1,.int .i64 ((Tess.jP ((Tess.pS2 s C).map Tess.mk)).2:Nat)])∧Below w.heap.size w w':=by
 have HH:=Hd (fun (W:World) (hB:Below w.heap.size w W)=>ha4 p _ s W (hs.ag (Ag.new p hB)))
 have HW:=Hd (show Tess.headW s=(Tess.mk (Tess.hB13 s),0) by unfold Tess.headW;rw [hok];rfl)
 have HR:=Hd hr
 have HV:=Hd hv
 clear hr
 have Cf:s.dims.length≤9223372036854775807:=by obtain ⟨_,_,e,hd,_⟩:=hs;cases e;obtain ⟨_,_,_,h⟩:=sl3 hd;exact h
 have Ca:s.mets.length≤9223372036854775807:=by obtain ⟨_,_,e,_,hm,_⟩:=hs;cases e;obtain ⟨_,_,_,h⟩:=sl3 hm;exact h
 have Ai:=Hd hiter
 clear hiter hv hs
 obtain ⟨g,hg⟩:∃ g,g=s.grain:=⟨_,rfl⟩
 rw [← hg] at HH HR Ai ⊢
 clear hg
 refine (callsIn_wide (n:=5)).1 ?_
 refine callsIn_of_wp_marks Tryz.func11 rfl trivial ?_ rfl
 simp only [Tryz.ntmps11,List.size_toArray,List.length_cons,List.length_nil,Nat.reduceAdd,Nat.reduceSub,Array.replicate_succ,Array.replicate_zero,List.push_toArray,List.append_toArray,List.nil_append,List.cons_append]
 gi_wp2_with (first
  | (refine ⟨trivial,?_⟩;gi_at_call 18;refine (callsIn_wide.2 (HH.out _ ((Below.refl _ _).alloc (Nat.le_refl _) _))).mono ?_;rintro e w1 ⟨rfl,Aw⟩;rw [HW.out];have k1:=(Aw.block w.heap.size (by simp)).trans (la2 w _).1;have c0:=cell_of_row _ _ 0 _ _ _ k1;have c1:=cell_of_row _ _ 1 _ _ _ k1;have c2:=cell_of_row _ _ 2 _ _ _ k1;simp at c0 c1 c2;have K1:=Hd k1;have A2:=Hd (((Below.refl _ _).alloc (Nat.le_refl _) _).trans (Aw.mono (by simp)));clear Aw k1)
  | (refine ⟨trivial,?_⟩;gi_at_call 17;refine (callsIn_wide.2 (HR.out _ A2.out)).mono ?_;rintro e w2 ⟨rfl,A5⟩;have k2:=(A5.block w.heap.size (Array.getElem?_eq_some_iff.1 K1.out).1).trans K1.out;have d0:=cell_of_row _ _ 0 _ _ _ k2;have d1:=cell_of_row _ _ 1 _ _ _ k2;have d2:=cell_of_row _ _ 2 _ _ _ k2;simp at d0 d1 d2;have Bn:=Hd k2;have Ax:=Hd (Bt A2.out A5);obtain ⟨W4,A8⟩:∃ W4,(w2.alloc (.cells #[.string (Tess.mk (Tess.hB13 s))] 9)).alloc (.cells #[.slice (some ⟨w2.heap.size,0,none⟩) 1 1] 22)=W4:=⟨_,rfl⟩;obtain ⟨l1,l2,lS,lB⟩:=la3 w2 (.cells #[.string (Tess.mk (Tess.hB13 s))] 9) (.cells #[.slice (some ⟨w2.heap.size,0,none⟩) 1 1] 22);rw [A8] at l1 l2 lS lB;have k4:=(lB.block w.heap.size (Array.getElem?_eq_some_iff.1 k2).1).trans k2;have e0:=cell_of_row _ _ 0 _ _ _ k4;have e1:=cell_of_row _ _ 1 _ _ _ k4;have e2:=cell_of_row _ _ 2 _ _ _ k4;simp at e0 e1 e2;have L1:=Hd l1;have L2:=Hd l2;have LS:=Hd lS;have LB:=Hd (Bt Ax.out lB);clear A5 k2 c0 c1 c2 K1 k4 l1 l2 lS lB)
  | (refine ⟨trivial,?_⟩;gi_at_call 28;refine (callsIn_wide.2 (columns_any _ _ _ a C.length cap W4)).mono ?_;rintro e w5 ⟨rfl,Bf,m1,m2,mS⟩;have Av:=Hd Bf;have M1:=Hd m1;have M2:=Hd m2;have MS:=Hd mS;clear Bf m1 m2 mS))
 obtain ⟨b,hb⟩:∃ b,b=w2.heap.size:=⟨_,rfl⟩
 have Bc:=LS.out
 have By:=MS.out
 have Bk:=Ax.out.size
 rw [← hb] at L1 L2 Bc Bk ⊢
 clear LS MS
 rw [Bc] at M1 M2 By ⊢
 have Al:=Hd (Bt LB.out Av.out)
 have Bv:=Hd ((Av.out.block b (by omega)).trans L1.out)
 have Bz:=Hd ((Av.out.block (b + 1) (by omega)).trans L2.out)
 have B0:=Hd (Ai.out w5 (b + 2) Al.out M1.out M2.out)
 clear hb e0 e1 e2 d0 d1 d2 A8 L1 L2 Bn LB Av Ax A2
 refine Rf.rw3 (gf:=65) (lb:=#[.pointer (some ⟨b + 2 + 1,0,none⟩),.pointer (some ⟨b + 2,0,none⟩)]) rfl (enters_of Tryz.func65 (by kernel_rfl) rfl) ?_
 intro fn W6 hL hD Aj Bq
 obtain ⟨Aa,Am,hL⟩:∃ Aa:Loop,Aa=_∧W6.heap[w5.heap.size + 1]? = some (.loop Aa):=⟨_,rfl,hL⟩
 have Ar:=Hd Am
 have Ay:Aa.state = .ready∧Aa.params.size=1∧Aa.pending=none:=by rw [Am];exact ⟨rfl,rfl,rfl⟩
 clear Am
 obtain ⟨Ay,B2,Bh⟩:=Ay
 have As:w5.heap.size=b + 4:=by omega
 rw [As] at hL hD Aj Bq Ar ⊢
 obtain ⟨F,hF⟩:∃ F,F=(Tess.pS2 s C).map Tess.mk:=⟨_,rfl⟩
 rw [← hF] at hfs hfl
 have Bp:=Hd hfs
 have A6:((Tess.cS3 s.dims.length s.mets.length C).map fun x=>#[Value.string (Tess.mk x)]).length + 1=F.length:=by rw [hF];simp [Tess.cS3,Tess.pS2]
 clear hfs
 have A0:=Hd hF
 clear hF
 obtain ⟨J,hJ⟩:∃ J:Nat→World→Prop,J=fun k X=>(∃ vo,X.heap[b + 1]? = some (.cells #[vo] 22 (0,0))∧X.ownsRow b 9 1 vo (k + 1) ((F.take (k + 1)).map Value.string))∧X.heap[b + 2]? = some (.cells #[.slice ad s.dims.length capd,.slice am s.mets.length capm,.int .i64 g] 24 (0,0))∧X.heap[b + 3]? = some (.cells #[.slice a C.length cap] 28 (0,0))∧X.heap[b + 4]? = some (.deferred (some []))∧X.heap[b + 4 + 1]? = some (.loop Aa)∧Below w.heap.size w X:=⟨_,rfl⟩
 have HJ:RowKit.Hid (∀ k X,J k X↔((∃ vo,X.heap[b + 1]? = some (.cells #[vo] 22 (0,0))∧X.ownsRow b 9 1 vo (k + 1) ((F.take (k + 1)).map Value.string))∧X.heap[b + 2]? = some (.cells #[.slice ad s.dims.length capd,.slice am s.mets.length capm,.int .i64 g] 24 (0,0))∧X.heap[b + 3]? = some (.cells #[.slice a C.length cap] 28 (0,0))∧X.heap[b + 4]? = some (.deferred (some []))∧X.heap[b + 4 + 1]? = some (.loop Aa)∧Below w.heap.size w X)):=Hd fun k X=>by rw [hJ]
 clear hJ
 have A4:w5.ownsRow b 9 1 (.slice (some ⟨b,0,none⟩) 1 1) 1 ((F.take 1).map Value.string):=by
  rw [A0.out]
  refine ⟨by simp [Tess.pS2],.inr ⟨b,1,_,rfl,Nat.le_refl _,Bv.out,by omega,by decide,by simp,by simp [Tess.pS2]⟩⟩
 have Bs:J 0 W6:=(HJ.out _ _).2 ⟨⟨_,(Aj.block _ (by omega)).trans Bz.out,ob2 A4 (by rw [As];exact Aj)⟩,(Aj.block _ (by omega)).trans M1.out,(Aj.block _ (by omega)).trans M2.out,hD,hL,Al.out.trans (Aj.mono (by omega))⟩
 refine callsIn_wide.2 ((B0.out (b + 4 + 1) Aa.fn (fun v=>(Aa.params.zip v).foldl (fun tmps (t,a)=>tmps.setIfInBounds t a) Aa.tmps) Aa.assign Aa.body J ?_ ?_ ?_ ?_ W6 Bs).mono ?_)
 ·intro k X X' h hb
  obtain ⟨⟨vo,h1,h2⟩,h3,h4,h5,h6,h7⟩:=(HJ.out _ _).1 h
  exact (HJ.out _ _).2 ⟨⟨vo,(hb.block _ (Array.getElem?_eq_some_iff.1 h1).1).trans h1,ob2 h2 hb⟩,(hb.block _ (Array.getElem?_eq_some_iff.1 h3).1).trans h3,(hb.block _ (Array.getElem?_eq_some_iff.1 h4).1).trans h4,(hb.block _ (Array.getElem?_eq_some_iff.1 h5).1).trans h5,(hb.block _ (Array.getElem?_eq_some_iff.1 h6).1).trans h6,Bt h7 hb⟩
 ·intro k X h
  obtain ⟨⟨vo,h1,h2⟩,h3,h4,h5,h6,h7⟩:=(HJ.out _ _).1 h
  have hx:=(Array.getElem?_eq_some_iff.1 h6).1
  refine ⟨hx,by omega,fun x hxl A7 => ?_⟩
  rcases A7 with ⟨A7,Bd⟩ | rfl | rfl
  ·exact (h7.block x Bd).trans (Al.out.block x Bd).symm
  ·exact h3.trans M1.out.symm
  ·exact h4.trans M2.out.symm
 ·intro k X h z hz
  obtain ⟨⟨vo,h1,h2⟩,h3,h4,h5,h6,h7⟩:=(HJ.out _ _).1 h
  exact run_yield h6 (by rw [B2,hz])
 ·intro k X hk h
  obtain ⟨⟨vo,h1,h2⟩,h3,h4,h5,h6,h7⟩:=(HJ.out _ _).1 h
  rw [List.length_map] at hk
  have H1:=Hd h1
  have H2:=Hd h2
  have H6:=Hd h6
  have HX:=Hd h
  have Bi:=Hd (HJ.out (k + 1))
  simp only [List.getElem_map]
  clear h h1 h2 h3 h4 h5 h6 h7
  refine Rf.rw2 (r:=Aa) ?_
  have Bo:=Ar.out
  subst Bo
  dsimp only
  gi_wp2_with (rw [Oper.semAt_eq _ _ _ (fun c h=>by cases h)];go_simp;try go_bits)
  refine ⟨H6.out,fun X2 Ah hl2 => ?_⟩
  have g1:=(Ah.block (b + 1) (by omega)).trans H1.out
  have e8:=(cob g1).1
  have Ap:X2.ownsRow b 9 1 vo (k + 1) ((F.take (k + 1)).map Value.string):=by
   obtain ⟨hl,h2 | ⟨g',Ac,Ao,Ak,An,Ad,r'⟩⟩:=H2.out
   ·exact ⟨hl,.inl h2⟩
   ·exact ⟨hl,.inr ⟨g',Ac,Ao,Ak,An,(Ah.block g' (fun e=>by subst e;rw [H6.out] at Ad;cases Ad)).trans Ad,r'⟩⟩
  obtain ⟨i0,hi,Bl,Bm,Bu⟩:=info_parts iS2
  have Ap:=Hd Ap
  have Cb:k < 1000:=by simp at A6;omega
  have Cc:b < X2.heap.size:=by have:=(Array.getElem?_eq_some_iff.1 g1).1;omega
  have A1:=(Array.getElem?_eq_some_iff.1 g1).1
  have Bj:=Hd (show vo.ownBlock≠some (b + 1) from fun e=>by
   obtain ⟨c,fz,h⟩:=ok3 Ap.out _ e
   rw [g1] at h
   cases h)
  have G1:=Hd g1
  have z8:=frozen_of_row X2 (b + 1) 0 _ _ g1
  have Bx:=Hd (show (F.take (k + 1 + 1)).map Value.string=(F.take (k + 1)).map Value.string ++ [Value.string (Tess.mk (Tess.cS3 s.dims.length s.mets.length C)[k])] by
   have hF:=A0.out
   rw [hF,List.take_succ_eq_append_getElem (show k + 1 < _ by rw [← hF];simp at A6;omega),List.map_append,List.getElem_map]
   rfl)
  have B5:=Hd hl2
  have Bg:=Hd Ah
  clear hl2 Ah
  generalize (Tess.cS3 s.dims.length s.mets.length C)[k]=x at *
  gi_wp2_with (gi_at_builtin;refine wpListIn_append_own _ rfl _ _ 22 rfl b 9 i0 (.string ByteArray.empty) 1 16 Tryz.underlying22 hi Bl Bm Bu rfl (by decide) _ _ _ rfl (Ap.out.alloc _) ⟨X2.heap.size,0,none⟩ 1 1 [.string (Tess.mk x)] rfl rfl (cell_one_new _ _ _) (by simp [Value.oneCell']) (by unfold maxLen;omega) (by omega) (by simp;omega) ?_;intro v' X3 Af Ab _;obtain ⟨av,nv,cv,rfl⟩:∃ a n c,v' = .slice a n c:=by { rcases Af.2 with ⟨hv,_⟩ | ⟨_,_,_,hv,_⟩ <;> exact ⟨_,_,_,hv⟩ };have g3:=(Ab.block (b + 1) (by simp;omega) (fun e=>Bj.out e.symm)).trans ((Lib.alloc_old X2 _ (b + 1) A1).trans G1.out);have e9:=(cob g3).1;have z9:=frozen_of_row X3 (b + 1) 0 _ _ g3;have G3:=Hd g3;have Bw:=Hd Af;have B6:=Hd Ab;clear Af Ab g3)
  obtain ⟨⟨Ce,q1,q2⟩,q3,q4,q5,q6,q7⟩:=(HJ.out k X).1 HX.out
  have Ah:=Bg.out
  have Be:=B6.out
  have Au:∀ (j:Nat) (ob:Obj),X2.heap[j]? = some ob→(∀ c fz,ob ≠ .cells c 9 fz)→X3.heap[j]? = some ob:=fun j ob h hn=>(Be.block j (by have:=(Array.getElem?_eq_some_iff.1 h).1;simp;omega) (fun e=>by obtain ⟨c,fz,h'⟩:=ok3 Ap.out _ e.symm;rw [h] at h';exact hn c fz (Option.some.inj h'))).trans ((Lib.alloc_old X2 _ j (Array.getElem?_eq_some_iff.1 h).1).trans h)
  obtain ⟨X4,At⟩:∃ X4,X3.setCell ⟨b + 1,0,none⟩ (.slice av nv cv)=X4:=⟨_,rfl⟩
  have Ae:∀ j,j≠b + 1→X4.heap[j]? = X3.heap[j]? := fun j hj=>by rw [← At,heap_setCell_other _ _ _ _ (show j≠b + 1 from hj)]
  have A9:=(Ae (b + 4 + 1) (by omega)).trans (Au _ _ B5.out (by intro c fz e;cases e))
  have B1:X4.heap[b + 1]? = some (.cells #[.slice av nv cv] 22 (0,0)):=by rw [← At];exact heap_setCell_same _ _ 0 _ _ (.slice av nv cv) G3.out
  have B9:X4.ownsRow b 9 1 (.slice av nv cv) (k + 1 + 1) ((F.take (k + 1 + 1)).map Value.string):=by
   rw [Bx.out]
   obtain ⟨hl,h2 | ⟨g',Ac,Ao,Ak,An,Ad,r'⟩⟩:=Bw.out
   ·exact ⟨hl,.inl h2⟩
   ·exact ⟨hl,.inr ⟨g',Ac,Ao,Ak,An,(Ae g' (fun e=>by subst e;rw [G3.out] at Ad;cases Ad)).trans Ad,r'⟩⟩
  have B3:∀ g',vo.ownBlock=some g'→w.heap.size≤g':=fun g' e=>by
   obtain ⟨_,⟨h2,_⟩ | ⟨Cd,Ac,Ao,Ak,An,_⟩⟩:=Ap.out
   ·rw [h2] at e;simp [Value.ownBlock] at e
   ·rw [Ak] at e;simp [Value.ownBlock] at e;omega
  have Aj:Below w.heap.size w X4:=by rw [← At];exact ((((q7.trans (Ah.below (by omega))).alloc (by omega) _).grown Be (by simp;omega) B3)).setCell (by show _≤b + 1;omega) _
  rw [At]
  exact ⟨A9,fun X7 hs7 hl7=>⟨rfl,(Bi.out X7).2 ⟨⟨.slice av nv cv,(hs7.block _ (by omega)).trans B1,hs7.owns B9 A9 rfl⟩,(hs7.block _ (by omega)).trans ((Ae _ (by omega)).trans (Au _ _ ((Ah.block _ (by omega)).trans q3) (by intro c fz e;cases e))),(hs7.block _ (by omega)).trans ((Ae _ (by omega)).trans (Au _ _ ((Ah.block _ (by omega)).trans q4) (by intro c fz e;cases e))),(hs7.block _ (by omega)).trans ((Ae _ (by omega)).trans (Au _ _ ((Ah.block _ (by omega)).trans q5) (by intro c fz e;cases e))),hl7,Aj.trans (hs7.below (by omega))⟩⟩⟩
 ·rintro e W8 ⟨⟨vv,rfl⟩,h⟩
  obtain ⟨⟨vo,h1,h2⟩,h3,h4,h5,h6,h7⟩:=(HJ.out _ _).1 h
  refine ⟨⟨_,rfl⟩,Aa,h6,by rw [Ay];decide,?_⟩
  intro W9 Aq
  rw [Bh]
  dsimp only
  have Ba:W9.ownsRow b 9 1 vo F.length (F.map Value.string):=by
   rw [A6,List.take_length] at h2
   obtain ⟨hl,h2 | ⟨g',Ac,Ao,Ak,An,Ad,r'⟩⟩:=h2
   ·exact ⟨hl,.inl h2⟩
   ·exact ⟨hl,.inr ⟨g',Ac,Ao,Ak,An,(Aq.block g' (fun e=>by subst e;rw [h6] at Ad;cases Ad)).trans Ad,r'⟩⟩
  have g1:=(Aq.block (b + 1) (by omega)).trans h1
  have e8:=(cob g1).1
  have Bb:=(Aq.block (b + 4) (by omega)).trans h5
  have B7:=h7.trans (Aq.below (by omega))
  have B4:=Hd (join2_any vo F W9 (SlOf.owned Ba) Bp.out hfl)
  clear h1 h2 h3 h4 h5 h6 h7 Aq g1 Ba
  gi_wp2_with (refine ⟨trivial,?_⟩;gi_at_call 29;refine (callsIn_wide.2 B4.out).mono ?_;rintro e wz ⟨rfl,Az⟩;have B8:=Hd (Bt B7 Az);have Br:=(Az.block _ (Array.getElem?_eq_some_iff.1 Bb).1).trans Bb;clear Az)
  have A3:=Hd (B8.out.trans ((Rf.SB.put wz (b + 4) (.deferred none)).below (show w.heap.size≤b + 4 by omega)))
  refine ⟨by simp,.inl ⟨_,_,rfl,run_takeDeferred Br,?_⟩⟩
  refine ⟨.tuple #[.string (Tess.jP F).1,.int .i64 ((Tess.jP F).2:Nat)],by simp [results,Tryz.results11,go_sem],by rw [A0.out],A3.out⟩
end Go.Proofs.YtjdccifdkjnknaaGreatDoor
namespace Tess
open Go Kl Go.RowKit Go.Proofs.YtjdccifdkjnknaaGreatDoor
theorem colD_all (C:List (CK×Pay)) (hC:C.length≤1000) (i:Nat) (hw:∀ y ∈ dW C i,y.size≤100):(colD C i).length≤1000000000:=by
 unfold colD
 rw [List.length_append,pNl,List.length_map,eLf,List.length_append]
 have hd:=dict_few C i
 have e1:=pLt (n:=(dO C i).length) (by omega)
 have e2:=enc_few (dO C i) w0 (fun z hz=>hw z ((sWa _ z).1 hz))
 have e3:=pLt (n:=C.length) (by omega)
 have e4:widN (C.map fun x=>idOf (dO C i) (x.1.2.getD i none))≤16:=wNl _ fun n hn=>by
  obtain ⟨x,hx,rfl⟩:=List.mem_map.1 hn
  cases x.1.2.getD i none with
  | none=>show (dO C i).length≤65535;omega
  | some b=>
    have:place (dO C i) b≤(dO C i).length:=List.findIdx_le_length
    show place (dO C i) b≤65535
    omega
 have e5:sP C.length (widN (C.map fun x=>idOf (dO C i) (x.1.2.getD i none)))≤2001:=by
  unfold sP
  have:=Nat.mul_le_mul hC e4
  omega
 omega
end Tess
namespace Go.Proofs.YtjdccifdkjnknaaGreatDoor
open Go.RowKit Go.Sort
open Tess (CK Pay)
def fullList (q:CK×Pay→Bool) (l:List (CK×Pay)) (a:Option Addr) (w:World):Prop:=
 ∀ k (hk:k < l.length),∃ b off,a=some ⟨b,off,none⟩∧b < w.heap.size∧∃ c0 c1 c2 c3 c4 c5,(w.cell? ⟨b,off + k * 6,none⟩=some c0∧w.cell? ⟨b,off + k * 6 + 1,none⟩=some c1∧w.cell? ⟨b,off + k * 6 + 2,none⟩=some c2∧w.cell? ⟨b,off + k * 6 + 3,none⟩=some c3∧w.cell? ⟨b,off + k * 6 + 4,none⟩=some c4∧w.cell? ⟨b,off + k * 6 + 5,none⟩=some c5) ∧
   ∀ W,Below w.heap.size w W→Calls Tryz.prog 61 #[.agg #[c0,c1,c2,c3,c4,c5]] W fun e w'=>e = .returned (.bool (q l[k]))∧Below W.heap.size W w'
set_option maxHeartbeats 1000000 in
theorem index_full (q:CK×Pay→Bool) (l:List (CK×Pay)) (a:Option Addr) (cap:Nat) (w:World) (hlen:l.length≤maxLen) (hc:fullList q l a w) :
  Calls Tryz.prog 88 #[.slice a l.length cap,.func (.func 61) #[] #[]] w fun e w' => ∃ i:Int,e = .returned (.int .i64 i)∧decide (0≤i)=l.any q∧Below w.heap.size w w':=by
 have HC:=Hd hc
 have Ag:l.length≤9223372036854775807:=by unfold maxLen at hlen;omega
 clear hc hlen
 go_enter Tryz.func88,Tryz.ntmps88
 go_wp2
 go_loopw [8] (fun i wr => ∃ k:Nat,k≤l.length∧i = .int .i64 k∧(∀ j (hj:j < l.length),j < k→q l[j]=false)∧Below w.heap.size w wr) (fun i _=>l.length - (intOf i).toNat)
 case atStart=>exact ⟨0,Nat.zero_le _,rfl,fun j _ h=>absurd h (Nat.not_lt_zero _),Below.refl _ _⟩
 case round=>
  obtain ⟨k,hk,rfl,Ac,hB⟩:=hrel
  have HA:=Hd Ac
  have HB:=Hd hB
  clear Ac hB
  by_cases hlt:k < l.length
  ·obtain ⟨b,Aa,rfl,hb,c0,c1,c2,c3,c4,c5,⟨g0,g1,g2,g3,g4,g5⟩,Ab⟩:=HC.out k hlt
   have e0:wr.cell? ⟨b,Aa + k * 6,none⟩=some c0:=(HB.out.cell (p:=⟨b,Aa + k * 6,none⟩) hb).trans g0
   have e1:wr.cell? ⟨b,Aa + k * 6 + 1,none⟩=some c1:=(HB.out.cell (p:=⟨b,Aa + k * 6 + 1,none⟩) hb).trans g1
   have e2:wr.cell? ⟨b,Aa + k * 6 + 2,none⟩=some c2:=(HB.out.cell (p:=⟨b,Aa + k * 6 + 2,none⟩) hb).trans g2
   have e3:wr.cell? ⟨b,Aa + k * 6 + 3,none⟩=some c3:=(HB.out.cell (p:=⟨b,Aa + k * 6 + 3,none⟩) hb).trans g3
   have e4:wr.cell? ⟨b,Aa + k * 6 + 4,none⟩=some c4:=(HB.out.cell (p:=⟨b,Aa + k * 6 + 4,none⟩) hb).trans g4
   have e5:wr.cell? ⟨b,Aa + k * 6 + 5,none⟩=some c5:=(HB.out.cell (p:=⟨b,Aa + k * 6 + 5,none⟩) hb).trans g5
   have HX:=Hd Ab
   clear g0 g1 g2 g3 g4 g5 Ab
   have Af:(k:Int) < (l.length:Int):=by omega
   cases hyx:q l[k]
   ·rw [hyx] at HX
    have HY:=Hd hyx
    clear hyx
    go_wp2_with (go_at_call 61;refine (HX.out _ HB.out).mono ?_;rintro e w2 ⟨rfl,Ad⟩;have Ae:=Hd Ad;clear Ad)
    go_roundw
    case rel=>
     refine ⟨k + 1,by omega,by go_num,fun j hj hjk => ?_,Bt HB.out Ae.out⟩
     by_cases hjk':j < k
     ·exact HA.out j hj hjk'
     ·obtain rfl:j=k:=by omega
      exact HY.out
    case measure=>simp [intOf];omega
   ·rw [hyx] at HX
    have HY:=Hd hyx
    clear hyx
    go_wp2_with (go_at_call 61;refine (HX.out _ HB.out).mono ?_;rintro e w2 ⟨rfl,Ad⟩;have Ae:=Hd Ad;clear Ad)
    go_ret
    refine ⟨(k:Int),rfl,?_,Bt HB.out Ae.out⟩
    rw [decide_eq_true (by omega),eq_comm,List.any_eq_true]
    exact ⟨l[k],List.getElem_mem hlt,HY.out⟩
  ·have Af:¬ (k:Int) < (l.length:Int):=by omega
   go_wp2
   go_ret
   refine ⟨-1,rfl,?_,HB.out⟩
   rw [decide_eq_false (by omega),eq_comm,List.any_eq_false]
   intro y hy
   obtain ⟨j,hj,rfl⟩:=List.getElem_of_mem hy
   rw [HA.out j hj (by omega)];simp
theorem cf3 (q:CK×Pay→Bool) (l:List (CK×Pay)) (a:Option Addr) (cap:Nat) (w:World) (hlen:l.length≤maxLen) (hc:fullList q l a w) :
  Calls Tryz.prog 36 #[.slice a l.length cap,.func (.func 61) #[] #[]] w fun e w'=>e = .returned (.bool (l.any q))∧Below w.heap.size w w':=by
 have HI:=Hd (index_full q l a cap w hlen hc)
 clear hc
 go_enter Tryz.func36,Tryz.ntmps36
 go_wp2_with (go_at_call 88;refine HI.out.mono ?_;rintro e w2 ⟨i,rfl,hi,hB⟩;have HH:=Hd hi;have HB:=Hd hB;clear hi hB)
 go_ret
 refine ⟨?_,HB.out⟩
 rw [← HH.out];rfl
set_option maxHeartbeats 1000000 in
theorem full1_any (t n:Int) (ad a3 a4 a5:Option Addr) (dn dc n3 c3 n4 c4 n5 c5:Nat) (W:World) :
  Calls Tryz.prog 61 #[.agg #[.int .i64 t,.slice ad dn dc,.int .i64 n,.slice a3 n3 c3,.slice a4 n4 c4,.slice a5 n5 c5]] W fun e w'=>e = .returned (.bool (decide (1000000 < n)))∧Below W.heap.size W w':=by
 obtain ⟨W0,Aa⟩:∃ W0,W.alloc (.cells #[.int .i64 t,.slice ad dn dc,.int .i64 n,.slice a3 n3 c3,.slice a4 n4 c4,.slice a5 n5 c5] 56)=W0:=⟨_,rfl⟩
 obtain ⟨k0,kS,kB⟩:=la2 W (.cells #[.int .i64 t,.slice ad dn dc,.int .i64 n,.slice a3 n3 c3,.slice a4 n4 c4,.slice a5 n5 c5] 56)
 rw [Aa] at k0 kS kB
 obtain ⟨⟨f0,f1,f2,f3,f4,f5⟩,_⟩:=can6 k0
 go_enter Tryz.func61,Tryz.ntmps61
 go_wp2
 go_ret
 exact ⟨rfl,kB⟩
set_option maxHeartbeats 2000000 in
theorem ends_any (p:Nat→Prop) (va:Value) (L:List (CK×Pay)) (w:World) (hv:CA2 p w va L) (hl:L.length≤1000) (hn:∀ x ∈ L,x.2.n≤1000000) :
  Calls Tryz.prog 25 #[va] w fun e w'=>e = .returned (.tuple #[va,.int .i64 0])∧Below w.heap.size w w':=by
 obtain ⟨a,Af,rfl,_,hm,_,hc⟩:=LA.open hv
 have HC:=Hd (cf3 (fun x=>decide (1000000 < x.2.n)) L a Af w hm (fun k hk=>by
  obtain ⟨b,Ae,h1,h2,_,cs,_,Ab,Aa⟩:=hc k hk
  obtain ⟨ad,cd,a3,c3,a4,c4,a5,c5,rfl,_⟩:=Ab.shapes
  exact ⟨b,Ae,h1,h2,_,_,_,_,_,_,⟨Aa 0 (by omega),Aa 1 (by omega),Aa 2 (by omega),Aa 3 (by omega),Aa 4 (by omega),Aa 5 (by omega)⟩,fun W _=>full1_any _ _ _ _ _ _ _ _ _ _ _ _ _ _ W⟩))
 have hf:L.any (fun x=>decide (1000000 < x.2.n))=false:=List.any_eq_false.2 fun x hx=>by have:=hn x hx;simp;omega
 rw [hf] at HC
 have Ag:¬ (1000:Int) < (L.length:Int):=by omega
 clear hc hv
 go_enter Tryz.func25,Tryz.ntmps25
 go_wp2_with (go_at_call 36;refine HC.out.mono ?_;rintro e w2 ⟨rfl,Ac⟩;have Ad:=Hd Ac;clear Ac)
 go_ret2
 exact ⟨rfl,Ad.out⟩
end Go.Proofs.YtjdccifdkjnknaaGreatDoor
namespace Go.Proofs.YtjdccifdkjnknaaGreatDoor
open Go.RowKit Go.Sort
open Tess (Fil)
def oC (s:Tess.Sch) (t:Int) (l:List Tess.Val) (n:Nat):Int:=if Tess.sO s then (if Tess.rowFits s t l n then 0 else 101) else 100
theorem slp_int_at {p:Nat→Prop} {w:World} {a:Option Addr} {n c:Nat} {ns:List Int} (h:SlP p w (.slice a n c) (ns.map (.int .i64))) (k:Nat) (hk:k < ns.length):∃ b off,a=some ⟨b,off,none⟩∧b < w.heap.size∧w.cell? ⟨b,off + k,none⟩=some (.int .i64 ns[k]):=by
 obtain ⟨⟨_,a',c',e,hc⟩,_,_⟩:=h
 simp only [Value.slice.injEq] at e
 obtain ⟨rfl,_,_⟩:=e
 obtain ⟨b,off,ha,hb,Aa⟩:=hc (by simp;omega)
 exact ⟨b,off,ha,hb,by rw [Aa k (by simpa using hk),List.getElem_map]⟩
end Go.Proofs.YtjdccifdkjnknaaGreatDoor
namespace Go.Proofs.YtjdccifdkjnknaaGreatDoor
open Go.RowKit Go.Sort
open Tess (CK Pay)
theorem rIo {p:Nat→Prop} {w:World} {a:Option Addr} {c:Nat} {ns:List Int} (h:SlP p w (.slice a ns.length c) (ns.map (.int .i64))) (hc:ns.length≤c):RA 1 intF p w (.slice a ns.length c) ns:=by
 obtain ⟨⟨h0,a',c',hv,Aa⟩,hp,hn⟩:=h
 simp only [Value.slice.injEq] at hv
 obtain ⟨rfl,_,rfl⟩:=hv
 rw [List.length_map] at h0
 refine ⟨a,c,rfl,h0,hc,(fun e=>by subst e;exact hn _ _ rfl),fun hl => ?_⟩
 obtain ⟨b,Ac,rfl,hb,Ab⟩:=Aa (by simpa using hl)
 refine ⟨b,Ac,rfl,hb,hp (by simpa using hl) b rfl,fun j hj i hi => ?_⟩
 obtain rfl:i=0:=by omega
 rw [Nat.mul_one,Nat.add_zero,Ab j (by simpa using hj)]
 simp [intF]
def OfPost (s:Tess.Sch) (r:Tess.Row) (N:Nat) (w':World) (cs:List Value):Prop:=(Tess.Row.ok s r=true∧CA3 (fun b=>N≤b) w' cs (Tess.Row.kp s.grain r))∨(Tess.Row.ok s r=false∧cs=[.int .i64 0,.slice none 0 0,.int .i64 0,.slice none 0 0,.slice none 0 0,.slice none 0 0])
set_option maxRecDepth 100000 in
set_option maxHeartbeats 4000000 in
theorem of6_any (p:Nat→Prop) (vs vr:Value) (s:Tess.Sch) (r:Tess.Row) (w:World) (hs:SA p w vs s) (hr:RA3 p w vr r.t r.l r.ns) (hll:r.l.length≤1000) (hnl:r.ns.length≤1000) (hrg:r.rng) :
  Calls Tryz.prog 24 #[vs,vr] w fun e w' => ∃ cs:List Value,e = .returned (.tuple #[.agg cs.toArray,.int .i64 (oC s r.t r.l r.ns.length)])∧OfPost s r w.heap.size w' cs∧Below w.heap.size w w':=by
 obtain ⟨t,l,ns⟩:=r
 simp only at hr hll hnl ⊢
 have Bx:=Hd (show ∀ k (h:k < ns.length),I64 ns[k] from fun k h=>hrg _ (List.getElem_mem h))
 have A5:=Hd (show Tess.rowFits s t l ns.length=true→(l.map Tess.Val.c).map Tess.valOf=l from fun h=>Tess.vOc (by unfold Tess.rowFits at h;simp only [Bool.and_eq_true] at h;exact h.2))
 clear hrg
 have HR:=Hd (fun W (hB:Below w.heap.size w W)=>sRa vs s p W (hs.ag (Ag.new p hB)))
 have HF:=Hd (fun W (hB:Below w.heap.size w W)=>sFa p vs vr s t l ns W (hs.ag (Ag.new p hB)) (hr.ag (Ag.new p hB)))
 obtain ⟨vd,vm,rfl,hd,hm,_,_⟩:=hs
 obtain ⟨ad,As,rfl,_⟩:=sl3 hd
 obtain ⟨am,Ar,rfl,_⟩:=sl3 hm
 obtain ⟨Cp,na,nc,rfl,Cs,hv,hn⟩:=hr
 have HV:=Hd hv
 have HN:=Hd hn
 obtain ⟨da,dc,rfl,_,_,_,_⟩:=hv
 clear hd hm hn
 obtain ⟨W0,Aw⟩:∃ W0,((w.alloc (.cells #[.slice ad s.dims.length As,.slice am s.mets.length Ar,.int .i64 s.grain] 24)).alloc (.cells #[.int .i64 t,.slice da l.length dc,.slice na ns.length nc] 51)).alloc (.cells #[.int .i64 0,.slice none 0 0,.int .i64 0,.slice none 0 0,.slice none 0 0,.slice none 0 0] 56)=W0:=⟨_,rfl⟩
 obtain ⟨h0,h1,h2,hS,hB⟩:=laid3 w (.cells #[.slice ad s.dims.length As,.slice am s.mets.length Ar,.int .i64 s.grain] 24) (.cells #[.int .i64 t,.slice da l.length dc,.slice na ns.length nc] 51) (.cells #[.int .i64 0,.slice none 0 0,.int .i64 0,.slice none 0 0,.slice none 0 0,.slice none 0 0] 56)
 rw [Aw] at h0 h1 h2 hS hB
 rw [show w.heap.size + 2=w.heap.size + 1 + 1 by omega] at h2
 obtain ⟨⟨x0,x1,x2⟩,_⟩:=can3 h0
 have HB:=Hd hB
 have Cd:=Hd hS
 have HC:=Hd (fun W (hW:Below W0.heap.size W0 W)=>And.intro ((hW.block _ (by omega)).trans h0) (And.intro ((hW.block _ (by omega)).trans h1) ((hW.block _ (by omega)).trans h2)))
 clear h0 h1 h2 hS hB
 cases hok:Tess.sO s
 ·rw [hok] at HR
  have Ab:oC s t l ns.length=100:=by unfold oC;rw [hok];rfl
  have Aa:Tess.rowFits s t l ns.length=false:=by unfold Tess.rowFits;rw [hok];simp
  have Ao:=Hd (show Tess.Row.ok s ⟨t,l,ns⟩=false from Aa)
  rw [Ab]
  clear Ab Aa
  go_enter Tryz.func24,Tryz.ntmps24
  go_wp2_with (fail)
  go_at_call 23
  refine (HR.out W0 HB.out).mono ?_
  rintro e w1 ⟨rfl,Ae⟩
  obtain ⟨_,_,q2⟩:=HC.out w1 Ae
  obtain ⟨_,f0,f1,f2,f3,f4,f5⟩:=can6 q2
  clear x0 x1 x2 Aw
  go_wp2_with (fail)
  have Af:=Bt HB.out Ae
  have q1:=set6 (.int .i64 0) (.slice none 0 0) (.int .i64 0) (.slice none 0 0) (.slice none 0 0) (.slice none 0 0) q2
  have qB:=sb2 (.int .i64 0) (.slice none 0 0) (.int .i64 0) (.slice none 0 0) (.slice none 0 0) (.slice none 0 0) Af (show w.heap.size≤w.heap.size + 1 + 1 by omega)
  obtain ⟨⟨e0,e1,e2,e3,e4,e5⟩,_⟩:=can6 q1
  refine bodyPost_ret (v:=.tuple #[.agg #[.int .i64 0,.slice none 0 0,.int .i64 0,.slice none 0 0,.slice none 0 0,.slice none 0 0],.int .i64 100]) (by simp [results,Tryz.results24,go_sem,e0,e1,e2,e3,e4,e5]) rfl ⟨[.int .i64 0,.slice none 0 0,.int .i64 0,.slice none 0 0,.slice none 0 0,.slice none 0 0],rfl,.inr ⟨Ao.out,rfl⟩,qB⟩
 ·rw [hok] at HR
  cases Aa:Tess.rowFits s t l ns.length
  ·rw [Aa] at HF
   have Ab:oC s t l ns.length=101:=by unfold oC;rw [hok,Aa];rfl
   have Ao:=Hd (show Tess.Row.ok s ⟨t,l,ns⟩=false from Aa)
   rw [Ab]
   clear Ab
   go_enter Tryz.func24,Tryz.ntmps24
   go_wp2_with (fail)
   go_at_call 23
   refine (HR.out W0 HB.out).mono ?_
   rintro e w1 ⟨rfl,Ae⟩
   obtain ⟨q0,q1,_⟩:=HC.out w1 Ae
   clear x0 x1 x2 Aw
   obtain ⟨⟨x0,x1,x2⟩,_⟩:=can3 q0
   obtain ⟨⟨y0,y1,y2⟩,_⟩:=can3 q1
   have Am:=Hd Ae
   clear q0 q1 Ae
   go_wp2_with (fail)
   go_at_call 57
   refine (HF.out w1 (Bt HB.out Am.out)).mono ?_
   rintro e w2 ⟨rfl,Af⟩
   have Af:=Bt Am.out Af
   obtain ⟨_,_,q2⟩:=HC.out w2 Af
   obtain ⟨_,f0,f1,f2,f3,f4,f5⟩:=can6 q2
   clear x0 x1 x2 y0 y1 y2
   go_wp2_with (fail)
   have q1:=set6 (.int .i64 0) (.slice none 0 0) (.int .i64 0) (.slice none 0 0) (.slice none 0 0) (.slice none 0 0) q2
   have qB:=sb2 (.int .i64 0) (.slice none 0 0) (.int .i64 0) (.slice none 0 0) (.slice none 0 0) (.slice none 0 0) (Bt HB.out Af) (show w.heap.size≤w.heap.size + 1 + 1 by omega)
   obtain ⟨⟨e0,e1,e2,e3,e4,e5⟩,_⟩:=can6 q1
   refine bodyPost_ret (v:=.tuple #[.agg #[.int .i64 0,.slice none 0 0,.int .i64 0,.slice none 0 0,.slice none 0 0,.slice none 0 0],.int .i64 101]) (by simp [results,Tryz.results24,go_sem,e0,e1,e2,e3,e4,e5]) rfl ⟨[.int .i64 0,.slice none 0 0,.int .i64 0,.slice none 0 0,.slice none 0 0,.slice none 0 0],rfl,.inr ⟨Ao.out,rfl⟩,qB⟩
  ·rw [Aa] at HF
   have Bs:=Hd (A5.out Aa)
   have Ao:=Hd (show Tess.Row.ok s ⟨t,l,ns⟩=true from Aa)
   have Ab:oC s t l ns.length=0:=by unfold oC;rw [hok,Aa];rfl
   rw [Ab]
   have Ai:(0≤t∧t≤1000000000000)∧(1≤s.grain∧s.grain≤1000000000):=by
    unfold Tess.rowFits at Aa
    unfold Tess.sO at hok
    simp only [Bool.and_eq_true,decide_eq_true_eq] at Aa hok
    exact ⟨⟨Aa.1.1.1.1.2,Aa.1.1.1.2⟩,hok.1.1.2,hok.1.2⟩
   have HG:=Hd (fun W=>gCa t s.grain W Ai.1 Ai.2)
   generalize hT:t - t % s.grain=T at *
   have By:=Hd hT
   clear Ab Ai hok Aa hT
   go_enter Tryz.func24,Tryz.ntmps24
   go_wp2_with (fail)
   go_at_call 23
   refine (HR.out W0 HB.out).mono ?_
   rintro e w1 ⟨rfl,Ae⟩
   obtain ⟨q0,q1,_⟩:=HC.out w1 Ae
   clear x0 x1 x2 Aw
   obtain ⟨⟨x0,x1,x2⟩,_⟩:=can3 q0
   obtain ⟨⟨y0,y1,y2⟩,_⟩:=can3 q1
   have Am:=Hd Ae
   clear q0 q1 Ae
   go_wp2_with (fail)
   go_at_call 57
   refine (HF.out w1 (Bt HB.out Am.out)).mono ?_
   rintro e w2 ⟨rfl,Af⟩
   have A8:=Hd (Bt Am.out Af)
   clear x0 x1 x2 y0 y1 y2 Af
   obtain ⟨q0,q1,_⟩:=HC.out w2 A8.out
   obtain ⟨⟨x0,x1,x2⟩,_⟩:=can3 q0
   obtain ⟨⟨y0,y1,y2⟩,_⟩:=can3 q1
   clear q0 q1
   go_wp2_with (fail)
   go_at_call 58
   refine (HG.out w2).mono ?_
   rintro e w3 ⟨rfl,Bl⟩
   have A7:=Hd (Bt A8.out Bl)
   clear x0 x1 x2 y0 y1 y2 Bl
   obtain ⟨q0,q1,q2⟩:=HC.out w3 A7.out
   obtain ⟨⟨y0,y1,y2⟩,_⟩:=can3 q1
   obtain ⟨W4,Bf⟩:∃ W4,w3.alloc (.cells #[.int .i64 T,.slice da l.length dc,.int .i64 1,.slice none 0 0,.slice na ns.length nc,.slice na ns.length nc] 80)=W4:=⟨_,rfl⟩
   obtain ⟨k0,kS,kB⟩:=la2 w3 (.cells #[.int .i64 T,.slice da l.length dc,.int .i64 1,.slice none 0 0,.slice na ns.length nc,.slice na ns.length nc] 80)
   rw [Bf] at k0 kS kB
   have k1:=(kB.block _ (Array.getElem?_eq_some_iff.1 q1).1).trans q1
   have k2:=(kB.block _ (Array.getElem?_eq_some_iff.1 q2).1).trans q2
   obtain ⟨⟨u0,u1,u2⟩,_⟩:=can3 k1
   obtain ⟨G,hG⟩:∃ G,w3.heap.size=G:=⟨_,rfl⟩
   have Bm:=Hd k0
   have B2:=Hd k2
   have Bj:=Hd kS
   have Bq:=Hd (Bt (Bt HB.out A7.out) kB)
   have Ax:=Hd (show w.heap.size + 3≤w3.heap.size by have:=A7.out.size;have:=Cd.out;omega)
   clear q0 q1 q2 k0 k1 k2 kS kB
   go_wp2_with (fail)
   clear y0 y1 y2 u0 u1 u2 Bf
   obtain ⟨i0,hi,Bz,B1,B9⟩:=info_parts iW
   obtain ⟨N,hN⟩:∃ N,N=W4.heap.size:=⟨_,rfl⟩
   rw [hG] at Bm Bj Ax
   have Bv:=Hd hN
   have Cq:=Hd hG
   have Bk:N=G + 1:=by rw [hN];exact Bj.out
   clear hN hG
   have Aq:=Hd Bk
   clear Bk
   go_loopw [42] (fun i wr => ∃ (k:Nat) (sv:Value),k≤ns.length∧i = .int .i64 k∧wr.heap[G]? = some (.cells #[.int .i64 T,.slice da l.length dc,.int .i64 1,sv,.slice na ns.length nc,.slice na ns.length nc] 80 (0,0))∧wr.heap[w.heap.size + 1 + 1]? = some (.cells #[.int .i64 0,.slice none 0 0,.int .i64 0,.slice none 0 0,.slice none 0 0,.slice none 0 0] 56 (0,0))∧wr.ownsRow N 100 2 sv k ((ns.take k).flatMap wF)∧(k=0→sv = .slice none 0 0)∧Below w.heap.size w wr∧N≤wr.heap.size) (fun i _=>ns.length - (intOf i).toNat)
   case atStart=>exact ⟨0,_,Nat.zero_le _,rfl,Bm.out,B2.out,World.ownsRow_nil _ _ _ _,(fun _=>rfl),Bq.out,by rw [Bv.out];exact Nat.le_refl _⟩
   case round=>
    obtain ⟨k,sv,hk,rfl,hg,hz,An,At,Bg,Ck⟩:=hrel
    have Ba:=Hd hg
    have Ap:=Hd hz
    have HO:=Hd An
    have Cb:=Hd At
    have Aj:=Hd Bg
    obtain ⟨⟨g0,g1,g2,g3,g4,g5⟩,_⟩:=can6 hg
    have Ay:G < wr.heap.size:=by have:=Aq.out;omega
    clear hg hz An At Bg
    by_cases hlt:k < ns.length
    ·obtain ⟨b,Ce,rfl,hb,hc⟩:=slp_int_at HN.out k hlt
     have B8:=(Aj.out.cell (p:=⟨b,Ce + k,none⟩) hb).trans hc
     have Cv:b < wr.heap.size:=Nat.lt_of_lt_of_le hb Aj.out.size
     have Bu:(k:Int) < (ns.length:Int):=by omega
     have HW:=Hd (fun W=>wOf_eq ns[k] (Bx.out k hlt) W)
     have Ca:=Hd (show (ns.take k).flatMap wF ++ [.int .i64 (wHi ns[k]),.int .u64 (wLo ns[k])]=(ns.take (k + 1)).flatMap wF by rw [List.take_succ_eq_append_getElem hlt,List.flatMap_append];rfl)
     clear hc hb
     go_wp2_with (fail)
     refine Flow.wrf 6 (Flow.sp3 [.inl ?_,.inl ?_,.inl ?_,.inl ?_,.inr (isV (.agg #[.int .i64 (wHi ns[k]),.int .u64 (wLo ns[k])])),.inr (nT (.int .i64 (wHi ns[k])) (.int .u64 (wLo ns[k])))]) (by kernel_rfl) (by kernel_rfl) ?_ ?_
     rotate_left 4
     ·refine Flow.sm2 ?_
      repeat (first | exact Flow.ln2 | refine Flow.li2 ?_ | refine Flow.li3 (iVm _) ?_ | refine Flow.li3 (nTm _ _) ?_)
     all_goals try simp only [List.take_succ_cons,List.take_zero,List.drop_succ_cons,List.drop_zero]
     iterate 4 (refine Flow.tvK rfl (fun K hK=>⟨fun w hw hG => ?_,?_⟩);(have Cw:=Flow.bc4 hw;clear hG hw;unfold Flow.Runs Flow.yields;go_simp;try rfl);go_simp;refine hK _ ?_;clear hK K)
     (refine Flow.tvK2 rfl (fun K hK=>⟨fun w hw hG => ?_,?_⟩);(clear hG hw;unfold Flow.Runs Flow.yields;go_simp;refine (HW.out _).mono ?_;rintro e w5 ⟨rfl,Bw⟩;exact ⟨_,rfl,Bw,rfl⟩);intro vz;go_simp;refine hK _ _ ?_;clear hK K)
     (refine Flow.tvK2 rfl (fun K hK=>⟨fun w hw hG => ?_,?_⟩);(obtain rfl:=(show vz = .agg #[.int .i64 (wHi ns[k]),.int .u64 (wLo ns[k])] by simpa [Flow.upd,isV] using hG 4 (by kernel_rfl));clear hG;unfold Flow.Runs Flow.yields;go_simp;exact ⟨(la2 _ _).2.2,nTm2 _ _ _ _⟩);intro vy;go_simp;refine hK _ _ ?_;clear hK K)
     refine Flow.tn2 fun w5 hw5 hG => ?_
     obtain ⟨gn,rfl,Ci,Bp,A9⟩:=(show nT (.int .i64 (wHi ns[k])) (.int .u64 (wLo ns[k])) vy w5 by simpa [Flow.upd] using hG 5)
     clear hG
     have Au:=Hd (ob2 HO.out hw5)
     have HY:=Hd (And.intro Bp A9)
     have Bc:=Hd ((hw5.block _ Ay).trans Ba.out)
     have Be:=Hd ((hw5.block _ (Array.getElem?_eq_some_iff.1 Ap.out).1).trans Ap.out)
     have Bn:=Hd (Bt Aj.out hw5)
     have Cm:=hw5.size
     have Ak:=Hd (show w.heap.size + 3 < N by have:=Aq.out;have:=Ax.out;omega)
     clear hw5 Bp A9 g0 g1 g2 g3 g4 g5 B8 HO Ba Ap
     go_wp2_with (have B6:=HY;clear B6;at_builtin;refine wpList_append_own_at _ rfl _ _ 54 rfl N 100 i0 (.agg #[.int .i64 0,.int .u64 0]) 2 16 Tryz.underlying54 hi Bz B1 B9 rfl (by decide) _ k _ rfl Au.out ⟨gn,0,none⟩ 1 1 [.int .i64 (wHi ns[k]),.int .u64 (wLo ns[k])] rfl rfl ?_ ?_ ?_ ?_ ?_ ?_)
     ·intro j u hj
      rcases j with _ | _ | j
      ·simp at hj;subst hj;simpa [Addr.add] using HY.out.1
      ·simp at hj;subst hj;simpa [Addr.add] using HY.out.2
      ·simp at hj
     ·exact wFo ns[k]
     ·unfold maxLen;omega
     ·omega
     ·omega
     intro v6 w6 Ad Ac _ _
     obtain ⟨gg,cp,rfl,_⟩:=oca Ad (by omega)
     have A2:∀ b,b < N→some b≠sv.ownBlock:=fun b hb e=>by have:=(Au.out.lt b e.symm).1;omega
     have Bd:=Hd ((Ac.block G (by omega) (A2 G (by have:=Aq.out;omega))).trans Bc.out)
     have Cc:=Hd ((Ac.block (w.heap.size + 1 + 1) (by have:=Ak.out;omega) (A2 _ (by have:=Ak.out;omega))).trans Be.out)
     have B3:=Hd (Bn.out.grown Ac (by have:=Ak.out;omega) (fun j e=>by have:=(Au.out.lt j e).1;have:=Ak.out;omega))
     have Br:=Hd Ad
     have Cy:=Ac.size
     obtain ⟨_,f0,f1,f2,f3,f4,f5⟩:=can6 Bd.out
     clear Ad Ac A2 HY Au Bc Be Bn
     go_wp2
     go_roundw
     case rel=>
      have Cf:=Aq.out
      have Cj:=Ak.out
      have Ch:=Ax.out
      refine ⟨k + 1,_,by omega,by go_num,heap_setCell_same _ _ _ _ _ _ Bd.out,(heap_setCell_other _ _ _ _ (show w.heap.size + 1 + 1≠G by omega)).trans Cc.out,ownsRow_setCell_below (by rw [← Ca.out];exact Br.out) (show G < N by omega) _,(fun h=>by omega),B3.out.setCell (show w.heap.size≤G by omega) _,by simp [World.setCell];omega⟩
     case measure=>simp [intOf];omega
    ·have Bu:¬ (k:Int) < (ns.length:Int):=by omega
     have Az:=Aj.out
     have A6:k=ns.length:=by omega
     have Ah:RA 1 intF p wr (.slice na ns.length nc) ns:=rIo (HN.out.ag (Ag.new p Az)) (by omega)
     have Bo:RA 2 wF (fun b=>N≤b) wr sv ns:=by
      have ho:=HO.out
      rw [A6,List.take_length] at ho
      exact ro3 (fun _ _=>rfl) ho (by unfold maxLen;omega) (fun h=>Cb.out (by rw [A6,h];rfl))
     have Al:CA3 (fun _=>True) wr [.int .i64 T,.slice da l.length dc,.int .i64 1,sv,.slice na ns.length nc,.slice na ns.length nc] ((T,l.map Tess.Val.c),⟨1,ns,ns,ns⟩):=
      ⟨_,_,_,_,rfl,by show VA _ _ _ ((l.map Tess.Val.c).map Tess.valOf);rw [Bs.out];exact (HV.out.ag (Ag.new p Az)).weak fun _ _=>trivial,Bo.weak fun _ _=>trivial,Ah.weak fun _ _=>trivial,Ah.weak fun _ _=>trivial⟩
     have A4:=Hd (own6_any _ _ _ wr Al ⟨by simp;omega,by show ns.length≤_;omega,by show ns.length≤_;omega,by show ns.length≤_;omega⟩)
     clear Al Bo Ah A6
     have B4:∃ a n c,sv = .slice a n c:=by
      rcases HO.out.2 with ⟨rfl,_⟩ | ⟨g,Cn,Cl,rfl,_⟩ <;> exact ⟨_,_,_,rfl⟩
     obtain ⟨sa,sn,sc,rfl⟩:=B4
     clear Az
     go_wp2_with (fail)
     go_at_call 60
     refine A4.out.mono ?_
     rintro e w8 ⟨Co,rfl,Bh,_,_,A0⟩
     have A3:=(A0.block _ (Array.getElem?_eq_some_iff.1 Ap.out).1).trans Ap.out
     have Bb:=Hd Bh
     obtain ⟨Cg,Cx,Ct,Cr,rfl,Bi,Av⟩:=Bh
     obtain ⟨d8,e8,rfl⟩:=Bi.shape
     obtain ⟨a3,p3,rfl⟩:=Av.sums.shape
     obtain ⟨a4,p4,rfl⟩:=Av.mins.shape
     obtain ⟨a5,p5,rfl⟩:=Av.maxs.shape
     obtain ⟨nd,A1⟩:∃ nd,nd=((l.map Tess.Val.c).map Tess.valOf).length:=⟨_,rfl⟩
     simp only [← A1] at Bb ⊢
     have Cu:=Hd A1
     clear Bi Av A1
     obtain ⟨_,f0,f1,f2,f3,f4,f5⟩:=can6 A3
     have q1:=set6 (.int .i64 T) (.slice d8 nd e8) (.int .i64 1) (.slice a3 ns.length p3) (.slice a4 ns.length p4) (.slice a5 ns.length p5) A3
     have qB:=sb2 (.int .i64 T) (.slice d8 nd e8) (.int .i64 1) (.slice a3 ns.length p3) (.slice a4 ns.length p4) (.slice a5 ns.length p5) (Bt Aj.out A0) (show w.heap.size≤w.heap.size + 1 + 1 by omega)
     have B5:=Hd q1
     have B0:=Hd qB
     have B7:=Aj.out.size
     clear g0 g1 g2 g3 g4 g5 q1 qB A0 A3
     go_wp2_with (fail)
     obtain ⟨⟨e0,e1,e2,e3,e4,e5⟩,_⟩:=can6 B5.out
     refine bodyPost_ret (v:=.tuple #[.agg #[.int .i64 T,.slice d8 nd e8,.int .i64 1,.slice a3 ns.length p3,.slice a4 ns.length p4,.slice a5 ns.length p5],.int .i64 0]) (by simp [results,Tryz.results24,go_sem,e0,e1,e2,e3,e4,e5]) rfl ⟨[.int .i64 T,.slice d8 nd e8,.int .i64 1,.slice a3 ns.length p3,.slice a4 ns.length p4,.slice a5 ns.length p5],rfl,.inl ⟨Ao.out,?_⟩,B0.out⟩
     have hA:∀ W6,W6=((((((w8.setCell ⟨w.heap.size + 1 + 1,0,none⟩ (.int .i64 T)).setCell ⟨w.heap.size + 1 + 1,1,none⟩ (.slice d8 nd e8)).setCell ⟨w.heap.size + 1 + 1,2,none⟩ (.int .i64 1)).setCell ⟨w.heap.size + 1 + 1,3,none⟩ (.slice a3 ns.length p3)).setCell ⟨w.heap.size + 1 + 1,4,none⟩ (.slice a4 ns.length p4)).setCell ⟨w.heap.size + 1 + 1,5,none⟩ (.slice a5 ns.length p5))→Ag (fun b=>wr.heap.size≤b) w8 W6:=fun W6 e=>by
      rw [e]
      exact ⟨by rw [ss4];exact Nat.le_refl _,fun b _ hb=>so6 _ _ _ _ _ _ (by have:=Aq.out;have:=Ax.out;omega)⟩
     show CA3 (fun b=>w.heap.size≤b) _ _ ((t - t % s.grain,l.map Tess.Val.c),⟨1,ns,ns,ns⟩)
     rw [By.out]
     exact (Bb.out.ag (hA _ rfl)).weak fun b hb=>Nat.le_trans B7 hb
end Go.Proofs.YtjdccifdkjnknaaGreatDoor
