/- Joined by mergeK.py: F31, F32, F36, F37, F38, F39, FlX -/
import Derived.Test.YtaddkkkchkdgkaaGreatDoorCC06
import Derived.Test.YtaddkkkchkdgkaaGreatDoorCC11
import Derived.Test.YtaddkkkchkdgkaaGreatDoorCC07
import Derived.Lib.SliceRun
import Derived.Test.YtaddkkkchkdgkaaGreatDoorCC01
namespace Go.Proofs.YtaddkkkchkdgkaaGreatDoor
open Go.RowKit
open Tess (Fil)
theorem kinds_cut:∀ (d:Nat) (f:Fil),kO2 f→kO2 (Fil.cut d f):=by
 intro d
 induction d with
 | zero=>
   intro f h
   unfold kO2 at *
   rw [Fil.aPe,Bool.and_eq_true] at h
   rw [Fil.aPe,Bool.and_eq_true]
   refine ⟨h.1,?_⟩
   simp [Fil.cut,Fil.l]
 | succ d ih=>
   intro f h
   unfold kO2 at *
   rw [Fil.aPe,Bool.and_eq_true,List.all_eq_true] at h
   rw [Fil.aPe,Bool.and_eq_true,List.all_eq_true]
   refine ⟨h.1,fun x hx => ?_⟩
   simp only [Fil.cut,Fil.l] at hx
   obtain ⟨y,hy,rfl⟩:=List.mem_map.1 hx
   exact ih y (h.2 y (List.mem_of_mem_take hy))
theorem kf2 (f:Fil) (h:kO2 f):kO2 (Fil.few f):=by
 have hc:=kinds_cut 7 f h
 unfold Fil.few
 split
 ·unfold kO2 at *
  rw [Fil.aPe,Bool.and_eq_true] at hc
  rw [Fil.aPe,Bool.and_eq_true]
  exact ⟨hc.1,by simp [Fil.l]⟩
 ·exact hc
end Go.Proofs.YtaddkkkchkdgkaaGreatDoor
namespace Go.Proofs.YtaddkkkchkdgkaaGreatDoor
open Go.RowKit Go.Sort
open Tess (Fil)
theorem box6 {w W:World} {B:Nat} {t:TypeId} {x0 x1 x2 x3 x4 x5:Value} (y0 y1 y2 y3 y4 y5:Value) (h:W.heap[B]? = some (.cells #[x0,x1,x2,x3,x4,x5] t (0,0))) (hb:Below w.heap.size w W) (hB:w.heap.size≤B) :
  ∃ W3,((((((W.setCell ⟨B,0,none⟩ y0).setCell ⟨B,1,none⟩ y1).setCell ⟨B,2,none⟩ y2).setCell ⟨B,3,none⟩ y3).setCell ⟨B,4,none⟩ y4).setCell ⟨B,5,none⟩ y5)=W3∧W3.heap[B]? = some (.cells #[y0,y1,y2,y3,y4,y5] t (0,0))∧(∀ k,k≠B→W3.heap[k]? = W.heap[k]?)∧W3.heap.size=W.heap.size∧Below w.heap.size w W3:=
 ⟨_,rfl,set6 _ _ _ _ _ _ h,fun _ hk=>so4 _ _ _ _ _ _ hk,ss5 _ _ _ _ _ _,sb2 _ _ _ _ _ _ hb hB⟩
structure Bx (w:World) (c0 c1 c2 c3:Array Value) (W:World):Prop where
 k0:W.heap[w.heap.size]? = some (.cells c0 24 (0,0))
 k1:W.heap[w.heap.size + 1]? = some (.cells c1 31 (0,0))
 k2:W.heap[w.heap.size + 1 + 1]? = some (.cells c2 31 (0,0))
 k3:W.heap[w.heap.size + 1 + 1 + 1]? = some (.cells c3 74 (0,0))
 below:Below w.heap.size w W
 size:w.heap.size + 4≤W.heap.size
def But4 (w W W':World):Prop:=Ag (fun b=>w.heap.size + 4≤b) W W'
theorem Bx.later {w W W':World} {c0 c1 c2 c3:Array Value} (h:Bx w c0 c1 c2 c3 W) (hb:Below W.heap.size W W'):Bx w c0 c1 c2 c3 W':=
 have:=h.size
 ⟨(hb.block _ (by omega)).trans h.k0,(hb.block _ (by omega)).trans h.k1,(hb.block _ (by omega)).trans h.k2,(hb.block _ (by omega)).trans h.k3,Bt h.below hb,Nat.le_trans h.size hb.size⟩
theorem Bx.set0 {w W:World} {x0 x1 x2:Value} {c1 c2 c3:Array Value} (y0 y1 y2:Value) (h:Bx w #[x0,x1,x2] c1 c2 c3 W) :
  ∃ W3,(((W.setCell ⟨w.heap.size,0,none⟩ y0).setCell ⟨w.heap.size,1,none⟩ y1).setCell ⟨w.heap.size,2,none⟩ y2)=W3∧Bx w #[y0,y1,y2] c1 c2 c3 W3∧But4 w W W3:=by
 obtain ⟨W3,e,q0,qo,qs,qB⟩:=box3 y0 y1 y2 h.k0 h.below (Nat.le_refl _)
 exact ⟨W3,e,⟨q0,(qo _ (by omega)).trans h.k1,(qo _ (by omega)).trans h.k2,(qo _ (by omega)).trans h.k3,qB,by rw [qs];exact h.size⟩,by rw [qs];exact Nat.le_refl _,fun b _ hb=>qo b (by omega)⟩
theorem Bx.set1 {w W:World} {x0 x1 x2 x3 x4 x5:Value} {c0 c2 c3:Array Value} (y0 y1 y2 y3 y4 y5:Value) (h:Bx w c0 #[x0,x1,x2,x3,x4,x5] c2 c3 W) :
  ∃ W3,((((((W.setCell ⟨w.heap.size + 1,0,none⟩ y0).setCell ⟨w.heap.size + 1,1,none⟩ y1).setCell ⟨w.heap.size + 1,2,none⟩ y2).setCell ⟨w.heap.size + 1,3,none⟩ y3).setCell ⟨w.heap.size + 1,4,none⟩ y4).setCell ⟨w.heap.size + 1,5,none⟩ y5)=W3∧Bx w c0 #[y0,y1,y2,y3,y4,y5] c2 c3 W3∧But4 w W W3:=by
 obtain ⟨W3,e,q0,qo,qs,qB⟩:=box6 y0 y1 y2 y3 y4 y5 h.k1 h.below (by omega)
 exact ⟨W3,e,⟨(qo _ (by omega)).trans h.k0,q0,(qo _ (by omega)).trans h.k2,(qo _ (by omega)).trans h.k3,qB,by rw [qs];exact h.size⟩,by rw [qs];exact Nat.le_refl _,fun b _ hb=>qo b (by omega)⟩
theorem Bx.set2 {w W:World} {x0 x1 x2 x3 x4 x5:Value} {c0 c1 c3:Array Value} (y0 y1 y2 y3 y4 y5:Value) (h:Bx w c0 c1 #[x0,x1,x2,x3,x4,x5] c3 W) :
  ∃ W3,((((((W.setCell ⟨w.heap.size + 1 + 1,0,none⟩ y0).setCell ⟨w.heap.size + 1 + 1,1,none⟩ y1).setCell ⟨w.heap.size + 1 + 1,2,none⟩ y2).setCell ⟨w.heap.size + 1 + 1,3,none⟩ y3).setCell ⟨w.heap.size + 1 + 1,4,none⟩ y4).setCell ⟨w.heap.size + 1 + 1,5,none⟩ y5)=W3∧Bx w c0 c1 #[y0,y1,y2,y3,y4,y5] c3 W3∧But4 w W W3:=by
 obtain ⟨W3,e,q0,qo,qs,qB⟩:=box6 y0 y1 y2 y3 y4 y5 h.k2 h.below (by omega)
 exact ⟨W3,e,⟨(qo _ (by omega)).trans h.k0,(qo _ (by omega)).trans h.k1,q0,(qo _ (by omega)).trans h.k3,qB,by rw [qs];exact h.size⟩,by rw [qs];exact Nat.le_refl _,fun b _ hb=>qo b (by omega)⟩
theorem Bx.set3 {w W:World} {x0 x1 x2:Value} {c0 c1 c2:Array Value} (y0 y1 y2:Value) (h:Bx w c0 c1 c2 #[x0,x1,x2] W) :
  ∃ W3,(((W.setCell ⟨w.heap.size + 1 + 1 + 1,0,none⟩ y0).setCell ⟨w.heap.size + 1 + 1 + 1,1,none⟩ y1).setCell ⟨w.heap.size + 1 + 1 + 1,2,none⟩ y2)=W3∧Bx w c0 c1 c2 #[y0,y1,y2] W3∧But4 w W W3:=by
 obtain ⟨W3,e,q0,qo,qs,qB⟩:=box3 y0 y1 y2 h.k3 h.below (by omega)
 exact ⟨W3,e,⟨(qo _ (by omega)).trans h.k0,(qo _ (by omega)).trans h.k1,(qo _ (by omega)).trans h.k2,q0,qB,by rw [qs];exact h.size⟩,by rw [qs];exact Nat.le_refl _,fun b _ hb=>qo b (by omega)⟩
end Go.Proofs.YtaddkkkchkdgkaaGreatDoor
namespace Go.Proofs.YtaddkkkchkdgkaaGreatDoor
open Go.RowKit Go.Sort
open Tess (Fil)
set_option maxRecDepth 100000 in
theorem isValue_any (x:ByteArray) (b:Bool) (w:World):Calls Tryz.prog 88 #[.agg #[.string x,.bool b]] w fun e w'=>e = .returned (.bool (Tess.vO ⟨x,b⟩))∧Below w.heap.size w w':=by
 obtain ⟨W0,Aa⟩:∃ W0,w.alloc (.cells #[.string x,.bool b] 72)=W0:=⟨_,rfl⟩
 obtain ⟨h0,hS,hB⟩:=la2 w (.cells #[.string x,.bool b] 72)
 rw [Aa] at h0 hS hB
 have c0:=cell_of_row W0 w.heap.size 0 _ _ _ h0
 have c1:=cell_of_row W0 w.heap.size 1 _ _ _ h0
 simp only [List.getElem?_toArray,List.getElem?_cons_succ,List.getElem?_cons_zero] at c0 c1
 have HB:=Hd hB
 clear h0 hB hS
 have e:decide ((x.size:Int)≤100)=decide (x.size≤100):=decide_eq_decide.2 (by omega)
 cases b
 ·go_enter Tryz.func88,Tryz.ntmps88
  go_wp2
  go_ret
  exact ⟨by simp only [Tess.vO];rfl,HB.out⟩
 ·clear e
  have hE:ByteArray.empty.toList=[]:=by rw [ByteArray.toList_eq];rfl
  by_cases hx:x.toList=[]
  ·have HX:=Hd (show x=ByteArray.empty from str_inj (hx.trans hE.symm))
   clear hE
   go_enter Tryz.func88,Tryz.ntmps88
   go_wp2
   go_ret
   exact ⟨by simp [Tess.vO,HX.out],HB.out⟩
  ·have HX:=Hd (show x≠ByteArray.empty from fun e=>hx (by rw [e];exact hE))
   clear hE
   go_enter Tryz.func88,Tryz.ntmps88
   go_wp2
   go_ret
   exact ⟨by simp [Tess.vO,HX.out],HB.out⟩
theorem isOther_any (x:ByteArray) (b:Bool) (w:World):Calls Tryz.prog 87 #[.agg #[.string x,.bool b]] w fun e w'=>e = .returned (.bool (!Tess.vO ⟨x,b⟩))∧Below w.heap.size w w':=by
 obtain ⟨W0,Ab⟩:∃ W0,w.alloc (.cells #[.string x,.bool b] 72)=W0:=⟨_,rfl⟩
 obtain ⟨h0,hS,hB⟩:=la2 w (.cells #[.string x,.bool b] 72)
 rw [Ab] at h0 hS hB
 have c0:=cell_of_row W0 w.heap.size 0 _ _ _ h0
 have c1:=cell_of_row W0 w.heap.size 1 _ _ _ h0
 simp only [List.getElem?_toArray,List.getElem?_cons_succ,List.getElem?_cons_zero] at c0 c1
 have HB:=Hd hB
 have HI:=Hd (isValue_any x b W0)
 clear h0 hB hS
 generalize Tess.vO ⟨x,b⟩=r at *
 go_enter Tryz.func87,Tryz.ntmps87
 go_wp2_with (go_at_call 88;refine HI.out.mono ?_;rintro e w2 ⟨rfl,Aa⟩;have Ac:=Hd (Bt HB.out Aa);clear Aa)
 go_ret
 exact ⟨rfl,Ac.out⟩
set_option maxHeartbeats 1000000 in
theorem index_other (p:Nat→Prop) (v:Value) (l:List Tess.Val) (w:World) (hv:VA p w v l) :
  Calls Tryz.prog 136 #[v,.func (.func 87) #[] #[]] w fun e w' => ∃ i:Int,e = .returned (.int .i64 i)∧decide (0≤i)=(l.any fun x => !Tess.vO x)∧Below w.heap.size w w':=by
 obtain ⟨a,Ag,rfl,Ae,_,_,hc⟩:=hv
 have HC:=Hd hc
 have Ae:l.length≤9223372036854775807:=by unfold maxLen at Ae;omega
 clear hc
 go_enter Tryz.func136,Tryz.ntmps136
 go_wp2
 go_loopw [8] (fun i wr => ∃ k:Nat,k≤l.length∧i = .int .i64 k∧(∀ j (hj:j < l.length),j < k→(!Tess.vO l[j])=false)∧Below w.heap.size w wr) (fun i _=>l.length - (intOf i).toNat)
 case atStart=>exact ⟨0,Nat.zero_le _,rfl,fun j _ h=>absurd h (Nat.not_lt_zero _),Below.refl _ _⟩
 case round=>
  obtain ⟨k,hk,rfl,Aa,hB⟩:=hrel
  have HA:=Hd Aa
  have HB:=Hd hB
  clear Aa hB
  by_cases hlt:k < l.length
  ·obtain ⟨b,Ac,rfl,hb,_,hg⟩:=HC.out (by omega)
   have e0:wr.cell? ⟨b,Ac + k * 2,none⟩=some (.string l[k].s):=(HB.out.cell (p:=⟨b,Ac + k * 2,none⟩) hb).trans (hg k hlt).1
   have e1:wr.cell? ⟨b,Ac + k * 2 + 1,none⟩=some (.bool l[k].null):=(HB.out.cell (p:=⟨b,Ac + k * 2 + 1,none⟩) hb).trans (hg k hlt).2
   clear hg
   have HX:=Hd (fun W=>isOther_any l[k].s l[k].null W)
   have Af:(k:Int) < (l.length:Int):=by omega
   cases hyx : !Tess.vO l[k]
   ·rw [show (!Tess.vO ⟨l[k].s,l[k].null⟩)=_ from hyx] at HX
    have HY:=Hd hyx
    clear hyx
    go_wp2_with (go_at_call 87;refine (HX.out _).mono ?_;rintro e w2 ⟨rfl,Ab⟩;have Ad:=Hd Ab;clear Ab)
    go_roundw
    case rel=>
     refine ⟨k + 1,by omega,by go_num,fun j hj hjk => ?_,Bt HB.out Ad.out⟩
     by_cases hjk':j < k
     ·exact HA.out j hj hjk'
     ·obtain rfl:j=k:=by omega
      exact HY.out
    case measure=>simp [intOf];omega
   ·rw [show (!Tess.vO ⟨l[k].s,l[k].null⟩)=_ from hyx] at HX
    have HY:=Hd hyx
    clear hyx
    go_wp2_with (go_at_call 87;refine (HX.out _).mono ?_;rintro e w2 ⟨rfl,Ab⟩;have Ad:=Hd Ab;clear Ab)
    go_ret
    refine ⟨(k:Int),rfl,?_,Bt HB.out Ad.out⟩
    rw [decide_eq_true (by omega),eq_comm,List.any_eq_true]
    exact ⟨l[k],List.getElem_mem hlt,HY.out⟩
  ·have Af:¬ (k:Int) < (l.length:Int):=by omega
   go_wp2
   go_ret
   refine ⟨-1,rfl,?_,HB.out⟩
   rw [decide_eq_false (by omega),eq_comm,List.any_eq_false]
   intro y hy
   obtain ⟨j,hj,rfl⟩:=List.getElem_of_mem hy
   rw [HA.out j hj (by omega)];simp
theorem co3 (p:Nat→Prop) (v:Value) (l:List Tess.Val) (w:World) (hv:VA p w v l) :
  Calls Tryz.prog 89 #[v,.func (.func 87) #[] #[]] w fun e w'=>e = .returned (.bool (!l.all Tess.vO))∧Below w.heap.size w w':=by
 have HI:=Hd (index_other p v l w hv)
 obtain ⟨a,Aa,rfl,_⟩:=hv
 go_enter Tryz.func89,Tryz.ntmps89
 go_wp2_with (go_at_call 136;refine HI.out.mono ?_;rintro e w2 ⟨i,rfl,hi,hB⟩;have HH:=Hd hi;have HB:=Hd hB;clear hi hB)
 go_ret
 refine ⟨?_,HB.out⟩
 rw [show (!l.all Tess.vO)=l.any fun x => !Tess.vO x by simp [List.all_eq_not_any_not],← HH.out];rfl
end Go.Proofs.YtaddkkkchkdgkaaGreatDoor
namespace Go.Proofs.YtaddkkkchkdgkaaGreatDoor
open Go.RowKit Go.Sort
open Tess (Fil)
set_option maxRecDepth 100000 in
set_option maxHeartbeats 2000000 in
theorem sFits_any (p:Nat→Prop) (vs vr:Value) (s:Tess.Sch) (t:Int) (l:List Tess.Val) (ns:List Int) (w:World) (hs:SA p w vs s) (hr:RA2 p w vr t l ns) :
  Calls Tryz.prog 54 #[vs,vr] w fun e w'=>e = .returned (.bool (Tess.rowFits s t l ns.length))∧Below w.heap.size w w':=by
 have HR:=Hd (fun W (hB:Below w.heap.size w W)=>sRa vs s p W (hs.ag (Ag.new p hB)))
 obtain ⟨vd,vm,rfl,hd,hm,_,_⟩:=hs
 obtain ⟨ad,Ad,rfl,_⟩:=sl3 hd
 obtain ⟨am,Ae,rfl,_⟩:=sl3 hm
 obtain ⟨Ai,na,nc,rfl,_,hv,_⟩:=hr
 have HC:=Hd (fun W (hB:Below w.heap.size w W)=>co3 p Ai l W (hv.ag (Ag.new p hB)))
 obtain ⟨da,dc,rfl,_⟩:=hv
 clear hd hm
 obtain ⟨W0,Ah⟩:∃ W0,(w.alloc (.cells #[.slice ad s.dims.length Ad,.slice am s.mets.length Ae,.int .i64 s.grain] 24)).alloc (.cells #[.int .i64 t,.slice da l.length dc,.slice na ns.length nc] 74)=W0:=⟨_,rfl⟩
 obtain ⟨h0,h1,hS,hB⟩:=la3 w (.cells #[.slice ad s.dims.length Ad,.slice am s.mets.length Ae,.int .i64 s.grain] 24) (.cells #[.int .i64 t,.slice da l.length dc,.slice na ns.length nc] 74)
 rw [Ah] at h0 h1 hS hB
 obtain ⟨⟨x0,x1,x2⟩,_⟩:=can3 h0
 have H0:=Hd h0
 have H1:=Hd h1
 have HB:=Hd hB
 have HS:=Hd hS
 have Aa:∀ W,Below W0.heap.size W0 W→W.heap[w.heap.size]? = _∧W.heap[w.heap.size + 1]? = _:=fun W hW=>⟨(hW.block _ (by omega)).trans h0,(hW.block _ (by omega)).trans h1⟩
 have Aj:=Hd Aa
 clear h0 h1 hS hB Aa
 have HE:RowKit.Hid (Tess.rowFits s t l ns.length=(Tess.sO2 s && decide (0≤t) && decide (t≤1000000000000) && decide (l.length=s.dims.length) && decide (ns.length=s.mets.length) && l.all Tess.vO)):=Hd rfl
 cases hok:Tess.sO2 s
 ·rw [hok] at HR HE
  go_enter Tryz.func54,Tryz.ntmps54
  go_wp2_with (go_at_call 30;refine (HR.out _ HB.out).mono ?_;rintro e w2 ⟨rfl,Ac⟩;have Ab:=Hd (Bt HB.out Ac);clear Ac)
  go_ret
  exact ⟨by rw [HE.out];rfl,Ab.out⟩
 ·rw [hok,Bool.true_and] at HE
  rw [hok] at HR
  go_enter Tryz.func54,Tryz.ntmps54
  go_wp2_with (fail)
  go_at_call 30
  refine (HR.out _ HB.out).mono ?_
  rintro e w2 ⟨rfl,Ac⟩
  obtain ⟨q0,q1⟩:=Aj.out w2 Ac
  have Ab:=Hd (Bt HB.out Ac)
  clear Ac x0 x1 x2 hok HR
  obtain ⟨⟨x0,x1,x2⟩,_⟩:=can3 q0
  obtain ⟨⟨y0,y1,y2⟩,_⟩:=can3 q1
  clear q0 q1
  by_cases h1:0≤t
  ·have d1:decide (0≤t)=true:=decide_eq_true h1
   rw [d1] at HE
   by_cases h2:t≤1000000000000
   ·have d2:decide (t≤1000000000000)=true:=decide_eq_true h2
    rw [d2] at HE
    by_cases h3:l.length=s.dims.length
    ·have d3:((l.length:Int) == (s.dims.length:Int))=true:=beq_iff_eq.2 (by omega)
     rw [decide_eq_true h3] at HE
     by_cases h4:ns.length=s.mets.length
     ·have d4:((ns.length:Int) == (s.mets.length:Int))=true:=beq_iff_eq.2 (by omega)
      rw [decide_eq_true h4] at HE
      clear h3 h4
      generalize l.all Tess.vO=r at HC HE
      go_wp2_with (go_at_call 89;refine (HC.out _ Ab.out).mono ?_;rintro e w3 ⟨rfl,Af⟩;have Ak:=Hd (Bt Ab.out Af);clear Af)
      go_ret
      exact ⟨by rw [HE.out];simp,Ak.out⟩
     ·have d4:((ns.length:Int) == (s.mets.length:Int))=false:=beq_eq_false_iff_ne.2 (by omega)
      rw [decide_eq_false h4] at HE
      clear h3 h4
      go_wp2
      go_ret
      exact ⟨by rw [HE.out];simp,Ab.out⟩
    ·have d3:((l.length:Int) == (s.dims.length:Int))=false:=beq_eq_false_iff_ne.2 (by omega)
     rw [decide_eq_false h3] at HE
     clear h3
     go_wp2
     go_ret
     exact ⟨by rw [HE.out];simp,Ab.out⟩
   ·have d2:decide (t≤1000000000000)=false:=decide_eq_false h2
    rw [d2] at HE
    go_wp2
    go_ret
    exact ⟨by rw [HE.out];simp,Ab.out⟩
  ·have d1:decide (0≤t)=false:=decide_eq_false h1
   rw [d1] at HE
   go_wp2
   go_ret
   exact ⟨by rw [HE.out];simp,Ab.out⟩
end Go.Proofs.YtaddkkkchkdgkaaGreatDoor
namespace Go.Proofs.YtaddkkkchkdgkaaGreatDoor
open Go.RowKit Go.Sort
open Tess (Fil)
open Tess.Fil (sO3 gO2 sF3 sH)
set_option maxRecDepth 100000 in
theorem isTime_any (t:Int) (w:World):Calls Tryz.prog 90 #[.int .i64 t] w fun e w'=>e = .returned (.bool (decide (0≤t) && decide (t < 1000000000001)))∧w=w':=by
 by_cases h1:0≤t
 ·have d1:decide (0≤t)=true:=decide_eq_true h1
  rw [d1,Bool.true_and]
  generalize hr:decide (t < 1000000000001)=r
  go_enter Tryz.func90,Tryz.ntmps90
  go_wp2
  go_ret
  exact ⟨rfl,rfl⟩
 ·have d1:decide (0≤t)=false:=decide_eq_false h1
  rw [d1,Bool.false_and]
  go_enter Tryz.func90,Tryz.ntmps90
  go_wp2
  go_ret
  exact ⟨rfl,rfl⟩
set_option maxRecDepth 100000 in
theorem gCut_any (t g:Int) (w:World) (ht:0≤t∧t≤1000000000000) (hg:1≤g∧g≤1000000000):Calls Tryz.prog 55 #[.int .i64 t,.int .i64 g] w fun e w'=>e = .returned (.tuple #[.int .i64 (t - t % g),.int .i64 0])∧Below w.heap.size w w':=by
 have HT:=Hd (isTime_any t w)
 rw [decide_eq_true ht.1,decide_eq_true (show t < 1000000000001 by omega)] at HT
 have HG:=Hd (aG w.heap.size g (w.alloc (.cells #[.int .i64 g] 2)) (cob (la2 w _).1).1)
 rw [show gO2 g=true by unfold gO2;rw [decide_eq_true hg.1,decide_eq_true hg.2];rfl] at HG
 have HB:=Hd (la2 w (.cells #[.int .i64 g] 2)).2.2
 obtain ⟨Aa,Ag⟩:=ht
 obtain ⟨Ae,Af⟩:=hg
 have Ab:0≤t % g:=Int.emod_nonneg _ (by omega)
 have Ac:t % g≤t:=by
  have:=Int.mul_nonneg (show 0≤g by omega) (Int.ediv_nonneg Aa (show 0≤g by omega))
  rw [Int.emod_def];omega
 have Ad:(g == 0)=false:=beq_eq_false_iff_ne.2 (by omega)
 go_enter Tryz.func55,Tryz.ntmps55
 go_wp2_with (first | (go_at_call 90;refine HT.out.mono ?_;rintro e w2 ⟨rfl,rfl⟩) | (go_at_call 91;refine HG.out.mono ?_;rintro e w2 ⟨rfl,rfl⟩))
 refine bodyPost_ret (v:=.tuple #[.int .i64 (t - t % g),.int .i64 0]) (by simp [results,Tryz.results55,go_sem]) rfl ⟨rfl,HB.out⟩
theorem infoI64:(Tryz.prog.info? 2).map (fun i=>(i.zero,i.size,i.bytes))=some (some (.int .i64 0),1,8):=by kernel_rfl
theorem infoWide:(Tryz.prog.info? 60).map (fun i=>(i.zero,i.size,i.bytes))=some (some (.agg #[.int .i64 0,.int .u64 0]),2,16):=by kernel_rfl
set_option maxRecDepth 100000 in
theorem cloneInts_any (a:Option Addr) (n cap:Nat) (xs:List Value) (w:World) (hn:n≤1000000) (hx:xs.length=n * 1) (hnil:a=none→n=0∧cap=0) (hc:∀ ad,a=some ad→∀ j u,xs[j]? = some u→w.cell? (ad.add j)=some u) (h1:∀ u ∈ xs,u.oneCell'=true) :
  Calls Tryz.prog 94 #[.slice a n cap] w fun e w' => ∃ v',e = .returned v'∧w'.ownsRow w.heap.size 2 1 v' n xs∧(v' = .slice none 0 0∨∃ g c,v' = .slice (some ⟨g,0,none⟩) n c)∧Below w.heap.size w w':=by
 obtain ⟨i0,hi,Af,Ah,Ac⟩:=info_parts infoI64
 have q:∀ (w:World) (a:Option Addr) (n c n' c':Nat),(binOp .eql 54 (.slice a n c) (.slice none n' c')).run Tryz.prog w = .ok (.bool a.isNone) w:=fun w a n c n' c'=>Lib.run_eql_slice_nil w _ _ a n c n' c' Tryz.underlying54
 cases a with
 | none=>
   obtain ⟨rfl,rfl⟩:=hnil rfl
   have Aj:xs=[]:=List.eq_nil_of_length_eq_zero (by simpa using hx)
   subst Aj
   clear hc h1 hnil hx
   go_enter Tryz.func94,Tryz.ntmps94
   go_wp2
   go_ret
   exact ⟨_,rfl,World.ownsRow_nil _ _ _ _,.inl rfl,Below.refl _ _⟩
 | some ad=>
   obtain ⟨hA,hS,hB⟩:=la2 w (.cells #[] 2)
   have HO:=Hd (show (w.alloc (.cells #[] 2)).ownsRow w.heap.size 2 1 (.slice (some ⟨w.heap.size,0,none⟩) 0 0) 0 [] from ⟨rfl,.inr ⟨w.heap.size,0,#[],rfl,Nat.le_refl _,hA,Nat.le_refl _,by decide,rfl,rfl⟩⟩)
   have HC:=Hd (show ∀ j u,xs[j]? = some u→(w.alloc (.cells #[] 2)).cell? (ad.add j)=some u from fun j u hj=>by
    have h:=hc ad rfl j u hj
    rw [← h]
    exact hB.cell (World.block_lt_of_cell? w _ h))
   have HB:=Hd hB
   have HX:=Hd hx
   have HH:=Hd h1
   clear hA hS hB hc hnil hx h1
   go_enter Tryz.func94,Tryz.ntmps94
   go_wp2_with (have Ag:=HO;clear Ag;at_builtin;refine wpList_append_own_at _ rfl _ _ 54 rfl w.heap.size 2 i0 _ 1 8 Tryz.underlying54 hi Af Ah Ac rfl (by decide) _ 0 [] rfl HO.out ad n cap xs rfl HX.out HC.out HH.out ?_ ?_ ?_ ?_)
   ·unfold maxLen;omega
   ·omega
   ·simp
   intro v3 w3 Aa Ab _ Ai
   try simp only [Nat.zero_add,List.nil_append] at Aa
   have Ae:=Hd Aa
   have Ak:=Hd (HB.out.grown Ab (by simp) (fun g e=>(HO.out.lt g e).1))
   have Ad:=Hd (show v3 = .slice none 0 0∨∃ g c,v3 = .slice (some ⟨g,0,none⟩) n c from by
    rcases Aa.2 with ⟨e,_⟩ | ⟨g,c,_,e,_⟩
    ·exact .inl e
    ·exact .inr ⟨g,c,e⟩)
   clear Aa Ab Ai
   go_wp2
   go_ret
   exact ⟨_,rfl,Ae.out,Ad.out,Ak.out⟩
set_option maxRecDepth 100000 in
theorem cWa (a:Option Addr) (n cap:Nat) (xs:List Value) (w:World) (hn:n≤1000000) (hx:xs.length=n * 2) (hnil:a=none→n=0∧cap=0) (hc:∀ ad,a=some ad→∀ j u,xs[j]? = some u→w.cell? (ad.add j)=some u) (h1:∀ u ∈ xs,u.oneCell'=true) :
  Calls Tryz.prog 93 #[.slice a n cap] w fun e w' => ∃ v',e = .returned v'∧w'.ownsRow w.heap.size 60 2 v' n xs∧(v' = .slice none 0 0∨∃ g c,v' = .slice (some ⟨g,0,none⟩) n c)∧Below w.heap.size w w':=by
 obtain ⟨i0,hi,Af,Ah,Ac⟩:=info_parts infoWide
 have q:∀ (w:World) (a:Option Addr) (n c n' c':Nat),(binOp .eql 53 (.slice a n c) (.slice none n' c')).run Tryz.prog w = .ok (.bool a.isNone) w:=fun w a n c n' c'=>Lib.run_eql_slice_nil w _ _ a n c n' c' Tryz.underlying53
 cases a with
 | none=>
   obtain ⟨rfl,rfl⟩:=hnil rfl
   have Aj:xs=[]:=List.eq_nil_of_length_eq_zero (by simpa using hx)
   subst Aj
   clear hc h1 hnil hx
   go_enter Tryz.func93,Tryz.ntmps93
   go_wp2
   go_ret
   exact ⟨_,rfl,World.ownsRow_nil _ _ _ _,.inl rfl,Below.refl _ _⟩
 | some ad=>
   obtain ⟨hA,hS,hB⟩:=la2 w (.cells #[] 60)
   have HO:=Hd (show (w.alloc (.cells #[] 60)).ownsRow w.heap.size 60 2 (.slice (some ⟨w.heap.size,0,none⟩) 0 0) 0 [] from ⟨rfl,.inr ⟨w.heap.size,0,#[],rfl,Nat.le_refl _,hA,Nat.le_refl _,by decide,rfl,rfl⟩⟩)
   have HC:=Hd (show ∀ j u,xs[j]? = some u→(w.alloc (.cells #[] 60)).cell? (ad.add j)=some u from fun j u hj=>by
    have h:=hc ad rfl j u hj
    rw [← h]
    exact hB.cell (World.block_lt_of_cell? w _ h))
   have HB:=Hd hB
   have HX:=Hd hx
   have HH:=Hd h1
   clear hA hS hB hc hnil hx h1
   go_enter Tryz.func93,Tryz.ntmps93
   go_wp2_with (have Ag:=HO;clear Ag;at_builtin;refine wpList_append_own_at _ rfl _ _ 53 rfl w.heap.size 60 i0 _ 2 16 Tryz.underlying53 hi Af Ah Ac rfl (by decide) _ 0 [] rfl HO.out ad n cap xs rfl HX.out HC.out HH.out ?_ ?_ ?_ ?_)
   ·unfold maxLen;omega
   ·omega
   ·simp
   intro v3 w3 Aa Ab _ Ai
   try simp only [Nat.zero_add,List.nil_append] at Aa
   have Ae:=Hd Aa
   have Ak:=Hd (HB.out.grown Ab (by simp) (fun g e=>(HO.out.lt g e).1))
   have Ad:=Hd (show v3 = .slice none 0 0∨∃ g c,v3 = .slice (some ⟨g,0,none⟩) n c from by
    rcases Aa.2 with ⟨e,_⟩ | ⟨g,c,_,e,_⟩
    ·exact .inl e
    ·exact .inr ⟨g,c,e⟩)
   clear Aa Ab Ai
   go_wp2
   go_ret
   exact ⟨_,rfl,Ae.out,Ad.out,Ak.out⟩
set_option maxRecDepth 100000 in
theorem cloneVals_any (a:Option Addr) (n cap:Nat) (xs:List Value) (w:World) (hn:n≤1000000) (hx:xs.length=n * 2) (hnil:a=none→n=0∧cap=0) (hc:∀ ad,a=some ad→∀ j u,xs[j]? = some u→w.cell? (ad.add j)=some u) (h1:∀ u ∈ xs,u.oneCell'=true) :
  Calls Tryz.prog 92 #[.slice a n cap] w fun e w' => ∃ v',e = .returned v'∧w'.ownsRow w.heap.size 72 2 v' n xs∧(v' = .slice none 0 0∨∃ g c,v' = .slice (some ⟨g,0,none⟩) n c)∧Below w.heap.size w w':=by
 obtain ⟨i0,hi,Af,Ah,Ac⟩:=info_parts infoVal
 have q:∀ (w:World) (a:Option Addr) (n c n' c':Nat),(binOp .eql 52 (.slice a n c) (.slice none n' c')).run Tryz.prog w = .ok (.bool a.isNone) w:=fun w a n c n' c'=>Lib.run_eql_slice_nil w _ _ a n c n' c' Tryz.underlying52
 cases a with
 | none=>
   obtain ⟨rfl,rfl⟩:=hnil rfl
   have Aj:xs=[]:=List.eq_nil_of_length_eq_zero (by simpa using hx)
   subst Aj
   clear hc h1 hnil hx
   go_enter Tryz.func92,Tryz.ntmps92
   go_wp2
   go_ret
   exact ⟨_,rfl,World.ownsRow_nil _ _ _ _,.inl rfl,Below.refl _ _⟩
 | some ad=>
   obtain ⟨hA,hS,hB⟩:=la2 w (.cells #[] 72)
   have HO:=Hd (show (w.alloc (.cells #[] 72)).ownsRow w.heap.size 72 2 (.slice (some ⟨w.heap.size,0,none⟩) 0 0) 0 [] from ⟨rfl,.inr ⟨w.heap.size,0,#[],rfl,Nat.le_refl _,hA,Nat.le_refl _,by decide,rfl,rfl⟩⟩)
   have HC:=Hd (show ∀ j u,xs[j]? = some u→(w.alloc (.cells #[] 72)).cell? (ad.add j)=some u from fun j u hj=>by
    have h:=hc ad rfl j u hj
    rw [← h]
    exact hB.cell (World.block_lt_of_cell? w _ h))
   have HB:=Hd hB
   have HX:=Hd hx
   have HH:=Hd h1
   clear hA hS hB hc hnil hx h1
   go_enter Tryz.func92,Tryz.ntmps92
   go_wp2_with (have Ag:=HO;clear Ag;at_builtin;refine wpList_append_own_at _ rfl _ _ 52 rfl w.heap.size 72 i0 _ 2 24 Tryz.underlying52 hi Af Ah Ac rfl (by decide) _ 0 [] rfl HO.out ad n cap xs rfl HX.out HC.out HH.out ?_ ?_ ?_ ?_)
   ·unfold maxLen;omega
   ·omega
   ·simp
   intro v3 w3 Aa Ab _ Ai
   try simp only [Nat.zero_add,List.nil_append] at Aa
   have Ae:=Hd Aa
   have Ak:=Hd (HB.out.grown Ab (by simp) (fun g e=>(HO.out.lt g e).1))
   have Ad:=Hd (show v3 = .slice none 0 0∨∃ g c,v3 = .slice (some ⟨g,0,none⟩) n c from by
    rcases Aa.2 with ⟨e,_⟩ | ⟨g,c,_,e,_⟩
    ·exact .inl e
    ·exact .inr ⟨g,c,e⟩)
   clear Aa Ab Ai
   go_wp2
   go_ret
   exact ⟨_,rfl,Ae.out,Ad.out,Ak.out⟩
end Go.Proofs.YtaddkkkchkdgkaaGreatDoor
namespace Go.Proofs.YtaddkkkchkdgkaaGreatDoor
open Go.RowKit Go.Sort
open Tess (Fil)
def CO3 (w:World) (size:Nat) (v:Value):Prop:=∃ (a:Option Addr) (n cap:Nat) (xs:List Value),v = .slice a n cap∧n≤1000000∧xs.length=n * size∧(a=none→n=0∧cap=0)∧(∀ ad,a=some ad→∀ j u,xs[j]? = some u→w.cell? (ad.add j)=some u)∧∀ u ∈ xs,u.oneCell'=true
theorem CO3.below {w w':World} {size:Nat} {v:Value} (h:CO3 w size v) (hb:Below w.heap.size w w'):CO3 w' size v:=by
 obtain ⟨a,n,Aa,xs,h1,h2,h3,h4,h5,h6⟩:=h
 exact ⟨a,n,Aa,xs,h1,h2,h3,h4,fun ad e j u hj=>(hb.cell (World.block_lt_of_cell? w _ (h5 ad e j u hj))).trans (h5 ad e j u hj),h6⟩
theorem CO3.shape {w:World} {size:Nat} {v:Value} (h:CO3 w size v):∃ a n c,v = .slice a n c:=let ⟨a,n,c,_,h1,_⟩:=h;⟨a,n,c,h1⟩
theorem CO3.nil (w:World) (size:Nat):CO3 w size (.slice none 0 0):=⟨none,0,0,[],rfl,Nat.zero_le _,by simp,(fun _=>⟨rfl,rfl⟩),(fun _ e=>by cases e),(fun u hu=>by cases hu)⟩
theorem vals_clone {w:World} {base:Nat} {t:TypeId} {v:Value} {l:List Tess.Val} (h:w.ownsRow base t 2 v l.length (vC l)) (hs:∀ x ∈ l,x.s.size≤maxLen) (hl:l.length≤maxLen) (hsh:v = .slice none 0 0∨∃ g c,v = .slice (some ⟨g,0,none⟩) l.length c):VA (fun b=>base≤b) w v l:=by
 rcases Nat.eq_zero_or_pos l.length with h0 | h0
 ·rcases hsh with rfl | ⟨g,c,rfl⟩
  ·exact ⟨none,0,by rw [h0],hl,hs,fun _=>rfl,fun h=>by omega⟩
  ·exact ⟨_,c,rfl,hl,hs,(fun e=>by cases e),fun h=>by omega⟩
 ·obtain ⟨g,Aa,hv,hb,hg,_,_,hc⟩:=oca h h0
  refine ⟨_,_,hv,hl,hs,(fun e=>by cases e),fun _=>⟨g,0,rfl,hg,hb,fun j hj => ?_⟩⟩
  have:=vCa2 l j hj
  exact ⟨by rw [Nat.zero_add,hc _ (by omega)];exact this.1,by rw [Nat.zero_add,hc _ (by omega)];exact this.2⟩
theorem vCg (l:List Tess.Val):∀ (j:Nat) (u:Value),(vC l)[j]? = some u→∃ k,∃ h:k < l.length,(j=k * 2∧u = .string l[k].s)∨(j=k * 2 + 1∧u = .bool l[k].null):=by
 intro j u hj
 have Aa:j < l.length * 2:=by
  obtain ⟨h,_⟩:=List.getElem?_eq_some_iff.1 hj
  rwa [vCl] at h
 refine ⟨j / 2,by omega,?_⟩
 have:=vCa2 l (j / 2) (by omega)
 rcases Nat.mod_two_eq_zero_or_one j with h | h
 ·refine .inl ⟨by omega,?_⟩
  rw [show j=j / 2 * 2 by omega,this.1] at hj
  exact (Option.some.inj hj).symm
 ·refine .inr ⟨by omega,?_⟩
  rw [show j=j / 2 * 2 + 1 by omega,this.2] at hj
  exact (Option.some.inj hj).symm
theorem cVa (p:Nat→Prop) (v:Value) (l:List Tess.Val) (w:World) (hv:VA p w v l) (hl:l.length≤1000000) :
  Calls Tryz.prog 92 #[v] w fun e w' => ∃ v',e = .returned v'∧VA (fun b=>w.heap.size≤b) w' v' l∧Below w.heap.size w w':=by
 obtain ⟨a,Ad,rfl,Ae,hs,Ab,hc⟩:=hv
 refine (cloneVals_any a l.length Ad (vC l) w hl (vCl l) (fun e=>⟨?_,Ab e⟩) (fun ad e j u hj => ?_) (fun u hu => ?_)).mono ?_
 ·rcases Nat.eq_zero_or_pos l.length with h | h
  ·exact h
  ·obtain ⟨b,Ac,ha,_⟩:=hc h
   rw [e] at ha;cases ha
 ·obtain ⟨k,hk,h⟩:=vCg l j u hj
  obtain ⟨b,Ac,ha,_,_,Aa⟩:=hc (by omega)
  rw [e] at ha
  cases ha
  rw [show (⟨b,Ac,none⟩:Addr).add j=⟨b,Ac + j,none⟩ by unfold Addr.add;split <;> simp_all]
  rcases h with ⟨rfl,rfl⟩ | ⟨rfl,rfl⟩
  ·exact (Aa k hk).1
  ·exact (Aa k hk).2
 ·obtain ⟨j,hj⟩:=List.getElem?_of_mem hu
  obtain ⟨k,hk,h⟩:=vCg l j u hj
  rcases h with ⟨_,rfl⟩ | ⟨_,rfl⟩ <;> rfl
 ·rintro e w' ⟨v',rfl,h1,h2,h3⟩
  exact ⟨v',rfl,vals_clone h1 hs Ae h2,h3⟩
theorem two13 {w W:World} {B:Nat} {t:TypeId} {x0 x1 x2 x3 x4 x5:Value} (y1 y3:Value) (h:W.heap[B]? = some (.cells #[x0,x1,x2,x3,x4,x5] t (0,0))) (hb:Below w.heap.size w W) (hB:w.heap.size≤B) :
  ∃ W3,((W.setCell ⟨B,1,none⟩ y1).setCell ⟨B,3,none⟩ y3)=W3∧W3.heap[B]? = some (.cells #[x0,y1,x2,y3,x4,x5] t (0,0))∧(∀ k,k≠B→W3.heap[k]? = W.heap[k]?)∧W3.heap.size=W.heap.size∧Below w.heap.size w W3:=
 ⟨_,rfl,heap_setCell_same _ _ _ _ _ _ (heap_setCell_same _ _ _ _ _ _ h),fun _ hk=>(heap_setCell_other _ _ _ _ hk).trans (heap_setCell_other _ _ _ _ hk),by simp [World.setCell],(hb.setCell hB _).setCell hB _⟩
theorem two45 {w W:World} {B:Nat} {t:TypeId} {x0 x1 x2 x3 x4 x5:Value} (y4 y5:Value) (h:W.heap[B]? = some (.cells #[x0,x1,x2,x3,x4,x5] t (0,0))) (hb:Below w.heap.size w W) (hB:w.heap.size≤B) :
  ∃ W3,((W.setCell ⟨B,4,none⟩ y4).setCell ⟨B,5,none⟩ y5)=W3∧W3.heap[B]? = some (.cells #[x0,x1,x2,x3,y4,y5] t (0,0))∧(∀ k,k≠B→W3.heap[k]? = W.heap[k]?)∧W3.heap.size=W.heap.size∧Below w.heap.size w W3:=
 ⟨_,rfl,heap_setCell_same _ _ _ _ _ _ (heap_setCell_same _ _ _ _ _ _ h),fun _ hk=>(heap_setCell_other _ _ _ _ hk).trans (heap_setCell_other _ _ _ _ hk),by simp [World.setCell],(hb.setCell hB _).setCell hB _⟩
end Go.Proofs.YtaddkkkchkdgkaaGreatDoor
namespace Go.FlX
open Go Go.RowKit
open Go.Flow (yields ym2 woy dep nd2)
abbrev Spec:=Option (Value ⊕ (Value→Nat→Nat→World→Prop))
def Spec.holds:Spec→Value→Nat→Nat→World→Prop
 | some (.inl u),v,_,_,_=>v=u
 | some (.inr V),v,s,e,w=>V v s e w
 | none,_,_,_,_=>True
def Spec.ok (P:Program) (w0:World) (s:Spec) (o:Oper) (a:Act) (v:Value):Prop:=match s with
 | some (.inl u)=>v=u
 | some (.inr _)=>True
 | none => ∀ u,(execOp a.eval o).run P w0 = .ok (.value u) w0→v=u
abbrev Ctx:=Nat→Nat→Nat→World→Prop
def Mono (p:Nat→Nat→World→Prop):Prop:=∀ s e w w',p s e w→Below w.heap.size w w'→p s e w'
def Spec.mono (s:Spec):Prop:=∀ v,Mono (s.holds v)
theorem mi (u:Value):Spec.mono (some (.inl u)):=fun _ _ _ _ _ h _=>h
theorem mono_none:Spec.mono none:=fun _ _ _ _ _ h _=>h
section
variable {P:Program} {ops:Array Oper}
def Runs (P:Program) (ops:Array Oper) (w0:World) (o:Oper) (s:Spec) (a:Act) (w:World):Prop:=
 if Region.wanted o (yielded ops a.tmps) then yields P o a.eval w (fun v w'=>Below w.heap.size w w'∧s.ok P w0 o a v∧s.holds v w.heap.size w'.heap.size w') else s.ok P w0 o a undef∧s.holds undef w.heap.size w.heap.size w
def Ru (P:Program) (ops:Array Oper) (w0:World) (o:Oper) (s:Spec) (a:Act) (Γ:Ctx):Prop:=
 ∀ w,Below w0.heap.size w0 w→(∀ j,dep o j=true→∃ b e,Γ j b e w)→Runs P ops w0 o s a w
def upd (Γ:Ctx) (i:Nat) (p:Nat→Nat→World→Prop):Ctx:=fun j=>if j=i then p else Γ j
theorem upd_ne {Γ:Ctx} {i j:Nat} {p:Nat→Nat→World→Prop} (h:j≠i):upd Γ i p j=Γ j:=by simp [upd,h]
theorem upd_same {Γ:Ctx} {i:Nat} {p:Nat→Nat→World→Prop}:upd Γ i p i=p:=by simp [upd]
theorem uc2 {Γ:Ctx} {i j:Nat} {p q:Nat→Nat→World→Prop} (h:j≠i):upd (upd Γ i p) j q=upd (upd Γ j q) i p:=by
 funext k;unfold upd
 by_cases h1:k=j
 ·subst h1;simp [h]
 ·simp [h1]
def fOp (P:Program) (ops:Array Oper) (S:Nat→Spec) (w0:World) (i:Nat) (K:Act→Ctx→Prop) (a:Act) (Γ:Ctx):Prop:=
 match ops[i]? with
 | none=>K a Γ
 | some o=>(∃ v,(S i).ok P w0 o a v)∧Ru P ops w0 o (S i) a Γ∧∀ v,(S i).ok P w0 o a v→K (a.put o.dst v) (upd Γ i ((S i).holds v))
theorem os5 {w0:World} {s:Spec} {o:Oper} {a a':Act} {v:Value} (he:execOp a'.eval o=execOp a.eval o):s.ok P w0 o a' v↔s.ok P w0 o a v:=by
 unfold Spec.ok
 cases s with
 | none=>simp only [he]
 | some x=>cases x <;> exact Iff.rfl
theorem Ru.of_same {w0:World} {o:Oper} {s:Spec} {a a':Act} {Γ Γ':Ctx} (h:Ru P ops w0 o s a Γ) (he:execOp a'.eval o=execOp a.eval o)
  (hw:Region.wanted o (yielded ops a'.tmps)=Region.wanted o (yielded ops a.tmps)) (hg:∀ j,dep o j=true→Γ' j=Γ j):Ru P ops w0 o s a' Γ':=by
 intro w hB hG
 have:=h w hB (fun j hj=>by rw [← hg j hj];exact hG j hj)
 unfold Runs yields at *
 simp only [os5 he]
 rw [he,hw]
 exact this
def Tree (P:Program) (ops:Array Oper) (S:Nat→Spec) (w0:World) (E:Act→Ctx→Prop):List Oper→Nat→Act→Ctx→Prop
 | [],_,a,Γ=>E a Γ
 | o :: rest,i,a,Γ=>(∃ v,(S i).ok P w0 o a v)∧Ru P ops w0 o (S i) a Γ∧∀ v,(S i).ok P w0 o a v→Tree P ops S w0 E rest (i + 1) (a.put o.dst v) (upd Γ i ((S i).holds v))
def aF (P:Program) (ops:Array Oper) (S:Nat→Spec) (w0:World) (n:Nat) (L:Array Bool→Act→Ctx→Prop):Nat→Array Bool→Act→Ctx→Prop
 | 0,listed,a,Γ=>L listed a Γ
 | f + 1,listed,a,Γ=>Region.ready .any ops listed≠[]∧∀ i ∈ Region.ready .any ops listed,i < n∧fOp P ops S w0 i (aF P ops S w0 n L f (listed.setIfInBounds i true)) a Γ
structure Told (w0:World) (Γ:Ctx) (I:Nat→Nat×Nat) (w:World):Prop where
 holds:∀ j,Γ j (I j).1 (I j).2 w
 le:∀ j,w0.heap.size≤(I j).1∧(I j).1≤(I j).2∧(I j).2≤w.heap.size
 apart:∀ j k,j≠k→(I j).2≤(I k).1∨(I k).2≤(I j).1
theorem Told.step {S:Nat→Spec} {w0 w w':World} {Γ:Ctx} {I:Nat→Nat×Nat} (h:Told w0 Γ I w) (hM:∀ j,Mono (Γ j)) (hB:Below w0.heap.size w0 w) (i:Nat) (v:Value) (hb:Below w.heap.size w w')
  (hv:(S i).holds v w.heap.size w'.heap.size w'):Told w0 (upd Γ i ((S i).holds v)) (fun j=>if j=i then (w.heap.size,w'.heap.size) else I j) w':=by
 refine ⟨fun j => ?_,fun j => ?_,fun j k hjk => ?_⟩
 ·by_cases e:j=i
  ·subst e;rw [upd_same,if_pos rfl];exact hv
  ·rw [upd_ne e,if_neg e];exact hM j _ _ _ _ (h.holds j) hb
 ·by_cases e:j=i
  ·rw [if_pos e];exact ⟨hB.size,hb.size,Nat.le_refl _⟩
  ·rw [if_neg e];exact ⟨(h.le j).1,(h.le j).2.1,Nat.le_trans (h.le j).2.2 hb.size⟩
 ·by_cases e:j=i
  ·have ek:k≠i:=fun e2=>hjk (e.trans e2.symm)
   rw [if_pos e,if_neg ek];exact .inr (h.le k).2.2
  ·rw [if_neg e]
   by_cases ek:k=i
   ·rw [if_pos ek];exact .inl (h.le j).2.2
   ·rw [if_neg ek];exact h.apart j k hjk
theorem mono_upd {S:Nat→Spec} (hS:∀ i,(S i).mono) {Γ:Ctx} (hM:∀ j,Mono (Γ j)) (i:Nat) (v:Value):∀ j,Mono (upd Γ i ((S i).holds v) j):=fun j=>by
 by_cases e:j=i
 ·subst e;rw [upd_same];exact hS j v
 ·rw [upd_ne e];exact hM j
theorem wAo {S:Nat→Spec} {w0:World} (hS:∀ i,(S i).mono) {n g:Nat} {L:Array Bool→Act→Ctx→Prop} {Q:Exit→Act→World→Prop}
  (hL:∀ listed a Γ w I,L listed a Γ→Below w0.heap.size w0 w→Told w0 Γ I w→wpAny P .any ops Q g listed a w):∀ (f:Nat) (listed:Array Bool) (a:Act) (Γ:Ctx) (w:World) (I:Nat→Nat×Nat),
  aF P ops S w0 n L f listed a Γ→Below w0.heap.size w0 w→Told w0 Γ I w→(∀ j,Mono (Γ j))→wpAny P .any ops Q (f + g) listed a w
 | 0,_,_,_,_,_,h,hB,hG,_=>by rw [Nat.zero_add];exact hL _ _ _ _ _ h hB hG
 | f + 1,listed,a,Γ,w,I,h,hB,hG,hM=>by
   rw [show f + 1 + g=(f + g) + 1 by omega]
   refine ⟨fun h0=>absurd h0 h.1,fun i hi => ?_⟩
   have h1:=(h.2 i hi).2
   unfold fOp at h1
   unfold wpOp
   split
   ·rename_i ho
    simp only [ho] at h1
    exact wAo hS hL f _ _ _ _ _ h1 hB hG hM
   ·rename_i o ho
    simp only [ho] at h1
    have h2:=h1.2.1 w hB (fun j _=>⟨_,_,hG.holds j⟩)
    unfold Runs at h2
    split
    ·rename_i hw
     simp only [hw,if_true] at h2
     refine .inl (woy (ym2 ?_ h2))
     intro v w' ⟨hb,ho,hv⟩
     exact wAo hS hL f _ _ _ _ _ (h1.2.2 v ho) (hB.trans (hb.mono hB.size)) (hG.step hM hB i v hb hv) (mono_upd hS hM i v)
    ·rename_i hw
     simp only [hw] at h2
     exact wAo hS hL f _ _ _ _ _ (h1.2.2 undef h2.1) hB (hG.step hM hB i undef (Below.refl _ _) h2.2) (mono_upd hS hM i undef)
theorem aFf {S:Nat→Spec} {w0:World} {n i:Nat} {oi:Oper} {L:Array Bool→Act→Ctx→Prop} (hi:ops[i]? = some oi) (hsel:∀ (j:Nat) (o:Oper) cs b,ops[j]? = some o→o.op ≠ .select cs b)
  (hs:Region.sinkB .any ops n=true) (hc:Region.chainB .any ops n=true) (hn:n < ops.size) (hin:i < n)
  (hdone:∀ listed a Γ,L listed a Γ→∀ j ∈ Region.ready .any ops listed,n≤j) :
  ∀ (f:Nat) (listed:Array Bool) (a:Act) (Γ:Ctx),HeadInv .any ops n listed →
    (∀ j oj,ops[j]? = some oj→j≠i→listed.getD j true=false→(∀ e ∈ oj.after,Region.binds .any e=true→e.on≠i)→oi.apart ops oj=true) →
    i ∈ Region.ready .any ops listed→(∃ v,(S i).ok P w0 oi a v)→Ru P ops w0 oi (S i) a Γ →
    (∀ v,(S i).ok P w0 oi a v→aF P ops S w0 n L f (listed.setIfInBounds i true) (a.put oi.dst v) (upd Γ i ((S i).holds v)))→aF P ops S w0 n L (f + 1) listed a Γ:=by
 intro f
 induction f with
 | zero=>
   intro listed a Γ Aj _ hr Am hy H
   obtain ⟨v0,Ab⟩:=Am
   have Ad:=(mem_ready.1 hr).1
   refine ⟨fun h=>(by rw [h] at hr;cases hr),fun j hj => ?_⟩
   have Ai:j < n:=by
    rcases Nat.lt_or_ge j n with h | h
    ·exact h
    ·exact absurd hj (tail_waits hs hc hn Aj _ i rfl hin Ad j h)
   refine ⟨Ai,?_⟩
   by_cases hji:j=i
   ·subst hji
    unfold fOp;simp only [hi];exact ⟨⟨v0,Ab⟩,hy,H⟩
   ·have:=hdone _ _ _ (H v0 Ab) j (ready_mono hj hji)
    omega
 | succ f ih=>
   intro listed a Γ Aj Aa hr Am hy H
   obtain ⟨v0,Ab⟩:=Am
   have Ad:=(mem_ready.1 hr).1
   refine ⟨fun h=>(by rw [h] at hr;cases hr),fun j hj => ?_⟩
   have Ai:j < n:=by
    rcases Nat.lt_or_ge j n with h | h
    ·exact h
    ·exact absurd hj (tail_waits hs hc hn Aj _ i rfl hin Ad j h)
   refine ⟨Ai,?_⟩
   by_cases hji:j=i
   ·subst hji
    unfold fOp;simp only [hi];exact ⟨⟨v0,Ab⟩,hy,H⟩
   ·obtain ⟨Ae,oj,Ak,Al⟩:=mem_ready.1 hj
    have An:∀ k,listed.getD k true=false→listed.getD k false=true→False:=fun k h1 h0=>by rw [getD_both h1] at h0;cases h0
    have Ag:∀ e ∈ oj.after,Region.binds .any e=true→e.on≠i:=fun e he hb heq=>An i Ad (by rw [← heq];exact Al e he hb)
    have Af:∀ e ∈ oi.after,Region.binds .any e=true→e.on≠j:=fun e he hb heq=>by
     obtain ⟨_,o',Ao,Ah⟩:=mem_ready.1 hr
     rw [hi] at Ao;cases Ao
     exact An j Ae (by rw [← heq];exact Ah e he hb)
    have Aq:=Aa j oj Ak hji Ae Ag
    obtain ⟨h1,h2,h3⟩:=Oper.apart_spec Aq
    have Ac:∀ k ok,ops[k]? = some ok→k≠i→(listed.setIfInBounds j true).getD k true=false →
      (∀ e ∈ ok.after,Region.binds .any e=true→e.on≠i)→oi.apart ops ok=true:=fun k ok hk hki Ad hno=>by
     refine Aa k ok hk hki ?_ hno
     by_cases hjk:j=k
     ·subst hjk;exact Ae
     ·rw [getD_set_ne true hjk] at Ad;exact Ad
    have Hj:∀ v,(S i).ok P w0 oi a v→(∃ u,(S j).ok P w0 oj (a.put oi.dst v) u)∧Ru P ops w0 oj (S j) (a.put oi.dst v) (upd Γ i ((S i).holds v))∧∀ u,(S j).ok P w0 oj (a.put oi.dst v) u →
      aF P ops S w0 n L f ((listed.setIfInBounds i true).setIfInBounds j true) ((a.put oi.dst v).put oj.dst u) (upd (upd Γ i ((S i).holds v)) j ((S j).holds u)):=fun v hv=>by
     have:=((H v hv).2 j (ready_mono hj hji)).2
     unfold fOp at this
     simpa only [Ak] using this
    unfold fOp
    simp only [Ak]
    have ej:=fun v=>execOp_put oj (fun cs b=>hsel j oj cs b Ak) a oi.dst v h1
    have ei:=fun u=>execOp_put oi (fun cs b=>hsel i oi cs b hi) a oj.dst u h3
    refine ⟨(Hj v0 Ab).1.imp fun u hu=>(os5 (ej v0)).1 hu,(Hj v0 Ab).2.1.of_same (ej v0).symm (wanted_put oj a oi.dst v0 h1).symm (fun k hk => ?_),fun u hu => ?_⟩
    ·exact (upd_ne (nd2 Ag hk)).symm
    ·refine ih (listed.setIfInBounds j true) _ _ (Aj.set hj Ai) Ac (ready_mono hr (Ne.symm hji)) ⟨v0,(os5 (ei u)).2 Ab⟩ ?_ (fun v hv => ?_)
     ·exact hy.of_same (execOp_put oi (fun cs b=>hsel i oi cs b hi) a oj.dst u h3) (wanted_put oi a oj.dst u h3) (fun k hk=>upd_ne (nd2 Af hk))
     ·have Ap:=(os5 (ei u)).1 hv
      have:=(Hj v Ap).2.2 u ((os5 (ej v)).2 hu)
      rw [Array.setIfInBounds_comm _ _ hji,← Act.put_comm a v u h2,← uc2 hji]
      exact this
theorem aFl {S:Nat→Spec} {w0:World} {n g:Nat} {Lq:Act→Ctx→Prop} (hsel:Region.noSelect ops=true) (hs:Region.sinkB .any ops n=true) (hc:Region.chainB .any ops n=true) (hn:n < ops.size) :
  ∀ (l:List Oper) (k:Nat) (listed:Array Bool) (a:Act) (Γ:Ctx),(∀ j,j < l.length→l[j]? = ops[k + j]?)→k + l.length=n→HeadInv .any ops n listed →
  Region.lexHead .any ops g l.length k listed=true→Tree P ops S w0 Lq l k a Γ →
  aF P ops S w0 n (fun listed' a' Γ'=>Region.seqB .any ops g n listed'=true∧Lq a' Γ') l.length listed a Γ
 | [],k,listed,a,Γ,_,hk,_,hB,h=>by
   have:k=n:=by simpa using hk
   subst this
   exact ⟨by simpa [Region.lexHead] using hB,h⟩
 | o :: l,k,listed,a,Γ,hl,hk,inv,hB,h=>by
   have h0:ops[k]? = some o:=by simpa using (hl 0 (by simp)).symm
   simp only [List.length_cons,Region.lexHead,Bool.and_eq_true] at hB
   obtain ⟨⟨hr,hf⟩,Ac⟩:=hB
   have Ab:k < n:=by simp only [List.length_cons] at hk;omega
   have Aa:k ∈ Region.ready .any ops listed:=by simpa using hr
   exact aFf h0 (Region.noSelect_spec hsel) hs hc hn Ab (fun listed' a' Γ' hL=>seqB_ready hL.1) l.length listed a Γ inv (Region.free_spec h0 hf) Aa h.1 h.2.1
    (fun v hv=>aFl hsel hs hc hn l (k + 1) _ _ _ (fun j hj=>by have:=hl (j + 1) (by simp;omega);simpa [Nat.add_assoc,Nat.add_comm 1 j] using this) (by simp only [List.length_cons] at hk;omega) (inv.set Aa Ab) Ac (h.2.2 v hv))
theorem wrf {id:Nat} {Q:Exit→Act→World→Prop} {a:Act} {w:World} {l:List Oper} (n:Nat) (S:Nat→Spec) (hm:P.follows .mixedOrders=true) (hB:Region.lexTailB .any l.toArray n=true) (hS:∀ i,(S i).mono)
  (h:Tree P l.toArray S w (fun a' Γ => ∀ w',Below w.heap.size w w'→(∃ I,Told w Γ I w')→wpList P l.toArray Q (l.drop n) a' w') (l.take n) 0 a (fun _ _ _ _=>True)):(Code.region id l.toArray true).wp P Q a w:=by
 simp only [Region.lexTailB,Bool.and_eq_true,decide_eq_true_eq] at hB
 obtain ⟨⟨⟨⟨Ab,hn⟩,hs⟩,hc⟩,Ac⟩:=hB
 have Ag:n < l.length:=by simpa using hn
 have Aa:(l.take n).length=n:=by simp;omega
 have Ae:(l.drop n).length=l.toArray.size - n:=by simp
 have Ad:HeadInv .any l.toArray n (Array.replicate l.toArray.size false):=
  ⟨by simp,fun j oj _ hl=>(by rw [getD_replicate_false] at hl;cases hl),fun t _ ht=>getD_in (by simpa using ht) (getD_replicate_false _ _)⟩
 have H:=aFl (g:=l.toArray.size - n) Ab hs hc hn (l.take n) 0 _ a (fun _ _ _ _=>True) (fun j hj=>by
  have Af:j < n:=by rw [Aa] at hj;exact hj
  simp [Af]) (by simpa using Aa) Ad (by rw [Aa];exact Ac) h
 refine wp_region_any hm ?_
 have:=wAo (Q:=Q) (g:=l.toArray.size - n) hS (fun listed a' Γ' w' I hL hb hG=>by
  have:=wpAny_of_seq (md:=.any) (Q':=Q) (l.drop n) n listed a' w' (fun j=>by simp [List.getElem?_drop]) (by rw [Ae];exact hL.1) (hL.2 w' hb ⟨I,hG⟩)
  rwa [Ae] at this) _ _ _ _ { w with drawn:=w.drawn + 1 } (fun _=>(w.heap.size,w.heap.size)) H ((Below.refl _ _).drew) ⟨fun _=>trivial,fun _=>⟨Nat.le_refl _,Nat.le_refl _,Nat.le_refl _⟩,fun _ _ _ => .inl (Nat.le_refl _)⟩ (fun _ _ _ _ _ _ _=>trivial)
 rw [Aa,show n + (l.toArray.size - n)=l.toArray.size by omega] at this
 exact this
theorem tn2 {S:Nat→Spec} {w0:World} {E:Act→Ctx→Prop} {i:Nat} {a:Act} {Γ:Ctx} (h:E a Γ):Tree P ops S w0 E [] i a Γ:=h
def sp3 (l:List Spec):Nat→Spec:=fun i=>l.getD i none
theorem sm2 {l:List Spec} (h:∀ s ∈ l,Spec.mono s):∀ i,(sp3 l i).mono:=fun i=>by
 unfold sp3
 rcases Nat.lt_or_ge i l.length with h' | h'
 ·rw [List.getD_eq_getElem?_getD,List.getElem?_eq_getElem h'];exact h _ (List.getElem_mem h')
 ·rw [List.getD_eq_getElem?_getD,List.getElem?_eq_none h'];exact mono_none
def RV (P:Program) (ops:Array Oper) (o:Oper) (u:Value) (a:Act) (w:World):Prop:=
 if Region.wanted o (yielded ops a.tmps) then yields P o a.eval w (fun v w'=>Below w.heap.size w w'∧v=u) else undef=u
def RR2 (P:Program) (ops:Array Oper) (o:Oper) (V:Value→Nat→Nat→World→Prop) (a:Act) (w:World):Prop:=
 if Region.wanted o (yielded ops a.tmps) then yields P o a.eval w (fun v w'=>Below w.heap.size w w'∧V v w.heap.size w'.heap.size w') else V undef w.heap.size w.heap.size w
theorem tvK {S:Nat→Spec} {w0:World} {E:Act→Ctx→Prop} {o:Oper} {rest:List Oper} {i:Nat} {a:Act} {Γ:Ctx} {u:Value} (hs:S i=some (.inl u))
  (h:∀ K:Act→Prop,(∀ a',Tree P ops S w0 E rest (i + 1) a' (upd Γ i (fun _ _ _=>True))→K a')→(∀ w,Below w0.heap.size w0 w→(∀ j,dep o j=true→∃ b e,Γ j b e w)→RV P ops o u a w)∧K (a.put o.dst u)):Tree P ops S w0 E (o :: rest) i a Γ:=by
 refine ⟨by rw [hs];exact ⟨u,rfl⟩,?_,fun v hv => ?_⟩
 ·intro w hB hG
  have:=(h (fun _=>True) (fun _ _=>trivial)).1 w hB hG
  rw [hs]
  unfold RV at this
  unfold Runs
  split
  ·rename_i hw;simp only [hw,if_true] at this
   exact ym2 (fun v w' h=>⟨h.1,h.2,h.2⟩) this
  ·rename_i hw;simp only [hw] at this
   exact ⟨this,this⟩
 ·rw [hs] at hv ⊢
  have Aa:v=u:=hv
  subst Aa
  have e:Spec.holds (some (.inl v)) v=fun _ _ _=>True:=by funext a b c;simp [Spec.holds]
  rw [e]
  exact (h (fun a'=>Tree P ops S w0 E rest (i + 1) a' (upd Γ i (fun _ _ _=>True))) (fun _ h=>h)).2
theorem tvK2 {S:Nat→Spec} {w0:World} {E:Act→Ctx→Prop} {o:Oper} {rest:List Oper} {i:Nat} {a:Act} {Γ:Ctx} {V:Value→Nat→Nat→World→Prop} (hs:S i=some (.inr V))
  (h:∀ K:Act→(Nat→Nat→World→Prop)→Prop,(∀ a' v,Tree P ops S w0 E rest (i + 1) a' (upd Γ i (V v))→K a' (V v))→(∀ w,Below w0.heap.size w0 w→(∀ j,dep o j=true→∃ b e,Γ j b e w)→RR2 P ops o V a w)∧∀ v,K (a.put o.dst v) (V v)):Tree P ops S w0 E (o :: rest) i a Γ:=by
 refine ⟨by rw [hs];exact ⟨undef,trivial⟩,?_,fun v _ => ?_⟩
 ·intro w hB hG
  have:=(h (fun _ _=>True) (fun _ _ _=>trivial)).1 w hB hG
  rw [hs]
  unfold RR2 at this
  unfold Runs
  split
  ·rename_i hw;simp only [hw,if_true] at this
   exact ym2 (fun v w' h=>⟨h.1,trivial,h.2⟩) this
  ·rename_i hw;simp only [hw] at this
   exact ⟨trivial,this⟩
 ·rw [hs]
  exact (h (fun a' p=>Tree P ops S w0 E rest (i + 1) a' (upd Γ i p)) (fun _ _ h=>h)).2 v
theorem tree_pureK {S:Nat→Spec} {w0:World} {E:Act→Ctx→Prop} {o:Oper} {rest:List Oper} {i:Nat} {a:Act} {Γ:Ctx} (hs:S i=none)
  (h:∀ K:Act→Prop,(∀ a',Tree P ops S w0 E rest (i + 1) a' (upd Γ i (fun _ _ _=>True))→K a')→(∀ w,Below w0.heap.size w0 w→(∀ j,dep o j=true→∃ b e,Γ j b e w)→Region.wanted o (yielded ops a.tmps)=true∧∃ u,(execOp a.eval o).run P w = .ok (.value u) w∧(execOp a.eval o).run P w0 = .ok (.value u) w0) ∧
    ∀ v,(∀ u,(execOp a.eval o).run P w0 = .ok (.value u) w0→v=u)→K (a.put o.dst v)):Tree P ops S w0 E (o :: rest) i a Γ:=by
 refine ⟨?_,?_,fun v hv => ?_⟩
 ·rw [hs]
  by_cases hu:∃ u,(execOp a.eval o).run P w0 = .ok (.value u) w0
  ·obtain ⟨u,hu⟩:=hu
   exact ⟨u,fun u' h'=>by rw [hu] at h';simpa using h'⟩
  ·exact ⟨undef,fun u' h'=>absurd ⟨u',h'⟩ hu⟩
 ·intro w hB hG
  obtain ⟨hw,u,h1,h2⟩:=(h (fun _=>True) (fun _ _=>trivial)).1 w hB hG
  rw [hs]
  unfold Runs yields
  rw [if_pos hw,h1]
  exact ⟨Below.refl _ _,fun u' h'=>by rw [h2] at h';simpa using h',trivial⟩
 ·rw [hs] at hv ⊢
  have e:Spec.holds none v=fun _ _ _=>True:=by funext a b c;simp [Spec.holds]
  rw [e]
  exact (h (fun a'=>Tree P ops S w0 E rest (i + 1) a' (upd Γ i (fun _ _ _=>True))) (fun _ h=>h)).2 v hv
theorem ln2:∀ s ∈ ([]:List Spec),s.mono:=fun _ h=>by cases h
theorem li2 {u:Value} {l:List Spec} (h:∀ s ∈ l,s.mono):∀ s ∈ (some (.inl u) :: l:List Spec),s.mono:=fun s hs=>by
 rcases List.mem_cons.1 hs with rfl | hs
 ·exact mi u
 ·exact h s hs
theorem lmono_none {l:List Spec} (h:∀ s ∈ l,s.mono):∀ s ∈ (none :: l:List Spec),s.mono:=fun s hs=>by
 rcases List.mem_cons.1 hs with rfl | hs
 ·exact mono_none
 ·exact h s hs
theorem li3 {V:Value→Nat→Nat→World→Prop} {l:List Spec} (hV:Spec.mono (some (.inr V))) (h:∀ s ∈ l,s.mono):∀ s ∈ (some (.inr V) :: l:List Spec),s.mono:=fun s hs=>by
 rcases List.mem_cons.1 hs with rfl | hs
 ·exact hV
 ·exact h s hs
end
end Go.FlX
