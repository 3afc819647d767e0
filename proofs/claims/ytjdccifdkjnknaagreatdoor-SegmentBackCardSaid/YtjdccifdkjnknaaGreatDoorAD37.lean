/- Of mergeK.py, without the walk of SegmentGrows: U25, U27p, U27, U26, U28h, UO, U28, U28W -/
import Derived.Test.YtjdccifdkjnknaaGreatDoorAC36
import Derived.Test.YtjdccifdkjnknaaGreatDoorAC21
import Derived.Test.YtjdccifdkjnknaaGreatDoorAC16
import Derived.Test.YtjdccifdkjnknaaGreatDoorAC33
import Derived.Test.YtjdccifdkjnknaaGreatDoorAC27
import Derived.Test.YtjdccifdkjnknaaGreatDoorAC08
import Derived.Test.YtjdccifdkjnknaaGreatDoorAC26
import Derived.Test.YtjdccifdkjnknaaGreatDoorAC06
import Derived.Test.YtjdccifdkjnknaaGreatDoorAC07
import Derived.Lib.SmallJoins
namespace Go.Proofs.YtjdccifdkjnknaaGreatDoor
open Go.RowKit Go.Sort
open Tess (CK Pay)
set_option maxRecDepth 100000 in
set_option maxHeartbeats 4000000 in
theorem one12_eq (p q:Nat→Prop) (cs ds:List Value) (x:CK×Pay) (w:World) (hx:CA3 p w cs x) (hy:CA3 q w ds x) :
  Calls Tryz.prog 35 #[.agg cs.toArray,.agg ds.toArray] w fun e w'=>e = .returned (.bool true)∧Below w.heap.size w w':=by
 obtain ⟨vd,vs,vm,vx,rfl,hd,hp⟩:=hx
 obtain ⟨ud,us,um,ux,rfl,he,hq⟩:=hy
 have Ak:=Hd (fun W (hB:Below w.heap.size w W)=>rvals_any p q vd ud _ _ W (hd.ag (Ag.new p hB)).w (he.ag (Ag.new q hB)).w)
 have Am:=Hd (fun W (hB:Below w.heap.size w W)=>rwides_any p q vs us _ _ W (hp.sums.ag (Ag.new p hB)).w (hq.sums.ag (Ag.new q hB)).w)
 have As:=Hd (fun W (hB:Below w.heap.size w W)=>ra7 p q vm um _ _ W (hp.mins.ag (Ag.new p hB)).w (hq.mins.ag (Ag.new q hB)).w)
 have Ao:=Hd (fun W (hB:Below w.heap.size w W)=>ra7 p q vx ux _ _ W (hp.maxs.ag (Ag.new p hB)).w (hq.maxs.ag (Ag.new q hB)).w)
 simp only at Ak Am As Ao
 obtain ⟨a2,c2,rfl⟩:=hd.shape
 obtain ⟨a4,c4,rfl⟩:=hp.sums.shape
 obtain ⟨a5,c5,rfl⟩:=hp.mins.shape
 obtain ⟨a6,c6,rfl⟩:=hp.maxs.shape
 obtain ⟨b2,d2,rfl⟩:=he.shape
 obtain ⟨b4,d4,rfl⟩:=hq.sums.shape
 obtain ⟨b5,d5,rfl⟩:=hq.mins.shape
 obtain ⟨b6,d6,rfl⟩:=hq.maxs.shape
 clear hd hp he hq
 generalize (x.1.2.map Tess.valOf).length=n2 at *
 generalize x.2.sums.length=n4 at *
 generalize x.2.mins.length=n5 at *
 generalize x.2.maxs.length=n6 at *
 generalize x.1.1=t1 at *
 generalize x.2.n=z1 at *
 obtain ⟨W0,An⟩:∃ W0,(w.alloc (.cells #[.int .i64 t1,.slice a2 n2 c2,.int .i64 z1,.slice a4 n4 c4,.slice a5 n5 c5,.slice a6 n6 c6] 56)).alloc (.cells #[.int .i64 t1,.slice b2 n2 d2,.int .i64 z1,.slice b4 n4 d4,.slice b5 n5 d5,.slice b6 n6 d6] 56)=W0:=⟨_,rfl⟩
 obtain ⟨k0,k1,kS,kB⟩:=la3 w (.cells #[.int .i64 t1,.slice a2 n2 c2,.int .i64 z1,.slice a4 n4 c4,.slice a5 n5 c5,.slice a6 n6 c6] 56) (.cells #[.int .i64 t1,.slice b2 n2 d2,.int .i64 z1,.slice b4 n4 d4,.slice b5 n5 d5,.slice b6 n6 d6] 56)
 rw [An] at k0 k1 kS kB
 obtain ⟨⟨x0,x1,x2,x3,x4,x5⟩,_⟩:=can6 k0
 obtain ⟨⟨y0,y1,y2,y3,y4,y5⟩,_⟩:=can6 k1
 have Ap:=Hd k0
 have Aq:=Hd k1
 have HB:=Hd kB
 clear k0 k1 kS kB
 go_enter Tryz.func35,Tryz.ntmps35
 go_wp2_with (fail)
 go_at_call 85
 refine (Ak.out _ HB.out).mono ?_
 rintro e w1 ⟨rfl,hb⟩
 have Aj:=Hd (Bt HB.out hb)
 have h0:=(hb.block _ (Array.getElem?_eq_some_iff.1 Ap.out).1).trans Ap.out
 have h1:=(hb.block _ (Array.getElem?_eq_some_iff.1 Aq.out).1).trans Aq.out
 have Af:=Hd h0
 have Ae:=Hd h1
 clear x0 x1 x2 x3 x4 x5 y0 y1 y2 y3 y4 y5
 obtain ⟨⟨x0,x1,x2,x3,x4,x5⟩,_⟩:=can6 h0
 obtain ⟨⟨y0,y1,y2,y3,y4,y5⟩,_⟩:=can6 h1
 clear hb h0 h1
 clear An
 go_wp2_with (fail)
 go_at_call 86
 refine (Am.out _ Aj.out).mono ?_
 rintro e w2 ⟨rfl,hb⟩
 have Al:=Hd (Bt Aj.out hb)
 have h0:=(hb.block _ (Array.getElem?_eq_some_iff.1 Af.out).1).trans Af.out
 have h1:=(hb.block _ (Array.getElem?_eq_some_iff.1 Ae.out).1).trans Ae.out
 have Ac:=Hd h0
 have Ad:=Hd h1
 clear x0 x1 x2 x3 x4 x5 y0 y1 y2 y3 y4 y5
 obtain ⟨⟨x0,x1,x2,x3,x4,x5⟩,_⟩:=can6 h0
 obtain ⟨⟨y0,y1,y2,y3,y4,y5⟩,_⟩:=can6 h1
 clear hb h0 h1
 go_wp2_with (fail)
 go_at_call 87
 refine (As.out _ Al.out).mono ?_
 rintro e w3 ⟨rfl,hb⟩
 have Ar:=Hd (Bt Al.out hb)
 have h0:=(hb.block _ (Array.getElem?_eq_some_iff.1 Ac.out).1).trans Ac.out
 have h1:=(hb.block _ (Array.getElem?_eq_some_iff.1 Ad.out).1).trans Ad.out
 have Aa:=Hd h0
 have Ab:=Hd h1
 clear x0 x1 x2 x3 x4 x5 y0 y1 y2 y3 y4 y5
 obtain ⟨⟨x0,x1,x2,x3,x4,x5⟩,_⟩:=can6 h0
 obtain ⟨⟨y0,y1,y2,y3,y4,y5⟩,_⟩:=can6 h1
 clear hb h0 h1
 go_wp2_with (fail)
 go_at_call 87
 refine (Ao.out _ Ar.out).mono ?_
 rintro e w4 ⟨rfl,hb⟩
 have At:=Hd (Bt Ar.out hb)
 have h0:=(hb.block _ (Array.getElem?_eq_some_iff.1 Aa.out).1).trans Aa.out
 have h1:=(hb.block _ (Array.getElem?_eq_some_iff.1 Ab.out).1).trans Ab.out
 have Ah:=Hd h0
 have Ai:=Hd h1
 clear x0 x1 x2 x3 x4 x5 y0 y1 y2 y3 y4 y5
 obtain ⟨⟨x0,x1,x2,x3,x4,x5⟩,_⟩:=can6 h0
 obtain ⟨⟨y0,y1,y2,y3,y4,y5⟩,_⟩:=can6 h1
 clear hb h0 h1
 go_wp2_with (fail)
 go_ret
 exact ⟨rfl,At.out⟩
set_option maxRecDepth 100000 in
set_option maxHeartbeats 4000000 in
theorem same12_eq (p q:Nat→Prop) (va vb:Value) (l:List (CK×Pay)) (w:World) (ha:CA2 p w va l) (hb:CA2 q w vb l) :
  Calls Tryz.prog 15 #[va,vb] w fun e w'=>e = .returned (.bool true)∧Below w.heap.size w w':=by
 obtain ⟨a,ca,rfl,_,hl,_,Am⟩:=LA.open ha
 obtain ⟨b,cb,rfl,_,_,_,An⟩:=LA.open hb
 have hl:l.length≤9223372036854775807:=by unfold maxLen at hl;omega
 have As:=Hd Am
 have Aq:=Hd An
 clear Am An ha hb
 go_enter Tryz.func15,Tryz.ntmps15
 go_wp2
 go_loopw [5] (fun i wr => ∃ k:Nat,k≤l.length∧i = .int .i64 k∧Below w.heap.size w wr) (fun i _=>l.length - (intOf i).toNat)
 case atStart=>exact ⟨0,Nat.zero_le _,rfl,Below.refl _ _⟩
 case round=>
  obtain ⟨k,hk,rfl,hB⟩:=hrel
  have HB:=Hd hB
  by_cases hlt:k < l.length
  ·have At:(k:Int) < (l.length:Int):=by omega
   obtain ⟨b1,Aj,rfl,Al,_,cs,_,Ai,Ab⟩:=As.out k hlt
   obtain ⟨b2,Ak,rfl,Ae,_,ds,_,Ah,Aa⟩:=Aq.out k hlt
   have HS:=Hd (fun W (hW:Below wr.heap.size wr W)=>one12_eq p q cs ds l[k] W (Ai.ag (Ag.new _ (Bt hB hW))) (Ah.ag (Ag.new _ (Bt hB hW))))
   obtain ⟨_,_,_,_,_,_,_,_,rfl,_⟩:=Ai.shapes
   obtain ⟨_,_,_,_,_,_,_,_,rfl,_⟩:=Ah.shapes
   have Ac:=fun o (ho:o < 6)=>(hB.cell (p:=⟨b1,Aj + k * 6 + o,none⟩) Al).trans (Ab o ho)
   have Ad:=fun o (ho:o < 6)=>(hB.cell (p:=⟨b2,Ak + k * 6 + o,none⟩) Ae).trans (Aa o ho)
   have e0:=Ac 0 (by omega)
   have e1:=Ac 1 (by omega)
   have e2:=Ac 2 (by omega)
   have e3:=Ac 3 (by omega)
   have e4:=Ac 4 (by omega)
   have e5:=Ac 5 (by omega)
   have g0:=Ad 0 (by omega)
   have g1:=Ad 1 (by omega)
   have g2:=Ad 2 (by omega)
   have g3:=Ad 3 (by omega)
   have g4:=Ad 4 (by omega)
   have g5:=Ad 5 (by omega)
   simp only [Nat.add_zero,List.getElem?_cons_zero,List.getElem?_cons_succ] at e0 e1 e2 e3 e4 e5 g0 g1 g2 g3 g4 g5
   have Af:b1 < wr.heap.size:=Nat.lt_of_lt_of_le Al hB.size
   have Au:b2 < wr.heap.size:=Nat.lt_of_lt_of_le Ae hB.size
   clear Ac Ad Ab Aa Ai Ah hB
   generalize l[k]=x at *
   go_wp2_with (fail)
   refine Flow.wrf 8 (Flow.sp3 [.inl ?_,.inl ?_,.inl ?_,.inl ?_,.inl ?_,.inl ?_,.inl ?_,.inl ?_]) (by kernel_rfl) (by kernel_rfl) ?_ ?_
   rotate_left 8
   ·refine Flow.sm2 ?_
    repeat (first | exact Flow.ln2 | refine Flow.li2 ?_)
   all_goals try simp only [List.take_succ_cons,List.take_zero,List.drop_succ_cons,List.drop_zero]
   iterate 8 (refine Flow.tvK rfl (fun K hK=>⟨fun w hw hG => ?_,?_⟩);(have Av:=Flow.bc4 hw;clear hG hw;unfold Flow.Runs Flow.yields;go_simp;try rfl);go_simp;refine hK _ ?_;clear hK K)
   refine Flow.tn2 fun w1 Af hG => ?_
   clear hG
   have Ao:=Hd (Bt HB.out Af)
   have Ar:=Hd (HS.out w1 Af)
   clear Af
   go_wp2_with (fail)
   go_at_call 35
   refine Ar.out.mono ?_
   rintro e w2 ⟨rfl,Ae⟩
   have Ap:=Hd (Bt Ao.out Ae)
   clear Ae e0 e1 e2 e3 e4 e5 g0 g1 g2 g3 g4 g5
   go_wp2
   go_roundw
   case rel=>exact ⟨k + 1,by omega,by go_num,Ap.out⟩
   case measure=>simp [intOf];omega
  ·have At:¬ (k:Int) < (l.length:Int):=by omega
   go_wp2
   go_ret
   exact ⟨rfl,HB.out⟩
end Go.Proofs.YtjdccifdkjnknaaGreatDoor
namespace Tess
open Go Kl Go.RowKit Go.Proofs.YtjdccifdkjnknaaGreatDoor
abbrev ta:ByteArray:=⟨#[97]⟩
abbrev tyy:ByteArray:=⟨#[121]⟩
def sc2:Sch:=⟨[ta],[],1⟩
def ro2:List Row:=[⟨0,[⟨tyy,false⟩],[]⟩,⟨5,[⟨⟨#[]⟩,true⟩],[]⟩,⟨5,[⟨⟨#[]⟩,true⟩],[]⟩]
def ce2:List (CK×Pay):=[((0,[some tyy]),⟨1,[],[],[]⟩),((5,[none]),⟨2,[],[],[]⟩)]
theorem so7:sO sc2=true:=by decide +kernel
theorem ro5:ro2.all (Row.ok sc2)=true:=by decide +kernel
theorem roll13:rP 1 ro2=ce2:=by kernel_rfl
theorem p0:putL 0=[0]:=pLl2 0 (by decide)
theorem p1:putL 1=[1]:=pLl2 1 (by decide)
theorem p2:putL 2=[2]:=pLl2 2 (by decide)
theorem p10:putL 10=[10]:=pLl2 10 (by decide)
theorem head13:hB13 sc2=[1,0,1,1,97]:=by
 show putL 1 ++ (putL 0 ++ (putL 1 ++ ((putL 1 ++ [97]) ++ [])))=_
 rw [p0,p1]
 rfl
theorem time13:colT ce2=[2,0,10,2,2,2]:=by
 have e1:di 0 (ce2.map (·.1.1))=[0,5]:=by decide +kernel
 have e2:di 0 (ce2.map (·.2.n))=[1,1]:=by decide +kernel
 unfold colT pL2
 rw [e1,e2]
 show (putL 2 ++ (putL (tN 0) ++ (putL (tN 5) ++ []))) ++ (putL 2 ++ (putL (tN 1) ++ (putL (tN 1) ++ [])))=_
 rw [show tN 0=0 by decide +kernel,show tN 5=10 by decide +kernel,show tN 1=2 by decide +kernel,p0,p2,p10]
 rfl
theorem dict13:dO ce2 0=[tyy]:=by
 have h:dW ce2 0=[tyy]:=rfl
 unfold dO
 rw [h]
 have h1:=sWf [tyy]
 have h2:=(sWa [tyy] tyy).2 (by simp)
 have h3:=sWa [tyy]
 cases he:sW2 [tyy] with
 | nil=>rw [he] at h2;cases h2
 | cons x l=>
   rw [he] at h1 h3
   cases l with
   | nil=>
     have:=(h3 x).1 (by simp)
     rw [List.mem_singleton.1 this]
   | cons y l=>simp at h1
theorem dim13:colD ce2 0=[1,0,1,121,2,1,64]:=by
 unfold colD
 rw [dict13]
 show (putL 1 ++ ([] ++ (putL (shared w0 tyy) ++ putL (tyy.size - shared w0 tyy) ++ tyy.data.toList.drop (shared w0 tyy)))) ++ pN2 [place [tyy] tyy,1]=_
 rw [show shared w0 tyy=0 by decide +kernel,show place [tyy] tyy=0 by decide +kernel]
 unfold pN2
 rw [show widN [0,1]=1 by decide +kernel]
 show (putL 1 ++ ([] ++ (putL 0 ++ putL 1 ++ [121]))) ++ (putL 2 ++ _)=_
 rw [p0,p1,p2]
 decide +kernel
theorem parts13:(pS2 sc2 ce2).map mk=[⟨#[1,0,1,1,97]⟩,⟨#[2,0,10,2,2,2]⟩,⟨#[1,0,1,121,2,1,64]⟩]:=by
 have e:pS2 sc2 ce2=[hB13 sc2,colT ce2,colD ce2 0]:=rfl
 rw [e,head13,time13,dim13]
 rfl
theorem rr2:∀ r ∈ ro2,r.l.length≤1000∧r.ns.length≤1000∧r.rng:=by
 unfold ro2 Row.rng
 decide
theorem cells13_ok:CO sc2 ce2:=roll13 ▸ roll_ok (s:=sc2) (rows:=ro2) so7 (fun r hr=>List.all_eq_true.1 ro5 r hr) (fun r hr=>(rr2 r hr).2.2) (by decide)
theorem enc13:encP sc2 ce2=(joinL [⟨#[1,0,1,1,97]⟩,⟨#[2,0,10,2,2,2]⟩,⟨#[1,0,1,121,2,1,64]⟩],0):=by
 rw [efo cells13_ok (by decide)]
 unfold encS
 rw [parts13]
theorem dec13:decP sc2 (encP sc2 ce2).1=(ce2,0):=dec_encP (by rw [enc13])
theorem dec13x:decP sc2 ⟨#[120]⟩=([],21):=by
 unfold decP
 rw [if_neg (by rw [so7];decide)]
 have e:sF (ByteArray.size ⟨#[120]⟩) [] ⟨#[120]⟩=([],21):=by decide +kernel
 rw [e]
 rfl
end Tess
namespace Go.Proofs.YtjdccifdkjnknaaGreatDoor
open Go.RowKit Go.Sort
open Tess (CK Pay)
theorem one_inS {α:Type} {P:α→Prop} {a:α} (h:P a):∀ x ∈ [a],P x:=fun x hx=>by
 rcases List.mem_cons.1 hx with rfl | hx
 ·exact h
 ·cases hx
theorem vSa {w:World} {b:Nat} {t:TypeId} (s:ByteArray) (u:Bool) (hs:s.size≤maxLen) (h:w.heap[b]? = some (.cells #[.string s,.bool u] t (0,0))):VA (fun _=>True) w (.slice (some ⟨b,0,none⟩) 1 1) [⟨s,u⟩]:=
 ⟨_,1,rfl,(by decide:(1:Nat)≤maxLen),one_inS (P:=fun x:Tess.Val=>x.s.size≤maxLen) hs,(fun e=>by cases e),fun _=>⟨b,0,rfl,(Array.getElem?_eq_some_iff.1 h).1,trivial,fun j hj=>by
   have hj:j < 1:=hj
   obtain rfl:j=0:=by omega
   exact ⟨cell_of_row _ _ 0 _ _ _ h,cell_of_row _ _ 1 _ _ _ h⟩⟩⟩
theorem sa4 {W:World} {b0:Nat} (k0:W.heap[b0]? = some (.cells #[.string Tess.ta] 9 (0,0))):SA (fun _=>True) W (.agg #[.slice (some ⟨b0,0,none⟩) 1 1,.slice none 0 0,.int .i64 1]) Tess.sc2:=by
 refine ⟨_,_,rfl,⟨⟨(by decide:(1:Nat)≤maxLen),_,1,rfl,fun _=>⟨b0,0,rfl,(Array.getElem?_eq_some_iff.1 k0).1,fun j hj => ?_⟩⟩,fun _ _ _=>trivial,?_⟩,SlP.nil _ _,one_inS (P:=fun x:ByteArray=>x.size≤maxLen) (by decide),fun x hx=>by cases hx⟩
 ·have hj:j < 1:=hj
  obtain rfl:j=0:=by omega
  exact cell_of_row _ _ 0 _ _ _ k0
 ·exact fun n c e=>by cases e
theorem laid6n (w:World) (A B C D E F:Obj):∃ W,(((((w.alloc A).alloc B).alloc C).alloc D).alloc E).alloc F=W∧W.heap[w.heap.size]? = some A∧W.heap[w.heap.size + 1]? = some B∧W.heap[w.heap.size + 2]? = some C∧W.heap[w.heap.size + 3]? = some D∧W.heap[w.heap.size + 4]? = some E∧W.heap[w.heap.size + 5]? = some F∧W.heap.size=w.heap.size + 6∧Below w.heap.size w W:=by
 obtain ⟨h1,h2,h3,h4,h5,h6⟩:=laid4 w A B C D
 obtain ⟨k1,k2,k3,k4⟩:=la3 ((((w.alloc A).alloc B).alloc C).alloc D) E F
 rw [h5] at k1 k2
 exact ⟨_,rfl,(k4.block _ (by omega)).trans h1,(k4.block _ (by omega)).trans h2,(k4.block _ (by omega)).trans h3,(k4.block _ (by omega)).trans h4,k1,k2,by rw [k3,h5],h6.trans (k4.mono (by omega))⟩
theorem rows13_at {W:World} {b2 b3 b4 b5:Nat} {t2 t3 t4 t5:TypeId} (k2:W.heap[b2]? = some (.cells #[.string Tess.tyy,.bool false] t2 (0,0))) (k3:W.heap[b3]? = some (.cells #[.string ⟨#[]⟩,.bool true] t3 (0,0))) (k4:W.heap[b4]? = some (.cells #[.string ⟨#[]⟩,.bool true] t4 (0,0)))
  (k5:W.heap[b5]? = some (.cells #[.int .i64 0,.slice (some ⟨b2,0,none⟩) 1 1,.slice none 0 0,.int .i64 5,.slice (some ⟨b3,0,none⟩) 1 1,.slice none 0 0,.int .i64 5,.slice (some ⟨b4,0,none⟩) 1 1,.slice none 0 0] t5 (0,0))):RowsIn (fun _=>True) W (.slice (some ⟨b5,0,none⟩) 3 3) Tess.ro2:=by
 refine ⟨_,3,rfl,(by decide:(3:Nat)≤maxLen),Nat.le_refl 3,(fun e=>by cases e),fun _=>⟨b5,0,rfl,(Array.getElem?_eq_some_iff.1 k5).1,trivial,fun j hj => ?_⟩⟩
 have Aa:j < 3:=hj
 have h2:=vSa Tess.tyy false (by decide) k2
 have h3:=vSa ⟨#[]⟩ true (by decide) k3
 have h4:=vSa ⟨#[]⟩ true (by decide) k4
 rcases (show j=0∨j=1∨j=2 by omega) with rfl | rfl | rfl
 ·refine ⟨_,rfl,⟨_,_,0,rfl,Nat.le_refl 0,h2,SlP.nil _ _⟩,fun i hi => ?_⟩
  rcases (show i=0∨i=1∨i=2 by omega) with rfl | rfl | rfl
  ·exact cell_of_row _ _ 0 _ _ _ k5
  ·exact cell_of_row _ _ 1 _ _ _ k5
  ·exact cell_of_row _ _ 2 _ _ _ k5
 ·refine ⟨_,rfl,⟨_,_,0,rfl,Nat.le_refl 0,h3,SlP.nil _ _⟩,fun i hi => ?_⟩
  rcases (show i=0∨i=1∨i=2 by omega) with rfl | rfl | rfl
  ·exact cell_of_row _ _ 3 _ _ _ k5
  ·exact cell_of_row _ _ 4 _ _ _ k5
  ·exact cell_of_row _ _ 5 _ _ _ k5
 ·refine ⟨_,rfl,⟨_,_,0,rfl,Nat.le_refl 0,h4,SlP.nil _ _⟩,fun i hi => ?_⟩
  rcases (show i=0∨i=1∨i=2 by omega) with rfl | rfl | rfl
  ·exact cell_of_row _ _ 6 _ _ _ k5
  ·exact cell_of_row _ _ 7 _ _ _ k5
  ·exact cell_of_row _ _ 8 _ _ _ k5
theorem rollCode13:rC Tess.sc2 Tess.ro2=0:=by unfold rC;rw [Tess.so7,Tess.ro5];rfl
theorem row_S {w:World} {b:Nat} {t:TypeId} {x y z:ByteArray} (h:w.heap[b]? = some (.cells #[.string x,.string y,.string z] t (0,0))):SlOf w (.slice (some ⟨b,0,none⟩) 3 3) ([x,y,z].map .string):=
 ⟨(by decide:(3:Nat)≤maxLen),_,3,rfl,fun _=>⟨b,0,rfl,(Array.getElem?_eq_some_iff.1 h).1,fun j hj=>by
   have hj':j < 3:=hj
   rcases (show j=0∨j=1∨j=2 by omega) with rfl | rfl | rfl
   ·exact cell_of_row _ _ 0 _ _ _ h
   ·exact cell_of_row _ _ 1 _ _ _ h
   ·exact cell_of_row _ _ 2 _ _ _ h⟩⟩
theorem rng13:Tess.RRng (Tess.ce2.map Tess.toR):=fun x hx=>by
 obtain ⟨y,hy,rfl⟩:=List.mem_map.1 hx
 have h:y.2.mins=[]∧y.2.maxs=[]:=by
  simp only [Tess.ce2,List.mem_cons,List.not_mem_nil,or_false] at hy
  rcases hy with rfl | rfl <;> exact ⟨rfl,rfl⟩
 unfold Tess.toR
 rw [h.1,h.2]
 exact ⟨fun _ h=>(by cases h),fun _ h=>(by cases h)⟩
theorem join13:Tess.jP [⟨#[1,0,1,1,97]⟩,⟨#[2,0,10,2,2,2]⟩,⟨#[1,0,1,121,2,1,64]⟩]=Tess.encP Tess.sc2 Tess.ce2:=by
 rw [Tess.enc13]
 unfold Tess.jP
 rw [if_pos (by decide)]
theorem size13:(Tess.encP Tess.sc2 Tess.ce2).1.size≤1000000:=by
 rw [Tess.enc13,Tess.jLl]
 decide
set_option maxRecDepth 100000 in
set_option maxHeartbeats 4000000 in
theorem sa9 (a0 a1 a2:Addr) (w:World) (hv:DV2 a0 a1 w) (hs:SV a2 w):Calls Tryz.prog 7 #[] w fun e w'=>e = .returned (.bool true)∧Below w.heap.size w w':=by
 obtain ⟨W,hW,k0,k1,k2,k3,k4,k5,kS,kB⟩:=laid6n w (.cells #[.string { data:=#[97] }] 9) (.cells #[.slice (some ⟨w.heap.size,0,none⟩) 1 1,.slice none 0 0,.int .i64 1] 24) (.cells #[.string { data:=#[121] },.bool false] 47) (.cells #[.string { data:=#[] },.bool true] 47) (.cells #[.string { data:=#[] },.bool true] 47) (.cells #[.int .i64 0,.slice (some ⟨w.heap.size + 2,0,none⟩) 1 1,.slice none 0 0,.int .i64 5,.slice (some ⟨w.heap.size + 3,0,none⟩) 1 1,.slice none 0 0,.int .i64 5,.slice (some ⟨w.heap.size + 4,0,none⟩) 1 1,.slice none 0 0] 51)
 obtain ⟨⟨x0,x1,x2⟩,_⟩:=can3 k1
 have HR:=roll_any (fun _=>True) _ _ Tess.sc2 Tess.ro2 W (sa4 k0) (rows13_at k2 k3 k4 k5) (by decide) Tess.rr2
 rw [rollCode13] at HR
 have HR:=Hd HR
 have K0:=Hd k0
 have K1:=Hd k1
 have KB:=Hd kB
 have HV:=Hd hv
 have HS:=Hd hs
 clear k0 k1 k2 k3 k4 k5 kS kB hv hs
 go_enter Tryz.func7,Tryz.ntmps7
 go_wp2_with (fail)
 go_at_call 9
 refine HR.out.mono ?_
 rintro e w1 ⟨v,rfl,hc,_,Ad⟩
 have hc:CA2 (fun b=>W.heap.size≤b) w1 v Tess.ce2:=by
  have:=hc trivial
  rwa [show Tess.rP Tess.sc2.grain Tess.ro2=Tess.ce2 from Tess.roll13] at this
 obtain ⟨av,cv,rfl⟩:∃ a c,v = .slice a 2 c:=let ⟨a,c,h,_⟩:=hc;⟨a,c,h⟩
 have k0:=(Ad.block _ (Array.getElem?_eq_some_iff.1 K0.out).1).trans K0.out
 have k1:=(Ad.block _ (Array.getElem?_eq_some_iff.1 K1.out).1).trans K1.out
 have hE:=sa3 (fun _=>True) _ _ Tess.sc2 (Tess.ce2.map Tess.toR) w1 (sa4 k0) (ctR (hc.weak fun _ _=>trivial)) rng13
 obtain ⟨⟨S,z⟩,hS⟩:∃ x,x=Tess.encP Tess.sc2 Tess.ce2:=⟨_,rfl⟩
 have hz:z=0:=by have:=congrArg Prod.snd hS;rw [Tess.enc13] at this;exact this
 subst hz
 rw [Tess.eRt rng13,← hS] at hE
 have HE:=Hd hE
 have A2:=Hd (show S.size≤1000000 by have:=size13;rw [← hS] at this;exact this)
 have A3:=Hd (join13.trans hS.symm)
 have A5:=Hd (show Tess.decP Tess.sc2 S=(Tess.ce2,0) by have:=Tess.dec13;rw [← hS] at this;exact this)
 have HC:=Hd hc
 have At:=Hd (Bt KB.out Ad)
 have Aj:=Hd k0
 have Al:=Hd k1
 clear x0 x1 x2 hW
 obtain ⟨⟨x0,x1,x2⟩,_⟩:=can3 k1
 clear k0 k1 hE hS hc Ad
 go_wp2_with (fail)
 go_at_call 11
 refine HE.out.mono ?_
 rintro e w2 ⟨rfl,Ab⟩
 try dsimp only
 have k0:=(Ab.block _ (Array.getElem?_eq_some_iff.1 Aj.out).1).trans Aj.out
 have k1:=(Ab.block _ (Array.getElem?_eq_some_iff.1 Al.out).1).trans Al.out
 have Ax:=Hd (HC.out.ag (Ag.new _ Ab))
 have Ar:=Hd (Bt At.out Ab)
 obtain ⟨W3,Av⟩:∃ W3,w2.alloc (.cells #[.string { data:=#[1,0,1,1,97] },.string { data:=#[2,0,10,2,2,2] },.string { data:=#[1,0,1,121,2,1,64] }] 9)=W3:=⟨_,rfl⟩
 obtain ⟨g0,gS,gB⟩:=la2 w2 (.cells #[.string { data:=#[1,0,1,1,97] },.string { data:=#[2,0,10,2,2,2] },.string { data:=#[1,0,1,121,2,1,64] }] 9)
 rw [Av] at g0 gS gB
 have hJ:=rjoin2_any (.slice (some ⟨w2.heap.size,0,none⟩) 3 3) [⟨#[1,0,1,1,97]⟩,⟨#[2,0,10,2,2,2]⟩,⟨#[1,0,1,121,2,1,64]⟩] W3 (row_S g0) (by decide) (by decide)
 unfold JoinP at hJ
 rw [A3.out] at hJ
 have HJ:=Hd hJ
 have k0:=(gB.block _ (Array.getElem?_eq_some_iff.1 k0).1).trans k0
 have k1:=(gB.block _ (Array.getElem?_eq_some_iff.1 k1).1).trans k1
 have Ay:=Hd (Ax.out.ag (Ag.new _ gB))
 have A4:=Hd (Bt Ar.out gB)
 have Am:=Hd k0
 have Ak:=Hd k1
 clear x0 x1 x2 g0 gS gB hJ k0 k1 Ab
 go_wp2_with (fail)
 refine HJ.out.mono ?_
 rintro e w4 ⟨rfl,Aa⟩
 try dsimp only
 have k0:=(Aa.block _ (Array.getElem?_eq_some_iff.1 Am.out).1).trans Am.out
 have k1:=(Aa.block _ (Array.getElem?_eq_some_iff.1 Ak.out).1).trans Ak.out
 have A0:=Hd (Ay.out.ag (Ag.new _ Aa))
 have Ah:=Hd (Bt A4.out Aa)
 have hD:=sa6 a0 a1 a2 (fun _=>True) _ Tess.sc2 S w4 (HV.out.below Ah.out) (HS.out.below Ah.out) (sa4 k0) A2.out
 unfold SP2 at hD
 rw [A5.out] at hD
 have HD:=Hd hD
 have Ao:=Hd k0
 have An:=Hd k1
 obtain ⟨⟨x0,x1,x2⟩,_⟩:=can3 k1
 clear Aa hD k0 k1
 go_wp2_with (fail)
 refine HD.out.mono ?_
 rintro e w5 ⟨v5,rfl,Ac,Ae⟩
 try dsimp only at Ae
 obtain ⟨a5,c5,rfl⟩:∃ a c,v5 = .slice a 2 c:=let ⟨a,c,h,_⟩:=Ae;⟨a,c,h⟩
 try dsimp only
 have k0:=(Ac.block _ (Array.getElem?_eq_some_iff.1 Ao.out).1).trans Ao.out
 have k1:=(Ac.block _ (Array.getElem?_eq_some_iff.1 An.out).1).trans An.out
 have A1:=Hd (A0.out.ag (Ag.new _ Ac))
 have Aw:=Hd Ae
 have Ai:=Hd (Bt Ah.out Ac)
 have hD:=sa6 a0 a1 a2 (fun _=>True) _ Tess.sc2 { data:=#[120] } w5 (HV.out.below Ai.out) (HS.out.below Ai.out) (sa4 k0) (by decide)
 unfold SP2 at hD
 rw [Tess.dec13x] at hD
 have Az:=Hd hD
 clear x0 x1 x2
 obtain ⟨⟨x0,x1,x2⟩,_⟩:=can3 k1
 clear Ac hD k0 k1 Ae
 go_wp2_with (fail)
 refine Az.out.mono ?_
 rintro e w6 ⟨v6,rfl,Af,Aq⟩
 obtain ⟨a6,c6,rfl⟩:∃ a c,v6 = .slice a 0 c:=let ⟨a,c,h,_⟩:=Aq;⟨a,c,h⟩
 try dsimp only
 have As:=Hd (same12_eq _ _ _ _ Tess.ce2 w6 (A1.out.ag (Ag.new _ Af)) (Aw.out.ag (Ag.new _ Af)))
 have Au:=Hd (Bt Ai.out Af)
 have A7:(S.toList == S.toList)=true:=by simp
 clear Af Aq x0 x1 x2
 go_wp2_with (fail)
 refine As.out.mono ?_
 rintro e w7 ⟨rfl,Ap⟩
 have A6:=Hd (Bt Au.out Ap)
 clear Ap
 go_wp2_with (fail)
 go_ret
 exact ⟨rfl,A6.out⟩
end Go.Proofs.YtjdccifdkjnknaaGreatDoor
namespace Go.Proofs.YtjdccifdkjnknaaGreatDoor
open Go.RowKit Go.Sort
open Tess (CK Pay CO)
theorem both_ways {P1 P2:Prop} (H:Prop) (f:H→P1) (g:H→P2) (h:H):P1∧P2:=⟨f h,g h⟩
theorem cut_rng {n:Nat} {rows:List Tess.Row} (h:∀ r ∈ rows,r.rng):∀ r ∈ rC2 n rows,r.l.length≤1000∧r.ns.length≤1000∧r.rng:=fun r hr=>by
 unfold rC2 at hr
 obtain ⟨x,hx,rfl⟩:=List.mem_map.1 hr
 unfold rC3
 refine ⟨?_,?_,fun z hz=>h x (List.mem_of_mem_take hx) z (List.mem_of_mem_take hz)⟩
 ·show (cV2 x.l).length≤1000
  unfold cV2
  simp only [List.length_map,List.length_take]
  omega
 ·show (x.ns.take 10).length≤1000
  rw [List.length_take];omega
theorem cut_len {n:Nat} {rows:List Tess.Row}:(rC2 n rows).length≤n:=by unfold rC2;rw [List.length_map,List.length_take];omega
theorem rc2 {s:Tess.Sch} {rows:List Tess.Row} (h:rC s rows=0):Tess.sO s=true∧∀ r ∈ rows,Tess.Row.ok s r=true:=by
 unfold rC at h
 split at h
 ·rename_i h1
  split at h
  ·rename_i h2
   exact ⟨h1,fun r hr=>List.all_eq_true.1 h2 r hr⟩
  ·cases h
 ·cases h
theorem LA.takeK {α:Type} {k:Nat} {R:World→List Value→α→Prop} {p:Nat→Prop} {w:World} {a:Option Addr} {n cap:Nat} {l:List α} (h:LA k R p w (.slice a n cap) l) {j:Nat} (hj:j≤l.length):LA k R p w (.slice a j cap) (l.take j):=by
 obtain ⟨a',Ab,hv,h1,h2,h3,h4⟩:=h
 simp only [Value.slice.injEq] at hv
 obtain ⟨rfl,_,rfl⟩:=hv
 have e:(l.take j).length=j:=by rw [List.length_take];omega
 refine ⟨a,cap,by rw [e],by omega,by omega,h3,fun hl => ?_⟩
 rw [e] at hl
 obtain ⟨b,Aa,ha,hb,hp,hc⟩:=h4 (by omega)
 refine ⟨b,Aa,ha,hb,hp,fun m hm => ?_⟩
 rw [e] at hm
 obtain ⟨cs,e1,e2,e3⟩:=hc m (by omega)
 exact ⟨cs,e1,by simpa using e2,e3⟩
theorem RowsIn.agR {p:Nat→Prop} {w w':World} {v:Value} {l:List Tess.Row} (h:LA 3 (RowC p) p w v l) (hg:Ag p w w'):RowsIn p w' v l:=RowsIn.ag h hg
theorem RowsIn.ltR {p:Nat→Prop} {w:World} {v:Value} {l:List Tess.Row} (h:RowsIn p w v l):RowsIn (fun b=>p b∧b < w.heap.size) w v l:=by
 obtain ⟨a,c,hv,h1,h2,h3,h4⟩:=h
 refine ⟨a,c,hv,h1,h2,h3,fun hl => ?_⟩
 obtain ⟨b,Aa,ha,hb,hp,hc⟩:=h4 hl
 exact ⟨b,Aa,ha,hb,⟨hp,hb⟩,fun j hj=>let ⟨cs,h5,h6,h7⟩:=hc j hj;⟨cs,h5,rn2.lt h6,h7⟩⟩
theorem roll_law (p:Nat→Prop) (vs va:Value) (s:Tess.Sch) (R:List Tess.Row) (w:World) (hs:SA p w vs s) (hv:RowsIn p w va R) (hlen:R.length≤50) (hrow:∀ r ∈ R,r.l.length≤1000∧r.ns.length≤1000∧r.rng) :
  Calls Tryz.prog 9 #[vs,va] w fun e w' => ∃ a n c,e = .returned (.tuple #[.slice a n c,.int .i64 (rC s R)])∧(rC s R=0→CA2 (fun b=>w.heap.size≤b) w' (.slice a n c) (Tess.rP s.grain R))∧Below w.heap.size w w':=by
 refine (roll_any p vs va s R w hs hv (by omega) hrow).mono ?_
 rintro e w' ⟨v,rfl,h0,h1,hB⟩
 by_cases hc:rC s R=0
 ·obtain ⟨a,c,rfl,_⟩:=LA.open (h0 hc)
  exact ⟨_,_,_,rfl,h0,hB⟩
 ·obtain rfl:=h1 hc
  exact ⟨_,_,_,rfl,h0,hB⟩
theorem roll_cels {s:Tess.Sch} {R:List Tess.Row} (h:rC s R=0) (hlen:R.length≤50) (hrow:∀ r ∈ R,r.l.length≤1000∧r.ns.length≤1000∧r.rng):CO s (Tess.rP s.grain R):=
 Tess.roll_ok (rc2 h).1 (rc2 h).2 (fun r hr=>(hrow r hr).2.2) (by omega)
theorem SA.ltK {p:Nat→Prop} {w:World} {v:Value} {s:Tess.Sch} (h:SA p w v s):SA (fun b=>p b∧b < w.heap.size) w v s:=by
 obtain ⟨vd,vm,e1,e2,e3,e4,e5⟩:=h
 exact ⟨vd,vm,e1,e2.lt,e3.lt,e4,e5⟩
def iRI (p:Nat→Prop) (l:List Tess.Row) (v:Value) (W:World):Prop:=RowsIn p W v l
theorem iRI2 (p:Nat→Prop) (l:List Tess.Row):Flow.Spec.mono (.inr (iRI p l)):=fun _ _ _ h hb=>RowsIn.agR h (Ag.new _ hb)
def Nb (b0:Nat) (b:Nat):Prop:=b≠b0
theorem box_put {w:World} {b0:Nat} {u0 u1 u2:Value} (h:w.heap[b0]? = some (.cells #[u0,u1,u2] 24 (0,0))) (v0 v1 v2:Value):∃ W,((w.setCell ⟨b0,0,none⟩ v0).setCell ⟨b0,1,none⟩ v1).setCell ⟨b0,2,none⟩ v2=W∧W.heap[b0]? = some (.cells #[v0,v1,v2] 24 (0,0))∧Ag (Nb b0) w W∧∀ B,B≤b0→Below B w W:=by
 refine ⟨_,rfl,heap_setCell_same _ _ 2 _ _ v2 (heap_setCell_same _ _ 1 _ _ v1 (heap_setCell_same _ _ 0 _ _ v0 h)),?_,fun B hB => ?_⟩
 ·exact ((Ag.set _ _ _ (fun e=>e rfl)).trans (Ag.set _ _ _ (fun e=>e rfl))).trans (Ag.set _ _ _ (fun e=>e rfl))
 ·exact (((Below.refl _ _).setCell (by exact hB) _).setCell (by exact hB) _).setCell (by exact hB) _
end Go.Proofs.YtjdccifdkjnknaaGreatDoor
namespace Go.Proofs.YtjdccifdkjnknaaGreatDoor
open Go.RowKit Go.ChangeShapes Go.WideShapes Go.Deep Go.Joins
instance:Inhabited Tess.Row:=⟨⟨0,[],[]⟩⟩
instance:Inhabited Tess.Val:=⟨⟨ByteArray.empty,false⟩⟩
section
variable {w:World} {H:Type} {enc:TypeId×Value→H} {held:Bool}
theorem addr_plain {w:World} {a:Addr} {v:Value} (h:w.cell? (a.add 0)=some v):∃ b off,a=⟨b,off,none⟩∧b < w.heap.size∧∀ k,a.add k=⟨b,off + k,none⟩:=by
 obtain ⟨ab,ao,Aa⟩:=a
 cases Aa with
 | some x=>exfalso;simp [Addr.add,World.cell?] at h;split at h <;> simp at h
 | none=>
   have hk:∀ k,(⟨ab,ao,none⟩:Addr).add k=⟨ab,ao + k,none⟩:=fun k=>by unfold Addr.add;split <;> simp_all
   rw [hk] at h
   exact ⟨ab,ao,rfl,World.block_lt_of_cell? w _ h,hk⟩
theorem lAo {α:Type} [Inhabited α] (k:Nat) (hk0:0 < k) (R:World→List Value→α→Prop) (Q:α→Prop) {t e:TypeId} (ht:Tryz.prog.underlying t=some (.slice e)) (hc:Tryz.prog.cellsOf e=k)
  (hd:∀ n cs y,cs.length=k→DataW.trod enc Tryz.prog w 0 (fun _=>true) held n e cs=some y→∃ z,R w cs z∧Q z) {fuel:Nat} {v:Value} {x:DataW H×List MemPlace} (h:DataW.trod enc Tryz.prog w 0 (fun _=>true) held fuel t [v]=some x) :
  ∃ zs:List α,LA k R (fun _=>True) w v zs∧∀ z ∈ zs,Q z:=by
 rcases open_slice ht h with ⟨Ab,_⟩ | ⟨a,len,Ag,m,n,D,Pl,Ab,_,hl,hm,Ad,_,hx⟩
 ·obtain rfl:v = .slice none 0 0:=by simpa using Ab
  exact ⟨[],LA.nil _ _ _ _,fun z hz=>by cases hz⟩
 ·obtain rfl:v = .slice (some a) len Ag:=by simpa using Ab
  simp only [if_true] at Ad
  subst Ad
  obtain ⟨Z,hZ⟩:=choose_lt (α:=List Value×α) (n:=len) (p:=fun i z=>w.cells? 0 (a.add (i * k)) k=some z.1∧z.1.length=k∧R w z.1 z.2∧Q z.2) (fun i hi=>by
   obtain ⟨Ae,e1,e2⟩:=hx i (by omega)
   rw [hc] at e1
   have Ac:=(World.cells?_some e1).2.1
   obtain ⟨r,h1,h2⟩:=hd n Ae _ Ac e2
   exact ⟨(Ae,r),e1,Ac,h1,h2⟩)
  refine ⟨(List.range len).map fun i=>(Z i).2,⟨some a,m,by simp,by simp;omega,by simpa using hl,(fun e=>by cases e),fun hp => ?_⟩,fun z hz => ?_⟩
  ·replace hp:0 < len:=by simpa using hp
   obtain ⟨q1,q2,_⟩:=hZ 0 hp
   obtain ⟨_,_,z2⟩:=World.cells?_some q1
   have z3:=z2 0 hk0
   rw [List.getElem?_eq_getElem (by omega),Deep.add_add] at z3
   obtain ⟨b,Af,rfl,hb,Aa⟩:=addr_plain (by simpa using z3)
   refine ⟨b,Af,rfl,hb,trivial,fun j hj => ?_⟩
   replace hj:j < len:=by simpa using hj
   obtain ⟨p1,p2,p3,_⟩:=hZ j hj
   obtain ⟨_,_,e5⟩:=World.cells?_some p1
   refine ⟨(Z j).1,p2,by simpa using p3,fun i hi => ?_⟩
   have:=e5 i hi
   rw [Deep.add_add,Aa] at this
   rw [Nat.add_assoc]
   exact this
  ·obtain ⟨i,hi,rfl⟩:=List.mem_map.1 hz
   exact (hZ i (List.mem_range.1 hi)).2.2.2
theorem cot {α:Type} [Inhabited α] (f:α→Value) (Q:α→Prop) {t e:TypeId} (ht:Tryz.prog.underlying t=some (.slice e)) (hc:Tryz.prog.cellsOf e=1)
  (hd:∀ n v y,DataW.trod enc Tryz.prog w 0 (fun _=>true) held n e [v]=some y→∃ z,v=f z∧Q z) {fuel:Nat} {v:Value} {x:DataW H×List MemPlace} (h:DataW.trod enc Tryz.prog w 0 (fun _=>true) held fuel t [v]=some x) :
  ∃ zs:List α,SlP (fun _=>True) w v (zs.map f)∧(∀ z ∈ zs,Q z)∧∃ a cap,v = .slice a zs.length cap∧zs.length≤cap:=by
 obtain ⟨zs,⟨a,cap,hv,h1,h2,h3,h4⟩,hq⟩:=lAo 1 (by decide) (fun _ cs z=>cs=[f z]) Q ht hc (fun n cs y hl hy=>by
  match cs,hl with
  | [c],_=>
    obtain ⟨z,rfl,hz⟩:=hd n c y hy
    exact ⟨z,rfl,hz⟩) h
 refine ⟨zs,⟨⟨by simpa using h1,a,cap,by simpa using hv,fun hp => ?_⟩,fun _ _ _=>trivial,fun n c e => ?_⟩,hq,a,cap,hv,h2⟩
 ·obtain ⟨b,Ab,ha,hb,_,Aa⟩:=h4 (by simpa using hp)
  refine ⟨b,Ab,ha,hb,fun j hj => ?_⟩
  obtain ⟨cs,e1,e2,e3⟩:=Aa j (by simpa using hj)
  have:=e3 0 (by decide)
  rw [e2] at this
  simpa using this
 ·rw [hv] at e
  simp only [Value.slice.injEq] at e
  obtain ⟨rfl,rfl,rfl⟩:=e
  exact h3 rfl
theorem sot {fuel:Nat} {v:Value} {x:DataW H×List MemPlace} (h:DataW.trod enc Tryz.prog w 0 (fun _=>true) held fuel 22 [v]=some x) :
  ∃ zs:List ByteArray,SlP (fun _=>True) w v (zs.map .string)∧(∀ z ∈ zs,z.size≤maxLen)∧∃ a cap,v = .slice a zs.length cap∧zs.length≤cap:=
 cot .string (fun z=>z.size≤maxLen) Tryz.underlying22 (by kernel_rfl) (fun n v y hy=>by
  obtain ⟨s,hs,_,hz⟩:=DataW.trod_string Tryz.underlying9 hy
  exact ⟨s,by simpa using hs,hz⟩) h
theorem ic {fuel:Nat} {v:Value} {x:DataW H×List MemPlace} (h:DataW.trod enc Tryz.prog w 0 (fun _=>true) held fuel 2 [v]=some x):∃ z,v = .int .i64 z ∧ -9223372036854775808≤z∧z≤9223372036854775807:=by
 obtain ⟨z,hz,_,hw⟩:=DataW.trod_int Tryz.underlying2 h
 simp only [Lit.wf,Bool.and_eq_true,decide_eq_true_eq] at hw
 exact ⟨z,by simpa using hz,hw.1,hw.2⟩
theorem iot {fuel:Nat} {v:Value} {x:DataW H×List MemPlace} (h:DataW.trod enc Tryz.prog w 0 (fun _=>true) held fuel 49 [v]=some x) :
  ∃ zs:List Int,SlP (fun _=>True) w v (zs.map (.int .i64))∧(∀ z ∈ zs,-9223372036854775808≤z∧z≤9223372036854775807)∧∃ a cap,v = .slice a zs.length cap∧zs.length≤cap:=
 cot (.int .i64) _ Tryz.underlying49 (by kernel_rfl) (fun n v y hy=>ic hy) h
set_option maxRecDepth 100000 in
theorem vot {fuel:Nat} {v:Value} {x:DataW H×List MemPlace} (h:DataW.trod enc Tryz.prog w 0 (fun _=>true) held fuel 48 [v]=some x):∃ l,VA (fun _=>True) w v l:=by
 obtain ⟨zs,⟨a,Ac,hv,h1,h2,h3,h4⟩,hq⟩:=lAo 2 (by decide) (fun _ cs (z:Tess.Val)=>cs=[.string z.s,.bool z.null]) (fun z=>z.s.size≤maxLen) Tryz.underlying48 (by kernel_rfl) (fun n cs y hl hy=>by
  have Ad:Tryz.prog.cellsOf 47=2:=by kernel_rfl
  obtain ⟨y0,y1,n',_,Aa,t0,t1⟩:=trod_struct2 Tryz.underlying47 hy
  match cs,hl with
  | [c0,c1],_=>
    have k0:Tryz.prog.cellsOf 9=1:=by kernel_rfl
    have k1:Tryz.prog.cellsOf 4=1:=by kernel_rfl
    obtain ⟨s,hs,_,hz⟩:=DataW.trod_string Tryz.underlying9 (by simpa [k0] using t0)
    obtain ⟨bb,hb,_⟩:=DataW.trod_bool Tryz.underlying4 (by simpa [k1] using t1)
    obtain rfl:c0 = .string s:=by simpa using hs
    obtain rfl:c1 = .bool bb:=by simpa using hb
    exact ⟨⟨s,bb⟩,rfl,hz⟩) h
 refine ⟨zs,a,Ac,hv,h1,hq,h3,fun hp => ?_⟩
 obtain ⟨b,Ab,ha,hb,hp,Aa⟩:=h4 hp
 refine ⟨b,Ab,ha,hb,hp,fun j hj => ?_⟩
 obtain ⟨cs,e1,e2,e3⟩:=Aa j hj
 have g0:=e3 0 (by decide)
 have g1:=e3 1 (by decide)
 rw [e2] at g0 g1
 exact ⟨by simpa using g0,by simpa using g1⟩
set_option maxRecDepth 100000 in
theorem rot {n:Nat} {cs:List Value} {y:DataW H×List MemPlace} (hl:cs.length=3) (h:DataW.trod enc Tryz.prog w 0 (fun _=>true) held n 51 cs=some y):∃ r,RowC (fun _=>True) w cs r∧r.rng:=by
 have k0:Tryz.prog.cellsOf 2=1:=by kernel_rfl
 have k1:Tryz.prog.cellsOf 48=1:=by kernel_rfl
 have k2:Tryz.prog.cellsOf 49=1:=by kernel_rfl
 obtain ⟨xs,n',rfl,_,_,Aa,hf⟩:=DataW.trod_struct Tryz.underlying51 h
 match cs,hl,xs,(show xs.length=3 from Aa) with
 | [c0,c1,c2],_,[y0,y1,y2],_=>
   have h0:DataW.trod enc Tryz.prog w 0 (fun _=>true) held n' 2 [c0]=some y0:=by simpa [k0] using hf 0 _ rfl
   have h1:DataW.trod enc Tryz.prog w 0 (fun _=>true) held n' 48 [c1]=some y1:=by simpa [k0,k1] using hf 1 _ rfl
   have h2:DataW.trod enc Tryz.prog w 0 (fun _=>true) held n' 49 [c2]=some y2:=by simpa [k0,k1,k2] using hf 2 _ rfl
   obtain ⟨t,rfl,_⟩:=ic h0
   obtain ⟨l,hl⟩:=vot h1
   obtain ⟨ns,hs,hw,a,c,rfl,hc⟩:=iot h2
   exact ⟨⟨t,l,ns⟩,⟨c1,a,c,rfl,hc,hl,hs⟩,hw⟩
set_option maxRecDepth 100000 in
theorem open_rows {r:Reach} {b0:Nat} {v:Value} {d:DataW H} {ps:List MemPlace} (hval:Value.okWide Tryz.prog w r b0 25 v) (hd:DataW.Trod enc Tryz.prog w 0 (fun _=>true) held 25 v d ps):∃ l:List Tess.Row,RowsIn (fun _=>True) w v l∧∀ r ∈ l,r.rng:=by
 obtain ⟨a0,Aa,Ac,rfl⟩:=okWide_slice Tryz.underlying25 hval
 obtain ⟨Ab,hf⟩:=hd
 exact lAo 3 (by decide) (RowC fun _=>True) (fun r=>r.rng) Tryz.underlying25 (by kernel_rfl) (fun n cs y hl hy=>rot hl hy) (by simpa [Value.cells] using hf)
set_option maxRecDepth 100000 in
theorem open_sch {r:Reach} {b0:Nat} {v:Value} {d:DataW H} {ps:List MemPlace} (hval:Value.okWide Tryz.prog w r b0 24 v) (hd:DataW.Trod enc Tryz.prog w 0 (fun _=>true) held 24 v d ps):∃ s,SA (fun _=>True) w v s:=by
 obtain ⟨v0,v1,v2,y0,y1,y2,n,rfl,_,_,h0,h1,h2⟩:=open_agg3 Tryz.underlying24 (by kernel_rfl) (by kernel_rfl) hval hd
 obtain ⟨zd,s0,q0,_⟩:=sot h0
 obtain ⟨zm,s1,q1,_⟩:=sot h1
 obtain ⟨g,rfl,_⟩:=ic h2
 exact ⟨⟨zd,zm,g⟩,v0,v1,rfl,s0,s1,q0,q1⟩
end
end Go.Proofs.YtjdccifdkjnknaaGreatDoor
namespace Go.Proofs.YtjdccifdkjnknaaGreatDoor
open Go.RowKit Go.Sort
open Tess (CK Pay CO)
theorem gs3 {s:Tess.Sch} {C:List (CK×Pay)} (h:CO s C) (hC:C.length≤50):(Tess.encP s C).1.size≤1000000:=by
 rw [Tess.efo h hC]
 have hp:=Tess.pf2 h hC
 obtain ⟨f1,f2,_⟩:=Tess.sf2 h.sch
 show (Tess.encS s C).size≤1000000
 unfold Tess.encS
 rw [Tess.jLl,List.map_map]
 have hs:∀ (l:List (List UInt8)),(∀ x ∈ l,x.length≤60000)→(l.map ((fun x:ByteArray=>x.size + 8) ∘ Tess.mk)).sum≤l.length * 60008:=by
  intro l
  induction l with
  | nil=>intro _;simp
  | cons x l ih=>
    intro hl
    have h1:=hl x (by simp)
    have h2:=ih fun y hy=>hl y (by simp [hy])
    simp only [List.map_cons,List.sum_cons,Function.comp,Tess.ms2,List.length_cons] at h2 ⊢
    omega
 have h1:=hs _ hp
 have h2:(Tess.pS2 s C).length≤12:=by unfold Tess.pS2;simp;omega
 omega
theorem rng_ok {s:Tess.Sch} {C:List (CK×Pay)} (h:CO s C):Tess.RRng (C.map Tess.toR):=fun x hx=>by
 obtain ⟨y,hy,rfl⟩:=List.mem_map.1 hx
 have hp:=(h.each y hy).pay
 obtain ⟨l1,l2,l3⟩:=hp.len
 refine ⟨fun z hz => ?_,fun z hz => ?_⟩
 ·obtain ⟨m,hm,rfl⟩:=List.mem_iff_getElem.1 hz
  have hm':m < y.2.mins.length:=hm
  have:=hp.rng m (by omega)
  rw [List.getD_eq_getElem?_getD,List.getElem?_eq_getElem hm'] at this
  exact ⟨this.1,this.2.1⟩
 ·obtain ⟨m,hm,rfl⟩:=List.mem_iff_getElem.1 hz
  have hm':m < y.2.maxs.length:=hm
  have:=hp.rng m (by omega)
  rw [List.getD_eq_getElem?_getD (l:=y.2.maxs),List.getElem?_eq_getElem hm'] at this
  exact ⟨this.2.2.1,this.2.2.2⟩
end Go.Proofs.YtjdccifdkjnknaaGreatDoor
namespace Go.Proofs.YtjdccifdkjnknaaGreatDoor
open Go.RowKit Go.Sort
end Go.Proofs.YtjdccifdkjnknaaGreatDoor
