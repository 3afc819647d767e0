/- The statement SegmentCodesCardSaid: whatever the input, the law returns true and leaves its arguments as they were; its listed variables are tied to the program's text. -/
import Derived.Test.YtjdccifdkjnknaaGreatDoorZC44
import Derived.Test.YtjdccifdkjnknaaGreatDoorTie
import Derived.Test.YtjdccifdkjnknaaGreatDoorCards
set_option maxRecDepth 100000
set_option maxHeartbeats 400000000
namespace Go.Proofs.YtjdccifdkjnknaaGreatDoor.segmentCodes
open Go.Proofs.Q9
open Go.ChangeShapes Go.WideShapes Go.ChangeAt Go.RowKit
open Go.ChangeMaps (open_string shut_string)
theorem lifted(os:Os)(started:os.Started)(H:Type)(enc:TypeId×Value->H) :
  ReturnsInHanded {} Tryz.checked os 6 .any (fun w args=>(Rows.segmentCodesSpec.pre enc Tryz.prog Tryz.f6 Rows.segmentCodesRow.domain false w args/\laidMetH Tryz.prog Rows.segmentCodesRow.laid w)/\sizedMet enc Tryz.prog Tryz.f6 (OpenSpec.ofChange Rows.segmentCodesSpec) false w args) (Rows.segmentCodesSpec.post enc Tryz.prog Tryz.f6 false true false false):=by
 refine returnsInHanded_of_change_and (C:=Tryz.checked) (X:=fun w _=>laidMetH Tryz.prog Rows.segmentCodesRow.laid w) (fun _ _ _ hh h=>h.of_heap hh) own started (by kernel_rfl) Tryz.func6
  (ChangeSpec.witness_shaped (enc:=enc) (C:=Tryz.checked) (os:=os) (X:=fun w _=>laidMetH Tryz.prog Rows.segmentCodesRow.laid w) false (lW os) #[.agg #[.slice none 0 0,.slice none 0 0,.int .i64 0],.slice none 0 0,.string ByteArray.empty] 8 (lWo os) (lWs os _) (by kernel_rfl) (by kernel_rfl) (by kernel_rfl) (lWm os _)) ?_
 intro W Ae args ds gs Ad Ab hW Ah _ hL _;have Aa:∀(j:Nat) t v,Tryz.f6.params[j]?=some t->args[j]?=some v->Value.okWide Tryz.prog W .any Ae t v:=Ab;have Al:=hW;obtain⟨p,q,Ag,hV,rfl,At,An⟩:=hW;have hA:DataW.TrodAll enc Tryz.prog W 0 (fun _=>true) true Tryz.f6.params.toList args.toList ds p:=Ag;rw[Tryz.params6]at hA Aa;obtain⟨v0,Ao,d0,Ar,p0,q0,Af,rfl,rfl,h0,r0⟩:=trodAll_cons hA
 obtain⟨v1,Am,d1,Ap,p1,q1,rfl,rfl,rfl,h1,r1⟩:=trodAll_cons r0;obtain⟨v2,As,d2,Aq,p2,q2,rfl,rfl,rfl,h2,r2⟩:=trodAll_cons r1;obtain⟨rfl,rfl,rfl⟩:=trodAll_nil r2;obtain rfl:args=#[v0,v1,v2]:=by cases args;simp_all
 obtain⟨rfl,rfl⟩:=trodVars_none hV;have k0:=h0;have Ai:∀x∈p0,x.block<W.heap.size:=by obtain⟨m,hm⟩:=k0;exact DataW.trod_lt m _ _ _ hm
 have k1:=h1;have Aj:∀x∈p1,x.block<W.heap.size:=by obtain⟨m,hm⟩:=k1;exact DataW.trod_lt m _ _ _ hm
 have k2:=h2;have Ak:∀x∈p2,x.block<W.heap.size:=by obtain⟨m,hm⟩:=k2;exact DataW.trod_lt m _ _ _ hm
 obtain⟨a0,w0⟩:=os7 (Aa 0 24 v0 rfl rfl) h0;obtain⟨a1,w1,u1⟩:=oc4 (Aa 1 28 v1 rfl rfl) h1;obtain⟨a2,rfl,rfl,rfl,w2⟩:=open_string Tryz.underlying9 (Aa 2 9 v2 rfl rfl) h2;clear Ag Ab;have Ac:=vol hL;refine(SCW a2 W Ac w0 w1 u1 w2).mono fun e W' ⟨he,bel⟩=>?_;subst he
 exact⟨_,rfl,_,_,_,[],_,[],Al,trodAll_mk1 (shut_bool Tryz.underlying4 _),(trodAll_cons_mk (Below.trod laidOut (by kernel_rfl) (zT (by kernel_rfl)) k0 bel Ai) (trodAll_cons_mk (Below.trod laidOut (by kernel_rfl) (zT (by kernel_rfl)) k1 bel Aj) (trodAll_cons_mk (Below.trod laidOut (by kernel_rfl) (zT (by kernel_rfl)) k2 bel Ak) trodAll_mk0))),rfl,bel.frame _,fun h=>by cases h⟩
theorem closed:joinedFacts Tryz.pinned.checked.prog 6 Tryz.f6 Rows.segmentCodesSpec Rows.segmentCodesRow=true:=by
 unfold joinedFacts
 repeat(refine jG.2 ⟨?_,?_⟩)
 all_goals as_aux_lemma=>kernel_rfl
theorem row:Rows.SegmentCodesSaid:=
 OpenClaim.holds_of_wide 6 Tryz.f6 rfl rfl rfl rfl rfl rfl rfl ⟨rfl,rfl,rfl,rfl,rfl⟩ rfl rfl rfl rfl rfl (by as_aux_lemma=>kernel_rfl) Tryz.func6 closed
  (zT (by as_aux_lemma=>kernel_rfl)) (by unfold Func.isWrapper;first|(rw[qR (by decide +kernel)];as_aux_lemma=>kernel_rfl)|(rw[qH (by decide +kernel)];exact⟨rfl,rfl⟩))
  (fun os started H enc _=>lifted os started H enc)
theorem proved:Rows.SegmentCodesCardSaid:=
 Claim7.holds_tied_plain_at .later [] [.handle, .sentinel, .sentinel, .sentinel] true (true, "0e15c2cce5cb4ecae375540570872f960644ea47968b23246ba89e3d427928c9") true
  row (fun _ h=>by cases h) (by as_aux_lemma=>kernel_rfl) (fun _ h=>by cases h) segmentCodes_row_tie rfl ⟨rfl,rfl⟩ (by as_aux_lemma=>kernel_rfl) rfl
  (fun f fn hf hfn=>by
    obtain rfl : f = 6 := zr ((show Tryz.prog.funcNamed "tesserae/tesseraelaw13.SegmentCodes" = some 6 by as_aux_lemma => kernel_rfl).symm.trans hf) |>.symm;obtain rfl:fn=Tryz.f6:=(zr (Tryz.func6.symm.trans hfn)).symm;refine⟨by as_aux_lemma=>kernel_rfl,fun j t ht=>?_⟩;rw[Tryz.params6]at ht;have hall:([24,28,9]:List TypeId).all (fun t=> !Tryz.prog.wantsStandIn t)=true:=by as_aux_lemma=>kernel_rfl
    have hm:t∈([24,28,9]:List TypeId):=xF (by simpa using ht)
    exact(show Tryz.prog.wantsStandIn t=false by simpa using qx.1 hall t hm))
  (by as_aux_lemma=>kernel_rfl)
#print axioms proved
