/- The statement CubePlainCardSaid: whatever the input, the law returns true and leaves its arguments as they were; its listed variables are tied to the program's text. -/
import Derived.Test.YtaddkkkchkdgkaaGreatDoorCC44
import Derived.Test.YtaddkkkchkdgkaaGreatDoorCC48
import Derived.Test.YtaddkkkchkdgkaaGreatDoorEC00
import Derived.ProofKit
import Derived.OpenShut
import Derived.ShutString
import Derived.ChangeOld
import Derived.Carry
import Derived.Test.YtaddkkkchkdgkaaGreatDoorTie
import Derived.Test.YtaddkkkchkdgkaaGreatDoorCards
import Derived.SevenTiedAt
namespace Go.Proofs.YtaddkkkchkdgkaaGreatDoor.cubePlain
open Go.ChangeShapes Go.WideShapes Go.ChangeAt Go.RowKit
open Go.ChangeMaps (open_string shut_string)
set_option maxRecDepth 100000 in
theorem lifted (os:Os) (started:os.Started) (H:Type) (enc:TypeId×Value→H) :
  ReturnsInHanded {} Tryz.checked os 9 .any (fun w args=>(Rows.cubePlainSpec.pre enc Tryz.prog Tryz.f9 Rows.cubePlainRow.domain false w args∧laidMetH Tryz.prog Rows.cubePlainRow.laid w)∧sizedMet enc Tryz.prog Tryz.f9 (OpenSpec.ofChange Rows.cubePlainSpec) false w args) (Rows.cubePlainSpec.post enc Tryz.prog Tryz.f9 false true false false):=by
 refine returnsInHanded_of_change_and (C:=Tryz.checked) (X:=fun w _=>laidMetH Tryz.prog Rows.cubePlainRow.laid w) (fun _ _ _ hh h=>h.of_heap hh) own started (by kernel_rfl) Tryz.func9
  (ChangeSpec.witness_shaped (enc:=enc) (C:=Tryz.checked) (os:=os) (X:=fun w _=>laidMetH Tryz.prog Rows.cubePlainRow.laid w) false (lW os) #[.agg #[.slice none 0 0,.slice none 0 0,.int .i64 0],.agg #[.slice none 0 0,.slice none 0 0,.int .i64 0,.slice none 0 0,.int .i64 0,.int .i64 0,.string ByteArray.empty,.slice none 0 0,.int .i64 0,.int .i64 0,.slice none 0 0,.slice none 0 0,.slice none 0 0,.int .i64 0],.slice none 0 0] 8 (lWo os) (lWs os _) (by kernel_rfl) (by kernel_rfl) (by kernel_rfl) (lWm os _)) ?_
 intro W Ae args ds gs Ad Ab hW Ak _ hL _
 have Aa:∀ (j:Nat) t v,Tryz.f9.params[j]? = some t→args[j]? = some v→Value.okWide Tryz.prog W .any Ae t v:=Ab
 have Ai:=hW
 obtain ⟨p,q,Af,hV,rfl,Ar,Ao⟩:=hW
 have hA:DataW.TrodAll enc Tryz.prog W 0 (fun _=>true) true Tryz.f9.params.toList args.toList ds p:=Af
 rw [Tryz.params9] at hA Aa
 obtain ⟨v0,As,d0,Aq,p0,q0,Ag,rfl,rfl,h0,r0⟩:=trodAll_cons hA
 obtain ⟨v1,Am,d1,At,p1,q1,rfl,rfl,rfl,h1,r1⟩:=trodAll_cons r0
 obtain ⟨v2,An,d2,Ap,p2,q2,rfl,rfl,rfl,h2,r2⟩:=trodAll_cons r1
 obtain ⟨rfl,rfl,rfl⟩:=trodAll_nil r2
 obtain rfl:args=#[v0,v1,v2]:=by cases args;simp_all
 obtain ⟨rfl,rfl⟩:=trodVars_none hV
 have k0:=h0
 have Aj:∀ x ∈ p0,x.block < W.heap.size:=by obtain ⟨m,hm⟩:=k0;exact DataW.trod_lt m _ _ _ hm
 have k1:=h1
 have Al:∀ x ∈ p1,x.block < W.heap.size:=by obtain ⟨m,hm⟩:=k1;exact DataW.trod_lt m _ _ _ hm
 have k2:=h2
 have Ah:∀ x ∈ p2,x.block < W.heap.size:=by obtain ⟨m,hm⟩:=k2;exact DataW.trod_lt m _ _ _ hm
 obtain ⟨a0,w0⟩:=open_sch (Aa 0 24 v0 rfl rfl) h0
 obtain ⟨a1,w1⟩:=open_que (Aa 1 35 v1 rfl rfl) h1
 obtain ⟨a2,w2,u2⟩:=or2 (Aa 2 36 v2 rfl rfl) h2
 clear Af Ab
 have Ac:=vol hL
 refine (CPW  W Ac w0 w1 w2 u2).mono fun e W' ⟨he,bel⟩ => ?_
 subst he
 exact ⟨_,rfl,_,_,_,[],_,[],Ai,trodAll_mk1 (shut_bool Tryz.underlying4 _),(trodAll_cons_mk (Below.trod laidOut (by kernel_rfl) (of_decide_eq_true (by kernel_rfl)) k0 bel Aj) (trodAll_cons_mk (Below.trod laidOut (by kernel_rfl) (of_decide_eq_true (by kernel_rfl)) k1 bel Al) (trodAll_cons_mk (Below.trod laidOut (by kernel_rfl) (of_decide_eq_true (by kernel_rfl)) k2 bel Ah) trodAll_mk0))),rfl,bel.frame _,fun h=>by cases h⟩
set_option maxRecDepth 100000 in
set_option maxHeartbeats 400000000 in
theorem closed:joinedFacts Tryz.pinned.checked.prog 9 Tryz.f9 Rows.cubePlainSpec Rows.cubePlainRow=true:=by
 unfold joinedFacts
 repeat (refine Bool.and_eq_true_iff.2 ⟨?_,?_⟩)
 all_goals as_aux_lemma=>kernel_rfl
set_option maxHeartbeats 400000000 in
theorem row:Rows.CubePlainSaid:=
 OpenClaim.holds_of_wide 9 Tryz.f9 rfl rfl rfl rfl rfl rfl rfl ⟨rfl,rfl,rfl,rfl,rfl⟩ rfl rfl rfl rfl rfl (by as_aux_lemma=>kernel_rfl) Tryz.func9 closed
  (of_decide_eq_true (by as_aux_lemma=>kernel_rfl)) (by unfold Func.isWrapper;first | (rw [if_pos (by decide +kernel)];as_aux_lemma=>kernel_rfl) | (rw [if_neg (by decide +kernel)];exact ⟨rfl,rfl⟩))
  (fun os started H enc _=>lifted os started H enc)
set_option maxHeartbeats 400000000 in
theorem proved:Rows.CubePlainCardSaid:=
 Claim7.holds_tied_plain_at .later [] [.data, .data, .data, .data, .handle, .sentinel, .sentinel, .pinned, .pinned, .pinned, .pinned, .pinned, .pinned] true (true, "ddf3c281a60bff4e312c076a7b8b93a03966ea39f0bf817a9b09f2f63a0bde71") true
  row (fun _ h=>by cases h) (by as_aux_lemma=>kernel_rfl) (fun _ h=>by cases h) cubePlain_row_tie rfl ⟨rfl,rfl⟩ (by as_aux_lemma=>kernel_rfl) rfl
  (fun f fn hf hfn=>by
    obtain rfl : f = 9 := Option.some.inj ((show Tryz.prog.funcNamed "tesserae/tesseraelaw17.CubePlain" = some 9 by as_aux_lemma => kernel_rfl).symm.trans hf) |>.symm
    obtain rfl:fn=Tryz.f9:=(Option.some.inj (Tryz.func9.symm.trans hfn)).symm
    refine ⟨by as_aux_lemma=>kernel_rfl,fun j t ht => ?_⟩
    rw [Tryz.params9] at ht
    have hall:([24,35,36]:List TypeId).all (fun t => !Tryz.prog.wantsStandIn t)=true:=by as_aux_lemma=>kernel_rfl
    have hm:t ∈ ([24,35,36]:List TypeId):=List.mem_of_getElem? (by simpa using ht)
    exact (show Tryz.prog.wantsStandIn t=false by simpa using List.all_eq_true.1 hall t hm))
  (by as_aux_lemma=>kernel_rfl)
#print axioms proved
end Go.Proofs.YtaddkkkchkdgkaaGreatDoor.cubePlain
