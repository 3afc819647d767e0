/- A query's sets: walked. -/
import Derived.Test.YtaddkkkchkdgkaaGreatDoorCC42
import Derived.Test.YtaddkkkchkdgkaaGreatDoorCC40
import Derived.Maps.OwnIn
namespace Go.Proofs.YtaddkkkchkdgkaaGreatDoor
open Go.RowKit Go.Sort Go.Shelf
open Tess (Fil Que)
attribute [local go_sem] Oper.semAt_some
def natV (l:List Nat):List Value:=l.map fun k => .int .i64 ((k:Nat):Int)
theorem infoInt:(Tryz.prog.info? 3).map (fun i=>(i.zero,i.size,i.bytes))=some (some (.int .i64 0),1,8):=by kernel_rfl
def SetsPost (w:World) (ck:Nat) (l:List Nat) (e:Ending) (w':World):Prop:=∃ v',e = .returned (.tuple #[v',.int .i64 (ck:Nat)])∧SlP (fun b=>w.heap.size≤b) w' v' (natV (if ck=0 then l else []))∧Below w.heap.size w w'
structure St (w:World) (L:Nat) (qc lc:Array Value) (ov:Value) (ns:List Nat) (W:World):Prop where
 kQ:W.heap[w.heap.size + 1]? = some (.cells qc 35 (0,0))
 kL:W.heap[L]? = some (.cells lc 108 (0,0))
 kO:W.heap[L + 1]? = some (.cells #[ov] 65 (0,0))
 own:W.ownsRow (L + 2) 3 1 ov ns.length (natV ns)
 below:Below w.heap.size w W
 hL:w.heap.size + 2≤L
 size:L + 2≤W.heap.size
section
variable {w W W':World} {L:Nat} {qc lc:Array Value} {ov ov':Value} {ns ns':List Nat}
theorem St.later (h:St w L qc lc ov ns W) (hb:Below W.heap.size W W'):St w L qc lc ov ns W':=
 have h1:=h.size;have h2:=h.hL
 ⟨(hb.block _ (by omega)).trans h.kQ,(hb.block _ (by omega)).trans h.kL,(hb.block _ (by omega)).trans h.kO,ob2 h.own hb,Bt h.below hb,h.hL,Nat.le_trans h.size hb.size⟩
theorem St.but {l:Nat} (h:St w L qc lc ov ns W) (hs:Rf.SB l W W') (hl:L + 2≤l) {o:Obj} (ho:W.heap[l]? = some o) (hc:o.isCells=false):St w L qc lc ov ns W':=
 have h2:=h.hL
 ⟨(hs.block _ (by omega)).trans h.kQ,(hs.block _ (by omega)).trans h.kL,(hs.block _ (by omega)).trans h.kO,hs.owns h.own ho hc,h.below.trans (hs.below (by omega)),h.hL,by rw [hs.size];exact h.size⟩
theorem St.block (h:St w L qc lc ov ns W) {o:Obj} (hg:(W.alloc o).grownBy W' ov.ownBlock) {k:Nat} (hk:k < L + 2):W'.heap[k]? = W.heap[k]? := by
 have hs:=h.size
 exact (hg.block k (by simp;omega) (fun e=>by have:=(h.own.lt k e.symm).1;omega)).trans (Below.heap_alloc _ _ _ (by omega))
theorem St.append (h:St w L qc lc ov ns W) {o:Obj} (hg:(W.alloc o).grownBy W' ov.ownBlock) (hown:W'.ownsRow (L + 2) 3 1 ov' ns'.length (natV ns')):St w L qc lc ov' ns' (W'.setCell ⟨L + 1,0,none⟩ ov'):=by
 have hs:=h.size
 have h2:=h.hL
 have hb:Below w.heap.size w W':=(h.below.alloc h.below.size _).grown hg (by simp;omega) (fun k e=>by have:=(h.own.lt k e).1;omega)
 exact ⟨(heap_setCell_other _ _ _ _ (by show _≠L + 1;omega)).trans ((h.block hg (by omega)).trans h.kQ),(heap_setCell_other _ _ _ _ (by show _≠L + 1;omega)).trans ((h.block hg (by omega)).trans h.kL),heap_setCell_same _ _ _ _ _ _ ((h.block hg (by omega)).trans h.kO),
  ownsRow_setCell_below hown (by show L + 1 < _;omega) _,hb.setCell (by show _≤L + 1;omega) _,h.hL,by have:=hg.size;simp [World.setCell] at *;omega⟩
end
theorem ownsRow_ne_a {W:World} {base:Nat} {e:TypeId} {size:Nat} {v:Value} {k:Nat} {xs:List Value} (h:W.ownsRow base e size v k xs) {j:Nat} {o:Obj} (hj:W.heap[j]? = some o) (hno:∀ cur,o ≠ .cells cur e (0,0)) :
  v.ownBlock=none∨v.ownBlock≠some j:=by
 rcases h.2 with ⟨rfl,_⟩ | ⟨g,Ab,cur,rfl,_,Aa,_⟩
 ·exact .inl rfl
 ·refine .inr fun e' => ?_
  have:g=j:=by simpa [Value.ownBlock] using e'
  subst this;rw [Aa] at hj;cases hj;exact hno cur rfl
theorem SA2.lt {p:Nat→Prop} {w:World} {v:Value} {l:List (List ByteArray)} (h:SA2 p w v l):SA2 (fun b=>p b∧b < w.heap.size) w v l:=by
 obtain ⟨a,Aa,hv,h1,h2,h3,h4⟩:=h
 refine ⟨a,Aa,hv,h1,h2,h3,fun hl => ?_⟩
 obtain ⟨b,Ab,ha,hb,hp,hc⟩:=h4 hl
 refine ⟨b,Ab,ha,hb,⟨hp,hb⟩,fun j hj => ?_⟩
 obtain ⟨c,e1,e2,e3⟩:=hc j hj
 exact ⟨c,e1,e2.lt,e3⟩
def Rn (w:World) (L:Nat) (qc lc:Array Value) (so:List Nat) (M:Nat) (rec:Loop) (qq:Nat→Prop) (N5:Nat) (W6:World) (k:Nat) (W:World):Prop:=
 ∃ ov,St w L qc lc ov (so.take k) W∧W.heap[M]? = some (.deferred (some []))∧W.heap[M + 1]? = some (.loop rec)∧Ag qq W6 W∧∀ g,ov.ownBlock=some g→g < N5∨M < g
theorem ag_but {l:Nat} {W W':World} (q:Nat→Prop) (h:Rf.SB l W W') (hl:¬ q l):Ag q W W':=⟨by rw [h.size];exact Nat.le_refl _,fun b _ hb=>h.block b (fun e=>hl (e ▸ hb))⟩
theorem St.putO {w W:World} {L:Nat} {qc lc:Array Value} {ov ov':Value} {ns ns':List Nat} (h:St w L qc lc ov ns W) (hown:W.ownsRow (L + 2) 3 1 ov' ns'.length (natV ns')):St w L qc lc ov' ns' (W.setCell ⟨L + 1,0,none⟩ ov'):=by
 have h2:=h.hL
 exact ⟨(heap_setCell_other _ _ _ _ (by show _≠L + 1;omega)).trans h.kQ,(heap_setCell_other _ _ _ _ (by show _≠L + 1;omega)).trans h.kL,heap_setCell_same _ _ _ _ _ _ h.kO,ownsRow_setCell_below hown (by show L + 1 < _;omega) _,h.below.setCell (by show _≤L + 1;omega) _,h.hL,by simp [World.setCell];exact h.size⟩
def iM (L:Array Value) (v:Value) (W:World):Prop:=∃ b,v = .map (some b)∧ModesAt L W b
theorem iMm (L:Array Value):Flow.Spec.mono (.inr (iM L)):=fun _ _ _ ⟨b,h1,h2⟩ hb=>⟨b,h1,World.ownsMap.kept h2 (Below.gN2 hb) (by simp)⟩
theorem natV_snoc (ns:List Nat) (k:Nat) (h:k < ns.length):natV (ns.take k) ++ [.int .i64 ((ns[k]:Nat):Int)]=natV (ns.take (k + 1)):=by
 unfold natV;rw [List.take_succ_eq_append_getElem h,List.map_append,List.map_singleton]
set_option maxRecDepth 100000 in
set_option maxHeartbeats 8000000 in
theorem sa2 (a0 a1:Addr) (p:Nat→Prop) (n:Nat) (vs v:Value) (s:Tess.Sch) (q:Que) (va vb vS f0 f1 f2 f3 f4 f5 vh vo:Value) (w:World) (hV:Vars a0 a1 w) (hs:SA p w vs s) (hq:QA p n w v q va vb vS f0 f1 f2 f3 f4 f5 vh vo) (hn:n≤100) (hK:kO2 q.fil) :
  Calls Tryz.prog 23 #[vs,v] w (SetsPost w (Que.check s q) (Que.sO q)):=by
 have Cl:=Hd (fun W (hB:Below w.heap.size w W)=>qa3 a0 a1 p n vs v s q va vb vS f0 f1 f2 f3 f4 f5 vh vo W (hV.below hB) (hs.ag (Ag.new p hB)) (hq.ag (Ag.new p hB)) hn hK)
 obtain ⟨vd,vm,rfl,_,_,_,_⟩:=hs
 have hv:=hq.e
 subst hv
 obtain ⟨ab,cb,rfl,_,B0⟩:=so2 hq.names.1
 obtain ⟨aa,ca,rfl⟩:=hq.aggs.shape
 obtain ⟨aS,cS,rfl⟩:=hq.sets.shape
 obtain ⟨ah,ch,rfl⟩:=hq.conds.shape
 obtain ⟨ao,co,rfl⟩:=hq.keys.shape
 obtain ⟨z0,z1,z2,z3,z4,ez⟩:=FA2.sh2 hq.fil
 simp only [Value.agg.injEq,Array.mk.injEq,List.cons.injEq,and_true] at ez
 obtain ⟨rfl,rfl,rfl,rfl,rfl,rfl⟩:=ez
 have HQ:=Hd hq
 clear hq hV B0
 obtain ⟨i0,hi,B9,Cf,Ch⟩:=info_parts infoInt
 obtain ⟨W0,Cu⟩:∃ W0,(w.alloc (.cells #[vd,vm,.int .i64 s.grain] 24)).alloc (.cells #[.slice aa q.aggs.length ca,.slice ab q.names.length cb,.int .i64 q.mode,.slice aS q.sets.length cS,.int .i64 q.every,.int .i64 q.fil.kind,.string q.fil.name,.slice z0 z1 z2,.int .i64 q.fil.frm,.int .i64 q.fil.to,.slice z3 q.fil.l.length z4,.slice ah q.conds.length ch,.slice ao q.keys.length co,.int .i64 q.limit] 35)=W0:=⟨_,rfl⟩
 obtain ⟨h1,h2,Bs,Bv⟩:=la3 w (.cells #[vd,vm,.int .i64 s.grain] 24) (.cells #[.slice aa q.aggs.length ca,.slice ab q.names.length cb,.int .i64 q.mode,.slice aS q.sets.length cS,.int .i64 q.every,.int .i64 q.fil.kind,.string q.fil.name,.slice z0 z1 z2,.int .i64 q.fil.frm,.int .i64 q.fil.to,.slice z3 q.fil.l.length z4,.slice ah q.conds.length ch,.slice ao q.keys.length co,.int .i64 q.limit] 35)
 rw [Cu] at h1 h2 Bs Bv
 have Cd:=Hd Bv
 have H2:=Hd h2
 have Cq:=Hd Bs
 obtain ⟨x0,x1,x2⟩:=(can3 h1).1
 obtain ⟨y0,y1,y2,y3,y4,y5,y6,y7,y8,y9,ya,yb,yc,yd⟩:=(ca2 h2).1
 clear h1 h2 Bs Bv
 refine (callsIn_wide (n:=5)).1 ?_
 refine callsIn_of_wp_marks Tryz.func23 rfl trivial ?_ rfl
 simp only [Tryz.ntmps23,List.size_toArray,List.length_cons,List.length_nil,Nat.reduceAdd,Nat.reduceSub,Array.replicate_succ,Array.replicate_zero,List.push_toArray,List.append_toArray,List.nil_append,List.cons_append]
 gi_wp2_with (refine ⟨trivial,?_⟩;gi_at_call 44;fail)
 refine ⟨trivial,?_⟩
 gi_at_call 44
 refine (callsIn_wide.2 (Cl.out _ Cd.out)).mono ?_
 rintro e W1 ⟨rfl,Bo⟩
 have B1:=(Bo.block _ (Array.getElem?_eq_some_iff.1 H2.out).1).trans H2.out
 have Ba:=Hd (Bt Cd.out Bo)
 have A0:w.heap.size + 2≤W1.heap.size:=by have:=Cq.out;have:=Bo.size;omega
 clear x0 x1 x2 y0 y1 y2 y3 y4 y5 y6 y7 y8 y9 ya yb yc yd Bo
 obtain ⟨y0,y1,y2,y3,y4,y5,y6,y7,y8,y9,ya,yb,yc,yd⟩:=(ca2 B1).1
 have Bm:=Hd B1
 clear B1
 by_cases hck:Que.check s q=0
 ·obtain ⟨_,Bu,⟨Cv,C8⟩,Dd⟩:=Que.iOn (Que.check_ok hck)
  rw [hck]
  obtain ⟨C0,Ct,C4⟩:=ps3 q.names.length (by omega)
  obtain ⟨P,hP⟩:∃ P,P=2 ^ q.names.length:=⟨_,rfl⟩
  rw [← hP] at C0 Ct C4
  have Cw:=Hd hP
  clear hP
  have Bb:q.mode=1∨q.mode=2∨q.mode=3∨q.mode=4:=by omega
  have A1:RowKit.Hid (Que.sO q=if q.mode=1 then [0] else if q.mode=2 then List.range (2 ^ q.names.length) else if q.mode=3 then (List.range (q.names.length + 1)).map (fun k=>2 ^ q.names.length - 2 ^ (q.names.length - k)) else q.sets.map (Que.setOf q.names)):=Hd rfl
  obtain ⟨p1,Ce⟩:∃ p1:Nat→Prop,p1=fun b=>p b∧b < w.heap.size:=⟨_,rfl⟩
  have Ck:=Hd (fun X (hX:Below w.heap.size w X)=>(HQ.out.names.lt.ag (Ag.below _ hX fun b _ hb=>hb.2)))
  have Cg:=Hd (fun X (hX:Below w.heap.size w X)=>(HQ.out.sets.lt.ag (Ag.below _ hX fun b _ hb=>hb.2)))
  have Bl:=Hd hck
  generalize Que.sO q=so at *
  rw [← Ce] at Ck Cg
  generalize q.mode=md at *
  generalize Que.check s q=ck at *
  clear hck Cv C8 Cl
  generalize q.aggs.length=n0 at *
  generalize q.every=e4 at *
  generalize q.fil.kind=e5 at *
  generalize q.fil.name=e6 at *
  generalize q.fil.frm=e8 at *
  generalize q.fil.to=e9 at *
  generalize q.fil.l.length=ea at *
  generalize q.conds.length=eb at *
  generalize q.keys.length=ec at *
  generalize q.limit=ed at *
  refine ?q
  rcases Bb with rfl | rfl | rfl | rfl
  case' q.inl=>
   have An:so=[0]:=A1.out.trans (if_pos rfl)
   have HG:=Hd (fun X (hX:Below w.heap.size w X)=>plain_any (.slice aa n0 ca) (.int .i64 1) (.slice aS q.sets.length cS) (.int .i64 e4) (.int .i64 e5) (.string e6) (.slice z0 z1 z2) (.int .i64 e8) (.int .i64 e9) (.slice z3 ea z4) (.slice ah eb ch) (.slice ao ec co) (.int .i64 ed) (.slice ab q.names.length cb) p1 X)
   have B7:so.length≤1999:=by rw [An];decide
   rw [← An] at HG
   clear An A1
   obtain ⟨lc,At⟩:∃ lc:Array Value,lc=#[.slice aa n0 ca,.slice ab q.names.length cb,.int .i64 1,.slice aS q.sets.length cS,.int .i64 e4,.int .i64 e5,.string e6,.slice z0 z1 z2,.int .i64 e8,.int .i64 e9,.slice z3 ea z4,.slice ah eb ch,.slice ao ec co,.int .i64 ed]:=⟨_,rfl⟩
   obtain ⟨W2,Au⟩:∃ W2,(W1.alloc (.cells #[.slice aa n0 ca,.slice ab q.names.length cb,.int .i64 1,.slice aS q.sets.length cS,.int .i64 e4,.int .i64 e5,.string e6,.slice z0 z1 z2,.int .i64 e8,.int .i64 e9,.slice z3 ea z4,.slice ah eb ch,.slice ao ec co,.int .i64 ed] 108)).alloc (.cells #[.slice none 0 0] 65)=W2:=⟨_,rfl⟩
   obtain ⟨Aj,Ae,Af,Ac⟩:=la3 W1 (.cells #[.slice aa n0 ca,.slice ab q.names.length cb,.int .i64 1,.slice aS q.sets.length cS,.int .i64 e4,.int .i64 e5,.string e6,.slice z0 z1 z2,.int .i64 e8,.int .i64 e9,.slice z3 ea z4,.slice ah eb ch,.slice ao ec co,.int .i64 ed] 108) (.cells #[.slice none 0 0] 65)
   rw [Au] at Aj Ae Af Ac
   have Ak:=(Ac.block _ (by omega)).trans Bm.out
   have Ab:St w W1.heap.size #[.slice aa n0 ca,.slice ab q.names.length cb,.int .i64 1,.slice aS q.sets.length cS,.int .i64 e4,.int .i64 e5,.string e6,.slice z0 z1 z2,.int .i64 e8,.int .i64 e9,.slice z3 ea z4,.slice ah eb ch,.slice ao ec co,.int .i64 ed] #[.slice aa n0 ca,.slice ab q.names.length cb,.int .i64 1,.slice aS q.sets.length cS,.int .i64 e4,.int .i64 e5,.string e6,.slice z0 z1 z2,.int .i64 e8,.int .i64 e9,.slice z3 ea z4,.slice ah eb ch,.slice ao ec co,.int .i64 ed] (.slice none 0 0) [] W2:=⟨Ak,Aj,Ae,World.ownsRow_nil _ _ _ _,Bt Ba.out Ac,A0,by omega⟩
   have Am:=Hd Ab
   have Ah:=Af
   clear Aj Ae Af Ac Ab
   obtain ⟨q0,q1,q2,q3,q4,q5,q6,q7,q8,q9,qa,qb,qc,qd⟩:=(ca2 Ak).1
   obtain ⟨oc,oz⟩:=cob Am.out.kO
   clear Ak
   gi_wp2
   obtain ⟨W4,rfl⟩:∃ W4,W4=W2:=⟨_,rfl⟩
   have Aa:=Hd Am.out
   clear q0 q1 q2 q3 q4 q5 q6 q7 q8 q9 qa qb qc qd oc oz
   clear Am Au Ah
   obtain ⟨Ap,Aq⟩:∃ Ap,Ap=Value.slice none 0 0:=⟨_,rfl⟩
   rw [← Aq] at Aa
   clear Aq
   obtain ⟨l0,l1,l2,l3,l4,l5,l6,l7,l8,l9,la,lb,A8,ld⟩:=(ca2 Aa.out.kL).1
   have q2:=(ca2 Aa.out.kQ).1.2.2.1
   have Br:=Aa.out.size
   have Bq:w.heap.size + 1 < W4.heap.size:=by omega
   have Bn:W1.heap.size < W4.heap.size:=by omega
   refine Flow.wIr 5 (Flow.sp3 [.inl ?_,.inr (iM #[.slice aa n0 ca,.slice ab q.names.length cb,.int .i64 1,.slice aS q.sets.length cS,.int .i64 e4,.int .i64 e5,.string e6,.slice z0 z1 z2,.int .i64 e8,.int .i64 e9,.slice z3 ea z4,.slice ah eb ch,.slice ao ec co,.int .i64 ed]),.inl ?_,.inl ?_,.inl (.func (.func 81) #[.agg #[.slice aa n0 ca,.slice ab q.names.length cb,.int .i64 1,.slice aS q.sets.length cS,.int .i64 e4,.int .i64 e5,.string e6,.slice z0 z1 z2,.int .i64 e8,.int .i64 e9,.slice z3 ea z4,.slice ah eb ch,.slice ao ec co,.int .i64 ed]] #[])]) (by kernel_rfl) (by kernel_rfl) ?_ ?_
   rotate_left 3
   ·refine Flow.sm2 ?_
    repeat (first | exact Flow.ln2 | refine Flow.li2 ?_ | refine Flow.li3 (iMm _) ?_)
   all_goals try simp only [List.take_succ_cons,List.take_zero,List.drop_succ_cons,List.drop_zero]
   (refine Flow.tvK rfl (fun K hK=>⟨fun w hw hG => ?_,?_⟩);(have A5:=Flow.bc4 hw;clear hG hw;unfold Flow.Runs Flow.yields;go_simp;try rfl);go_simp;refine hK _ ?_;clear hK K)
   (refine Flow.tvK2 rfl (fun K hK=>⟨fun w hw hG => ?_,?_⟩);(clear hG hw;unfold Flow.Runs Flow.yields;go_simp;refine (ma2 _ _ _ _ _ _ _ _ _ _ _ _ _ _ _).mono ?_;rintro e w3 ⟨b,rfl,hm,Av⟩;exact ⟨_,rfl,Av,b,rfl,hm⟩);intro A6;go_simp;refine hK _ _ ?_;clear hK K)
   iterate 2 (refine Flow.tvK rfl (fun K hK=>⟨fun w hw hG => ?_,?_⟩);(have A5:=Flow.bc4 hw;clear hG hw;unfold Flow.Runs Flow.yields;go_simp;try rfl);go_simp;refine hK _ ?_;clear hK K)
   (refine Flow.tvK rfl (fun K hK=>⟨fun w hw hG => ?_,?_⟩);(have A9:=(show iM #[.slice aa n0 ca,.slice ab q.names.length cb,.int .i64 1,.slice aS q.sets.length cS,.int .i64 e4,.int .i64 e5,.string e6,.slice z0 z1 z2,.int .i64 e8,.int .i64 e9,.slice z3 ea z4,.slice ah eb ch,.slice ao ec co,.int .i64 ed] A6 w by simpa [Flow.upd] using hG 1 (by kernel_rfl));clear hG;obtain ⟨bm,rfl,hm⟩:=A9;have B5:(Instr.lookup 112 (.map (some bm)) (.int .i64 1) false).run Tryz.prog w = .ok (.func (.func 81) #[.agg #[.slice aa n0 ca,.slice ab q.names.length cb,.int .i64 1,.slice aS q.sets.length cS,.int .i64 e4,.int .i64 e5,.string e6,.slice z0 z1 z2,.int .i64 e8,.int .i64 e9,.slice z3 ea z4,.slice ah eb ch,.slice ao ec co,.int .i64 ed]] #[]) w:=hm.look 1 (by omega) (by omega);clear hm;unfold Flow.Runs Flow.yields;go_simp;try rfl);go_simp;refine hK _ ?_;clear hK K)
   refine Flow.tn2 fun W5 hW5 hG => ?_
   clear hG l0 l1 l2 l3 l4 l5 l6 l7 l8 l9 la lb A8 ld q2
   have Ao:=Hd (Aa.out.later hW5)
   have Ai:=HG.out W5 Ao.out.below
   unfold Gives at Ai
   have A3:=Hd Ai
   clear Ai hW5
   gi_wp2_with (refine ⟨trivial,?_⟩;gi_at_call 81;refine (callsIn_wide.2 A3.out).mono ?_;rintro e W6 ⟨gf,lb,rfl,Ax,Bd⟩)
   have Ay:=Hd (Ao.out.later Ax)
   rw [← At] at Ay
   clear At
  case' q.inr.inl=>
   have An:so=List.range (2 ^ q.names.length):=A1.out.trans ((if_neg (by decide)).trans (if_pos rfl))
   have HG:=Hd (fun X (hX:Below w.heap.size w X)=>cube_any (.slice aa n0 ca) (.int .i64 2) (.slice aS q.sets.length cS) (.int .i64 e4) (.int .i64 e5) (.string e6) (.slice z0 z1 z2) (.int .i64 e8) (.int .i64 e9) (.slice z3 ea z4) (.slice ah eb ch) (.slice ao ec co) (.int .i64 ed) p1 X ab q.names.length cb Bu)
   have B7:so.length≤1999:=by rw [An];rw [List.length_range,← Cw.out];omega
   rw [← An] at HG
   clear An A1
   obtain ⟨lc,At⟩:∃ lc:Array Value,lc=#[.slice aa n0 ca,.slice ab q.names.length cb,.int .i64 2,.slice aS q.sets.length cS,.int .i64 e4,.int .i64 e5,.string e6,.slice z0 z1 z2,.int .i64 e8,.int .i64 e9,.slice z3 ea z4,.slice ah eb ch,.slice ao ec co,.int .i64 ed]:=⟨_,rfl⟩
   obtain ⟨W2,Au⟩:∃ W2,(W1.alloc (.cells #[.slice aa n0 ca,.slice ab q.names.length cb,.int .i64 2,.slice aS q.sets.length cS,.int .i64 e4,.int .i64 e5,.string e6,.slice z0 z1 z2,.int .i64 e8,.int .i64 e9,.slice z3 ea z4,.slice ah eb ch,.slice ao ec co,.int .i64 ed] 108)).alloc (.cells #[.slice none 0 0] 65)=W2:=⟨_,rfl⟩
   obtain ⟨Aj,Ae,Af,Ac⟩:=la3 W1 (.cells #[.slice aa n0 ca,.slice ab q.names.length cb,.int .i64 2,.slice aS q.sets.length cS,.int .i64 e4,.int .i64 e5,.string e6,.slice z0 z1 z2,.int .i64 e8,.int .i64 e9,.slice z3 ea z4,.slice ah eb ch,.slice ao ec co,.int .i64 ed] 108) (.cells #[.slice none 0 0] 65)
   rw [Au] at Aj Ae Af Ac
   have Ak:=(Ac.block _ (by omega)).trans Bm.out
   have Ab:St w W1.heap.size #[.slice aa n0 ca,.slice ab q.names.length cb,.int .i64 2,.slice aS q.sets.length cS,.int .i64 e4,.int .i64 e5,.string e6,.slice z0 z1 z2,.int .i64 e8,.int .i64 e9,.slice z3 ea z4,.slice ah eb ch,.slice ao ec co,.int .i64 ed] #[.slice aa n0 ca,.slice ab q.names.length cb,.int .i64 2,.slice aS q.sets.length cS,.int .i64 e4,.int .i64 e5,.string e6,.slice z0 z1 z2,.int .i64 e8,.int .i64 e9,.slice z3 ea z4,.slice ah eb ch,.slice ao ec co,.int .i64 ed] (.slice none 0 0) [] W2:=⟨Ak,Aj,Ae,World.ownsRow_nil _ _ _ _,Bt Ba.out Ac,A0,by omega⟩
   have Am:=Hd Ab
   have Ah:=Af
   clear Aj Ae Af Ac Ab
   obtain ⟨q0,q1,q2,q3,q4,q5,q6,q7,q8,q9,qa,qb,qc,qd⟩:=(ca2 Ak).1
   obtain ⟨oc,oz⟩:=cob Am.out.kO
   clear Ak
   gi_wp2_with (gi_at_make;refine wpListIn_make_own _ rfl _ _ _ rfl (W1.heap.size + 2) 3 i0 (.int .i64 0) 1 Tryz.underlying65 hi B9 Cf _ _ _ P rfl rfl ?_ ?_ ?_ ?_ ?_)
   ·rfl
   ·rw [Ch];omega
   ·unfold maxLen;omega
   ·omega
   intro W3 A2 Aw
   have Av:Below W2.heap.size W2 W3:=(Below.refl _ _).grown Aw (Nat.le_refl _) (fun j e=>by cases e)
   have Bw:=Am.out.later Av
   obtain ⟨C2,Cm⟩:=cob Bw.kO
   have Aa:=Hd (Bw.putO (ns':=[]) (ov':=.slice (some ⟨W1.heap.size + 2,0,none⟩) 0 P) A2)
   clear A2 Aw Av Bw q0 q1 q2 q3 q4 q5 q6 q7 q8 q9 qa qb qc qd oc oz
   gi_wp2
   obtain ⟨W4,Cc⟩:∃ W4,(W3.setCell ⟨W1.heap.size + 1,0,none⟩ (.slice (some ⟨W1.heap.size + 2,0,none⟩) 0 P))=W4:=⟨_,rfl⟩
   rw [Cc] at Aa ⊢
   clear Cc C2 Cm
   clear Am Au Ah
   obtain ⟨Ap,Aq⟩:∃ Ap,Ap=Value.slice (some ⟨W1.heap.size + 2,0,none⟩) 0 P:=⟨_,rfl⟩
   rw [← Aq] at Aa
   clear Aq
   obtain ⟨l0,l1,l2,l3,l4,l5,l6,l7,l8,l9,la,lb,A8,ld⟩:=(ca2 Aa.out.kL).1
   have q2:=(ca2 Aa.out.kQ).1.2.2.1
   have Br:=Aa.out.size
   have Bq:w.heap.size + 1 < W4.heap.size:=by omega
   have Bn:W1.heap.size < W4.heap.size:=by omega
   refine Flow.wIr 5 (Flow.sp3 [.inl ?_,.inr (iM #[.slice aa n0 ca,.slice ab q.names.length cb,.int .i64 2,.slice aS q.sets.length cS,.int .i64 e4,.int .i64 e5,.string e6,.slice z0 z1 z2,.int .i64 e8,.int .i64 e9,.slice z3 ea z4,.slice ah eb ch,.slice ao ec co,.int .i64 ed]),.inl ?_,.inl ?_,.inl (.func (.func 82) #[.agg #[.slice aa n0 ca,.slice ab q.names.length cb,.int .i64 2,.slice aS q.sets.length cS,.int .i64 e4,.int .i64 e5,.string e6,.slice z0 z1 z2,.int .i64 e8,.int .i64 e9,.slice z3 ea z4,.slice ah eb ch,.slice ao ec co,.int .i64 ed]] #[])]) (by kernel_rfl) (by kernel_rfl) ?_ ?_
   rotate_left 3
   ·refine Flow.sm2 ?_
    repeat (first | exact Flow.ln2 | refine Flow.li2 ?_ | refine Flow.li3 (iMm _) ?_)
   all_goals try simp only [List.take_succ_cons,List.take_zero,List.drop_succ_cons,List.drop_zero]
   (refine Flow.tvK rfl (fun K hK=>⟨fun w hw hG => ?_,?_⟩);(have A5:=Flow.bc4 hw;clear hG hw;unfold Flow.Runs Flow.yields;go_simp;try rfl);go_simp;refine hK _ ?_;clear hK K)
   (refine Flow.tvK2 rfl (fun K hK=>⟨fun w hw hG => ?_,?_⟩);(clear hG hw;unfold Flow.Runs Flow.yields;go_simp;refine (ma2 _ _ _ _ _ _ _ _ _ _ _ _ _ _ _).mono ?_;rintro e w3 ⟨b,rfl,hm,Av⟩;exact ⟨_,rfl,Av,b,rfl,hm⟩);intro A6;go_simp;refine hK _ _ ?_;clear hK K)
   iterate 2 (refine Flow.tvK rfl (fun K hK=>⟨fun w hw hG => ?_,?_⟩);(have A5:=Flow.bc4 hw;clear hG hw;unfold Flow.Runs Flow.yields;go_simp;try rfl);go_simp;refine hK _ ?_;clear hK K)
   (refine Flow.tvK rfl (fun K hK=>⟨fun w hw hG => ?_,?_⟩);(have A9:=(show iM #[.slice aa n0 ca,.slice ab q.names.length cb,.int .i64 2,.slice aS q.sets.length cS,.int .i64 e4,.int .i64 e5,.string e6,.slice z0 z1 z2,.int .i64 e8,.int .i64 e9,.slice z3 ea z4,.slice ah eb ch,.slice ao ec co,.int .i64 ed] A6 w by simpa [Flow.upd] using hG 1 (by kernel_rfl));clear hG;obtain ⟨bm,rfl,hm⟩:=A9;have B5:(Instr.lookup 112 (.map (some bm)) (.int .i64 2) false).run Tryz.prog w = .ok (.func (.func 82) #[.agg #[.slice aa n0 ca,.slice ab q.names.length cb,.int .i64 2,.slice aS q.sets.length cS,.int .i64 e4,.int .i64 e5,.string e6,.slice z0 z1 z2,.int .i64 e8,.int .i64 e9,.slice z3 ea z4,.slice ah eb ch,.slice ao ec co,.int .i64 ed]] #[]) w:=hm.look 2 (by omega) (by omega);clear hm;unfold Flow.Runs Flow.yields;go_simp;try rfl);go_simp;refine hK _ ?_;clear hK K)
   refine Flow.tn2 fun W5 hW5 hG => ?_
   clear hG l0 l1 l2 l3 l4 l5 l6 l7 l8 l9 la lb A8 ld q2
   have Ao:=Hd (Aa.out.later hW5)
   have Ai:=HG.out W5 Ao.out.below
   unfold Gives at Ai
   have A3:=Hd Ai
   clear Ai hW5
   gi_wp2_with (refine ⟨trivial,?_⟩;gi_at_call 82;refine (callsIn_wide.2 A3.out).mono ?_;rintro e W6 ⟨gf,lb,rfl,Ax,Bd⟩)
   have Ay:=Hd (Ao.out.later Ax)
   rw [← At] at Ay
   clear At
  case' q.inr.inr.inl=>
   have An:so=(List.range (q.names.length + 1)).map (fun k=>2 ^ q.names.length - 2 ^ (q.names.length - k)):=A1.out.trans ((if_neg (by decide)).trans ((if_neg (by decide)).trans (if_pos rfl)))
   have HG:=Hd (fun X (hX:Below w.heap.size w X)=>rollup_any (.slice aa n0 ca) (.int .i64 3) (.slice aS q.sets.length cS) (.int .i64 e4) (.int .i64 e5) (.string e6) (.slice z0 z1 z2) (.int .i64 e8) (.int .i64 e9) (.slice z3 ea z4) (.slice ah eb ch) (.slice ao ec co) (.int .i64 ed) p1 X ab q.names.length cb Bu)
   have B7:so.length≤1999:=by rw [An];simp;omega
   rw [← An] at HG
   clear An A1
   obtain ⟨lc,At⟩:∃ lc:Array Value,lc=#[.slice aa n0 ca,.slice ab q.names.length cb,.int .i64 3,.slice aS q.sets.length cS,.int .i64 e4,.int .i64 e5,.string e6,.slice z0 z1 z2,.int .i64 e8,.int .i64 e9,.slice z3 ea z4,.slice ah eb ch,.slice ao ec co,.int .i64 ed]:=⟨_,rfl⟩
   obtain ⟨W2,Au⟩:∃ W2,(W1.alloc (.cells #[.slice aa n0 ca,.slice ab q.names.length cb,.int .i64 3,.slice aS q.sets.length cS,.int .i64 e4,.int .i64 e5,.string e6,.slice z0 z1 z2,.int .i64 e8,.int .i64 e9,.slice z3 ea z4,.slice ah eb ch,.slice ao ec co,.int .i64 ed] 108)).alloc (.cells #[.slice none 0 0] 65)=W2:=⟨_,rfl⟩
   obtain ⟨Aj,Ae,Af,Ac⟩:=la3 W1 (.cells #[.slice aa n0 ca,.slice ab q.names.length cb,.int .i64 3,.slice aS q.sets.length cS,.int .i64 e4,.int .i64 e5,.string e6,.slice z0 z1 z2,.int .i64 e8,.int .i64 e9,.slice z3 ea z4,.slice ah eb ch,.slice ao ec co,.int .i64 ed] 108) (.cells #[.slice none 0 0] 65)
   rw [Au] at Aj Ae Af Ac
   have Ak:=(Ac.block _ (by omega)).trans Bm.out
   have Ab:St w W1.heap.size #[.slice aa n0 ca,.slice ab q.names.length cb,.int .i64 3,.slice aS q.sets.length cS,.int .i64 e4,.int .i64 e5,.string e6,.slice z0 z1 z2,.int .i64 e8,.int .i64 e9,.slice z3 ea z4,.slice ah eb ch,.slice ao ec co,.int .i64 ed] #[.slice aa n0 ca,.slice ab q.names.length cb,.int .i64 3,.slice aS q.sets.length cS,.int .i64 e4,.int .i64 e5,.string e6,.slice z0 z1 z2,.int .i64 e8,.int .i64 e9,.slice z3 ea z4,.slice ah eb ch,.slice ao ec co,.int .i64 ed] (.slice none 0 0) [] W2:=⟨Ak,Aj,Ae,World.ownsRow_nil _ _ _ _,Bt Ba.out Ac,A0,by omega⟩
   have Am:=Hd Ab
   have Ah:=Af
   clear Aj Ae Af Ac Ab
   obtain ⟨q0,q1,q2,q3,q4,q5,q6,q7,q8,q9,qa,qb,qc,qd⟩:=(ca2 Ak).1
   obtain ⟨oc,oz⟩:=cob Am.out.kO
   clear Ak
   gi_wp2
   obtain ⟨W4,rfl⟩:∃ W4,W4=W2:=⟨_,rfl⟩
   have Aa:=Hd Am.out
   clear q0 q1 q2 q3 q4 q5 q6 q7 q8 q9 qa qb qc qd oc oz
   clear Am Au Ah
   obtain ⟨Ap,Aq⟩:∃ Ap,Ap=Value.slice none 0 0:=⟨_,rfl⟩
   rw [← Aq] at Aa
   clear Aq
   obtain ⟨l0,l1,l2,l3,l4,l5,l6,l7,l8,l9,la,lb,A8,ld⟩:=(ca2 Aa.out.kL).1
   have q2:=(ca2 Aa.out.kQ).1.2.2.1
   have Br:=Aa.out.size
   have Bq:w.heap.size + 1 < W4.heap.size:=by omega
   have Bn:W1.heap.size < W4.heap.size:=by omega
   refine Flow.wIr 5 (Flow.sp3 [.inl ?_,.inr (iM #[.slice aa n0 ca,.slice ab q.names.length cb,.int .i64 3,.slice aS q.sets.length cS,.int .i64 e4,.int .i64 e5,.string e6,.slice z0 z1 z2,.int .i64 e8,.int .i64 e9,.slice z3 ea z4,.slice ah eb ch,.slice ao ec co,.int .i64 ed]),.inl ?_,.inl ?_,.inl (.func (.func 83) #[.agg #[.slice aa n0 ca,.slice ab q.names.length cb,.int .i64 3,.slice aS q.sets.length cS,.int .i64 e4,.int .i64 e5,.string e6,.slice z0 z1 z2,.int .i64 e8,.int .i64 e9,.slice z3 ea z4,.slice ah eb ch,.slice ao ec co,.int .i64 ed]] #[])]) (by kernel_rfl) (by kernel_rfl) ?_ ?_
   rotate_left 3
   ·refine Flow.sm2 ?_
    repeat (first | exact Flow.ln2 | refine Flow.li2 ?_ | refine Flow.li3 (iMm _) ?_)
   all_goals try simp only [List.take_succ_cons,List.take_zero,List.drop_succ_cons,List.drop_zero]
   (refine Flow.tvK rfl (fun K hK=>⟨fun w hw hG => ?_,?_⟩);(have A5:=Flow.bc4 hw;clear hG hw;unfold Flow.Runs Flow.yields;go_simp;try rfl);go_simp;refine hK _ ?_;clear hK K)
   (refine Flow.tvK2 rfl (fun K hK=>⟨fun w hw hG => ?_,?_⟩);(clear hG hw;unfold Flow.Runs Flow.yields;go_simp;refine (ma2 _ _ _ _ _ _ _ _ _ _ _ _ _ _ _).mono ?_;rintro e w3 ⟨b,rfl,hm,Av⟩;exact ⟨_,rfl,Av,b,rfl,hm⟩);intro A6;go_simp;refine hK _ _ ?_;clear hK K)
   iterate 2 (refine Flow.tvK rfl (fun K hK=>⟨fun w hw hG => ?_,?_⟩);(have A5:=Flow.bc4 hw;clear hG hw;unfold Flow.Runs Flow.yields;go_simp;try rfl);go_simp;refine hK _ ?_;clear hK K)
   (refine Flow.tvK rfl (fun K hK=>⟨fun w hw hG => ?_,?_⟩);(have A9:=(show iM #[.slice aa n0 ca,.slice ab q.names.length cb,.int .i64 3,.slice aS q.sets.length cS,.int .i64 e4,.int .i64 e5,.string e6,.slice z0 z1 z2,.int .i64 e8,.int .i64 e9,.slice z3 ea z4,.slice ah eb ch,.slice ao ec co,.int .i64 ed] A6 w by simpa [Flow.upd] using hG 1 (by kernel_rfl));clear hG;obtain ⟨bm,rfl,hm⟩:=A9;have B5:(Instr.lookup 112 (.map (some bm)) (.int .i64 3) false).run Tryz.prog w = .ok (.func (.func 83) #[.agg #[.slice aa n0 ca,.slice ab q.names.length cb,.int .i64 3,.slice aS q.sets.length cS,.int .i64 e4,.int .i64 e5,.string e6,.slice z0 z1 z2,.int .i64 e8,.int .i64 e9,.slice z3 ea z4,.slice ah eb ch,.slice ao ec co,.int .i64 ed]] #[]) w:=hm.look 3 (by omega) (by omega);clear hm;unfold Flow.Runs Flow.yields;go_simp;try rfl);go_simp;refine hK _ ?_;clear hK K)
   refine Flow.tn2 fun W5 hW5 hG => ?_
   clear hG l0 l1 l2 l3 l4 l5 l6 l7 l8 l9 la lb A8 ld q2
   have Ao:=Hd (Aa.out.later hW5)
   have Ai:=HG.out W5 Ao.out.below
   unfold Gives at Ai
   have A3:=Hd Ai
   clear Ai hW5
   gi_wp2_with (refine ⟨trivial,?_⟩;gi_at_call 83;refine (callsIn_wide.2 A3.out).mono ?_;rintro e W6 ⟨gf,lb,rfl,Ax,Bd⟩)
   have Ay:=Hd (Ao.out.later Ax)
   rw [← At] at Ay
   clear At
  case' q.inr.inr.inr=>
   have An:so=q.sets.map (Que.setOf q.names):=A1.out.trans ((if_neg (by decide)).trans ((if_neg (by decide)).trans (if_neg (by decide))))
   have HG:=Hd (fun X (hX:Below w.heap.size w X)=>sets_any (.slice aa n0 ca) (.int .i64 4) (.int .i64 e4) (.int .i64 e5) (.string e6) (.slice z0 z1 z2) (.int .i64 e8) (.int .i64 e9) (.slice z3 ea z4) (.slice ah eb ch) (.slice ao ec co) (.int .i64 ed) (.slice ab q.names.length cb) p1 X _ q.names q.sets Bu (Ck.out X hX) (Cg.out X hX))
   have B7:so.length≤1999:=by rw [An];simp;omega
   rw [← An] at HG
   clear An A1
   obtain ⟨lc,At⟩:∃ lc:Array Value,lc=#[.slice aa n0 ca,.slice ab q.names.length cb,.int .i64 4,.slice aS q.sets.length cS,.int .i64 e4,.int .i64 e5,.string e6,.slice z0 z1 z2,.int .i64 e8,.int .i64 e9,.slice z3 ea z4,.slice ah eb ch,.slice ao ec co,.int .i64 ed]:=⟨_,rfl⟩
   obtain ⟨W2,Au⟩:∃ W2,(W1.alloc (.cells #[.slice aa n0 ca,.slice ab q.names.length cb,.int .i64 4,.slice aS q.sets.length cS,.int .i64 e4,.int .i64 e5,.string e6,.slice z0 z1 z2,.int .i64 e8,.int .i64 e9,.slice z3 ea z4,.slice ah eb ch,.slice ao ec co,.int .i64 ed] 108)).alloc (.cells #[.slice none 0 0] 65)=W2:=⟨_,rfl⟩
   obtain ⟨Aj,Ae,Af,Ac⟩:=la3 W1 (.cells #[.slice aa n0 ca,.slice ab q.names.length cb,.int .i64 4,.slice aS q.sets.length cS,.int .i64 e4,.int .i64 e5,.string e6,.slice z0 z1 z2,.int .i64 e8,.int .i64 e9,.slice z3 ea z4,.slice ah eb ch,.slice ao ec co,.int .i64 ed] 108) (.cells #[.slice none 0 0] 65)
   rw [Au] at Aj Ae Af Ac
   have Ak:=(Ac.block _ (by omega)).trans Bm.out
   have Ab:St w W1.heap.size #[.slice aa n0 ca,.slice ab q.names.length cb,.int .i64 4,.slice aS q.sets.length cS,.int .i64 e4,.int .i64 e5,.string e6,.slice z0 z1 z2,.int .i64 e8,.int .i64 e9,.slice z3 ea z4,.slice ah eb ch,.slice ao ec co,.int .i64 ed] #[.slice aa n0 ca,.slice ab q.names.length cb,.int .i64 4,.slice aS q.sets.length cS,.int .i64 e4,.int .i64 e5,.string e6,.slice z0 z1 z2,.int .i64 e8,.int .i64 e9,.slice z3 ea z4,.slice ah eb ch,.slice ao ec co,.int .i64 ed] (.slice none 0 0) [] W2:=⟨Ak,Aj,Ae,World.ownsRow_nil _ _ _ _,Bt Ba.out Ac,A0,by omega⟩
   have Am:=Hd Ab
   have Ah:=Af
   clear Aj Ae Af Ac Ab
   obtain ⟨q0,q1,q2,q3,q4,q5,q6,q7,q8,q9,qa,qb,qc,qd⟩:=(ca2 Ak).1
   obtain ⟨oc,oz⟩:=cob Am.out.kO
   clear Ak
   gi_wp2
   obtain ⟨W4,rfl⟩:∃ W4,W4=W2:=⟨_,rfl⟩
   have Aa:=Hd Am.out
   clear q0 q1 q2 q3 q4 q5 q6 q7 q8 q9 qa qb qc qd oc oz
   clear Am Au Ah
   obtain ⟨Ap,Aq⟩:∃ Ap,Ap=Value.slice none 0 0:=⟨_,rfl⟩
   rw [← Aq] at Aa
   clear Aq
   obtain ⟨l0,l1,l2,l3,l4,l5,l6,l7,l8,l9,la,lb,A8,ld⟩:=(ca2 Aa.out.kL).1
   have q2:=(ca2 Aa.out.kQ).1.2.2.1
   have Br:=Aa.out.size
   have Bq:w.heap.size + 1 < W4.heap.size:=by omega
   have Bn:W1.heap.size < W4.heap.size:=by omega
   refine Flow.wIr 5 (Flow.sp3 [.inl ?_,.inr (iM #[.slice aa n0 ca,.slice ab q.names.length cb,.int .i64 4,.slice aS q.sets.length cS,.int .i64 e4,.int .i64 e5,.string e6,.slice z0 z1 z2,.int .i64 e8,.int .i64 e9,.slice z3 ea z4,.slice ah eb ch,.slice ao ec co,.int .i64 ed]),.inl ?_,.inl ?_,.inl (.func (.func 84) #[.agg #[.slice aa n0 ca,.slice ab q.names.length cb,.int .i64 4,.slice aS q.sets.length cS,.int .i64 e4,.int .i64 e5,.string e6,.slice z0 z1 z2,.int .i64 e8,.int .i64 e9,.slice z3 ea z4,.slice ah eb ch,.slice ao ec co,.int .i64 ed]] #[])]) (by kernel_rfl) (by kernel_rfl) ?_ ?_
   rotate_left 3
   ·refine Flow.sm2 ?_
    repeat (first | exact Flow.ln2 | refine Flow.li2 ?_ | refine Flow.li3 (iMm _) ?_)
   all_goals try simp only [List.take_succ_cons,List.take_zero,List.drop_succ_cons,List.drop_zero]
   (refine Flow.tvK rfl (fun K hK=>⟨fun w hw hG => ?_,?_⟩);(have A5:=Flow.bc4 hw;clear hG hw;unfold Flow.Runs Flow.yields;go_simp;try rfl);go_simp;refine hK _ ?_;clear hK K)
   (refine Flow.tvK2 rfl (fun K hK=>⟨fun w hw hG => ?_,?_⟩);(clear hG hw;unfold Flow.Runs Flow.yields;go_simp;refine (ma2 _ _ _ _ _ _ _ _ _ _ _ _ _ _ _).mono ?_;rintro e w3 ⟨b,rfl,hm,Av⟩;exact ⟨_,rfl,Av,b,rfl,hm⟩);intro A6;go_simp;refine hK _ _ ?_;clear hK K)
   iterate 2 (refine Flow.tvK rfl (fun K hK=>⟨fun w hw hG => ?_,?_⟩);(have A5:=Flow.bc4 hw;clear hG hw;unfold Flow.Runs Flow.yields;go_simp;try rfl);go_simp;refine hK _ ?_;clear hK K)
   (refine Flow.tvK rfl (fun K hK=>⟨fun w hw hG => ?_,?_⟩);(have A9:=(show iM #[.slice aa n0 ca,.slice ab q.names.length cb,.int .i64 4,.slice aS q.sets.length cS,.int .i64 e4,.int .i64 e5,.string e6,.slice z0 z1 z2,.int .i64 e8,.int .i64 e9,.slice z3 ea z4,.slice ah eb ch,.slice ao ec co,.int .i64 ed] A6 w by simpa [Flow.upd] using hG 1 (by kernel_rfl));clear hG;obtain ⟨bm,rfl,hm⟩:=A9;have B5:(Instr.lookup 112 (.map (some bm)) (.int .i64 4) false).run Tryz.prog w = .ok (.func (.func 84) #[.agg #[.slice aa n0 ca,.slice ab q.names.length cb,.int .i64 4,.slice aS q.sets.length cS,.int .i64 e4,.int .i64 e5,.string e6,.slice z0 z1 z2,.int .i64 e8,.int .i64 e9,.slice z3 ea z4,.slice ah eb ch,.slice ao ec co,.int .i64 ed]] #[]) w:=hm.look 4 (by omega) (by omega);clear hm;unfold Flow.Runs Flow.yields;go_simp;try rfl);go_simp;refine hK _ ?_;clear hK K)
   refine Flow.tn2 fun W5 hW5 hG => ?_
   clear hG l0 l1 l2 l3 l4 l5 l6 l7 l8 l9 la lb A8 ld q2
   have Ao:=Hd (Aa.out.later hW5)
   have Ai:=HG.out W5 Ao.out.below
   unfold Gives at Ai
   have A3:=Hd Ai
   clear Ai hW5
   gi_wp2_with (refine ⟨trivial,?_⟩;gi_at_call 84;refine (callsIn_wide.2 A3.out).mono ?_;rintro e W6 ⟨gf,lb,rfl,Ax,Bd⟩)
   have Ay:=Hd (Ao.out.later Ax)
   rw [← At] at Ay
   clear At
  all_goals
   have By:=Hd Bd
   have C3:=Ax.size
   have Db:=Ao.out.size
   clear Bd Ax A3 HG Aa Br Bq Bn
   refine Rf.rw2 (gf:=gf) (lb:=lb) rfl By.out.ent ?_
   intro fn W7 hL hD Bz Ca
   obtain ⟨M,hM⟩:∃ M,M=W6.heap.size:=⟨_,rfl⟩
   rw [← hM] at hL hD Ca ⊢
   obtain ⟨Ad,A7,hL⟩:∃ Ad:Loop,Ad=_∧W7.heap[M + 1]? = some (.loop Ad):=⟨_,rfl,hL⟩
   have B4:=Hd A7
   have B6:Ad.state = .ready∧Ad.params.size=1∧Ad.pending=none:=by rw [A7];exact ⟨rfl,rfl,rfl⟩
   clear A7
   obtain ⟨B6,Cr,Cy⟩:=B6
   have Da:W1.heap.size + 2≤M:=by omega
   obtain ⟨qq,B2⟩:∃ qq:Nat→Prop,qq=fun b=>p1 b∨(W5.heap.size≤b∧b < W6.heap.size):=⟨_,rfl⟩
   have Bp:∀ b,qq b→b≠W1.heap.size + 1∧b < M∧(W1.heap.size + 2≤b→W5.heap.size≤b):=fun b hb=>by
    rw [B2] at hb
    rcases hb with hb | hb
    ·rw [Ce] at hb;have:=hb.2;exact ⟨by omega,by omega,fun h=>by omega⟩
    ·exact ⟨by omega,by omega,fun _=>hb.1⟩
   have C5:=Hd (B2 ▸ By.out.counts)
   have Cn:Rn w W1.heap.size lc lc so M Ad qq W5.heap.size W6 0 W7:=⟨Ap,by simpa using Ay.out.later (hM ▸ Bz),hD,hL,Ag.new _ (hM ▸ Bz),fun g hg => .inl (Ao.out.own.lt g hg).2⟩
   clear Bz Ca By Ay Ao B2 hM
   refine callsIn_wide.2 ((C5.out (M + 1) Ad.fn (fun v=>(Ad.params.zip #[v]).foldl (fun tmps (t,a)=>tmps.setIfInBounds t a) Ad.tmps) Ad.assign Ad.body (Rn w W1.heap.size lc lc so M Ad qq W5.heap.size W6) ?_ ?_ ?_ ?_ W7 Cn).mono ?_)
   ·rintro k W W' ⟨ov,h1,h2,h3,h4,h5⟩ hb
    exact ⟨ov,h1.later hb,(hb.block _ (by have:=(Array.getElem?_eq_some_iff.1 h2).1;exact this)).trans h2,(hb.block _ (by have:=(Array.getElem?_eq_some_iff.1 h3).1;exact this)).trans h3,h4.trans (Ag.new _ hb),h5⟩
   ·rintro k W ⟨ov,h1,h2,h3,h4,h5⟩;exact h4
   ·rintro k W ⟨ov,h1,h2,h3,h4,h5⟩ z;exact run_yield h3 (by rw [Cr];rfl)
   ·rintro k W hk ⟨ov,h1,h2,h3,h4,h5⟩
    have HS:=Hd h1
    have HD:=Hd h2
    have HL:=Hd h3
    have HA:=Hd h4
    have B8:=Hd h5
    clear h1 h2 h3 h4 h5
    have C9:=Hd (natV_snoc so k hk)
    have Be:(so.take k).length=k:=by simp;omega
    have Bf:(so.take (k + 1)).length=k + 1:=by simp;omega
    have Dc:k≤2000:=by omega
    have C7:RowKit.Hid (∀ W',Rn w W1.heap.size lc lc so M Ad qq W5.heap.size W6 (k + 1) W'↔∃ ov,St w W1.heap.size lc lc ov (so.take (k + 1)) W'∧W'.heap[M]? = some (.deferred (some []))∧W'.heap[M + 1]? = some (.loop Ad)∧Ag qq W6 W'∧∀ g,ov.ownBlock=some g→g < W5.heap.size∨M < g):=Hd (fun _=>Iff.rfl)
    generalize Rn w W1.heap.size lc lc so M Ad qq W5.heap.size W6 (k + 1)=RN at *
    generalize so[k]=zv at *
    generalize so.take (k + 1)=nk1 at *
    generalize so.take k=nk at *
    clear hk
    refine Rf.rw3 (r:=Ad) ?_
    have Co:=B4.out
    subst Co
    dsimp only
    gi_wp2_with (rw [Oper.semAt_eq _ _ _ (fun c h=>by cases h)];go_simp;try go_bits)
    refine ⟨HL.out,fun W9 hs9 hl9 => ?_⟩
    have Al:=Hd (HS.out.but hs9 (by omega) HL.out rfl)
    have Cb:=Hd ((hs9.block M (by omega)).trans HD.out)
    have Cs:=Hd (HA.out.trans (ag_but qq hs9 (fun h=>by have:=(Bp _ h).2.1;omega)))
    have Cx:=Hd hl9
    have C6:M + 1 < W9.heap.size:=(Array.getElem?_eq_some_iff.1 hl9).1
    have Bk:=ownsRow_ne_a Al.out.own hl9 (fun cur e=>by cases e)
    have As:=ownsRow_ne_a Al.out.own Cb.out (fun cur e=>by cases e)
    have Ci:=Hd (And.intro Bk As)
    obtain ⟨c0,Cj⟩:=cob Al.out.kO
    clear hs9 hl9 Bk As
    gi_wp2_with (first
     | (gi_at_builtin;refine wpListIn_append_own_at (w:=W9.alloc (.cells #[.int .i64 (zv:Nat)] 3)) rfl _ _ 65 rfl (W1.heap.size + 2) 3 i0 (.int .i64 0) 1 8 Tryz.underlying65 hi B9 Cf Ch rfl (by decide) _ _ _ rfl (Al.out.own.alloc _) ⟨W9.heap.size,0,none⟩ 1 1 [.int .i64 (zv:Nat)] rfl rfl (cell_one_new _ _ _) (by simp [Value.oneCell']) (by unfold maxLen;omega) (by omega) (by have:=Al.out.size;simp;omega) ?_;intro v' w3 Ar Aw _ Az;obtain ⟨C1,Cz⟩:=cob ((Al.out.block Aw (by omega)).trans Al.out.kO);obtain ⟨gg,cp,rfl,_⟩:=oca Ar (by omega);go_frame)
     | (rw [Oper.semAt_eq _ _ _ (fun c h=>by cases h)];go_simp;try go_bits))
    have Aw:World.grownBy (W9.alloc (.cells #[.int .i64 (zv:Nat)] 3)) w3 ov.ownBlock:=Aw
    have Az:(Value.slice (some ⟨gg,0,none⟩) (nk.length + 1) cp).ownBlock=ov.ownBlock∨(Value.slice (some ⟨gg,0,none⟩) (nk.length + 1) cp).ownBlock=some (W9.alloc (.cells #[.int .i64 (zv:Nat)] 3)).heap.size:=Az
    have Bi:=Hd (Al.out.append Aw (ns':=nk1) (by rw [Bf,← C9.out,← Be];exact Ar))
    have A4:∀ j,j=M∨j=M + 1→w3.heap[j]? = W9.heap[j]? := fun j hj=>(Aw.block j (by simp;omega) (by
     rcases hj with rfl | rfl
     ·rcases Ci.out.2 with h | h
      ·rw [h];simp
      ·exact fun e=>h e.symm
     ·rcases Ci.out.1 with h | h
      ·rw [h];simp
      ·exact fun e=>h e.symm)).trans (Below.heap_alloc _ _ _ (by omega))
    have Bg:=(heap_setCell_other w3 ⟨W1.heap.size + 1,0,none⟩ (M + 1) (.slice (some ⟨gg,0,none⟩) (nk.length + 1) cp) (by show M + 1≠W1.heap.size + 1;omega)).trans ((A4 _ (.inr rfl)).trans Cx.out)
    have Bj:=(heap_setCell_other w3 ⟨W1.heap.size + 1,0,none⟩ M (.slice (some ⟨gg,0,none⟩) (nk.length + 1) cp) (by show M≠W1.heap.size + 1;omega)).trans ((A4 _ (.inl rfl)).trans Cb.out)
    have Bc:Ag qq W6 (w3.setCell ⟨W1.heap.size + 1,0,none⟩ (.slice (some ⟨gg,0,none⟩) (nk.length + 1) cp)):=(Cs.out.trans ((Ag.new qq ((Below.refl _ _).alloc (Nat.le_refl _) (.cells #[.int .i64 (zv:Nat)] 3))).trans (Ag.grown Aw (fun g e hq=>by
     have h1:=Bp g hq
     have h2:=(Al.out.own.lt g e).1
     rcases B8.out g e with h | h
     ·have:=h1.2.2 h2;omega
     ·omega)))).trans (Ag.set qq _ _ (fun h=>(Bp _ h).1 rfl))
    have Bh:∀ g',(Value.slice (some ⟨gg,0,none⟩) (nk.length + 1) cp).ownBlock=some g'→g' < W5.heap.size∨M < g':=fun g' e=>by
     rcases Az with h | h
     ·exact B8.out g' (by rw [← h];exact e)
     ·right
      rw [h] at e
      have:=Option.some.inj e
      simp at this;omega
    have HF:=Hd (And.intro Bg (And.intro Bj (And.intro Bc Bh)))
    rw [Be] at HF Bi
    clear Aw Ar Az A4 Bg Bj Bc Bh c0 Cj C1 Cz
    refine ⟨HF.out.1,fun W11 hs11 hl11=>⟨rfl,(C7.out W11).2 ⟨_,Bi.out.but hs11 (by omega) HF.out.1 rfl,(hs11.block M (by omega)).trans HF.out.2.1,hl11,HF.out.2.2.1.trans (ag_but qq hs11 (fun h=>by have:=(Bp _ h).2.1;omega)),HF.out.2.2.2⟩⟩⟩
   ·rintro e W8 ⟨⟨vv,rfl⟩,ov,h1,h2,h3,h4,h5⟩
    rw [List.take_of_length_le (Nat.le_refl _)] at h1
    refine ⟨⟨_,rfl⟩,Ad,h3,by rw [B6];decide,?_⟩
    intro W9 Bx
    rw [Cy]
    dsimp only
    have Al:=Hd (h1.but Bx (by omega) h3 rfl)
    have B3:=(Bx.block M (by omega)).trans h2
    have C6:M < W9.heap.size:=(Array.getElem?_eq_some_iff.1 B3).1
    obtain ⟨c0,Cj⟩:=cob Al.out.kO
    have As:=ownsRow_ne_a Al.out.own B3 (fun cur e=>by cases e)
    have HP:=Hd (show SetsPost w ck so (.returned (.tuple #[ov,.int .i64 0])) (W9.putObj M (.deferred none)) from ⟨ov,by rw [Bl.out];rfl,by
     rw [if_pos Bl.out]
     exact ((SlP.owned (Al.out.own.kept (gBp W9 M (.deferred none)) As)).weak fun b hb=>by have:W1.heap.size + 2≤b:=hb;omega),Al.out.below.grown (gBp W9 M (.deferred none)) (by have:=Al.out.size;omega) (fun j e=>by cases e;omega)⟩)
    clear h1 h2 h3 h4 h5 Bx As
    gi_wp2
    refine ⟨by simp,.inl ⟨_,_,rfl,run_takeDeferred B3,?_⟩⟩
    refine ⟨_,results_tmp2 rfl _ _ _,?_⟩
    try dsimp only [Array.getD_eq_getD_getElem?,List.getElem?_toArray]
    try simp only [Array.getD_eq_getD_getElem?,List.getElem?_toArray,List.getElem?_cons_succ,List.getElem?_cons_zero,Option.getD_some]
    exact HP.out
 ·have Cp:((Que.check s q:Nat):Int)≠0:=by omega
  have De:(((Que.check s q:Nat):Int) != 0)=true:=by rw [bne_iff_ne];exact Cp
  have HP:=Hd (show SetsPost w (Que.check s q) (Que.sO q) (.returned (.tuple #[.slice none 0 0,.int .i64 (Que.check s q:Nat)])) W1 from ⟨_,rfl,by rw [if_neg hck];exact SlP.nil _ _,Ba.out⟩)
  clear hck
  generalize Que.check s q=E at *
  gi_wp2
  refine ⟨_,results_tmp2 rfl _ _ _,?_⟩
  exact HP.out
end Go.Proofs.YtaddkkkchkdgkaaGreatDoor
