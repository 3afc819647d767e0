/- A folder's groups, where nothing is wrong: fold, walked. -/
import Derived.Test.YtaddkkkchkdgkaaGreatDoorWC41
import Derived.Test.YtaddkkkchkdgkaaGreatDoorWC20
namespace Go.Proofs.YtaddkkkchkdgkaaGreatDoor
open Go.RowKit Go.Sort Go.Shelf
open Tess (CK Pay PayOk CelOk CelsOk Que Fil groupsP)
attribute [local go_sem] Oper.semAt_some
theorem SchAt.ltK {p:Nat→Prop} {w:World} {v:Value} {s:Tess.Sch} (h:SchAt p w v s):SchAt (fun b=>p b∧b < w.heap.size) w v s:=by
 obtain ⟨vd,vm,e1,e2,e3,e4,e5⟩:=h
 exact ⟨vd,vm,e1,e2.lt,e3.lt,e4,e5⟩
theorem CelsAt.ltK {p:Nat→Prop} {w:World} {v:Value} {l:List (CK×Pay)} (h:CelsAt p w v l):CelsAt (fun b=>p b∧b < w.heap.size) w v l:=by
 obtain ⟨a,c,hv,h1,h2,h3,h4⟩:=h
 refine ⟨a,c,hv,h1,h2,h3,fun hl => ?_⟩
 obtain ⟨b,off,ha,hb,hp,hc⟩:=h4 hl
 exact ⟨b,off,ha,hb,⟨hp,hb⟩,fun j hj=>let ⟨cs,h5,h6,h7⟩:=hc j hj;⟨cs,h5,cel_nest.lt h6,h7⟩⟩
theorem PartsAt.ltK {p:Nat→Prop} {w:World} {v:Value} {l:List (List (CK×Pay))} (h:PartsAt p w v l):PartsAt (fun b=>p b∧b < w.heap.size) w v l:=by
 obtain ⟨a,c,hv,h1,h2,h3,h4⟩:=h
 refine ⟨a,c,hv,h1,h2,h3,fun hl => ?_⟩
 obtain ⟨b,off,ha,hb,hp,hc⟩:=h4 hl
 exact ⟨b,off,ha,hb,⟨hp,hb⟩,fun j hj=>let ⟨cs,h5,⟨u,h6,h8⟩,h7⟩:=hc j hj;⟨cs,h5,⟨u,h6,h8.ltK⟩,h7⟩⟩
theorem prt_list {p:Nat→Prop} {B:Nat} {s0 s1 s2:Value} {s:Tess.Sch} {pts:List (List (CK×Pay))} {a:Option Addr} {cap:Nat} {W:World} (h0:W.cell? ⟨B,14,none⟩=some s0) (h1:W.cell? ⟨B,15,none⟩=some s1) (h2:W.cell? ⟨B,16,none⟩=some s2) (hs:SchAt p W (.agg #[s0,s1,s2]) s) (hp:PartsAt p W (.slice a pts.length cap) pts) (hok:∀ C ∈ pts,CelsOk s C):prtList B pts.length a W:=by
 intro k hk
 obtain ⟨a',cap',e,_,_,_,hc⟩:=ListAt.open hp
 simp only [Value.slice.injEq] at e
 obtain ⟨rfl,_,rfl⟩:=e
 obtain ⟨b,off,ha,hb,_,cs,_,⟨u,rfl,hcel⟩,hcell⟩:=hc k hk
 have hB:=World.block_lt_of_cell? W _ h0
 refine ⟨b,off,ha,hb,u,by simpa using hcell 0 (by omega),fun W' hW' => ?_⟩
 exact fold1_any B p s0 s1 s2 u s pts[k] W' ((hW'.cell (p:=⟨B,14,none⟩) hB).trans h0) ((hW'.cell (p:=⟨B,15,none⟩) hB).trans h1) ((hW'.cell (p:=⟨B,16,none⟩) hB).trans h2) (hs.ag (Ag.new _ hW')) (hcel.ag (Ag.new _ hW')) (hok _ (List.getElem_mem hk))
theorem one_grp {p:Nat→Prop} {W:World} {cs:List Value} {x:Grp} (h:GrpAt p W cs x):GrpsAt (fun b=>p b∨b=W.heap.size) (W.alloc (.cells cs.toArray 56)) (.slice (some ⟨W.heap.size,0,none⟩) 1 1) [x]:=
 ⟨_,1,rfl,(by decide:(1:Nat)≤maxLen),Nat.le_refl _,(fun e=>by cases e),fun _=>⟨W.heap.size,0,rfl,by simp,.inr rfl,fun j hj=>by
   have hj:j < 1:=hj
   obtain rfl:j=0:=by omega
   refine ⟨cs,grp_nest.len h,(grp_nest.ag h (Ag.new _ (laid1 _ _).2.2)).weak fun _ h => .inl h,fun i hi => ?_⟩
   rw [cell_of_row _ _ _ _ _ _ (heap_alloc_new _ _),List.getElem?_toArray]
   simp⟩⟩
theorem GS.S_lt {T:Lib.PrintTabs} {N gb mb:Nat} {W:World} {v:Value} {us:List (List Value)} {V:ByteArray→RowV} {L:List Grp} (h:GS T N gb mb W v us V L) {b:Nat} (hb:GS.S gb mb v V b):b < W.heap.size:=by
 have h1:=h.gbN
 have h2:=h.mbN
 have h3:=h.NW
 rcases hb with rfl | rfl | hb | ⟨s,r,hr,rfl⟩
 ·omega
 ·omega
 ·exact (h.own.own.lt b hb).2
 ·exact (h.rowLt hr).2
theorem dim_names {s:Tess.Sch} {q:Que} (hc:Que.check s q=0):∀ y ∈ q.names,(Tess.dimW s y).1 < s.dims.length:=by
 intro y hy
 obtain ⟨_,h,_⟩:=Tess.check_cases hc
 unfold Que.isOf at h
 simp only [Bool.and_eq_true] at h
 exact dim_lt s y (List.all_eq_true.1 h.1.1.1.2 y hy)
section
variable {s:Tess.Sch} {q:Que} {set:Nat}
theorem tot_le {xs:List (CK×Pay)} {M:Int} (hx:∀ x ∈ xs,1≤x.2.n) (h:(xs.map (·.2.n)).sum≤M) (k:Nat):((xs.take k).map (·.2.n)).sum≤M:=by
 have h1:((xs.take k).map (·.2.n)).sum + ((xs.drop k).map (·.2.n)).sum=(xs.map (·.2.n)).sum:=by rw [← List.sum_append_int,← List.map_append,List.take_append_drop]
 have h2:=(Tess.len_le_sum (l:=xs.drop k) fun x hx'=>hx x (List.mem_of_mem_drop hx')).1
 omega
end
theorem load_folder {W:World} {b:Nat} {cs:Array Value} (h:W.heap[b]? = some (.cells cs 92 (0,0))) (hn:cs.size=19):(Instr.loadAt 92 (.pointer (some ⟨b,0,none⟩))).run Tryz.prog W = .ok (.agg cs) W:=by
 simp only [Instr.loadAt,Instr.sureAddr,Sem.run_bind,Sem.run_pure,Result.andThen_ok,run_loadVar_row (P:=Tryz.prog) W b 92 92 cs (0,0) _ h Tryz.underlying92 rfl (by rw [hn];kernel_rfl)]
theorem wpIn_ld {n:Nat} {d:Tmp} {ty t:TypeId} {x:Operand} {ps:String} {af:Array Edge} {a:Act} {w:World} {v:Value} {K:Act→World→Prop} {Q:Exit→Act→World→Prop} (hl:(Instr.loadAt ty (a.eval x)).run Tryz.prog w = .ok v w) (h:K (a.put (some d) v) w) :
  ({ dst:=some d,op:=Op.load ty x,type:=t,pos:=ps,after:=af,guard:=none }:Oper).wpIn Fence.wide n Tryz.prog a w K Q:=
 Flow.wpIn_of_yields (by unfold Flow.yields;simp only [execOp,Sem.run_bind,hl,Result.andThen_ok,Sem.run_pure];exact h)
theorem wpInR_ld {n lr:Nat} {d:Tmp} {ty t:TypeId} {x:Operand} {ps:String} {af:Array Edge} {a:Act} {w:World} {v:Value} {K:Act→World→Prop} {Q:Exit→Act→World→Prop} (hl:(Instr.loadAt ty (a.eval x)).run Tryz.prog w = .ok v w) (h:K (a.put (some d) v) w) :
  ({ dst:=some d,op:=Op.load ty x,type:=t,pos:=ps,after:=af,guard:=none }:Oper).wpIn (Fence.wide.inRound lr) n Tryz.prog a w K Q:=
 Flow.wpInR_of_yields (fun c e=>by cases e) (by unfold Flow.yields;simp only [execOp,Sem.run_bind,hl,Result.andThen_ok,Sem.run_pure];exact h)
theorem run_makeG (W:World):(Instr.makeMap 99 none).run Tryz.prog W = .ok (.map (some W.heap.size)) (W.alloc (.map #[] 0)):=by kernel_rfl
theorem made4 (w W3:World) (fc:Array Value) (hk3:W3.heap[w.heap.size]? = some (.cells fc 92 (0,0))) (ho3:W3.heap[w.heap.size + 1]? = some (.cells #[.slice none 0 0,.map none] 101 (0,0))) (hs3:w.heap.size + 2≤W3.heap.size) (hB:Below w.heap.size w W3) :
  (W3.alloc (.map #[] 0)).cell? ⟨w.heap.size + 1,0,none⟩=some (.slice none 0 0)∧(W3.alloc (.map #[] 0)).cell? ⟨w.heap.size + 1,1,none⟩=some (.map none)∧(W3.alloc (.map #[] 0)).frozen? ⟨w.heap.size + 1,0,none⟩=false∧(W3.alloc (.map #[] 0)).frozen? ⟨w.heap.size + 1,1,none⟩=false ∧
  ∃ W4,(W3.alloc (.map #[] 0)).setCell ⟨w.heap.size + 1,1,none⟩ (.map (some W3.heap.size))=W4∧W4.heap[w.heap.size + 1]? = some (.cells #[.slice none 0 0,.map (some W3.heap.size)] 101 (0,0))∧W4.heap[W3.heap.size]? = some (.map #[] 0)∧W4.heap[w.heap.size]? = some (.cells fc 92 (0,0))∧W4.heap.size=W3.heap.size + 1∧Below w.heap.size w W4:=by
 obtain ⟨m1,mS,mB⟩:=laid1 W3 (.map #[] 0)
 have ho4:=(mB.block _ (Array.getElem?_eq_some_iff.1 ho3).1).trans ho3
 obtain ⟨⟨o0,o1⟩,of0,of1⟩:=can2 ho4
 have hk4:=(mB.block _ (Array.getElem?_eq_some_iff.1 hk3).1).trans hk3
 refine ⟨o0,o1,of0,of1,_,rfl,heap_setCell_same _ _ 1 _ _ (.map (some W3.heap.size)) ho4,?_,?_,?_,?_⟩
 ·rw [heap_setCell_other _ _ _ _ (show W3.heap.size≠w.heap.size + 1 by omega)];exact m1
 ·rw [heap_setCell_other _ _ _ _ (show w.heap.size≠w.heap.size + 1 by omega)];exact hk4
 ·rw [setCell_size];exact mS
 ·exact (hB.trans (mB.mono (by omega))).setCell (by show _≤w.heap.size + 1;omega) _
set_option maxRecDepth 100000 in
set_option maxHeartbeats 16000000 in
theorem foldGood_any {T:Lib.PrintTabs} (a0 a1:Addr) (p:Nat→Prop) (n:Nat) (s:Tess.Sch) (q:Que) (set:Nat) (pts:List (List (CK×Pay))) (va vb vS f0 f1 f2 f3 f4 f5 vh vo s0 s1 vp:Value) (w:World) (hV:Vars a0 a1 w) (hVn:∀ w',Below w.heap.size w w'→Vn T w') (hs:SchAt p w (.agg #[s0,s1,.int .i64 s.grain]) s) (hq:QueAt p n w (.agg #[va,vb,.int .i64 q.mode,vS,.int .i64 q.every,f0,f1,f2,f3,f4,f5,vh,vo,.int .i64 q.limit]) q va vb vS f0 f1 f2 f3 f4 f5 vh vo) (hn:n≤100) (hK:kindsOk q.fil) (hnm:q.names.length≤10) (hp:PartsAt p w vp pts) (hpl:pts.length≤13)
  (hck:Que.check s q=0) (hset:set < 2 ^ q.names.length) (hok:∀ C ∈ pts,CelsOk s C) (htot:(pts.flatten.map (·.2.n)).sum≤1000) :
  Calls Tryz.prog 34 #[.agg (folC va vb vS f0 f1 f2 f3 f4 f5 vh vo s0 s1 vp q s.grain (set:Nat))] w fun e w' => ∃ v,e = .returned (.tuple #[v,.nilIface])∧GrpsAt (fun b=>w.heap.size≤b) w' v (ofSet (set:Nat) (groupsP s q set pts.flatten))∧Below w.heap.size w w':=by
 obtain ⟨hsch,_,hev,hfe⟩:=Tess.check_cases hck
 have hcel:∀ x ∈ pts.flatten,CelOk s x:=fun x hx=>by
  obtain ⟨C,hC,hx⟩:=List.mem_flatten.1 hx
  exact (hok C hC).each x hx
 have HXO:RowKit.Hid (∀ x ∈ pts.flatten.filter (inF s q),CelOk s x):=Lib.hid fun x hx=>hcel x (List.mem_filter.1 hx).1
 have hone:∀ x ∈ pts.flatten,1≤x.2.n:=fun x hx=>(hcel x hx).pay.one
 have HTOT:RowKit.Hid (∀ k,totG (((pts.flatten.filter (inF s q)).take k).map (grpOf s q set))≤1000):=Lib.hid fun k=>by
  rw [totG_map]
  exact tot_le (fun x hx=>hone x (List.mem_filter.1 hx).1) (Int.le_trans (tot_filter _ _ hone) htot) k
 have HPG:RowKit.Hid (((pts.flatten.filter (inF s q)).map (grpOf s q set)).foldl putG []=putsG s q set pts.flatten):=Lib.hid rfl
 have hM:s.mets.length≤1000:=by
  have:=hsch
  unfold Tess.schOk at this
  simp only [Bool.and_eq_true,decide_eq_true_eq] at this
  omega
 have hGO:∀ x ∈ pts.flatten.filter (inF s q),GrpOk s.mets.length (grpOf s q set x):=fun x hx=>grpOf_ok (HXO.out x hx) (by omega) hset
 have HGO:=Lib.hid hGO
 clear hGO
 have hdim:∀ y ∈ q.names,(Tess.dimW s y).1 < s.dims.length:=fun y hy=>dim_names hck y hy
 have hs':=hs.ltK
 have hp':=hp.ltK
 have hnm':=hq.names.lt
 have hfl':=hq.fil.lt
 have HS:=Lib.hid hs'
 have HP:=Lib.hid hp'
 have HF:=Lib.hid hfl'
 have HN:=Lib.hid hnm'
 have HV:=Lib.hid hV
 have HVN:=Lib.hid hVn
 have HOK:=Lib.hid hok
 have HK:=Lib.hid hK
 have HC:=Lib.hid (fun W (hB:Below w.heap.size w W)=>qcheck_any a0 a1 p n _ _ s q va vb vS f0 f1 f2 f3 f4 f5 vh vo W (hV.below hB) (hs.ag (Ag.new p hB)) (hq.ag (Ag.new p hB)) hn hK)
 rw [hck] at HC
 have HEV:RowKit.Hid (0≤q.every∧q.every≤1000000000):=Lib.hid (by
  rcases hev with h | h
  ·omega
  ·unfold Tess.coarser Fil.grainOk at h
   simp only [Bool.and_eq_true,decide_eq_true_eq] at h
   omega)
 obtain ⟨⟨hln,ba,bc,rfl,hbc⟩,hbp,_⟩:=hq.names
 rw [List.length_map] at *
 obtain ⟨ap,cp,rfl,_,hplm,_,_⟩:=ListAt.open hp
 have hsh0:∃ u1 u2 u3 u4,s0 = .slice u1 s.dims.length u2∧s1 = .slice u3 s.mets.length u4:=by
  obtain ⟨vd,vm,e,h1,h2,_⟩:=hs
  obtain ⟨_,_,rfl,_⟩:=slp_len h1
  obtain ⟨_,_,rfl,_⟩:=slp_len h2
  simp only [Value.agg.injEq,Array.mk.injEq,List.cons.injEq,and_true] at e
  exact ⟨_,_,_,_,e.1,e.2⟩
 obtain ⟨u1,u2,u3,u4,rfl,rfl⟩:=hsh0
 obtain ⟨fc,hfc⟩:∃ fc,fc=folC va (.slice ba q.names.length bc) vS f0 f1 f2 f3 f4 f5 vh vo (.slice u1 s.dims.length u2) (.slice u3 s.mets.length u4) (.slice ap pts.length cp) q s.grain (set:Nat):=⟨_,rfl⟩
 have HFC:=Lib.hid hfc
 obtain ⟨W0,hW0⟩:∃ W0,(w.alloc (.cells (folC va (.slice ba q.names.length bc) vS f0 f1 f2 f3 f4 f5 vh vo (.slice u1 s.dims.length u2) (.slice u3 s.mets.length u4) (.slice ap pts.length cp) q s.grain (set:Nat)) 92)).alloc (.cells #[.slice none 0 0,.map none] 101)=W0:=⟨_,rfl⟩
 obtain ⟨k0,k1,kS,kB⟩:=laid2 w (.cells (folC va (.slice ba q.names.length bc) vS f0 f1 f2 f3 f4 f5 vh vo (.slice u1 s.dims.length u2) (.slice u3 s.mets.length u4) (.slice ap pts.length cp) q s.grain (set:Nat)) 92) (.cells #[.slice none 0 0,.map none] 101)
 rw [hW0] at k0 k1 kS kB
 have HK0:=Lib.hid k0
 have HK1:=Lib.hid k1
 have HKB:=Lib.hid kB
 have HKS:=Lib.hid kS
 have HCT:=Lib.hid (fun W (hB:Below w.heap.size w W) (hk:W.heap[w.heap.size]? = some (.cells (folC va (.slice ba q.names.length bc) vS f0 f1 f2 f3 f4 f5 vh vo (.slice u1 s.dims.length u2) (.slice u3 s.mets.length u4) (.slice ap pts.length cp) q s.grain (set:Nat)) 92 (0,0)))=>by
  obtain ⟨_,⟨ye,yf,yg⟩,_,_⟩:=can19 hk
  exact contains_prt w.heap.size pts.length ap cp W (by unfold maxLen;omega) (prt_list ye yf yg (HS.out.ag (Ag.new _ hB)) (HP.out.ag (Ag.new _ hB)) HOK.out))
 obtain ⟨p1,p2,p3⟩:=pow_small q.names.length hnm
 obtain ⟨P,hP⟩:∃ P,P=2 ^ q.names.length:=⟨_,rfl⟩
 have HSET:=Lib.hid hset
 rw [← hP] at p1 p2 p3 hset
 obtain ⟨z,hz⟩:∃ z:Int,z=((set:Nat):Int):=⟨_,rfl⟩
 have hz0:¬ z < 0:=by omega
 have hzP:¬ (P:Int)≤z:=by omega
 have h13:¬ (13:Int) < (pts.length:Int):=by omega
 simp only [← hz] at HK0 k0 HCT HFC
 have HZ:=Lib.hid hz
 obtain ⟨⟨y0,y1,y2,y3,y4,y5,y6,y7,y8,y9,ya,yb,yc,yd⟩,⟨ye,yf,yg⟩,yh,yi⟩:=can19 k0
 have HFE:=Lib.hid hfe
 have HHD:=Lib.hid hdim
 clear k0 k1 kS kB hP hs hq hp hbc hbp hln hK hV hVn hs' hp' hnm' hfl' hok hone hcel hfc hset hplm hfe hdim
 refine (callsIn_wide (n:=5)).1 ?_
 refine callsIn_of_wp_marks Tryz.func34 rfl trivial ?_ rfl
 simp only [Tryz.ntmps34,List.size_toArray,List.length_cons,List.length_nil,Nat.reduceAdd,Nat.reduceSub,Array.replicate_succ,Array.replicate_zero,List.push_toArray,List.append_toArray,List.nil_append,List.cons_append]
 simp only [← hz]
 gi_wp2_with (fail)
 refine Rf.wpIn_scope_straight ?_
 gi_wp2_with (fail)
 refine ⟨trivial,?_⟩
 gi_at_call 44
 refine (callsIn_wide.2 (HC.out W0 HKB.out)).mono ?_
 rintro e W1 ⟨rfl,hB1⟩
 obtain ⟨⟨z0,z1,z2,z3,z4,z5,z6,z7,z8,z9,za,zb,zc,zd⟩,⟨ze,zf,zg⟩,zh,zi⟩:=can19 ((hB1.block _ (by rw [HKS.out];omega)).trans HK0.out)
 have hlw:=World.block_lt_of_cell? _ _ z0
 have HB1:=Lib.hid hB1
 clear hB1 y0 y1 y2 y3 y4 y5 y6 y7 y8 y9 ya yb yc yd ye yf yg yh yi hW0
 gi_wp2_with (fail)
 refine Flow.wpIn_region_flow_tail 11 (Flow.specs [.inl ?_,.inl ?_,.inl ?_,.inl ?_,.inl ?_,.inl ?_,.inl ?_,.inl ?_,.inl ?_,.inl ?_,.inl ?_]) (by kernel_rfl) (by kernel_rfl) ?_ ?_
 rotate_left 11
 ·refine Flow.specs_mono ?_
  repeat (first | exact Flow.lmono_nil | refine Flow.lmono_inl ?_)
 all_goals try simp only [List.take_succ_cons,List.take_zero,List.drop_succ_cons,List.drop_zero]
 iterate 11 (refine Flow.tree_valK rfl (fun K hK=>⟨fun w hw hG => ?_,?_⟩);(have hcl:=Flow.bcell hw;clear hG hw;unfold Flow.Runs Flow.yields;go_simp;try rfl);go_simp;refine hK _ ?_;clear hK K)
 refine Flow.tree_nil fun W2 hw2 hG => ?_
 clear hG
 have HB2:=Lib.hid (Bt HB1.out hw2)
 have hk2:=(hw2.block _ hlw).trans ((HB1.out.block _ (by rw [HKS.out];omega)).trans HK0.out)
 clear hw2 z0 z1 z2 z3 z4 z5 z6 z7 z8 z9 za zb zc zd ze zf zg zh zi hlw
 obtain ⟨⟨z0,z1,z2,z3,z4,z5,z6,z7,z8,z9,za,zb,zc,zd⟩,⟨ze,zf,zg⟩,zh,zi⟩:=can19 hk2
 have HCC:=Lib.hid (HCT.out W2 (Bt HKB.out HB2.out) hk2)
 clear hk2
 gi_wp2_with (fail)
 refine ⟨trivial,?_⟩
 gi_at_call 65
 refine (callsIn_wide.2 HCC.out).mono ?_
 rintro e W3 ⟨rfl,hB3⟩
 have h03:Below W0.heap.size W0 W3:=Bt HB2.out hB3
 have hk3:=(h03.block _ (by rw [HKS.out];omega)).trans HK0.out
 have ho3:=(h03.block _ (by rw [HKS.out];omega)).trans HK1.out
 have hs3:w.heap.size + 2≤W3.heap.size:=by have:=h03.size;rw [HKS.out] at this;exact this
 have hmk:=run_makeG W3
 obtain ⟨o0,o1,of0,of1,W4,hW4,ho4,hm4,hk4',hs4,hb4⟩:=made4 w W3 _ hk3 ho3 hs3 (HKB.out.trans (h03.mono (by rw [HKS.out];omega)))
 have HO4:=Lib.hid ho4
 have HM4:=Lib.hid hm4
 have HS4:=Lib.hid hs4
 have HB4:=Lib.hid hb4
 have HK4:=Lib.hid hk4'
 have HS3:=Lib.hid hs3
 clear hB3 h03 hk3 ho3 hs3 ho4 hm4 hs4 hb4 z0 z1 z2 z3 z4 z5 z6 z7 z8 z9 za zb zc zd ze zf zg zh zi
 have hld:=load_folder hk4' rfl
 have hlw:=(Array.getElem?_eq_some_iff.1 hk4').1
 clear hk4'
 iterate 30 (first | go_values | gi_guarded | gi_step | gi_upon | (simp only []) | go_simp)
 refine wpIn_ld hld ?_
 gi_wp2_with (fail)
 subst hz
 refine ⟨trivial,?_⟩
 gi_at_call 66
 refine (callsIn_wide.2 (cells_any _ _ _ _ _ _ _ _ _ _ _ _ _ _ _ _ _ _ _ W4)).mono ?_
 rintro e w5 ⟨rfl,rfl⟩
 obtain ⟨c1,cS,cB⟩:=laid1 W4 (.cells (folC va (.slice ba q.names.length bc) vS f0 f1 f2 f3 f4 f5 vh vo (.slice u1 s.dims.length u2) (.slice u3 s.mets.length u4) (.slice ap pts.length cp) q s.grain (set:Nat)) 92)
 have HC1:=Lib.hid c1
 have HCS:=Lib.hid cS
 have HCB:=Lib.hid cB
 clear c1 cS cB hld hmk hW4 o0 o1 of0 of1 hlw
 gi_wp2_with (fail)
 refine Rf.range_wide (gf:=102) (lb:=#[.pointer (some ⟨W4.heap.size,0,none⟩)]) rfl (enters_of Tryz.func102 (by kernel_rfl) rfl) ?_
 intro fn W5 hLp hD hB5 hS5
 rw [HCS.out] at hLp hD hS5 ⊢
 obtain ⟨rec,hrec,hLp⟩:∃ rec:Loop,rec=_∧W5.heap[W4.heap.size + 1 + 1]? = some (.loop rec):=⟨_,rfl,hLp⟩
 have HREC:=Lib.hid hrec
 have hst:rec.state = .ready∧rec.params.size=1∧rec.pending=none:=by rw [hrec];exact ⟨rfl,rfl,rfl⟩
 clear hrec
 obtain ⟨hst,hps,hpe⟩:=hst
 have HB5:RowKit.Hid (Below W4.heap.size W4 W5):=Lib.hid (Bt HCB.out hB5)
 have HS5:RowKit.Hid (W5.heap.size=W4.heap.size + 3):=Lib.hid (by rw [hS5])
 have HLP:=Lib.hid hLp
 have HD5:=Lib.hid hD
 have HK5:=Lib.hid ((HB5.out.block _ (Array.getElem?_eq_some_iff.1 HK4.out).1).trans HK4.out)
 have HC5:=Lib.hid ((hB5.block W4.heap.size (by rw [HCS.out];omega)).trans HC1.out)
 have HG0:RowKit.Hid (GS T W5.heap.size (w.heap.size + 1) W3.heap.size W5 (.slice none 0 0) [] (fun _=>none) []):=Lib.hid (GS.new (by rw [HS5.out,HS4.out];have:=HS3.out;omega) (by rw [HS5.out,HS4.out];omega) (by have:=HS3.out;omega) (Nat.le_refl _) ((HB5.out.block _ (Array.getElem?_eq_some_iff.1 HO4.out).1).trans HO4.out) ((HB5.out.block _ (Array.getElem?_eq_some_iff.1 HM4.out).1).trans HM4.out))
 have HBW:RowKit.Hid (Below w.heap.size w W5):=Lib.hid (HB4.out.trans (HB5.out.mono (by have:=HS4.out;have:=HS3.out;omega)))
 clear hLp hD hB5 hS5
 have HIT:=cells_iter a0 a1 (fun b=>p b∧b < w.heap.size) (fun b=>b≠w.heap.size + 1∧b≠W3.heap.size) (fun b hb=>⟨by omega,by have:=HS3.out;omega⟩) n hn s q pts W4.heap.size _ _ _ _ _ _ _ _ _ _ _ _ _ _ _ _ _ _ W5 HC5.out ⟨by have:=HS4.out;have:=HS3.out;omega,by have:=HS4.out;omega⟩ (HS.out.ag (Ag.new _ HBW.out)) (HF.out.ag (Ag.new _ HBW.out)) HK.out (HP.out.ag (Ag.new _ HBW.out)) HFE.out (fun C hC x hx=>((HOK.out C hC).each x hx).dims.1)
 obtain ⟨xs,hxs⟩:∃ xs,pts.flatten.filter (inF s q)=xs:=⟨_,rfl⟩
 rw [hxs] at HIT HXO HTOT HPG HGO
 clear hxs
 obtain ⟨lp,hlp⟩:∃ lp,W4.heap.size + 1 + 1=lp:=⟨_,rfl⟩
 rw [hlp] at HLP ⊢
 have HLE:=Lib.hid hlp
 clear hlp
 obtain ⟨J,hJ⟩:∃ J:Nat→World→Prop,J=fun k X => ∃ v us V,Put T W5.heap.size (w.heap.size + 1) W3.heap.size (.slice none 0 0) (fun _=>none) W5 X v us V (((xs.take k).map (grpOf s q set)).foldl putG []):=⟨_,rfl⟩
 have HJ:RowKit.Hid (∀ k X,J k X↔∃ v us V,Put T W5.heap.size (w.heap.size + 1) W3.heap.size (.slice none 0 0) (fun _=>none) W5 X v us V (((xs.take k).map (grpOf s q set)).foldl putG [])):=Lib.hid fun k X=>by rw [hJ]
 have hJ0:J 0 W5:=(HJ.out _ _).2 ⟨_,_,_,HG0.out,Tch.refl _ _,fun b hb => .inl hb⟩
 clear hJ
 have HLX:RowKit.Hid (∀ k X,J k X→X.heap[lp]? = some (.loop rec)∧X.heap[w.heap.size]? = some (.cells (folC va (.slice ba q.names.length bc) vS f0 f1 f2 f3 f4 f5 vh vo (.slice u1 s.dims.length u2) (.slice u3 s.mets.length u4) (.slice ap pts.length cp) q s.grain (set:Nat)) 92 (0,0))∧Below w.heap.size w X∧W5.heap.size≤X.heap.size):=Lib.hid fun k X h=>by
  obtain ⟨v,us,V,hput⟩:=(HJ.out _ _).1 h
  have e3:=HS3.out
  have e4:=HS4.out
  have e5:=HS5.out
  have el:=HLE.out
  refine ⟨(hput.tch.block lp (by omega) fun hS => ?_).trans HLP.out,(hput.tch.block w.heap.size (by omega) fun hS => ?_).trans HK5.out,HBW.out.trans (hput.tch.below (by omega) fun b hS => ?_),hput.tch.size⟩
  ·rcases no_S hS with h | h <;> omega
  ·rcases no_S hS with h | h <;> omega
  ·rcases no_S hS with h | h <;> omega
 refine callsIn_wide.2 ((HIT lp rec.fn (fun v=>(rec.params.zip v).foldl (fun tmps (t,a)=>tmps.setIfInBounds t a) rec.tmps) rec.assign rec.body J ?_ ?_ ?_ ?_ W5 hJ0).mono ?_)
 ·intro k X X' h hb
  obtain ⟨v,us,V,hput⟩:=(HJ.out _ _).1 h
  exact (HJ.out _ _).2 ⟨v,us,V,hput.below hb⟩
 ·intro k X h
  have hx:=HLX.out k X h
  obtain ⟨v,us,V,hput⟩:=(HJ.out _ _).1 h
  refine ⟨HV.out.below hx.2.2.1,hput.tch.ag fun b hb hS => ?_⟩
  rcases no_S hS with h | h
  ·exact hb.1 h
  ·exact hb.2 h
 ·intro k X h z hz
  exact run_yield (HLX.out k X h).1 (by rw [hps,hz])
 ·intro k X cs hk h hcel
  obtain ⟨hl0,hk0,hB0,hz0⟩:=HLX.out k X h
  obtain ⟨v,us,V,hput⟩:=(HJ.out _ _).1 h
  have hxo:=HXO.out _ (List.getElem_mem hk)
  have HXO1:=Lib.hid hxo
  have HGO1:=Lib.hid (HGO.out _ (List.getElem_mem hk))
  have hst1:(xs.take (k + 1)).map (grpOf s q set)=(xs.take k).map (grpOf s q set) ++ [grpOf s q set xs[k]]:=by rw [List.take_succ_eq_append_getElem hk,List.map_append];rfl
  have hto:=HTOT.out (k + 1)
  have HLO:RowKit.Hid (∀ y ∈ ((xs.take k).map (grpOf s q set)).foldl putG [],GrpOk s.mets.length y):=Lib.hid (foldG_ok (fun y hy=>by obtain ⟨z,hz,rfl⟩:=List.mem_map.1 hy;exact HGO.out z (List.mem_of_mem_take hz)) (fun y hy=>by cases hy))
  have htl:totG (((xs.take k).map (grpOf s q set)).foldl putG []) + totG [grpOf s q set xs[k]]≤1000000:=by
   have h1:totG ((xs.take (k + 1)).map (grpOf s q set))=totG ((xs.take k).map (grpOf s q set)) + totG [grpOf s q set xs[k]]:=by rw [hst1];unfold totG;rw [List.map_append,List.sum_append_int]
   have h2:totG []=0:=rfl
   rw [foldG_tot];omega
  have HTL:=Lib.hid htl
  have HJK:=Lib.hid (HJ.out (k + 1))
  rw [hst1,List.foldl_append] at HJK
  obtain ⟨L,hL⟩:∃ L,((xs.take k).map (grpOf s q set)).foldl putG []=L:=⟨_,rfl⟩
  rw [hL] at hput HLO HTL HJK
  clear hst1 hto htl hL hxo HIT HJ HTOT
  obtain ⟨ad,cd,a3,c3,a4,c4,a5,c5,rfl,_⟩:=hcel.shapes
  have HCEL:=Lib.hid hcel
  generalize xs[k]=x at *
  generalize J (k + 1)=J' at *
  have HPU:=Lib.hid hput
  have HL0:=Lib.hid hl0
  have HK0X:=Lib.hid hk0
  have HB0X:=Lib.hid hB0
  have HZ0:=Lib.hid hz0
  clear h hput hl0 hk0 hB0 hz0 hcel
  refine Rf.round_wide (r:=rec) ?_
  have hrr:=HREC.out
  subst hrr
  dsimp only
  obtain ⟨X1,hX1⟩:∃ X1,X.alloc (.cells #[.int .i64 x.1.1,.slice ad x.1.2.length cd,.int .i64 x.2.n,.slice a3 x.2.sums.length c3,.slice a4 x.2.mins.length c4,.slice a5 x.2.maxs.length c5] 83)=X1:=⟨_,rfl⟩
  obtain ⟨q1,qS,qB⟩:=laid1 X (.cells #[.int .i64 x.1.1,.slice ad x.1.2.length cd,.int .i64 x.2.n,.slice a3 x.2.sums.length c3,.slice a4 x.2.mins.length c4,.slice a5 x.2.maxs.length c5] 83)
  rw [hX1] at q1 qS qB
  have Q1:=Lib.hid q1
  have QS:=Lib.hid qS
  have QB:=Lib.hid qB
  clear q1 qS qB
  gi_wp2_with (rw [Oper.semAt_eq _ _ _ (fun c h=>by cases h)];go_simp;try go_bits)
  refine ⟨(QB.out.block _ (Array.getElem?_eq_some_iff.1 HL0.out).1).trans HL0.out,fun X2 hs2 hl2 => ?_⟩
  have hlt:=(Array.getElem?_eq_some_iff.1 HL0.out).1
  have hlk:=(Array.getElem?_eq_some_iff.1 HK0X.out).1
  have hk2:=(hs2.block w.heap.size (by have:=HLE.out;have:=HS4.out;have:=HS3.out;omega)).trans ((QB.out.block _ hlk).trans HK0X.out)
  have hq2:=(hs2.block X.heap.size (by omega)).trans Q1.out
  have hld:=load_folder hk2 rfl
  obtain ⟨⟨x0,x1,x2,x3,x4,x5⟩,_⟩:=can6 hq2
  have ag2:Ag (fun b=>p b∧b < w.heap.size) X X2:=(Ag.new _ QB.out).trans ⟨Nat.le_of_eq hs2.size.symm,fun b _ hb=>hs2.block b (by have:=HLE.out;have:=HS4.out;have:=HS3.out;omega)⟩
  have hag0:Ag (fun b=>p b∧b < w.heap.size) w X2:=(Ag.new _ HB0X.out).trans ag2
  have HGRP:=Lib.hid (groupOf_any (fun b=>p b∧b < w.heap.size) s q set x va (.int .i64 q.mode) vS f0 f1 f2 f3 f4 f5 vh vo (.int .i64 q.limit) (.slice u1 s.dims.length u2) (.slice u3 s.mets.length u4) (.slice ap pts.length cp) (.slice ba q.names.length bc) _ X2 (HS.out.ag hag0) (HN.out.ag hag0) (HCEL.out.ag ag2) (by omega) HSET.out ⟨HXO1.out.time.1,HXO1.out.time.2.1⟩ HEV.out (fun y hy=>by rw [HXO1.out.dims.1];exact HHD.out y hy))
  have HS2:=Lib.hid hs2
  have HL2:=Lib.hid hl2
  have HLT:=Lib.hid hlt
  clear hs2 hl2 hlt hlk hk2 hq2 ag2 hag0
  iterate 3 gi_step
  refine wpInR_ld hld ?_
  clear hld
  gi_wp2_with (rw [Oper.semAt_eq _ _ _ (fun c h=>by cases h)];go_simp;try go_bits)
  refine ⟨trivial,?_⟩
  gi_at_call 67
  refine CallsIn.mono (CallsIn.inRound _ (callsIn_wide.2 HGRP.out)) ?_
  rintro e w5 ⟨cs',rfl,hg5,hb5⟩
  have hg5:GrpAt (fun b=>(p b∧b < w.heap.size)∨X2.heap.size≤b) w5 cs' (grpOf s q set x):=hg5
  obtain ⟨G,hGe⟩:∃ G,grpOf s q set x=G:=⟨_,rfl⟩
  rw [hGe] at hg5 HGO1 HTL HJK
  clear hGe
  have hone:=one_grp hg5
  obtain ⟨ad',nd',cd',a3',n3',c3',a4',n4',c4',a5',n5',c5',rfl⟩:=hg5.shapes
  obtain ⟨W6,hW6⟩:∃ W6,w5.alloc (.cells #[.int .i64 G.1,.int .i64 G.2.1.1,.slice ad' nd' cd',.int .i64 G.2.2.n,.slice a3' n3' c3',.slice a4' n4' c4',.slice a5' n5' c5'] 56)=W6:=⟨_,rfl⟩
  obtain ⟨_,rS,rB⟩:=laid1 w5 (.cells #[.int .i64 G.1,.int .i64 G.2.1.1,.slice ad' nd' cd',.int .i64 G.2.2.n,.slice a3' n3' c3',.slice a4' n4' c4',.slice a5' n5' c5'] 56)
  have hone:GrpsAt (fun b=>((p b∧b < w.heap.size)∨X2.heap.size≤b)∨b=w5.heap.size) W6 (.slice (some ⟨w5.heap.size,0,none⟩) 1 1) [G]:=by rw [← hW6];exact hone
  rw [hW6] at rS rB
  have hB26:Below X2.heap.size X2 W6:=Bt hb5 rB
  have e3:=HS3.out
  have e4:=HS4.out
  have e5:=HS5.out
  have el:=HLE.out
  have ex:=HS2.out.size
  have eq:=QS.out
  have e6:=hb5.size
  have ez:=HZ0.out
  have hgs2:=(HPU.out.gs.below QB.out).same (l:=lp) (by omega) (by omega) (by omega) HS2.out
  have hbw6:Below w.heap.size w W6:=(HB0X.out.trans (QB.out.mono (by omega))).trans ((HS2.out.below (by omega)).trans (hB26.mono (by omega)))
  have HADD:=Lib.hid (addG_any (T:=T) W5.heap.size (w.heap.size + 1) W3.heap.size w.heap.size s.mets.length _ [G] _ v us V L W6 (hgs2.below hB26) hone (fun b hb hS=>by
   have h1:=HPU.out.gs.S_lt hS
   have h2:=HPU.out.gs.S_le (B:=w.heap.size) (by omega) (by omega) hS
   rcases hb with (hb | hb) | hb <;> omega) (fun y hy=>by obtain rfl:=List.mem_singleton.1 hy;exact HGO1.out) HLO.out hM HTL.out (by omega) (by omega) (by omega) (fun w' hB=>HVN.out w' (hbw6.trans hB)))
  have HB26:=Lib.hid hB26
  have HL6:=Lib.hid ((hB26.block lp (by omega)).trans HL2.out)
  clear hone rS rB hB26 hg5 hb5 hgs2 hbw6 e3 e4 e5 el ex eq e6 ez x0 x1 x2 x3 x4 x5
  gi_wp2_with (rw [Oper.semAt_eq _ _ _ (fun c h=>by cases h)];go_simp;try go_bits)
  refine ⟨trivial,?_⟩
  gi_at_call 39
  refine CallsIn.mono (CallsIn.inRound _ (callsIn_wide.2 HADD.out)) ?_
  rintro e w7 ⟨u,v',us',V',rfl,hput7⟩
  have HP7:=Lib.hid hput7
  clear hput7 hW6
  gi_wp2_with (rw [Oper.semAt_eq _ _ _ (fun c h=>by cases h)];go_simp;try go_bits)
  have e3:=HS3.out
  have e4:=HS4.out
  have e5:=HS5.out
  have el:=HLE.out
  have ez:=HZ0.out
  refine ⟨(HP7.out.tch.block lp (Array.getElem?_eq_some_iff.1 HL6.out).1 fun hS => ?_).trans HL6.out,fun X7 hs7 hl7=>⟨rfl,(HJK.out X7).2 ⟨v',us',V',HPU.out.round QB.out HS2.out HB26.out HP7.out hs7 (by omega) (by omega) (by omega) (hl7.trans HLP.out.symm)⟩⟩⟩
  rcases HPU.out.own lp hS with h | h
  ·rcases no_S h with h | h <;> omega
  ·omega
 ·rintro e W8 ⟨⟨vv,rfl⟩,h⟩
  obtain ⟨hl8,hk8,hB8,hz8⟩:=HLX.out _ W8 h
  obtain ⟨v,us,V,hput⟩:=(HJ.out _ _).1 h
  rw [List.take_length,HPG.out] at hput
  refine ⟨⟨_,rfl⟩,rec,hl8,by rw [hst];decide,?_⟩
  intro W9 hW9
  rw [hpe]
  dsimp only
  have e3:=HS3.out
  have e4:=HS4.out
  have e5:=HS5.out
  have el:=HLE.out
  have hgs9:=hput.gs.same (l:=lp) (by omega) (by omega) (by omega) hW9
  have hlen:(putsG s q set pts.flatten).length≤1000:=by
   have h1:=(totG_le (M:=s.mets.length) (L:=putsG s q set pts.flatten) (by rw [← HPG.out];exact foldG_ok (fun y hy=>by obtain ⟨z,hz,rfl⟩:=List.mem_map.1 hy;exact HGO.out z hz) (fun y hy=>by cases hy))).1
   have h2:totG (putsG s q set pts.flatten)≤1000:=by
    rw [← HPG.out,foldG_tot]
    have h3:=HTOT.out xs.length
    rw [List.take_length] at h3
    have h4:totG []=0:=rfl
    omega
   omega
  have hd9:W9.heap[W4.heap.size + 1]? = some (.deferred (some [])):=(hW9.block _ (by omega)).trans ((hput.tch.block _ (by omega) fun hS=>by rcases no_S hS with h | h <;> omega).trans HD5.out)
  have hb9:Below w.heap.size w W9:=hB8.trans (hW9.below (by omega))
  obtain ⟨L,hL⟩:∃ L,putsG s q set pts.flatten=L:=⟨_,rfl⟩
  have HLQ:=Lib.hid hL
  rw [hL] at hgs9 hlen
  clear hL
  obtain ⟨va9,ca9,rfl⟩:=hgs9.shape
  obtain ⟨⟨x0,x1⟩,_⟩:=can2 hgs9.box
  have h3000:¬ (3000:Int) < (L.length:Int):=by omega
  have HSORT:=Lib.hid (sortG_any W9 hgs9.own hgs9.nil (by omega))
  have HGS:=Lib.hid hgs9
  have HLEN:=Lib.hid hlen
  have HD9:=Lib.hid hd9
  have HB9:=Lib.hid hb9
  have HSZ:=Lib.hid (show w.heap.size + 1 < W5.heap.size∧W4.heap.size + 1 < W5.heap.size∧w.heap.size≤W5.heap.size∧w.heap.size≤W4.heap.size + 1 by omega)
  clear hgs9 hlen hd9 hb9 e3 e4 e5 el hW9 hput h hl8 hk8 hB8 hz8
  gi_wp2_with (fail)
  refine ⟨trivial,?_⟩
  gi_at_call 68
  refine (callsIn_wide.2 HSORT.out).mono ?_
  rintro e w10 ⟨rfl,us',L',hperm,hsd,hown,hgr⟩
  have hz:=HSZ.out
  have hnw:=HGS.out.NW
  have hne:∀ b,b < W5.heap.size→(Value.slice va9 L.length ca9).ownBlock≠some b:=fun b hb e=>by have:=(HGS.out.own.own.lt b e).1;omega
  have hb10:=(hgr.block (w.heap.size + 1) (by omega) fun e=>hne _ (by omega) e.symm).trans HGS.out.box
  have hd10:=(hgr.block (W4.heap.size + 1) (by omega) fun e=>hne _ (by omega) e.symm).trans HD9.out
  have hB10:Below w.heap.size w w10:=HB9.out.grown hgr HB9.out.size (fun j e=>by have:=(HGS.out.own.own.lt j e).1;omega)
  have heq:=sorted_groups (s:=s) (q:=q) (set:=set) (C:=pts.flatten) (L':=L') (by rw [HLQ.out];exact hperm) hsd
  have HFIN:=Lib.hid (show ∀ W',Rf.SameBut (W4.heap.size + 1) w10 W'→GrpsAt (fun b=>w.heap.size≤b) W' (.slice va9 L.length ca9) (ofSet (set:Nat) (groupsP s q set pts.flatten)) from fun W' hs=>by
   rw [← heq]
   have h1:=hown.same grp_nest (fun _ hb=>hb.1) hz.2.1 hs
   refine h1.listed grp_nest (fun b hb=>Nat.le_trans hz.2.2.1 hb.1) (fun b hb=>Nat.le_trans hz.2.2.1 hb) (by rw [hperm.length_eq];have:=HLEN.out;unfold maxLen;omega) fun e=>HGS.out.nil (List.eq_nil_of_length_eq_zero (by rw [← hperm.length_eq,e];rfl)))
  obtain ⟨⟨y0,y1⟩,_⟩:=can2 hb10
  have HD10:=Lib.hid hd10
  have HB10:=Lib.hid hB10
  clear x0 x1 hperm hsd hown hgr hz hnw hne hb10 hd10 hB10 heq
  gi_wp2_with (fail)
  rw [Exit.noGoto_ret]
  gi_wp2_with (fail)
  refine ⟨by simp,.inl ⟨_,_,rfl,run_takeDeferred HD10.out,?_⟩⟩
  refine ⟨.tuple #[.slice va9 L.length ca9,.nilIface],by simp [results,Tryz.results34,go_sem],_,rfl,HFIN.out _ (Rf.SameBut.put _ _ _),HB10.out.trans ((Rf.SameBut.put w10 (W4.heap.size + 1) (.deferred none)).below HSZ.out.2.2.2)⟩
end Go.Proofs.YtaddkkkchkdgkaaGreatDoor
