/- The law's few queries: walked. -/
import Derived.Test.YtaddkkkchkdgkaaGreatDoorWC47
import Derived.Test.YtaddkkkchkdgkaaGreatDoorWC08
namespace Go.Proofs.YtaddkkkchkdgkaaGreatDoor
open Go.RowKit Go.Sort
open Tess (Fil Que)
def newPr (a b:Value) (v:Value) (w:World):Prop:=∃ g,v = .slice (some ⟨g,0,none⟩) 1 1∧g < w.heap.size∧w.cell? ⟨g,0,none⟩=some a∧w.cell? ⟨g,1,none⟩=some b
theorem newPr_mono (a b:Value):Flow.Spec.mono (.inr (newPr a b)):=fun _ _ _ ⟨g,h1,h2,h3,h4⟩ hb=>⟨g,h1,Nat.lt_of_lt_of_le h2 hb.size,(hb.cell (p:=⟨g,0,none⟩) h2).trans h3,(hb.cell (p:=⟨g,1,none⟩) h2).trans h4⟩
theorem newPr_mk (a b:Value) (w:World) (t:TypeId):newPr a b (.slice (some ⟨w.heap.size,0,none⟩) 1 1) (w.alloc (.cells #[a,b] t)):=⟨_,rfl,by simp,by simp,by simp⟩
structure Kept (q:Nat→Prop) (W:World) (vn:Value) (ls:List ByteArray) (fv:Value) (f:Fil):Prop where
 names:SlP q W vn (ls.map .string)
 fil:FilAt q 8 W fv f
theorem Kept.ag {q:Nat→Prop} {W W':World} {vn fv:Value} {ls:List ByteArray} {f:Fil} (h:Kept q W vn ls fv f) (hg:Ag q W W'):Kept q W' vn ls fv f:=⟨h.names.ag hg,h.fil.ag hg⟩
theorem Kept.weak {p q:Nat→Prop} {W:World} {vn fv:Value} {ls:List ByteArray} {f:Fil} (h:Kept p W vn ls fv f) (hpq:∀ b,p b→q b):Kept q W vn ls fv f:=⟨h.names.weak hpq,h.fil.weak hpq⟩
theorem Kept.lt {q:Nat→Prop} {W:World} {vn fv:Value} {ls:List ByteArray} {f:Fil} (h:Kept q W vn ls fv f):Kept (fun b=>q b∧b < W.heap.size) W vn ls fv f:=⟨h.names.lt,h.fil.lt⟩
def FewPost (p:Nat→Prop) (q:Que) (w:World) (e:Ending) (w':World):Prop:=
 ∃ v' va vb vS f0 f1 f2 f3 f4 f5 vh vo,e = .returned v'∧QueAt (fun b=>p b∨w.heap.size≤b) 8 w' v' (Que.few q) va vb vS f0 f1 f2 f3 f4 f5 vh vo∧CapOk vb (Que.few q).names.length∧Below w.heap.size w w'
theorem few_post {p:Nat→Prop} {q:Que} {w w':World} {va vb vS f0 f1 f2 f3 f4 f5 vh vo:Value} (h1:RowsAt 2 aggF (fun b=>w.heap.size + 2≤b) w' va ((q.aggs.take 10).map Tess.cutAgg)) (h2:SlP (fun b=>w.heap.size + 2≤b) w' vb ((namesN 30 10 q.names).map .string))
  (h3:SetsAt (fun b=>w.heap.size + 2≤b) w' vS ((q.sets.take 10).map (namesN 30 10))) (h4:FilAt (fun b=>w.heap.size + 2≤b) 8 w' (.agg #[f0,f1,f2,f3,f4,f5]) (Fil.few q.fil)) (h5:RowsAt 3 condF (fun b=>p b∧b < w.heap.size) w' vh (q.conds.take 10)) (h6:RowsAt 3 keyF (fun b=>p b∧b < w.heap.size) w' vo (q.keys.take 10))
  (hc:CapOk vb (namesN 30 10 q.names).length) (hB:Below w.heap.size w w'):FewPost p q w (.returned (.agg #[va,vb,.int .i64 q.mode,vS,.int .i64 q.every,f0,f1,f2,f3,f4,f5,vh,vo,.int .i64 q.limit])) w':=by
 have key:∀ b,w.heap.size + 2≤b→p b∨w.heap.size≤b:=fun b h => .inr (by omega)
 refine ⟨_,va,vb,vS,f0,f1,f2,f3,f4,f5,vh,vo,rfl,⟨rfl,h1.weak key,fun x hx => ?_,h2.weak key,names_small 30 10 q.names (by omega),h3.weak key,h4.weak key,h5.weak fun b h => .inl h.1,h6.weak fun b h => .inl h.1⟩,hc,hB⟩
 obtain ⟨y,_,rfl⟩:=List.mem_map.1 hx
 have:=cutN_size 30 y.met
 show (cutN 30 y.met).size≤maxLen
 unfold maxLen;omega
theorem min_cast (n m:Nat) (h:m=min 10 n):min (n:Int) 10=(m:Int):=by subst h;omega
theorem min_cast' (n m:Nat) (h:m=min 10 n):(if (10:Int) < (n:Int) then (10:Int) else (n:Int))=(m:Int):=by subst h;split <;> omega
set_option maxRecDepth 100000 in
set_option maxHeartbeats 8000000 in
theorem few15_any (p:Nat→Prop) (n:Nat) (v:Value) (q:Que) (va vb vS f0 f1 f2 f3 f4 f5 vh vo:Value) (w:World) (hq:QueAt p n w v q va vb vS f0 f1 f2 f3 f4 f5 vh vo) :
  Calls Tryz.prog 12 #[v] w (FewPost p q w):=by
 have HNM:=Lib.hid (fun W (hB:Below w.heap.size w W)=>names15_any p vb q.names W (hq.names.ag (Ag.new p hB)) hq.small)
 have HFE:=Lib.hid (fun W (hB:Below w.heap.size w W)=>few_any p n (.agg #[f0,f1,f2,f3,f4,f5]) q.fil W (hq.fil.ag (Ag.new p hB)))
 have hnm:=hq.names
 have HSM:=Lib.hid (fun (W:World) (hB:Below w.heap.size w W) (l:List ByteArray) c (h:SlP p w c (l.map .string)) (hs:∀ x ∈ l,x.size≤maxLen)=>names15_any p c l W (h.ag (Ag.new p hB)) hs)
 obtain ⟨ab,cb,rfl,hnb,_⟩:=sls_open hq.names.1
 have hv:=hq.e
 have HAG:=Lib.hid hq.aggs
 have HMT:=Lib.hid hq.mets
 have HST:=Lib.hid hq.sets
 have HCD:=Lib.hid hq.conds
 have HKY:=Lib.hid hq.keys
 obtain ⟨aa,ca,rfl⟩:=hq.aggs.shape
 obtain ⟨aS,cS,rfl⟩:=hq.sets.shape
 have hna:=hq.aggs.len
 have hnS:=hq.sets.len
 have hnh:=hq.conds.len
 have hno:=hq.keys.len
 obtain ⟨mh,hmh⟩:∃ m,m=min 10 q.conds.length:=⟨_,rfl⟩
 obtain ⟨mo,hmo⟩:∃ m,m=min 10 q.keys.length:=⟨_,rfl⟩
 have HHT:=Lib.hid (hq.conds.take mh (by omega))
 have HOT:=Lib.hid (hq.keys.take mo (by omega))
 obtain ⟨ah,ch,rfl,_,hch,_⟩:=hq.conds
 obtain ⟨ao,co,rfl,_,hco,_⟩:=hq.keys
 obtain ⟨ah',ch',eh,hT⟩:=HHT.out
 simp only [Value.slice.injEq] at eh
 obtain ⟨rfl,_,rfl⟩:=eh
 obtain ⟨ao',co',eo,oT⟩:=HOT.out
 simp only [Value.slice.injEq] at eo
 obtain ⟨rfl,_,rfl⟩:=eo
 have HHT:=Lib.hid hT
 have HOT:=Lib.hid oT
 clear hT oT
 have hmhi:=min_cast _ _ hmh
 have hmoi:=min_cast _ _ hmo
 have hmhj:=min_cast' _ _ hmh
 have hmoj:=min_cast' _ _ hmo
 have hmhc:(mh:Int)≤(ch:Int):=Int.ofNat_le.2 (Nat.le_trans (hmh ▸ Nat.min_le_right _ _) hch)
 have hmoc:(mo:Int)≤(co:Int):=Int.ofNat_le.2 (Nat.le_trans (hmo ▸ Nat.min_le_right _ _) hco)
 have HMH:=Lib.hid hmh
 have HMO:=Lib.hid hmo
 obtain ⟨xf0,xf1,xf2,xf3,xf4,xf5⟩:True∧True∧True∧True∧True∧True:=⟨trivial,trivial,trivial,trivial,trivial,trivial⟩
 clear xf0 xf1 xf2 xf3 xf4 xf5
 have hf6:=FilAt.shape6 hq.fil
 obtain ⟨z0,z1,z2,z3,z4,ez⟩:=hf6
 simp only [Value.agg.injEq,Array.mk.injEq,List.cons.injEq,and_true] at ez
 obtain ⟨rfl,rfl,rfl,rfl,rfl,rfl⟩:=ez
 subst hv
 clear hq hnm hmh hmo hch hco
 obtain ⟨i0,hi,hz0,hz1,hz2⟩:=info_parts infoAgg
 obtain ⟨j0,ji,jz0,jz1,jz2⟩:=info_parts infoSet
 obtain ⟨bx,hbx⟩:∃ bx:Array Value,bx=#[.slice aa q.aggs.length ca,.slice ab q.names.length cb,.int .i64 q.mode,.slice aS q.sets.length cS,.int .i64 q.every,.int .i64 q.fil.kind,.string q.fil.name,.slice z0 z1 z2,.int .i64 q.fil.frm,.int .i64 q.fil.to,.slice z3 q.fil.l.length z4,.slice ah q.conds.length ch,.slice ao q.keys.length co,.int .i64 q.limit]:=⟨_,rfl⟩
 obtain ⟨W0,hW0⟩:∃ W0,(w.alloc (.cells #[.slice aa q.aggs.length ca,.slice ab q.names.length cb,.int .i64 q.mode,.slice aS q.sets.length cS,.int .i64 q.every,.int .i64 q.fil.kind,.string q.fil.name,.slice z0 z1 z2,.int .i64 q.fil.frm,.int .i64 q.fil.to,.slice z3 q.fil.l.length z4,.slice ah q.conds.length ch,.slice ao q.keys.length co,.int .i64 q.limit] 35)).alloc (.cells zeroQue 35)=W0:=⟨_,rfl⟩
 obtain ⟨h0,h1,hS0,hB0⟩:=laid2 w (.cells #[.slice aa q.aggs.length ca,.slice ab q.names.length cb,.int .i64 q.mode,.slice aS q.sets.length cS,.int .i64 q.every,.int .i64 q.fil.kind,.string q.fil.name,.slice z0 z1 z2,.int .i64 q.fil.frm,.int .i64 q.fil.to,.slice z3 q.fil.l.length z4,.slice ah q.conds.length ch,.slice ao q.keys.length co,.int .i64 q.limit] 35) (.cells zeroQue 35)
 rw [hW0] at h0 h1 hS0 hB0
 go_enter Tryz.func12,Tryz.ntmps12
 go_wp2_with fail
 clear hW0
 obtain ⟨c0,c1,c2,c3,c4,c5,c6,c7,c8,c9,ca',cb',cc',cd'⟩:=(can14 h0).1
 have s0:w.heap.size < W0.heap.size:=by omega
 have HB:=Lib.hid hB0
 have HS:=Lib.hid hS0
 have H0:=Lib.hid h0
 have H1:=Lib.hid h1
 have HBX:=Lib.hid hbx
 clear h0 h1 hS0 hB0 hbx
 refine FlX.wp_region_flow_tail 28 (FlX.specs [some (.inl ?_),some (.inl ?_),some (.inr (isNames q.names)),some (.inl ?_),some (.inl ?_),some (.inl ?_),some (.inl ?_),some (.inl ?_),some (.inl ?_),some (.inr (isFilX 8 (Fil.few q.fil))),some (.inl ?_),some (.inl ?_),some (.inl ?_),some (.inl ?_),some (.inl ?_),some (.inl ?_),some (.inl ?_),some (.inl ?_),some (.inl ?_),some (.inl ?_),some (.inl ?_),some (.inl ?_),some (.inl ?_),some (.inl ?_),some (.inl ?_),some (.inl ?_),none,some (.inr (newAtX zeroQue 35))]) (by kernel_rfl) (by kernel_rfl) ?_ ?_
 rotate_left 24
 ·refine FlX.specs_mono ?_
  repeat (first | exact FlX.lmono_nil | refine FlX.lmono_inl ?_ | refine FlX.lmono_none ?_ | refine FlX.lmono_inr (isNames_mono _) ?_ | refine FlX.lmono_inr (isFilX_mono _ _) ?_ | refine FlX.lmono_inr (newAtX_mono _ _) ?_)
 all_goals try simp only [List.take_succ_cons,List.take_zero,List.drop_succ_cons,List.drop_zero]
 iterate 2 (refine FlX.tree_valK rfl (fun K hK=>⟨fun w hw hG => ?_,?_⟩);(have hcl:=Flow.bcell hw;clear hG hw;unfold FlX.RunsV Flow.yields;go_simp;try rfl);go_simp;refine hK _ ?_;clear hK K)
 (refine FlX.tree_varK rfl (fun K hK=>⟨fun w hw hG => ?_,?_⟩);(have HW:=Lib.hid hw;clear hG hw;unfold FlX.RunsR Flow.yields;go_simp;refine (HNM.out _ (Bt HB.out HW.out)).mono ?_;rintro e w3 ⟨v3,rfl,hf3,hcp,hb3⟩;exact ⟨v3,rfl,hb3,Nat.le_refl _,hf3.lt,hcp⟩);intro vz;go_simp;refine hK _ _ ?_;clear hK K)
 iterate 6 (refine FlX.tree_valK rfl (fun K hK=>⟨fun w hw hG => ?_,?_⟩);(have hcl:=Flow.bcell hw;clear hG hw;unfold FlX.RunsV Flow.yields;go_simp;try rfl);go_simp;refine hK _ ?_;clear hK K)
 (refine FlX.tree_varK rfl (fun K hK=>⟨fun w hw hG => ?_,?_⟩);(have HW:=Lib.hid hw;clear hG hw;unfold FlX.RunsR Flow.yields;go_simp;refine (HFE.out _ (Bt HB.out HW.out)).mono ?_;rintro e w3 ⟨v3,rfl,hf3,hb3⟩;exact ⟨v3,rfl,hb3,Nat.le_refl _,hf3.lt⟩);intro vf;go_simp;refine hK _ _ ?_;clear hK K)
 iterate 16 (refine FlX.tree_valK rfl (fun K hK=>⟨fun w hw hG => ?_,?_⟩);(have hcl:=Flow.bcell hw;clear hG hw;unfold FlX.RunsV Flow.yields;go_simp;try rfl);go_simp;refine hK _ ?_;clear hK K)
 (refine FlX.tree_pureK rfl (fun K hK=>⟨fun w hw hG => ?_,?_⟩);(obtain ⟨sz,ez,hvz⟩:=(show ∃ b e,isNames q.names vz b e w by simpa [FlX.upd] using hG 2 (by kernel_rfl));obtain ⟨sf,ef,hvf⟩:=(show ∃ b e,isFilX 8 (Fil.few q.fil) vf b e w by simpa [FlX.upd] using hG 9 (by kernel_rfl));obtain ⟨y0,y1,y2,y3,y4,rfl⟩:=FilAt.shape6 hvf.2;obtain ⟨n0,n1,n2,rfl⟩:=SlP.shape hvz.2.1;clear hvz hvf hG;refine ⟨by simp [Region.wanted],_,by (go_simp;rfl),by go_simp⟩);intro vy hvy;go_simp;refine hK _ ?_;clear hK K)
 (refine FlX.tree_varK rfl (fun K hK=>⟨fun w hw hG => ?_,?_⟩);(clear hG;unfold FlX.RunsR Flow.yields;go_simp;refine ⟨(Below.refl _ _).alloc (Nat.le_refl _) _,?_⟩);rotate_left;intro vp;go_simp;refine hK _ _ ?_;clear hK K;rotate_left)
 ·exact ⟨_,rfl,Nat.le_refl _,by simp,heap_alloc_new _ _⟩
 refine FlX.tree_nil fun w2 hw2 hG => ?_
 obtain ⟨I,hI⟩:=hG
 obtain ⟨hz0,hvz,hcap⟩:=(show isNames q.names vz _ _ w2 by simpa [FlX.upd] using hI.holds 2)
 have HCAP:=Lib.hid hcap
 clear hcap
 obtain ⟨hf0,hvf⟩:=(show isFilX 8 (Fil.few q.fil) vf _ _ w2 by simpa [FlX.upd] using hI.holds 9)
 obtain ⟨g,rfl,hg1,hg2,hk3⟩:=(show newAtX zeroQue 35 vp _ _ w2 by simpa [FlX.upd] using hI.holds 27)
 have hap:=hI.apart 2 27 (by decide)
 have haq:=hI.apart 9 27 (by decide)
 have hl2:=hI.le 2
 have hl9:=hI.le 9
 have hl27:=hI.le 27
 have hS:=HS.out
 have hK0:Kept (fun b=>w.heap.size + 2≤b∧b≠g∧b < w2.heap.size) w2 vz (namesN 30 10 q.names) vf (Fil.few q.fil):=
  ⟨hvz.weak fun b hb=>⟨by have:=hb.1;omega,by have:=hb.1;have:=hb.2;omega,by have:=hb.2;omega⟩,hvf.weak fun b hb=>⟨by have:=hb.1;omega,by have:=hb.1;have:=hb.2;omega,by have:=hb.2;omega⟩⟩
 have hgb:w.heap.size + 2≤g:=by omega
 obtain ⟨u0,u1,u2,u3,u4,rfl⟩:=FilAt.shape6 hvf
 obtain ⟨n0,n1,n2,rfl⟩:=SlP.shape hvz
 obtain rfl:=hvy _ (by go_simp;rfl)
 clear hvy hvf hvz hz0 hf0 hI hap haq hl2 hl9 hl27 hg1 hg2
 have HK0:=Lib.hid hK0
 have HBW:=Lib.hid hw2
 have h0:=(hw2.block _ (by omega)).trans H0.out
 have h1:=(hw2.block _ (by omega)).trans H1.out
 have HH0:=Lib.hid h0
 have HH1:=Lib.hid h1
 clear hK0 hw2 h0 h1 hS c0 c1 c2 c3 c4 c5 c6 c7 c8 c9 ca' cb' cc' cd'
 obtain ⟨⟨d0,d1,d2,d3,d4,d5,d6,d7,d8,d9,da,db,dc,dd⟩,zf⟩:=can14 hk3
 have zz0:=zf 0 (by omega)
 have zz1:=zf 1 (by omega)
 have zz2:=zf 2 (by omega)
 have zz3:=zf 3 (by omega)
 have zz4:=zf 4 (by omega)
 have zz5:=zf 5 (by omega)
 have zz6:=zf 6 (by omega)
 have zz7:=zf 7 (by omega)
 have zz8:=zf 8 (by omega)
 have zz9:=zf 9 (by omega)
 have zza:=zf 10 (by omega)
 have zzb:=zf 11 (by omega)
 have zzc:=zf 12 (by omega)
 have zzd:=zf 13 (by omega)
 clear zf
 go_wp2
 obtain ⟨W1,hW1,hk3',hko,hsz,hbl,hag⟩:=put14 (.slice none 0 0) (.slice n0 n1 n2) (.int .i64 q.mode) (.slice none 0 0) (.int .i64 q.every) (.int .i64 (Fil.few q.fil).kind) (.string (Fil.few q.fil).name) (.slice u0 u1 u2) (.int .i64 (Fil.few q.fil).frm) (.int .i64 (Fil.few q.fil).to) (.slice u3 (Fil.few q.fil).l.length u4) (.slice ah mh ch) (.slice ao mo co) (.int .i64 q.limit) hk3
 rw [hW1]
 have hgl:g < w2.heap.size:=(Array.getElem?_eq_some_iff.1 hk3).1
 have HC1:=Lib.hid (show Cq w g bx #[.slice none 0 0,.slice n0 n1 n2,.int .i64 q.mode,.slice none 0 0,.int .i64 q.every,.int .i64 (Fil.few q.fil).kind,.string (Fil.few q.fil).name,.slice u0 u1 u2,.int .i64 (Fil.few q.fil).frm,.int .i64 (Fil.few q.fil).to,.slice u3 (Fil.few q.fil).l.length u4,.slice ah mh ch,.slice ao mo co,.int .i64 q.limit] W1 from ⟨(hko _ (by omega)).trans (by rw [HBX.out];exact HH0.out),(hko _ (by omega)).trans HH1.out,hk3',hbl _ _ (Bt HB.out HBW.out) (by omega),hgb⟩)
 obtain ⟨N1,hN1⟩:∃ N,N=W1.heap.size:=⟨_,rfl⟩
 have HK1:RowKit.Hid (Kept (fun b=>w.heap.size + 2≤b∧b≠g∧b < N1) W1 (.slice n0 n1 n2) (namesN 30 10 q.names) (.agg #[.int .i64 (Fil.few q.fil).kind,.string (Fil.few q.fil).name,.slice u0 u1 u2,.int .i64 (Fil.few q.fil).frm,.int .i64 (Fil.few q.fil).to,.slice u3 (Fil.few q.fil).l.length u4]) (Fil.few q.fil)):=Lib.hid (by rw [hN1,hsz];exact HK0.out.ag (hag _ (fun h=>h.2.1 rfl)))
 have hgN:g < N1:=by omega
 have hN1':N1≤W1.heap.size:=by omega
 clear hW1 hk3' hko hsz hbl hag hN1 hgl zz0 zz1 zz2 zz3 zz4 zz5 zz6 zz7 zz8 zz9 zza zzb zzc zzd d0 d1 d2 d3 d4 d5 d6 d7 d8 d9 da db dc dd hk3 HK0 HH0 HH1 HBW
 have hna':q.aggs.length≤9223372036854775807:=hna
 go_loopw [4] (fun i wr => ∃ (k:Nat) (oa:Value),k≤q.aggs.length∧k≤10∧i = .int .i64 k∧Cq w g bx #[oa,.slice n0 n1 n2,.int .i64 q.mode,.slice none 0 0,.int .i64 q.every,.int .i64 (Fil.few q.fil).kind,.string (Fil.few q.fil).name,.slice u0 u1 u2,.int .i64 (Fil.few q.fil).frm,.int .i64 (Fil.few q.fil).to,.slice u3 (Fil.few q.fil).l.length u4,.slice ah mh ch,.slice ao mo co,.int .i64 q.limit] wr∧wr.ownsRow N1 76 2 oa k (((q.aggs.take k).map Tess.cutAgg).flatMap aggF)∧(k=0→oa = .slice none 0 0)∧Kept (fun b=>w.heap.size + 2≤b∧b≠g∧b < N1) wr (.slice n0 n1 n2) (namesN 30 10 q.names) (.agg #[.int .i64 (Fil.few q.fil).kind,.string (Fil.few q.fil).name,.slice u0 u1 u2,.int .i64 (Fil.few q.fil).frm,.int .i64 (Fil.few q.fil).to,.slice u3 (Fil.few q.fil).l.length u4]) (Fil.few q.fil)∧N1≤wr.heap.size) (fun i _=>10 - (intOf i).toNat)
 case atStart=>exact ⟨0,_,Nat.zero_le _,Nat.zero_le _,rfl,HC1.out,by simpa using World.ownsRow_nil W1 N1 76 2,fun _=>rfl,HK1.out,hN1'⟩
 case round=>
  clear HC1 HK1 hN1'
  obtain ⟨k,oa,hk,hk10,rfl,hC,hown,hnil,hK,hszr⟩:=hrel
  have HC:=Lib.hid hC
  have HO:=Lib.hid hown
  have HN:=Lib.hid hnil
  have HK:=Lib.hid hK
  clear hC hown hnil hK
  have hgw:=HC.out.lt
  have hsw:w.heap.size < wr.heap.size:=by omega
  have bx1:=HC.out.k1
  rw [HBX.out] at bx1
  obtain ⟨c0,_,_,c3,_⟩:=(can14 bx1).1
  obtain ⟨⟨e0,_⟩,zf⟩:=can14 HC.out.k3
  have ez:=zf 0 (by omega)
  clear zf bx1
  by_cases hlt:k < q.aggs.length∧k < 10
  ·obtain ⟨h1,h2⟩:=hlt
   obtain ⟨_,_,eqa,_,_,_,hc⟩:=HAG.out
   simp only [Value.slice.injEq] at eqa
   obtain ⟨rfl,_,rfl⟩:=eqa
   obtain ⟨b,off,rfl,hb,_,hcell⟩:=hc (by omega)
   have hck:wr.cell? ⟨b,off + k * 2,none⟩=some (.int .i64 q.aggs[k].kind):=(HC.out.below.cell (p:=⟨b,off + k * 2,none⟩) hb).trans (hcell k h1 0 (by omega))
   have hcm:wr.cell? ⟨b,off + k * 2 + 1,none⟩=some (.string q.aggs[k].met):=(HC.out.below.cell (p:=⟨b,off + k * 2 + 1,none⟩) hb).trans (hcell k h1 1 (by omega))
   have hmk:q.aggs[k].met.size≤9223372036854775807:=HMT.out _ (List.getElem_mem h1)
   have hbw:b < wr.heap.size:=Nat.lt_of_lt_of_le hb HC.out.below.size
   clear hcell hb hc
   obtain ⟨x,hx⟩:∃ x,x=cutN 30 q.aggs[k].met:=⟨_,rfl⟩
   have HE:=Lib.hid (aggs_snoc q.aggs k h1)
   rw [← hx] at HE
   have HX:=Lib.hid hx
   clear hx
   generalize q.aggs[k].met=xs at *
   generalize q.aggs[k].kind=xk at *
   go_wp2
   rcases (show ((30:Int) < (xs.size:Int)∧(¬ (xs.size:Int)≤30∧(30:Int)≤(xs.size:Int))∧min (xs.size:Int) 30=30)∨(¬ (30:Int) < (xs.size:Int)∧(xs.size:Int)≤30∧min (xs.size:Int) 30=(xs.size:Int)) by omega) with ⟨h3i,h3j,hmin⟩ | ⟨h3i,h3j,hmin⟩
   all_goals
    refine Flow.wp_region_flow_tail 25 (Flow.specs [.inl ?_,.inl ?_,.inl ?_,.inl ?_,.inl ?_,.inl ?_,.inl ?_,.inl ?_,.inl ?_,.inl ?_,.inl ?_,.inl ?_,.inl ?_,.inl ?_,.inl ?_,.inl ?_,.inl ?_,.inl ?_,.inl ?_,.inl ?_,.inl ?_,.inl ?_,.inl ?_,.inl ?_,.inr (newPr (.int .i64 xk) (.string x))]) (by kernel_rfl) (by kernel_rfl) ?_ ?_
    rotate_left 24
    ·refine Flow.specs_mono ?_
     repeat (first | exact Flow.lmono_nil | refine Flow.lmono_inl ?_ | refine Flow.lmono_inr (newPr_mono _ _) ?_)
    all_goals try simp only [List.take_succ_cons,List.take_zero,List.drop_succ_cons,List.drop_zero]
    iterate 24 (refine Flow.tree_valK rfl (fun K hK=>⟨fun w hw hG => ?_,?_⟩);(have hcl:=Flow.bcell hw;clear hG hw;unfold Flow.Runs Flow.yields;go_simp;try rfl);go_simp;refine hK _ ?_;clear hK K)
    (refine Flow.tree_varK rfl (fun K hK=>⟨fun w hw hG => ?_,?_⟩);(clear hG hw;unfold Flow.Runs Flow.yields;go_simp;refine ⟨(Below.refl _ _).alloc (Nat.le_refl _) _,?_⟩;rw [HX.out]);rotate_left;intro vz;go_simp;refine hK _ _ ?_;clear hK K;rotate_left)
    ·first | exact newPr_mk _ _ _ _ | (rw [cutN_self _ _ (by omega)];exact newPr_mk _ _ _ _)
    refine Flow.tree_nil fun w2 hw2 hG => ?_
    obtain ⟨gn,rfl,hgn,hcn,hcp⟩:=(show newPr (.int .i64 xk) (.string x) vz w2 by simpa [Flow.upd] using hG 24)
    clear hG
    have HO2:=Lib.hid (owns_below HO.out hw2)
    have HC2:=Lib.hid (HC.out.later hw2)
    have HK2:=Lib.hid (HK.out.ag (Ag.new _ hw2))
    have hsz2:=hw2.size
    go_wp2_with (at_builtin;refine wpList_append_own _ rfl _ _ 25 rfl N1 76 i0 (.agg #[.int .i64 0,.string ⟨#[]⟩]) 2 24 Tryz.underlying25 hi hz0 hz1 hz2 rfl (by decide) _ _ _ rfl HO2.out ⟨gn,0,none⟩ 1 1 [.int .i64 xk,.string x] rfl rfl ?_ ?_ ?_ ?_ ?_ ?_)
    ·intro j u hj;rcases j with _ | _ | j <;> simp at hj <;> subst hj;simpa [Addr.add] using hcn;simpa [Addr.add] using hcp
    ·simp [Value.oneCell']
    ·unfold maxLen;omega
    ·omega
    ·omega
    intro v' w3 hown3 hgrow _
    obtain ⟨gg,cp,rfl,_⟩:=owns_cell_any hown3 (by omega)
    have HC3:=Lib.hid (HC2.out.grown hgrow (fun j e=>by have:=(HO2.out.lt j e).1;omega))
    have hown3:w3.ownsRow N1 76 2 (.slice (some ⟨gg,0,none⟩) (k + 1) cp) (k + 1) (((q.aggs.take (k + 1)).map Tess.cutAgg).flatMap aggF):=by rw [← HE.out,List.map_take];exact hown3
    have HO3:=Lib.hid hown3
    have hsz3:=hgrow.size
    have HK3:=Lib.hid (HK2.out.ag (Ag.grown hgrow (fun j e=>by have:=(HO2.out.lt j e).1;rintro ⟨_,_,h⟩;omega)))
    clear hown3 hgrow
    obtain ⟨⟨f0,_⟩,zf⟩:=can14 HC3.out.k3
    have fz:=zf 0 (by omega)
    clear zf
    go_wp2
    go_roundw
    case rel=>exact ⟨k + 1,_,by omega,by omega,by go_num,HC3.out.set 0 _ _ rfl,ownsRow_setCell_below HO3.out (by show g < _;omega) _,fun h=>by omega,HK3.out.ag (Ag.set _ _ _ (fun h=>h.2.1 rfl)),by simp [World.setCell];omega⟩
    case measure=>simp [intOf];omega
  ·have hak:q.aggs.take k=q.aggs.take 10:=by
    by_cases e:k=10
    ·rw [e]
    ·rw [List.take_of_length_le (by omega),List.take_of_length_le (by omega)]
   have hal:((q.aggs.take k).map Tess.cutAgg).length=k:=by simp;omega
   have hrA:=(rows_owned (k:=2) (f:=aggF) (l:=(q.aggs.take k).map Tess.cutAgg) (fun _ _=>rfl) (by rw [hal];exact HO.out) (by rw [hal];unfold maxLen;omega) (fun e=>HN.out (by rw [← hal,e];rfl))).lt
   rw [hak] at hrA
   obtain ⟨N2,hN2⟩:∃ N2,N2=wr.heap.size:=⟨_,rfl⟩
   rw [← hN2] at hrA
   have HRA0:=Lib.hid hrA
   have hNN:N1≤N2:=by omega
   have hN2':N2≤wr.heap.size:=by omega
   obtain ⟨wo,rfl⟩:∃ wo:World,wo=wr:=⟨_,rfl⟩
   have HCo:=Lib.hid HC.out
   have HKo:=Lib.hid HK.out
   have hnS':q.sets.length≤9223372036854775807:=hnS
   clear HO HN HC HK hak hal hrA hN2 hszr hgw
   rcases (show (¬ (k:Int) < (q.aggs.length:Int))∨((k:Int) < (q.aggs.length:Int)∧¬ (k:Int) < 10) by omega) with hni | ⟨hkl,hni⟩
   all_goals
    clear hlt
    go_wp2
    go_loopw [5] (fun i wq => ∃ (k:Nat) (os:Value) (us:List Value),k≤q.sets.length∧k≤10∧i = .int .i64 k∧Cq w g bx #[oa,.slice n0 n1 n2,.int .i64 q.mode,os,.int .i64 q.every,.int .i64 (Fil.few q.fil).kind,.string (Fil.few q.fil).name,.slice u0 u1 u2,.int .i64 (Fil.few q.fil).frm,.int .i64 (Fil.few q.fil).to,.slice u3 (Fil.few q.fil).l.length u4,.slice ah mh ch,.slice ao mo co,.int .i64 q.limit] wq∧Setl N2 (fun b=>N2≤b∧os.ownBlock≠some b) wq os us ((q.sets.take k).map (namesN 30 10))∧(k=0→os = .slice none 0 0)∧Kept (fun b=>w.heap.size + 2≤b∧b≠g∧b < N1) wq (.slice n0 n1 n2) (namesN 30 10 q.names) (.agg #[.int .i64 (Fil.few q.fil).kind,.string (Fil.few q.fil).name,.slice u0 u1 u2,.int .i64 (Fil.few q.fil).frm,.int .i64 (Fil.few q.fil).to,.slice u3 (Fil.few q.fil).l.length u4]) (Fil.few q.fil)∧RowsAt 2 aggF (fun b=>N1≤b∧b < N2) wq oa ((q.aggs.take 10).map Tess.cutAgg)∧N2≤wq.heap.size) (fun i _=>10 - (intOf i).toNat)
    case atStart=>exact ⟨0,_,[],Nat.zero_le _,Nat.zero_le _,rfl,HCo.out,⟨World.ownsRow_nil wo N2 22 1,rfl,fun j h=>absurd h (by simp)⟩,fun _=>rfl,HKo.out,HRA0.out,hN2'⟩
    case round=>
     clear HCo HKo HRA0 hN2' hni c0 c3 e0 ez hsw
     obtain ⟨k,os,us,hk,hk10,rfl,hC,hF,hnil,hK,hRA,hszr⟩:=hrel
     have HC:=Lib.hid hC
     have HF:=Lib.hid hF
     have HN:=Lib.hid hnil
     have HK:=Lib.hid hK
     have HRA:=Lib.hid hRA
     clear hC hF hnil hK hRA
     have hgw:=HC.out.lt
     have hsw:w.heap.size < wr.heap.size:=by omega
     have bx1:=HC.out.k1
     rw [HBX.out] at bx1
     obtain ⟨_,_,_,c3,_⟩:=(can14 bx1).1
     obtain ⟨⟨d0,d1,d2,d3,d4,d5,d6,d7,d8,d9,da,db,dc,dd⟩,zf⟩:=can14 HC.out.k3
     have ez:=zf 3 (by omega)
     clear zf bx1
     by_cases hlt:k < q.sets.length∧k < 10
     ·clear d0 d1 d2 d4 d5 d6 d7 d8 d9 da db dc dd
      obtain ⟨h1,h2⟩:=hlt
      obtain ⟨_,_,eqa,_,_,_,hc⟩:=HST.out
      simp only [Value.slice.injEq] at eqa
      obtain ⟨rfl,_,rfl⟩:=eqa
      obtain ⟨b,off,rfl,hb,_,hcell⟩:=hc (by omega)
      obtain ⟨cv,hcv,hcs,hcz⟩:=hcell k h1
      have hck:wr.cell? ⟨b,off + k,none⟩=some cv:=(HC.out.below.cell (p:=⟨b,off + k,none⟩) hb).trans hcv
      have HCALL:=Lib.hid (fun W (hB:Below w.heap.size w W)=>HSM.out W hB q.sets[k] cv hcs hcz)
      have hbw:b < wr.heap.size:=Nat.lt_of_lt_of_le hb HC.out.below.size
      have HBW:=Lib.hid HC.out.below
      have HE:=Lib.hid (show (q.sets.take (k + 1)).map (namesN 30 10)=(q.sets.take k).map (namesN 30 10) ++ [namesN 30 10 q.sets[k]] by rw [List.take_succ_eq_append_getElem h1,List.map_append,List.map_singleton])
      clear hcell hb hc hcv hcs hcz
      generalize q.sets[k]=ls at *
      go_wp2
      refine Flow.wp_region_flow_tail 9 (Flow.specs [.inl ?_,.inl ?_,.inl ?_,.inl ?_,.inl ?_,.inl ?_,.inl ?_,.inr (isNamesF wr.heap.size ls),.inr (newNames wr.heap.size ls)]) (by kernel_rfl) (by kernel_rfl) ?_ ?_
      rotate_left 7
      ·refine Flow.specs_mono ?_
       repeat (first | exact Flow.lmono_nil | refine Flow.lmono_inl ?_ | refine Flow.lmono_inr (isNamesF_mono _ _) ?_ | refine Flow.lmono_inr (newNames_mono _ _) ?_)
      all_goals try simp only [List.take_succ_cons,List.take_zero,List.drop_succ_cons,List.drop_zero]
      iterate 7 (refine Flow.tree_valK rfl (fun K hK=>⟨fun w hw hG => ?_,?_⟩);(have hcl:=Flow.bcell hw;clear hG hw;unfold Flow.Runs Flow.yields;go_simp;try rfl);go_simp;refine hK _ ?_;clear hK K)
      (refine Flow.tree_varK rfl (fun K hK=>⟨fun w hw hG => ?_,?_⟩);(have HW:=Lib.hid hw;clear hG hw;unfold Flow.Runs Flow.yields;go_simp;refine (HCALL.out _ (HBW.out.trans (HW.out.mono HBW.out.size))).mono ?_;rintro e w3 ⟨v3,rfl,hf3,_,hb3⟩;exact ⟨v3,rfl,hb3,hf3.weak fun b hb=>Nat.le_trans HW.out.size hb⟩);intro vz;go_simp;refine hK _ _ ?_;clear hK K)
      (refine Flow.tree_varK rfl (fun K hK=>⟨fun w hw hG => ?_,?_⟩);(have hvz:=(show isNamesF wr.heap.size ls vz w by simpa [Flow.upd] using hG 7 (by kernel_rfl));clear hG;obtain ⟨y0,y1,y2,rfl⟩:=SlP.shape hvz;unfold Flow.Runs Flow.yields;go_simp;refine ⟨(Below.refl _ _).alloc (Nat.le_refl _) _,?_⟩);rotate_left;intro vy;go_simp;refine hK _ _ ?_;clear hK K;rotate_left)
      ·exact ⟨w.heap.size,_,rfl,by simp,SlP.ag hvz (Ag.new _ ((Below.refl _ _).alloc (Nat.le_refl _) _)),cell_of_row _ _ 0 _ _ _ (heap_alloc_new _ _)⟩
      refine Flow.tree_nil fun w2 hw2 hG => ?_
      obtain ⟨gn,x,rfl,hgn,hx,hxc⟩:=(show newNames wr.heap.size ls vy w2 by simpa [Flow.upd] using hG 8)
      clear hG
      have HO2:=Lib.hid (owns_below HF.out.own hw2)
      have HC2:=Lib.hid (HC.out.later hw2)
      have HX:=Lib.hid hx
      obtain ⟨sx0,sx1,sx2,rfl⟩:=hx.shape
      have HXC:=Lib.hid hxc
      have HW2:=Lib.hid hw2
      have hsz2:=hw2.size
      have husl:us.length≤10:=by have:=HF.out.len;simp at this;omega
      clear hx hxc hw2
      go_wp2_with (at_builtin;refine wpList_append_own_at _ rfl _ _ 26 rfl N2 22 j0 _ 1 24 Tryz.underlying26 ji jz0 jz1 jz2 rfl (by decide) _ us.length _ rfl HO2.out ⟨gn,0,none⟩ 1 1 [.slice sx0 sx1 sx2] rfl rfl ?_ ?_ ?_ ?_ ?_ ?_)
      ·intro j u hj;rcases j with _ | j <;> simp at hj;subst hj;simpa [Addr.add] using HXC.out
      ·simp [Value.oneCell']
      ·unfold maxLen;omega
      ·omega
      ·omega
      intro v' w3 hown3 hgrow _ hloc
      have HF3:=Lib.hid (Setl.more (HF.out.below HW2.out) HX.out (fun g' e=>(HF.out.own.lt g' e).2) hszr hown3 hgrow hloc)
      have HK3:=Lib.hid ((HK.out.ag (Ag.new _ HW2.out)).ag (Ag.grown hgrow (fun j e=>by have:=(HO2.out.lt j e).1;rintro ⟨_,_,h⟩;omega)))
      have HRA3:=Lib.hid ((HRA.out.ag (Ag.new _ HW2.out)).ag (Ag.grown hgrow (fun j e=>by have:=(HO2.out.lt j e).1;rintro ⟨_,h⟩;omega)))
      obtain ⟨gg,cp,rfl,_⟩:=owns_cell_any hown3 (by omega)
      have HC3:=Lib.hid (HC2.out.grown hgrow (fun j e=>by have:=(HO2.out.lt j e).1;omega))
      have hsz3:=hgrow.size
      clear hown3 hgrow hloc
      obtain ⟨⟨_,_,_,f3,_⟩,zf⟩:=can14 HC3.out.k3
      have fz:=zf 3 (by omega)
      clear zf
      go_wp2
      go_roundw
      case rel=>
       refine ⟨k + 1,_,us ++ [.slice sx0 sx1 sx2],by omega,by omega,by go_num,HC3.out.set 3 _ _ rfl,?_,fun h=>by omega,HK3.out.ag (Ag.set _ _ _ (fun h=>h.2.1 rfl)),HRA3.out.ag (Ag.set _ _ _ (by rintro ⟨h,_⟩;have:N1≤g:=h;omega)),by simp [World.setCell];omega⟩
       rw [HE.out]
       exact HF3.out.set (by omega) (fun b hb=>hb.1) _
      case measure=>simp [intOf];omega
     ·have hsk:q.sets.take k=q.sets.take 10:=by
       by_cases e:k=10
       ·rw [e]
       ·rw [List.take_of_length_le (by omega),List.take_of_length_le (by omega)]
      have hFl:=HF.out.listed (q:=fun b=>N2≤b) (fun b hb=>hb.1) (fun b hb=>hb) (fun l hl=>by
       obtain ⟨l',_,rfl⟩:=List.mem_map.1 hl
       exact names_small 30 10 l' (by omega)) (by simp;unfold maxLen;omega) (fun e=>HN.out (by
        have e2:=congrArg List.length e
        rw [List.length_map,List.length_take,List.length_nil] at e2;omega))
      rw [hsk] at hFl
      have HFL:=Lib.hid hFl
      obtain ⟨ns0,ns2,es⟩:=hFl.shape
      obtain ⟨na0,na2,ea⟩:=HRA.out.shape
      generalize ((q.sets.take 10).map (namesN 30 10)).length=ns1 at es
      generalize ((q.aggs.take 10).map Tess.cutAgg).length=na1 at ea
      subst es ea
      obtain ⟨⟨r0,r1,r2,r3,r4,r5,r6,r7,r8,r9,ra,rb,rc,rd⟩,zf⟩:=can14 HC.out.k2
      have zz0:=zf 0 (by omega)
      have zz1:=zf 1 (by omega)
      have zz2:=zf 2 (by omega)
      have zz3:=zf 3 (by omega)
      have zz4:=zf 4 (by omega)
      have zz5:=zf 5 (by omega)
      have zz6:=zf 6 (by omega)
      have zz7:=zf 7 (by omega)
      have zz8:=zf 8 (by omega)
      have zz9:=zf 9 (by omega)
      have zza:=zf 10 (by omega)
      have zzb:=zf 11 (by omega)
      have zzc:=zf 12 (by omega)
      have zzd:=zf 13 (by omega)
      clear zf hFl HN hsk HF
      obtain ⟨W5,hW5,k5,ko5,ks5,kb5,ka5⟩:=put14 (.slice na0 na1 na2) (.slice n0 n1 n2) (.int .i64 q.mode) (.slice ns0 ns1 ns2) (.int .i64 q.every) (.int .i64 (Fil.few q.fil).kind) (.string (Fil.few q.fil).name) (.slice u0 u1 u2) (.int .i64 (Fil.few q.fil).frm) (.int .i64 (Fil.few q.fil).to) (.slice u3 (Fil.few q.fil).l.length u4) (.slice ah mh ch) (.slice ao mo co) (.int .i64 q.limit) HC.out.k2
      obtain ⟨v0,v1,v2,v3,v4,v5,v6,v7,v8,v9,v10,v11,v12,v13⟩:=(can14 k5).1
      have hgb:=HC.out.hg
      have HB5:=Lib.hid (kb5 _ _ HC.out.below (by omega))
      have HA5:=Lib.hid ka5
      clear k5 ko5 ks5 kb5 ka5
      rcases (show (¬ (k:Int) < (q.sets.length:Int))∨((k:Int) < (q.sets.length:Int)∧¬ (k:Int) < 10) by omega) with hni | ⟨hkl,hni⟩
      all_goals
       clear hlt
       go_wp2
       refine bodyPost_ret (v:=.agg #[.slice na0 na1 na2,.slice n0 n1 n2,.int .i64 q.mode,.slice ns0 ns1 ns2,.int .i64 q.every,.int .i64 (Fil.few q.fil).kind,.string (Fil.few q.fil).name,.slice u0 u1 u2,.int .i64 (Fil.few q.fil).frm,.int .i64 (Fil.few q.fil).to,.slice u3 (Fil.few q.fil).l.length u4,.slice ah mh ch,.slice ao mo co,.int .i64 q.limit]) (by first | (rw [hW5];simp [results,Tryz.results12,go_sem,v0,v1,v2,v3,v4,v5,v6,v7,v8,v9,v10,v11,v12,v13]) | simp [results,Tryz.results12,go_sem,v0,v1,v2,v3,v4,v5,v6,v7,v8,v9,v10,v11,v12,v13]) rfl ?_
       have hag:=HA5.out (fun b=>w.heap.size + 2≤b) (by omega)
       have hk5:=(HK.out.weak (q:=fun b=>w.heap.size + 2≤b) fun b hb=>hb.1).ag hag
       have hr5:=(HRA.out.weak (q:=fun b=>w.heap.size + 2≤b) fun b hb=>by have:=hb.1;omega).ag hag
       have hf5:=(HFL.out.weak (q:=fun b=>w.heap.size + 2≤b) fun b hb=>by have:N2≤b:=hb;omega).ag hag
       have hmh:=HMH.out
       have hmo:=HMO.out
       have e1:q.conds.take mh=q.conds.take 10:=by rw [hmh];simp [List.take_eq_take_iff]
       have e2:q.keys.take mo=q.keys.take 10:=by rw [hmo];simp [List.take_eq_take_iff]
       exact few_post hr5 hk5.names hf5 hk5.fil (e1 ▸ (HHT.out.lt.ag (Ag.below _ HB5.out fun b _ hb=>hb.2))) (e2 ▸ (HOT.out.lt.ag (Ag.below _ HB5.out fun b _ hb=>hb.2))) HCAP.out HB5.out
end Go.Proofs.YtaddkkkchkdgkaaGreatDoor
