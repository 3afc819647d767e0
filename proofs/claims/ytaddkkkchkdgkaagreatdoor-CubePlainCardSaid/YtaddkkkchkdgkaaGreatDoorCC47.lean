/- The law's few queries: walked. -/
import Derived.Test.YtaddkkkchkdgkaaGreatDoorCC46
import Derived.Test.YtaddkkkchkdgkaaGreatDoorCC06
namespace Go.Proofs.YtaddkkkchkdgkaaGreatDoor
open Go.RowKit Go.Sort
open Tess (Fil Que)
def newPr (a b:Value) (v:Value) (w:World):Prop:=∃ g,v = .slice (some ⟨g,0,none⟩) 1 1∧g < w.heap.size∧w.cell? ⟨g,0,none⟩=some a∧w.cell? ⟨g,1,none⟩=some b
theorem newPr_mono (a b:Value):Flow.Spec.mono (.inr (newPr a b)):=fun _ _ _ ⟨g,h1,h2,h3,h4⟩ hb=>⟨g,h1,Nat.lt_of_lt_of_le h2 hb.size,(hb.cell (p:=⟨g,0,none⟩) h2).trans h3,(hb.cell (p:=⟨g,1,none⟩) h2).trans h4⟩
theorem newPr_mk (a b:Value) (w:World) (t:TypeId):newPr a b (.slice (some ⟨w.heap.size,0,none⟩) 1 1) (w.alloc (.cells #[a,b] t)):=⟨_,rfl,by simp,by simp,by simp⟩
structure Kept (q:Nat→Prop) (W:World) (vn:Value) (ls:List ByteArray) (fv:Value) (f:Fil):Prop where
 names:SlP q W vn (ls.map .string)
 fil:FA2 q 8 W fv f
theorem Kept.ag {q:Nat→Prop} {W W':World} {vn fv:Value} {ls:List ByteArray} {f:Fil} (h:Kept q W vn ls fv f) (hg:Ag q W W'):Kept q W' vn ls fv f:=⟨h.names.ag hg,h.fil.ag hg⟩
theorem Kept.weak {p q:Nat→Prop} {W:World} {vn fv:Value} {ls:List ByteArray} {f:Fil} (h:Kept p W vn ls fv f) (hpq:∀ b,p b→q b):Kept q W vn ls fv f:=⟨h.names.weak hpq,h.fil.weak hpq⟩
theorem Kept.lt {q:Nat→Prop} {W:World} {vn fv:Value} {ls:List ByteArray} {f:Fil} (h:Kept q W vn ls fv f):Kept (fun b=>q b∧b < W.heap.size) W vn ls fv f:=⟨h.names.lt,h.fil.lt⟩
def FewPost (p:Nat→Prop) (q:Que) (w:World) (e:Ending) (w':World):Prop:=
 ∃ v' va vb vS f0 f1 f2 f3 f4 f5 vh vo,e = .returned v'∧QA (fun b=>p b∨w.heap.size≤b) 8 w' v' (Que.few q) va vb vS f0 f1 f2 f3 f4 f5 vh vo∧CapOk vb (Que.few q).names.length∧Below w.heap.size w w'
theorem few_post {p:Nat→Prop} {q:Que} {w w':World} {va vb vS f0 f1 f2 f3 f4 f5 vh vo:Value} (h1:RA 2 aggF (fun b=>w.heap.size + 2≤b) w' va ((q.aggs.take 10).map Tess.cA2)) (h2:SlP (fun b=>w.heap.size + 2≤b) w' vb ((nN 30 10 q.names).map .string))
  (h3:SA2 (fun b=>w.heap.size + 2≤b) w' vS ((q.sets.take 10).map (nN 30 10))) (h4:FA2 (fun b=>w.heap.size + 2≤b) 8 w' (.agg #[f0,f1,f2,f3,f4,f5]) (Fil.few q.fil)) (h5:RA 3 condF (fun b=>p b∧b < w.heap.size) w' vh (q.conds.take 10)) (h6:RA 3 keyF (fun b=>p b∧b < w.heap.size) w' vo (q.keys.take 10))
  (hc:CapOk vb (nN 30 10 q.names).length) (hB:Below w.heap.size w w'):FewPost p q w (.returned (.agg #[va,vb,.int .i64 q.mode,vS,.int .i64 q.every,f0,f1,f2,f3,f4,f5,vh,vo,.int .i64 q.limit])) w':=by
 have Aa:∀ b,w.heap.size + 2≤b→p b∨w.heap.size≤b:=fun b h => .inr (by omega)
 refine ⟨_,va,vb,vS,f0,f1,f2,f3,f4,f5,vh,vo,rfl,⟨rfl,h1.weak Aa,fun x hx => ?_,h2.weak Aa,ns2 30 10 q.names (by omega),h3.weak Aa,h4.weak Aa,h5.weak fun b h => .inl h.1,h6.weak fun b h => .inl h.1⟩,hc,hB⟩
 obtain ⟨y,_,rfl⟩:=List.mem_map.1 hx
 have:=cNs2 30 y.met
 show (cutN 30 y.met).size≤maxLen
 unfold maxLen;omega
theorem min_cast (n m:Nat) (h:m=min 10 n):min (n:Int) 10=(m:Int):=by subst h;omega
theorem min_cast' (n m:Nat) (h:m=min 10 n):(if (10:Int) < (n:Int) then (10:Int) else (n:Int))=(m:Int):=by subst h;split <;> omega
set_option maxRecDepth 100000 in
set_option maxHeartbeats 8000000 in
theorem fa10 (p:Nat→Prop) (n:Nat) (v:Value) (q:Que) (va vb vS f0 f1 f2 f3 f4 f5 vh vo:Value) (w:World) (hq:QA p n w v q va vb vS f0 f1 f2 f3 f4 f5 vh vo) :
  Calls Tryz.prog 12 #[v] w (FewPost p q w):=by
 have Dz:=Hd (fun W (hB:Below w.heap.size w W)=>na2 p vb q.names W (hq.names.ag (Ag.new p hB)) hq.small)
 have Ev:=Hd (fun W (hB:Below w.heap.size w W)=>few_any p n (.agg #[f0,f1,f2,f3,f4,f5]) q.fil W (hq.fil.ag (Ag.new p hB)))
 have Df:=hq.names
 have Em:=Hd (fun (W:World) (hB:Below w.heap.size w W) (l:List ByteArray) c (h:SlP p w c (l.map .string)) (hs:∀ x ∈ l,x.size≤maxLen)=>na2 p c l W (h.ag (Ag.new p hB)) hs)
 obtain ⟨ab,cb,rfl,E4,_⟩:=so2 hq.names.1
 have hv:=hq.e
 have Ek:=Hd hq.aggs
 have Eh:=Hd hq.mets
 have Ef:=Hd hq.sets
 have Fc:=Hd hq.conds
 have Fd:=Hd hq.keys
 obtain ⟨aa,ca,rfl⟩:=hq.aggs.shape
 obtain ⟨aS,cS,rfl⟩:=hq.sets.shape
 have Ed:=hq.aggs.len
 have D5:=hq.sets.len
 have E8:=hq.conds.len
 have Ff:=hq.keys.len
 obtain ⟨mh,Ak⟩:∃ m,m=min 10 q.conds.length:=⟨_,rfl⟩
 obtain ⟨mo,Ai⟩:∃ m,m=min 10 q.keys.length:=⟨_,rfl⟩
 have Bb:=Hd (hq.conds.take mh (by omega))
 have Bm:=Hd (hq.keys.take mo (by omega))
 obtain ⟨ah,ch,rfl,_,B7,_⟩:=hq.conds
 obtain ⟨ao,co,rfl,_,Cb,_⟩:=hq.keys
 obtain ⟨Fb,Fe,eh,hT⟩:=Bb.out
 simp only [Value.slice.injEq] at eh
 obtain ⟨rfl,_,rfl⟩:=eh
 obtain ⟨E7,E5,eo,oT⟩:=Bm.out
 simp only [Value.slice.injEq] at eo
 obtain ⟨rfl,_,rfl⟩:=eo
 have Bb:=Hd hT
 have Bm:=Hd oT
 clear hT oT
 have E1:=min_cast _ _ Ak
 have El:=min_cast _ _ Ai
 have Er:=min_cast' _ _ Ak
 have Ex:=min_cast' _ _ Ai
 have Dp:(mh:Int)≤(ch:Int):=Int.ofNat_le.2 (Nat.le_trans (Ak ▸ Nat.min_le_right _ _) B7)
 have Es:(mo:Int)≤(co:Int):=Int.ofNat_le.2 (Nat.le_trans (Ai ▸ Nat.min_le_right _ _) Cb)
 have De:=Hd Ak
 have Ds:=Hd Ai
 obtain ⟨D1,D6,Dj,D8,Eq,Eo⟩:True∧True∧True∧True∧True∧True:=⟨trivial,trivial,trivial,trivial,trivial,trivial⟩
 clear D1 D6 Dj D8 Eq Eo
 have Do:=FA2.sh2 hq.fil
 obtain ⟨z0,z1,z2,z3,z4,ez⟩:=Do
 simp only [Value.agg.injEq,Array.mk.injEq,List.cons.injEq,and_true] at ez
 obtain ⟨rfl,rfl,rfl,rfl,rfl,rfl⟩:=ez
 subst hv
 clear hq Df Ak Ai B7 Cb
 obtain ⟨i0,hi,Bi,Dh,Eg⟩:=info_parts infoAgg
 obtain ⟨j0,ji,Di,D4,Ei⟩:=info_parts infoSet
 obtain ⟨bx,B5⟩:∃ bx:Array Value,bx=#[.slice aa q.aggs.length ca,.slice ab q.names.length cb,.int .i64 q.mode,.slice aS q.sets.length cS,.int .i64 q.every,.int .i64 q.fil.kind,.string q.fil.name,.slice z0 z1 z2,.int .i64 q.fil.frm,.int .i64 q.fil.to,.slice z3 q.fil.l.length z4,.slice ah q.conds.length ch,.slice ao q.keys.length co,.int .i64 q.limit]:=⟨_,rfl⟩
 obtain ⟨W0,C5⟩:∃ W0,(w.alloc (.cells #[.slice aa q.aggs.length ca,.slice ab q.names.length cb,.int .i64 q.mode,.slice aS q.sets.length cS,.int .i64 q.every,.int .i64 q.fil.kind,.string q.fil.name,.slice z0 z1 z2,.int .i64 q.fil.frm,.int .i64 q.fil.to,.slice z3 q.fil.l.length z4,.slice ah q.conds.length ch,.slice ao q.keys.length co,.int .i64 q.limit] 35)).alloc (.cells zQ 35)=W0:=⟨_,rfl⟩
 obtain ⟨h0,h1,Bg,Bo⟩:=la3 w (.cells #[.slice aa q.aggs.length ca,.slice ab q.names.length cb,.int .i64 q.mode,.slice aS q.sets.length cS,.int .i64 q.every,.int .i64 q.fil.kind,.string q.fil.name,.slice z0 z1 z2,.int .i64 q.fil.frm,.int .i64 q.fil.to,.slice z3 q.fil.l.length z4,.slice ah q.conds.length ch,.slice ao q.keys.length co,.int .i64 q.limit] 35) (.cells zQ 35)
 rw [C5] at h0 h1 Bg Bo
 go_enter Tryz.func12,Tryz.ntmps12
 go_wp2_with fail
 clear C5
 obtain ⟨c0,c1,c2,c3,c4,c5,c6,c7,c8,c9,Dv,Ej,Dq,Eb⟩:=(ca2 h0).1
 have s0:w.heap.size < W0.heap.size:=by omega
 have HB:=Hd Bo
 have HS:=Hd Bg
 have H0:=Hd h0
 have H1:=Hd h1
 have Bj:=Hd B5
 clear h0 h1 Bg Bo B5
 refine FlX.wrf 28 (FlX.sp3 [some (.inl ?_),some (.inl ?_),some (.inr (isNames q.names)),some (.inl ?_),some (.inl ?_),some (.inl ?_),some (.inl ?_),some (.inl ?_),some (.inl ?_),some (.inr (isFilX 8 (Fil.few q.fil))),some (.inl ?_),some (.inl ?_),some (.inl ?_),some (.inl ?_),some (.inl ?_),some (.inl ?_),some (.inl ?_),some (.inl ?_),some (.inl ?_),some (.inl ?_),some (.inl ?_),some (.inl ?_),some (.inl ?_),some (.inl ?_),some (.inl ?_),some (.inl ?_),none,some (.inr (newAtX zQ 35))]) (by kernel_rfl) (by kernel_rfl) ?_ ?_
 rotate_left 24
 ·refine FlX.sm2 ?_
  repeat (first | exact FlX.ln2 | refine FlX.li2 ?_ | refine FlX.lmono_none ?_ | refine FlX.li3 (isNames_mono _) ?_ | refine FlX.li3 (isFilX_mono _ _) ?_ | refine FlX.li3 (newAtX_mono _ _) ?_)
 all_goals try simp only [List.take_succ_cons,List.take_zero,List.drop_succ_cons,List.drop_zero]
 iterate 2 (refine FlX.tvK rfl (fun K hK=>⟨fun w hw hG => ?_,?_⟩);(have A6:=Flow.bc4 hw;clear hG hw;unfold FlX.RV Flow.yields;go_simp;try rfl);go_simp;refine hK _ ?_;clear hK K)
 (refine FlX.tvK2 rfl (fun K hK=>⟨fun w hw hG => ?_,?_⟩);(have HW:=Hd hw;clear hG hw;unfold FlX.RR2 Flow.yields;go_simp;refine (Dz.out _ (Bt HB.out HW.out)).mono ?_;rintro e w3 ⟨v3,rfl,Aq,Bn,Av⟩;exact ⟨v3,rfl,Av,Nat.le_refl _,Aq.lt,Bn⟩);intro vz;go_simp;refine hK _ _ ?_;clear hK K)
 iterate 6 (refine FlX.tvK rfl (fun K hK=>⟨fun w hw hG => ?_,?_⟩);(have A6:=Flow.bc4 hw;clear hG hw;unfold FlX.RV Flow.yields;go_simp;try rfl);go_simp;refine hK _ ?_;clear hK K)
 (refine FlX.tvK2 rfl (fun K hK=>⟨fun w hw hG => ?_,?_⟩);(have HW:=Hd hw;clear hG hw;unfold FlX.RR2 Flow.yields;go_simp;refine (Ev.out _ (Bt HB.out HW.out)).mono ?_;rintro e w3 ⟨v3,rfl,Aq,Av⟩;exact ⟨v3,rfl,Av,Nat.le_refl _,Aq.lt⟩);intro vf;go_simp;refine hK _ _ ?_;clear hK K)
 iterate 16 (refine FlX.tvK rfl (fun K hK=>⟨fun w hw hG => ?_,?_⟩);(have A6:=Flow.bc4 hw;clear hG hw;unfold FlX.RV Flow.yields;go_simp;try rfl);go_simp;refine hK _ ?_;clear hK K)
 (refine FlX.tree_pureK rfl (fun K hK=>⟨fun w hw hG => ?_,?_⟩);(obtain ⟨sz,ez,Ae⟩:=(show ∃ b e,isNames q.names vz b e w by simpa [FlX.upd] using hG 2 (by kernel_rfl));obtain ⟨sf,ef,Am⟩:=(show ∃ b e,isFilX 8 (Fil.few q.fil) vf b e w by simpa [FlX.upd] using hG 9 (by kernel_rfl));obtain ⟨y0,y1,y2,y3,y4,rfl⟩:=FA2.sh2 Am.2;obtain ⟨n0,n1,n2,rfl⟩:=SlP.shape Ae.2.1;clear Ae Am hG;refine ⟨by simp [Region.wanted],_,by (go_simp;rfl),by go_simp⟩);intro vy Ci;go_simp;refine hK _ ?_;clear hK K)
 (refine FlX.tvK2 rfl (fun K hK=>⟨fun w hw hG => ?_,?_⟩);(clear hG;unfold FlX.RR2 Flow.yields;go_simp;refine ⟨(Below.refl _ _).alloc (Nat.le_refl _) _,?_⟩);rotate_left;intro vp;go_simp;refine hK _ _ ?_;clear hK K;rotate_left)
 ·exact ⟨_,rfl,Nat.le_refl _,by simp,heap_alloc_new _ _⟩
 refine FlX.tn2 fun w2 hw2 hG => ?_
 obtain ⟨I,hI⟩:=hG
 obtain ⟨Bi,Ae,Au⟩:=(show isNames q.names vz _ _ w2 by simpa [FlX.upd] using hI.holds 2)
 have A9:=Hd Au
 clear Au
 obtain ⟨Dl,Am⟩:=(show isFilX 8 (Fil.few q.fil) vf _ _ w2 by simpa [FlX.upd] using hI.holds 9)
 obtain ⟨g,rfl,Ee,Ec,A3⟩:=(show newAtX zQ 35 vp _ _ w2 by simpa [FlX.upd] using hI.holds 27)
 have Dm:=hI.apart 2 27 (by decide)
 have D2:=hI.apart 9 27 (by decide)
 have D0:=hI.le 2
 have D3:=hI.le 9
 have Be:=hI.le 27
 have hS:=HS.out
 have Cm:Kept (fun b=>w.heap.size + 2≤b∧b≠g∧b < w2.heap.size) w2 vz (nN 30 10 q.names) vf (Fil.few q.fil):=
  ⟨Ae.weak fun b hb=>⟨by have:=hb.1;omega,by have:=hb.1;have:=hb.2;omega,by have:=hb.2;omega⟩,Am.weak fun b hb=>⟨by have:=hb.1;omega,by have:=hb.1;have:=hb.2;omega,by have:=hb.2;omega⟩⟩
 have Cl:w.heap.size + 2≤g:=by omega
 obtain ⟨u0,u1,u2,u3,u4,rfl⟩:=FA2.sh2 Am
 obtain ⟨n0,n1,n2,rfl⟩:=SlP.shape Ae
 obtain rfl:=Ci _ (by go_simp;rfl)
 clear Ci Am Ae Bi Dl hI Dm D2 D0 D3 Be Ee Ec
 have B8:=Hd Cm
 have Ao:=Hd hw2
 have h0:=(hw2.block _ (by omega)).trans H0.out
 have h1:=(hw2.block _ (by omega)).trans H1.out
 have B0:=Hd h0
 have Cw:=Hd h1
 clear Cm hw2 h0 h1 hS c0 c1 c2 c3 c4 c5 c6 c7 c8 c9 Dv Ej Dq Eb
 obtain ⟨⟨d0,d1,d2,d3,d4,d5,d6,d7,d8,d9,da,db,dc,dd⟩,zf⟩:=ca2 A3
 have C7:=zf 0 (by omega)
 have C9:=zf 1 (by omega)
 have B9:=zf 2 (by omega)
 have Cr:=zf 3 (by omega)
 have C3:=zf 4 (by omega)
 have By:=zf 5 (by omega)
 have C6:=zf 6 (by omega)
 have Bx:=zf 7 (by omega)
 have Cx:=zf 8 (by omega)
 have C8:=zf 9 (by omega)
 have Bv:=zf 10 (by omega)
 have Cf:=zf 11 (by omega)
 have C2:=zf 12 (by omega)
 have Da:=zf 13 (by omega)
 clear zf
 go_wp2
 obtain ⟨W1,Cz,Ay,Bq,Co,Cg,An⟩:=put14 (.slice none 0 0) (.slice n0 n1 n2) (.int .i64 q.mode) (.slice none 0 0) (.int .i64 q.every) (.int .i64 (Fil.few q.fil).kind) (.string (Fil.few q.fil).name) (.slice u0 u1 u2) (.int .i64 (Fil.few q.fil).frm) (.int .i64 (Fil.few q.fil).to) (.slice u3 (Fil.few q.fil).l.length u4) (.slice ah mh ch) (.slice ao mo co) (.int .i64 q.limit) A3
 rw [Cz]
 have D7:g < w2.heap.size:=(Array.getElem?_eq_some_iff.1 A3).1
 have Bs:=Hd (show Cq w g bx #[.slice none 0 0,.slice n0 n1 n2,.int .i64 q.mode,.slice none 0 0,.int .i64 q.every,.int .i64 (Fil.few q.fil).kind,.string (Fil.few q.fil).name,.slice u0 u1 u2,.int .i64 (Fil.few q.fil).frm,.int .i64 (Fil.few q.fil).to,.slice u3 (Fil.few q.fil).l.length u4,.slice ah mh ch,.slice ao mo co,.int .i64 q.limit] W1 from ⟨(Bq _ (by omega)).trans (by rw [Bj.out];exact B0.out),(Bq _ (by omega)).trans Cw.out,Ay,Cg _ _ (Bt HB.out Ao.out) (by omega),Cl⟩)
 obtain ⟨N1,Db⟩:∃ N,N=W1.heap.size:=⟨_,rfl⟩
 have Cn:RowKit.Hid (Kept (fun b=>w.heap.size + 2≤b∧b≠g∧b < N1) W1 (.slice n0 n1 n2) (nN 30 10 q.names) (.agg #[.int .i64 (Fil.few q.fil).kind,.string (Fil.few q.fil).name,.slice u0 u1 u2,.int .i64 (Fil.few q.fil).frm,.int .i64 (Fil.few q.fil).to,.slice u3 (Fil.few q.fil).l.length u4]) (Fil.few q.fil)):=Hd (by rw [Db,Co];exact B8.out.ag (An _ (fun h=>h.2.1 rfl)))
 have Fa:g < N1:=by omega
 have Ap:N1≤W1.heap.size:=by omega
 clear Cz Ay Bq Co Cg An Db D7 C7 C9 B9 Cr C3 By C6 Bx Cx C8 Bv Cf C2 Da d0 d1 d2 d3 d4 d5 d6 d7 d8 d9 da db dc dd A3 B8 B0 Cw Ao
 have E0:q.aggs.length≤9223372036854775807:=Ed
 go_loopw [4] (fun i wr => ∃ (k:Nat) (oa:Value),k≤q.aggs.length∧k≤10∧i = .int .i64 k∧Cq w g bx #[oa,.slice n0 n1 n2,.int .i64 q.mode,.slice none 0 0,.int .i64 q.every,.int .i64 (Fil.few q.fil).kind,.string (Fil.few q.fil).name,.slice u0 u1 u2,.int .i64 (Fil.few q.fil).frm,.int .i64 (Fil.few q.fil).to,.slice u3 (Fil.few q.fil).l.length u4,.slice ah mh ch,.slice ao mo co,.int .i64 q.limit] wr∧wr.ownsRow N1 76 2 oa k (((q.aggs.take k).map Tess.cA2).flatMap aggF)∧(k=0→oa = .slice none 0 0)∧Kept (fun b=>w.heap.size + 2≤b∧b≠g∧b < N1) wr (.slice n0 n1 n2) (nN 30 10 q.names) (.agg #[.int .i64 (Fil.few q.fil).kind,.string (Fil.few q.fil).name,.slice u0 u1 u2,.int .i64 (Fil.few q.fil).frm,.int .i64 (Fil.few q.fil).to,.slice u3 (Fil.few q.fil).l.length u4]) (Fil.few q.fil)∧N1≤wr.heap.size) (fun i _=>10 - (intOf i).toNat)
 case atStart=>exact ⟨0,_,Nat.zero_le _,Nat.zero_le _,rfl,Bs.out,by simpa using World.ownsRow_nil W1 N1 76 2,fun _=>rfl,Cn.out,Ap⟩
 case round=>
  clear Bs Cn Ap
  obtain ⟨k,oa,hk,Bf,rfl,hC,Aw,Ad,hK,Aj⟩:=hrel
  have HC:=Hd hC
  have HO:=Hd Aw
  have HN:=Hd Ad
  have HK:=Hd hK
  clear hC Aw Ad hK
  have Bu:=HC.out.lt
  have Cj:w.heap.size < wr.heap.size:=by omega
  have Al:=HC.out.k1
  rw [Bj.out] at Al
  obtain ⟨c0,_,_,c3,_⟩:=(ca2 Al).1
  obtain ⟨⟨e0,_⟩,zf⟩:=ca2 HC.out.k3
  have ez:=zf 0 (by omega)
  clear zf Al
  by_cases hlt:k < q.aggs.length∧k < 10
  ·obtain ⟨h1,h2⟩:=hlt
   obtain ⟨_,_,A0,_,_,_,hc⟩:=Ek.out
   simp only [Value.slice.injEq] at A0
   obtain ⟨rfl,_,rfl⟩:=A0
   obtain ⟨b,Ah,rfl,hb,_,Ac⟩:=hc (by omega)
   have Et:wr.cell? ⟨b,Ah + k * 2,none⟩=some (.int .i64 q.aggs[k].kind):=(HC.out.below.cell (p:=⟨b,Ah + k * 2,none⟩) hb).trans (Ac k h1 0 (by omega))
   have E3:wr.cell? ⟨b,Ah + k * 2 + 1,none⟩=some (.string q.aggs[k].met):=(HC.out.below.cell (p:=⟨b,Ah + k * 2 + 1,none⟩) hb).trans (Ac k h1 1 (by omega))
   have E6:q.aggs[k].met.size≤9223372036854775807:=Eh.out _ (List.getElem_mem h1)
   have En:b < wr.heap.size:=Nat.lt_of_lt_of_le hb HC.out.below.size
   clear Ac hb hc
   obtain ⟨x,hx⟩:∃ x,x=cutN 30 q.aggs[k].met:=⟨_,rfl⟩
   have HE:=Hd (aggs_snoc q.aggs k h1)
   rw [← hx] at HE
   have HX:=Hd hx
   clear hx
   generalize q.aggs[k].met=xs at *
   generalize q.aggs[k].kind=xk at *
   go_wp2
   rcases (show ((30:Int) < (xs.size:Int)∧(¬ (xs.size:Int)≤30∧(30:Int)≤(xs.size:Int))∧min (xs.size:Int) 30=30)∨(¬ (30:Int) < (xs.size:Int)∧(xs.size:Int)≤30∧min (xs.size:Int) 30=(xs.size:Int)) by omega) with ⟨Dw,Ea,Bh⟩ | ⟨Dw,Ea,Bh⟩
   all_goals
    refine Flow.wrf 25 (Flow.sp3 [.inl ?_,.inl ?_,.inl ?_,.inl ?_,.inl ?_,.inl ?_,.inl ?_,.inl ?_,.inl ?_,.inl ?_,.inl ?_,.inl ?_,.inl ?_,.inl ?_,.inl ?_,.inl ?_,.inl ?_,.inl ?_,.inl ?_,.inl ?_,.inl ?_,.inl ?_,.inl ?_,.inl ?_,.inr (newPr (.int .i64 xk) (.string x))]) (by kernel_rfl) (by kernel_rfl) ?_ ?_
    rotate_left 24
    ·refine Flow.sm2 ?_
     repeat (first | exact Flow.ln2 | refine Flow.li2 ?_ | refine Flow.li3 (newPr_mono _ _) ?_)
    all_goals try simp only [List.take_succ_cons,List.take_zero,List.drop_succ_cons,List.drop_zero]
    iterate 24 (refine Flow.tvK rfl (fun K hK=>⟨fun w hw hG => ?_,?_⟩);(have A6:=Flow.bc4 hw;clear hG hw;unfold Flow.Runs Flow.yields;go_simp;try rfl);go_simp;refine hK _ ?_;clear hK K)
    (refine Flow.tvK2 rfl (fun K hK=>⟨fun w hw hG => ?_,?_⟩);(clear hG hw;unfold Flow.Runs Flow.yields;go_simp;refine ⟨(Below.refl _ _).alloc (Nat.le_refl _) _,?_⟩;rw [HX.out]);rotate_left;intro vz;go_simp;refine hK _ _ ?_;clear hK K;rotate_left)
    ·first | exact newPr_mk _ _ _ _ | (rw [cNs _ _ (by omega)];exact newPr_mk _ _ _ _)
    refine Flow.tn2 fun w2 hw2 hG => ?_
    obtain ⟨gn,rfl,D9,Dd,Bn⟩:=(show newPr (.int .i64 xk) (.string x) vz w2 by simpa [Flow.upd] using hG 24)
    clear hG
    have Af:=Hd (ob2 HO.out hw2)
    have Bp:=Hd (HC.out.later hw2)
    have Ep:=Hd (HK.out.ag (Ag.new _ hw2))
    have Bd:=hw2.size
    go_wp2_with (at_builtin;refine wpList_append_own _ rfl _ _ 25 rfl N1 76 i0 (.agg #[.int .i64 0,.string ⟨#[]⟩]) 2 24 Tryz.underlying25 hi Bi Dh Eg rfl (by decide) _ _ _ rfl Af.out ⟨gn,0,none⟩ 1 1 [.int .i64 xk,.string x] rfl rfl ?_ ?_ ?_ ?_ ?_ ?_)
    ·intro j u hj;rcases j with _ | _ | j <;> simp at hj <;> subst hj;simpa [Addr.add] using Dd;simpa [Addr.add] using Bn
    ·simp [Value.oneCell']
    ·unfold maxLen;omega
    ·omega
    ·omega
    intro v' w3 Ab Aa _
    obtain ⟨gg,cp,rfl,_⟩:=oca Ab (by omega)
    have At:=Hd (Bp.out.grown Aa (fun j e=>by have:=(Af.out.lt j e).1;omega))
    have Ab:w3.ownsRow N1 76 2 (.slice (some ⟨gg,0,none⟩) (k + 1) cp) (k + 1) (((q.aggs.take (k + 1)).map Tess.cA2).flatMap aggF):=by rw [← HE.out,List.map_take];exact Ab
    have Dy:=Hd Ab
    have Bl:=Aa.size
    have A8:=Hd (Ep.out.ag (Ag.grown Aa (fun j e=>by have:=(Af.out.lt j e).1;rintro ⟨_,_,h⟩;omega)))
    clear Ab Aa
    obtain ⟨⟨f0,_⟩,zf⟩:=ca2 At.out.k3
    have fz:=zf 0 (by omega)
    clear zf
    go_wp2
    go_roundw
    case rel=>exact ⟨k + 1,_,by omega,by omega,by go_num,At.out.set 0 _ _ rfl,ownsRow_setCell_below Dy.out (by show g < _;omega) _,fun h=>by omega,A8.out.ag (Ag.set _ _ _ (fun h=>h.2.1 rfl)),by simp [World.setCell];omega⟩
    case measure=>simp [intOf];omega
  ·have Bw:q.aggs.take k=q.aggs.take 10:=by
    by_cases e:k=10
    ·rw [e]
    ·rw [List.take_of_length_le (by omega),List.take_of_length_le (by omega)]
   have A1:((q.aggs.take k).map Tess.cA2).length=k:=by simp;omega
   have A5:=(ro2 (k:=2) (f:=aggF) (l:=(q.aggs.take k).map Tess.cA2) (fun _ _=>rfl) (by rw [A1];exact HO.out) (by rw [A1];unfold maxLen;omega) (fun e=>HN.out (by rw [← A1,e];rfl))).lt
   rw [Bw] at A5
   obtain ⟨N2,Dc⟩:∃ N2,N2=wr.heap.size:=⟨_,rfl⟩
   rw [← Dc] at A5
   have As:=Hd A5
   have E9:N1≤N2:=by omega
   have Az:N2≤wr.heap.size:=by omega
   obtain ⟨wo,rfl⟩:∃ wo:World,wo=wr:=⟨_,rfl⟩
   have B6:=Hd HC.out
   have B2:=Hd HK.out
   have E2:q.sets.length≤9223372036854775807:=D5
   clear HO HN HC HK Bw A1 A5 Dc Aj Bu
   rcases (show (¬ (k:Int) < (q.aggs.length:Int))∨((k:Int) < (q.aggs.length:Int)∧¬ (k:Int) < 10) by omega) with A4 | ⟨Dg,A4⟩
   all_goals
    clear hlt
    go_wp2
    go_loopw [5] (fun i wq => ∃ (k:Nat) (os:Value) (us:List Value),k≤q.sets.length∧k≤10∧i = .int .i64 k∧Cq w g bx #[oa,.slice n0 n1 n2,.int .i64 q.mode,os,.int .i64 q.every,.int .i64 (Fil.few q.fil).kind,.string (Fil.few q.fil).name,.slice u0 u1 u2,.int .i64 (Fil.few q.fil).frm,.int .i64 (Fil.few q.fil).to,.slice u3 (Fil.few q.fil).l.length u4,.slice ah mh ch,.slice ao mo co,.int .i64 q.limit] wq∧Setl N2 (fun b=>N2≤b∧os.ownBlock≠some b) wq os us ((q.sets.take k).map (nN 30 10))∧(k=0→os = .slice none 0 0)∧Kept (fun b=>w.heap.size + 2≤b∧b≠g∧b < N1) wq (.slice n0 n1 n2) (nN 30 10 q.names) (.agg #[.int .i64 (Fil.few q.fil).kind,.string (Fil.few q.fil).name,.slice u0 u1 u2,.int .i64 (Fil.few q.fil).frm,.int .i64 (Fil.few q.fil).to,.slice u3 (Fil.few q.fil).l.length u4]) (Fil.few q.fil)∧RA 2 aggF (fun b=>N1≤b∧b < N2) wq oa ((q.aggs.take 10).map Tess.cA2)∧N2≤wq.heap.size) (fun i _=>10 - (intOf i).toNat)
    case atStart=>exact ⟨0,_,[],Nat.zero_le _,Nat.zero_le _,rfl,B6.out,⟨World.ownsRow_nil wo N2 22 1,rfl,fun j h=>absurd h (by simp)⟩,fun _=>rfl,B2.out,As.out,Az⟩
    case round=>
     clear B6 B2 As Az A4 c0 c3 e0 ez Cj
     obtain ⟨k,os,us,hk,Bf,rfl,hC,hF,Ad,hK,Cv,Aj⟩:=hrel
     have HC:=Hd hC
     have HF:=Hd hF
     have HN:=Hd Ad
     have HK:=Hd hK
     have A7:=Hd Cv
     clear hC hF Ad hK Cv
     have Bu:=HC.out.lt
     have Cj:w.heap.size < wr.heap.size:=by omega
     have Al:=HC.out.k1
     rw [Bj.out] at Al
     obtain ⟨_,_,_,c3,_⟩:=(ca2 Al).1
     obtain ⟨⟨d0,d1,d2,d3,d4,d5,d6,d7,d8,d9,da,db,dc,dd⟩,zf⟩:=ca2 HC.out.k3
     have ez:=zf 3 (by omega)
     clear zf Al
     by_cases hlt:k < q.sets.length∧k < 10
     ·clear d0 d1 d2 d4 d5 d6 d7 d8 d9 da db dc dd
      obtain ⟨h1,h2⟩:=hlt
      obtain ⟨_,_,A0,_,_,_,hc⟩:=Ef.out
      simp only [Value.slice.injEq] at A0
      obtain ⟨rfl,_,rfl⟩:=A0
      obtain ⟨b,Ah,rfl,hb,_,Ac⟩:=hc (by omega)
      obtain ⟨cv,C4,C1,B4⟩:=Ac k h1
      have Et:wr.cell? ⟨b,Ah + k,none⟩=some cv:=(HC.out.below.cell (p:=⟨b,Ah + k,none⟩) hb).trans C4
      have Ar:=Hd (fun W (hB:Below w.heap.size w W)=>Em.out W hB q.sets[k] cv C1 B4)
      have En:b < wr.heap.size:=Nat.lt_of_lt_of_le hb HC.out.below.size
      have Ao:=Hd HC.out.below
      have HE:=Hd (show (q.sets.take (k + 1)).map (nN 30 10)=(q.sets.take k).map (nN 30 10) ++ [nN 30 10 q.sets[k]] by rw [List.take_succ_eq_append_getElem h1,List.map_append,List.map_singleton])
      clear Ac hb hc C4 C1 B4
      generalize q.sets[k]=ls at *
      go_wp2
      refine Flow.wrf 9 (Flow.sp3 [.inl ?_,.inl ?_,.inl ?_,.inl ?_,.inl ?_,.inl ?_,.inl ?_,.inr (isNamesF wr.heap.size ls),.inr (newNames wr.heap.size ls)]) (by kernel_rfl) (by kernel_rfl) ?_ ?_
      rotate_left 7
      ·refine Flow.sm2 ?_
       repeat (first | exact Flow.ln2 | refine Flow.li2 ?_ | refine Flow.li3 (isNamesF_mono _ _) ?_ | refine Flow.li3 (newNames_mono _ _) ?_)
      all_goals try simp only [List.take_succ_cons,List.take_zero,List.drop_succ_cons,List.drop_zero]
      iterate 7 (refine Flow.tvK rfl (fun K hK=>⟨fun w hw hG => ?_,?_⟩);(have A6:=Flow.bc4 hw;clear hG hw;unfold Flow.Runs Flow.yields;go_simp;try rfl);go_simp;refine hK _ ?_;clear hK K)
      (refine Flow.tvK2 rfl (fun K hK=>⟨fun w hw hG => ?_,?_⟩);(have HW:=Hd hw;clear hG hw;unfold Flow.Runs Flow.yields;go_simp;refine (Ar.out _ (Ao.out.trans (HW.out.mono Ao.out.size))).mono ?_;rintro e w3 ⟨v3,rfl,Aq,_,Av⟩;exact ⟨v3,rfl,Av,Aq.weak fun b hb=>Nat.le_trans HW.out.size hb⟩);intro vz;go_simp;refine hK _ _ ?_;clear hK K)
      (refine Flow.tvK2 rfl (fun K hK=>⟨fun w hw hG => ?_,?_⟩);(have Ae:=(show isNamesF wr.heap.size ls vz w by simpa [Flow.upd] using hG 7 (by kernel_rfl));clear hG;obtain ⟨y0,y1,y2,rfl⟩:=SlP.shape Ae;unfold Flow.Runs Flow.yields;go_simp;refine ⟨(Below.refl _ _).alloc (Nat.le_refl _) _,?_⟩);rotate_left;intro vy;go_simp;refine hK _ _ ?_;clear hK K;rotate_left)
      ·exact ⟨w.heap.size,_,rfl,by simp,SlP.ag Ae (Ag.new _ ((Below.refl _ _).alloc (Nat.le_refl _) _)),cell_of_row _ _ 0 _ _ _ (heap_alloc_new _ _)⟩
      refine Flow.tn2 fun w2 hw2 hG => ?_
      obtain ⟨gn,x,rfl,D9,hx,Ca⟩:=(show newNames wr.heap.size ls vy w2 by simpa [Flow.upd] using hG 8)
      clear hG
      have Af:=Hd (ob2 HF.out.own hw2)
      have Bp:=Hd (HC.out.later hw2)
      have HX:=Hd hx
      obtain ⟨Cy,Ct,B1,rfl⟩:=hx.shape
      have Ew:=Hd Ca
      have Bk:=Hd hw2
      have Bd:=hw2.size
      have Dt:us.length≤10:=by have:=HF.out.len;simp at this;omega
      clear hx Ca hw2
      go_wp2_with (at_builtin;refine wpList_append_own_at _ rfl _ _ 26 rfl N2 22 j0 _ 1 24 Tryz.underlying26 ji Di D4 Ei rfl (by decide) _ us.length _ rfl Af.out ⟨gn,0,none⟩ 1 1 [.slice Cy Ct B1] rfl rfl ?_ ?_ ?_ ?_ ?_ ?_)
      ·intro j u hj;rcases j with _ | j <;> simp at hj;subst hj;simpa [Addr.add] using Ew.out
      ·simp [Value.oneCell']
      ·unfold maxLen;omega
      ·omega
      ·omega
      intro v' w3 Ab Aa _ Ax
      have Eu:=Hd (Setl.more (HF.out.below Bk.out) HX.out (fun g' e=>(HF.out.own.lt g' e).2) Aj Ab Aa Ax)
      have A8:=Hd ((HK.out.ag (Ag.new _ Bk.out)).ag (Ag.grown Aa (fun j e=>by have:=(Af.out.lt j e).1;rintro ⟨_,_,h⟩;omega)))
      have Ba:=Hd ((A7.out.ag (Ag.new _ Bk.out)).ag (Ag.grown Aa (fun j e=>by have:=(Af.out.lt j e).1;rintro ⟨_,h⟩;omega)))
      obtain ⟨gg,cp,rfl,_⟩:=oca Ab (by omega)
      have At:=Hd (Bp.out.grown Aa (fun j e=>by have:=(Af.out.lt j e).1;omega))
      have Bl:=Aa.size
      clear Ab Aa Ax
      obtain ⟨⟨_,_,_,f3,_⟩,zf⟩:=ca2 At.out.k3
      have fz:=zf 3 (by omega)
      clear zf
      go_wp2
      go_roundw
      case rel=>
       refine ⟨k + 1,_,us ++ [.slice Cy Ct B1],by omega,by omega,by go_num,At.out.set 3 _ _ rfl,?_,fun h=>by omega,A8.out.ag (Ag.set _ _ _ (fun h=>h.2.1 rfl)),Ba.out.ag (Ag.set _ _ _ (by rintro ⟨h,_⟩;have:N1≤g:=h;omega)),by simp [World.setCell];omega⟩
       rw [HE.out]
       exact Eu.out.set (by omega) (fun b hb=>hb.1) _
      case measure=>simp [intOf];omega
     ·have Cc:q.sets.take k=q.sets.take 10:=by
       by_cases e:k=10
       ·rw [e]
       ·rw [List.take_of_length_le (by omega),List.take_of_length_le (by omega)]
      have A2:=HF.out.listed (q:=fun b=>N2≤b) (fun b hb=>hb.1) (fun b hb=>hb) (fun l hl=>by
       obtain ⟨l',_,rfl⟩:=List.mem_map.1 hl
       exact ns2 30 10 l' (by omega)) (by simp;unfold maxLen;omega) (fun e=>HN.out (by
        have e2:=congrArg List.length e
        rw [List.length_map,List.length_take,List.length_nil] at e2;omega))
      rw [Cc] at A2
      have Dx:=Hd A2
      obtain ⟨C0,Cu,es⟩:=A2.shape
      obtain ⟨Br,Ce,ea⟩:=A7.out.shape
      generalize ((q.sets.take 10).map (nN 30 10)).length=ns1 at es
      generalize ((q.aggs.take 10).map Tess.cA2).length=na1 at ea
      subst es ea
      obtain ⟨⟨r0,r1,r2,r3,r4,r5,r6,r7,r8,r9,ra,rb,rc,rd⟩,zf⟩:=ca2 HC.out.k2
      have C7:=zf 0 (by omega)
      have C9:=zf 1 (by omega)
      have B9:=zf 2 (by omega)
      have Cr:=zf 3 (by omega)
      have C3:=zf 4 (by omega)
      have By:=zf 5 (by omega)
      have C6:=zf 6 (by omega)
      have Bx:=zf 7 (by omega)
      have Cx:=zf 8 (by omega)
      have C8:=zf 9 (by omega)
      have Bv:=zf 10 (by omega)
      have Cf:=zf 11 (by omega)
      have C2:=zf 12 (by omega)
      have Da:=zf 13 (by omega)
      clear zf A2 HN Cc HF
      obtain ⟨W5,Dr,k5,Dk,Ez,Cd,Cp⟩:=put14 (.slice Br na1 Ce) (.slice n0 n1 n2) (.int .i64 q.mode) (.slice C0 ns1 Cu) (.int .i64 q.every) (.int .i64 (Fil.few q.fil).kind) (.string (Fil.few q.fil).name) (.slice u0 u1 u2) (.int .i64 (Fil.few q.fil).frm) (.int .i64 (Fil.few q.fil).to) (.slice u3 (Fil.few q.fil).l.length u4) (.slice ah mh ch) (.slice ao mo co) (.int .i64 q.limit) HC.out.k2
      obtain ⟨v0,v1,v2,v3,v4,v5,v6,v7,v8,v9,Ck,Bz,Cs,B3⟩:=(ca2 k5).1
      have Cl:=HC.out.hg
      have Bc:=Hd (Cd _ _ HC.out.below (by omega))
      have Dn:=Hd Cp
      clear k5 Dk Ez Cd Cp
      rcases (show (¬ (k:Int) < (q.sets.length:Int))∨((k:Int) < (q.sets.length:Int)∧¬ (k:Int) < 10) by omega) with A4 | ⟨Dg,A4⟩
      all_goals
       clear hlt
       go_wp2
       refine bodyPost_ret (v:=.agg #[.slice Br na1 Ce,.slice n0 n1 n2,.int .i64 q.mode,.slice C0 ns1 Cu,.int .i64 q.every,.int .i64 (Fil.few q.fil).kind,.string (Fil.few q.fil).name,.slice u0 u1 u2,.int .i64 (Fil.few q.fil).frm,.int .i64 (Fil.few q.fil).to,.slice u3 (Fil.few q.fil).l.length u4,.slice ah mh ch,.slice ao mo co,.int .i64 q.limit]) (by first | (rw [Dr];simp [results,Tryz.results12,go_sem,v0,v1,v2,v3,v4,v5,v6,v7,v8,v9,Ck,Bz,Cs,B3]) | simp [results,Tryz.results12,go_sem,v0,v1,v2,v3,v4,v5,v6,v7,v8,v9,Ck,Bz,Cs,B3]) rfl ?_
       have An:=Dn.out (fun b=>w.heap.size + 2≤b) (by omega)
       have Ch:=(HK.out.weak (q:=fun b=>w.heap.size + 2≤b) fun b hb=>hb.1).ag An
       have Du:=(A7.out.weak (q:=fun b=>w.heap.size + 2≤b) fun b hb=>by have:=hb.1;omega).ag An
       have Ey:=(Dx.out.weak (q:=fun b=>w.heap.size + 2≤b) fun b hb=>by have:N2≤b:=hb;omega).ag An
       have Ak:=De.out
       have Ai:=Ds.out
       have e1:q.conds.take mh=q.conds.take 10:=by rw [Ak];simp [List.take_eq_take_iff]
       have e2:q.keys.take mo=q.keys.take 10:=by rw [Ai];simp [List.take_eq_take_iff]
       exact few_post Du Ch.names Ey Ch.fil (e1 ▸ (Bb.out.lt.ag (Ag.below _ Bc.out fun b _ hb=>hb.2))) (e2 ▸ (Bm.out.lt.ag (Ag.below _ Bc.out fun b _ hb=>hb.2))) A9.out Bc.out
end Go.Proofs.YtaddkkkchkdgkaaGreatDoor
