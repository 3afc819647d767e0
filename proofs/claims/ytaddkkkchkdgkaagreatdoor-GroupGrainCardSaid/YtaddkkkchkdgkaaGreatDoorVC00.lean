/- Joined by mergeK2.py: K75, K76 -/
import Derived.Test.YtaddkkkchkdgkaaGreatDoorWC45
import Derived.Test.YtaddkkkchkdgkaaGreatDoorWC49
import Derived.Lib.LaidPrint
namespace Tess.Fil
theorem check0 (s:Sch) (f:Fil):checkE s f=0↔schOk s=true∧f.count≤40∧f.deep≤6∧allP (own s) f=true∧allP (fun x => !badGrain s x) f=true:=by
 rw [checkE_eq]
 cases schOk s <;> cases allP (own s) f <;> cases allP (fun x => !badGrain s x) f <;> simp
 split <;> simp
end Tess.Fil
namespace Tess.Fil
open Go
theorem cut_has (a b g t:Int) (h:spanFits a b g=true) (h0:0≤t) (h1:t≤1000000000000):spanHas a b (t - t % g)=spanHas a b t:=by
 unfold spanFits grainOk at h
 simp only [Bool.and_eq_true,Bool.or_eq_true,decide_eq_true_eq] at h
 obtain ⟨⟨⟨hok,hg1,_⟩,ha⟩,hb⟩:=h
 unfold spanHas
 rw [hok,Bool.true_and,Bool.true_and]
 have hm0:0≤t % g:=Int.emod_nonneg _ (by omega)
 have hm1:t % g < g:=Int.emod_lt_of_pos _ (by omega)
 obtain ⟨u,hu⟩:∃ u,a=g * u:=⟨a / g,by have:=Int.emod_add_mul_ediv a g;omega⟩
 obtain ⟨q,hq⟩:∃ q,t - t % g=g * q:=⟨t / g,by have:=Int.emod_add_mul_ediv t g;omega⟩
 have e1:decide (a≤t - t % g)=decide (a≤t):=by
  refine decide_eq_decide.2 ⟨fun h=>by omega,fun h => ?_⟩
  rw [hq,hu]
  refine Int.mul_le_mul_of_nonneg_left ?_ (by omega)
  by_cases hh:u≤q
  ·exact hh
  ·exfalso
   have:=Int.mul_le_mul_of_nonneg_left (show q + 1≤u by omega) (show 0≤g by omega)
   rw [Int.mul_add,Int.mul_one] at this
   omega
 have e2:decide (t - t % g < b)=decide (t < b):=by
  refine decide_eq_decide.2 ⟨fun h => ?_,fun h=>by omega⟩
  rcases hb with hb | hb
  ·omega
  ·obtain ⟨v,hv⟩:∃ v,b=g * v:=⟨b / g,by have:=Int.emod_add_mul_ediv b g;omega⟩
   have hqv:q + 1≤v:=by
    by_cases hh:q + 1≤v
    ·exact hh
    ·exfalso
     have:=Int.mul_le_mul_of_nonneg_left (show v≤q by omega) (show 0≤g by omega)
     omega
   have:=Int.mul_le_mul_of_nonneg_left hqv (show 0≤g by omega)
   rw [Int.mul_add,Int.mul_one] at this
   omega
 rw [e1,e2]
theorem cut_holds (s:Sch) (d:List Val) (t:Int) (h0:0≤t) (h1:t≤1000000000000):∀ (n:Nat) (f:Fil),f.deep≤n→allP (fun x => !badGrain s x) f=true→holds s (t - t % s.grain) d f=holds s t d f:=by
 intro n
 induction n with
 | zero=>intro f hf _;rw [deep_eq] at hf;omega
 | succ n ih=>
   intro f hf ha
   rw [allP_eq,Bool.and_eq_true,List.all_eq_true] at ha
   rw [holds_eq,holds_eq]
   have e:f.l.map (holds s (t - t % s.grain) d)=f.l.map (holds s t d):=by
    refine List.map_congr_left fun x hx=>ih x ?_ (ha.2 x hx)
    have:=deep_mem hx
    rw [deep_eq] at hf
    omega
   rw [e]
   unfold holdsW
   by_cases h6:f.kind=6
   ·have hb:spanFits f.frm f.to s.grain=true:=by
     have:=ha.1
     simpa [badGrain,h6] using this
    rw [cut_has _ _ _ _ hb h0 h1]
   ·simp [h6]
end Tess.Fil
namespace Tess
open Go Kl
section
variable (s:Sch) (q:Que) (set:Nat) (g:Int)
end
theorem cut_cut {g e t:Int} (hg:1≤g) (he:e % g=0) (h0:0 < e):(t - t % g) - (t - t % g) % e=t - t % e:=by
 obtain ⟨k,rfl⟩:=Int.dvd_of_emod_eq_zero he
 have h1:t - t % g=g * (t / g):=by have:=Int.mul_ediv_add_emod t g;omega
 have h2:t - t % (g * k)=g * k * (t / (g * k)):=by have:=Int.mul_ediv_add_emod t (g * k);omega
 have hk:0 < k:=by
  rcases Int.lt_trichotomy k 0 with h | h | h
  ·have:=Int.mul_neg_of_pos_of_neg (show 0 < g by omega) h;omega
  ·subst h;simp at h0
  ·exact h
 have h3:(g * (t / g)) % (g * k)=g * ((t / g) % k):=Int.mul_emod_mul_of_pos _ _ (by omega)
 have h4:t / (g * k)=t / g / k:=(Int.ediv_ediv_of_nonneg (by omega)).symm
 rw [h1,h3,h2,h4,Int.mul_assoc,← Int.mul_sub]
 congr 1
 have:=Int.mul_ediv_add_emod (t / g) k
 omega
theorem cutE_cut {s:Sch} {e t:Int} (h:e=0∨coarser s.grain e=true):cutE e (t - t % s.grain)=cutE e t:=by
 unfold cutE
 rcases h with rfl | h
 ·simp
 ·simp only [coarser,Fil.grainOk,Bool.and_eq_true,decide_eq_true_eq] at h
  split
  ·exact cut_cut h.1.1.1 h.2 (by assumption)
  ·rfl
theorem re_congr {K L P:Type} {g h:K→Option L} {l m:List (K×P)} (hl:l.map (·.2)=m.map (·.2)) (he:∀ i (h1:i < l.length) (h2:i < m.length),g l[i].1=h m[i].1):re g l=re h m:=by
 induction l generalizing m with
 | nil=>cases m with
   | nil=>rfl
   | cons y m=>simp at hl
 | cons x l ih=>cases m with
   | nil=>simp at hl
   | cons y m=>
     simp only [List.map_cons,List.cons.injEq] at hl
     unfold re at *
     rw [List.filterMap_cons,List.filterMap_cons,ih hl.2 fun i h1 h2=>he (i + 1) (by simpa using h1) (by simpa using h2)]
     have:=he 0 (by simp) (by simp)
     simp only [List.getElem_cons_zero] at this
     rw [this,hl.1]
def fine (s:Sch):Sch:={ s with grain:=1 }
theorem fine_ok {s:Sch} (h:schOk s=true):schOk (fine s)=true:=by
 simp only [schOk,Bool.and_eq_true] at h ⊢
 exact ⟨⟨⟨h.1.1.1,by show decide ((1:Int)≤1)=true;rfl⟩,by show decide ((1:Int)≤1000000000)=true;rfl⟩,h.2⟩
theorem fine_dim {s:Sch} (h:schOk s=true) (x:ByteArray):dimW (fine s) x=dimW s x:=by
 unfold dimW;rw [fine_ok h,h];rfl
theorem fine_met {s:Sch} (h:schOk s=true) (x:ByteArray):metW (fine s) x=metW s x:=by
 unfold metW;rw [fine_ok h,h];rfl
theorem fine_holds {s:Sch} (h:schOk s=true) (t:Int) (d:List Val):∀ (n:Nat) (f:Fil),f.deep≤n→Fil.holds (fine s) t d f=Fil.holds s t d f:=by
 intro n
 induction n with
 | zero=>intro f hf;rw [Fil.deep_eq] at hf;omega
 | succ n ih=>
   intro f hf
   rw [Fil.holds_eq,Fil.holds_eq]
   have e:f.l.map (Fil.holds (fine s) t d)=f.l.map (Fil.holds s t d):=by
    refine List.map_congr_left fun x hx=>ih x ?_
    have:=Fil.deep_mem hx
    rw [Fil.deep_eq] at hf
    omega
   rw [e]
   unfold Fil.holdsW Fil.holdsDim
   rw [fine_dim h]
theorem fine_own {s:Sch} (h:schOk s=true) (f:Fil):Fil.own (fine s) f=Fil.own s f:=by
 unfold Fil.own;rw [fine_dim h]
theorem allP_imp {p r:Fil→Bool} (hpr:∀ f,p f=true→r f=true):∀ (n:Nat) (f:Fil),f.deep≤n→Fil.allP p f=true→Fil.allP r f=true:=by
 intro n
 induction n with
 | zero=>intro f hf;rw [Fil.deep_eq] at hf;omega
 | succ n ih=>
   intro f hf ha
   rw [Fil.allP_eq,Bool.and_eq_true,List.all_eq_true] at ha ⊢
   refine ⟨hpr _ ha.1,fun x hx=>ih x ?_ (ha.2 x hx)⟩
   have:=Fil.deep_mem hx
   rw [Fil.deep_eq] at hf
   omega
theorem fine_bad {s:Sch} (f:Fil) (h:(!Fil.badGrain s f)=true):(!Fil.badGrain (fine s) f)=true:=by
 have e:(fine s).grain=1:=rfl
 simp only [Fil.badGrain,e,Fil.spanFits,Fil.grainOk,Bool.not_eq_true',Bool.and_eq_false_iff,Bool.not_eq_false',Bool.and_eq_true,Bool.or_eq_true,decide_eq_true_eq,decide_eq_false_iff_not] at h ⊢
 rcases h with h | h
 ·exact Or.inl h
 ·exact Or.inr ⟨⟨⟨h.1.1.1,by decide⟩,by omega⟩,Or.inr (by omega)⟩
theorem own_eq {s:Sch} (h:schOk s=true):Fil.own (fine s)=Fil.own s:=funext (fine_own h)
theorem fine_checkE {s:Sch} (h:schOk s=true) (f:Fil):Fil.checkE (fine s) f=Fil.checkE s f∨Fil.checkE s f=110:=by
 rw [Fil.checkE_eq,Fil.checkE_eq,fine_ok h,h,own_eq h]
 simp only [if_true]
 split
 ·exact Or.inl rfl
 ·cases hb:Fil.allP (fun x => !Fil.badGrain s x) f
  ·exact Or.inr rfl
  ·rw [if_pos (allP_imp (fun f=>fine_bad f) _ f (Nat.le_refl _) hb)];exact Or.inl rfl
theorem fine_isOf {s:Sch} (h:schOk s=true) (q:Que):Que.isOf (fine s) q=Que.isOf s q:=by
 unfold Que.isOf
 have e1:Que.isTyped (fine s)=Que.isTyped s:=funext fun a=>by unfold Que.isTyped;rw [fine_met h]
 have e2:(fun x=>(dimW (fine s) x).2)=fun x=>(dimW s x).2:=funext fun x=>by rw [fine_dim h]
 rw [e1,e2]
theorem fine_check {s:Sch} (h:schOk s=true) (q:Que):Que.check (fine s) q=Que.check s q∨Que.check s q=110:=by
 unfold Que.check
 rw [fine_ok h,h,fine_isOf h]
 simp only [if_true]
 cases hi:Que.isOf s q
 ·exact Or.inl rfl
 simp only [if_true]
 cases hg:(decide (q.every≠0) && !coarser s.grain q.every)
 ·have:(decide (q.every≠0) && !coarser (fine s).grain q.every)=false:=by
   have e:(fine s).grain=1:=rfl
   simp only [Bool.and_eq_false_iff,decide_eq_false_iff_not,Bool.not_eq_false',coarser,Fil.grainOk,Bool.and_eq_true,decide_eq_true_eq,e] at hg ⊢
   rcases hg with hg | hg
   ·exact Or.inl hg
   ·exact Or.inr ⟨⟨by decide,hg.1.2⟩,by omega⟩
  rw [this]
  exact fine_checkE h q.fil
 ·exact Or.inr rfl
theorem key_fine {s:Sch} (h:schOk s=true) (set:Nat) (d:List DV):∀ (l:List ByteArray) (i:Nat),keyFrom (fine s) set d i l=keyFrom s set d i l
 | [],_=>rfl
 | x :: r,i=>by rw [keyFrom,keyFrom,fine_dim h,key_fine h set d r (i + 1)]
theorem gOf_cut {s:Sch} {q:Que} (set:Nat) (hc:Que.check s q=0) {r:Row} (hr:Row.ok s r=true):gOf s q set (r.t - r.t % s.grain,r.l.map Val.c)=gOf s q set (r.t,r.l.map Val.c):=by
 obtain ⟨_,_,he,hf⟩:=check_cases hc
 obtain ⟨_,ht,_⟩:=ok_parts hr
 unfold gOf
 rw [Fil.cut_holds s _ r.t ht.1 ht.2 _ q.fil (Nat.le_refl _) ((Fil.check0 _ _).1 hf).2.2.2.2,cutE_cut he]
theorem groups_fine (s:Sch) (q:Que) (set:Nat) (rows:List Row) (hc:Que.check s q=0) (hr:∀ r ∈ rows,Row.ok s r=true):groupsP (fine s) q set (rollP 1 rows)=groupsP s q set (rollP s.grain rows):=by
 rw [groups_roll,groups_roll]
 unfold groupsP
 have hs:=(check_cases hc).1
 congr 1
 refine re_congr (by simp only [List.map_map];rfl) fun i h1 h2 => ?_
 simp only [List.getElem_map,Row.kp]
 have hi:i < rows.length:=by simpa using h1
 rw [gOf_cut set hc (hr _ (List.getElem_mem hi)),Int.emod_one,Int.sub_zero]
 unfold gOf
 rw [fine_holds hs _ _ _ q.fil (Nat.le_refl _),key_fine hs]
end Tess
namespace Go.Proofs.YtaddkkkchkdgkaaGreatDoor
open Go.RowKit Go.Sort
open Tess (Fil Que CK Pay CelsOk groupsP)
theorem SchAt.fine {p:Nat→Prop} {W:World} {u0 u1:Value} {s:Tess.Sch} (h:SchAt p W (.agg #[u0,u1,.int .i64 s.grain]) s):SchAt p W (.agg #[u0,u1,.int .i64 1]) (Tess.fine s):=by
 obtain ⟨vd,vm,e,h1,h2,h3,h4⟩:=h
 simp only [Value.agg.injEq,Array.mk.injEq,List.cons.injEq,and_true] at e
 obtain ⟨rfl,rfl⟩:=e
 exact ⟨_,_,rfl,h1,h2,h3,h4⟩
theorem foldE_fine {s:Tess.Sch} (hs:Tess.schOk s=true) (q:Que) (set:Int):foldE (Tess.fine s) q set=foldE s q set∨foldE s q set=110:=by
 rcases Tess.fine_check hs q with h | h
 ·left;unfold foldE;rw [h]
 ·right;unfold foldE;rw [h];rfl
theorem foldE_fine0 {s:Tess.Sch} (hs:Tess.schOk s=true) {q:Que} {set:Int} (h:foldE s q set=0):foldE (Tess.fine s) q set=0:=by
 rcases foldE_fine hs q set with e | e
 ·rw [e,h]
 ·rw [h] at e;cases e
theorem foldR_fine {s:Tess.Sch} (hs:Tess.schOk s=true) {q:Que} {set:Int} (h:foldE s q set=0) {R:List Tess.Row} (hr:∀ r ∈ R,Tess.Row.ok s r=true):foldR (Tess.fine s) q set [Tess.rollP (Tess.fine s).grain R].flatten=foldR s q set [Tess.rollP s.grain R].flatten:=by
 unfold foldR
 rw [if_pos h,if_pos (foldE_fine0 hs h)]
 simp only [List.flatten_cons,List.flatten_nil,List.append_nil]
 rw [show (Tess.fine s).grain=1 from rfl,Tess.groups_fine s q set.toNat R (foldE_zero h).1 hr]
set_option maxRecDepth 100000 in
set_option maxHeartbeats 16000000 in
theorem GroupGrain_any {T:Lib.PrintTabs} (a0 a1:Addr) {vs vq vr:Value} {rows0:List Tess.Row} {set:Int} {s0:Tess.Sch} {q0:Que} (w:World) (hL:Lw T a0 a1 w) (hs:SchAt (fun _=>True) w vs s0) (hq:QueOk w vq q0) (hr:RowsIn (fun _=>True) w vr rows0) (hrng:∀ r ∈ rows0,r.rng) :
  Calls Tryz.prog 4 #[vs,vq,vr,.int .i64 set] w fun e w'=>e = .returned (.bool true)∧Below w.heap.size w w':=by
 obtain ⟨⟨n,va,vb,vS,f0,f1,f2,f3,f4,f5,vh,vo,hq⟩,hK⟩:=hq
 have hs:=hs.ltK
 have HR0:=Lib.hid hr.ltR
 clear hr
 have hq:=hq.ltQ
 obtain ⟨vd,vm,rfl,hd,hm,hd1,hm1⟩:=hs
 have HS:=Lib.hid (show SchAt (fun b=>True∧b < w.heap.size) w (.agg #[vd,vm,.int .i64 s0.grain]) s0 from ⟨vd,vm,rfl,hd,hm,hd1,hm1⟩)
 obtain ⟨ad,capd,rfl,_⟩:=slp_len hd
 obtain ⟨am,capm,rfl,_⟩:=slp_len hm
 have hv:=hq.e
 subst hv
 obtain ⟨ab,cb,rfl,_,hdum⟩:=sls_open hq.names.1
 obtain ⟨aa,ca,rfl⟩:=hq.aggs.shape
 obtain ⟨aS,cS,rfl⟩:=hq.sets.shape
 obtain ⟨ah,ch,rfl⟩:=hq.conds.shape
 obtain ⟨ao,co,rfl⟩:=hq.keys.shape
 obtain ⟨z0,z1,z2,z3,z4,ez⟩:=FilAt.shape6 hq.fil
 simp only [Value.agg.injEq,Array.mk.injEq,List.cons.injEq,and_true] at ez
 obtain ⟨rfl,rfl,rfl,rfl,rfl,rfl⟩:=ez
 have HQ:=Lib.hid hq
 have HL:=Lib.hid hL
 clear hd hm hd1 hm1 hdum hq hL
 have hKF:kindsOk (Que.few q0).fil:=kinds_few _ hK
 obtain ⟨W0,hW0⟩:∃ W0,(w.alloc (.cells #[.slice ad s0.dims.length capd,.slice am s0.mets.length capm,.int .i64 s0.grain] 24)).alloc (.cells #[.slice aa q0.aggs.length ca,.slice ab q0.names.length cb,.int .i64 q0.mode,.slice aS q0.sets.length cS,.int .i64 q0.every,.int .i64 q0.fil.kind,.string q0.fil.name,.slice z0 z1 z2,.int .i64 q0.fil.frm,.int .i64 q0.fil.to,.slice z3 q0.fil.l.length z4,.slice ah q0.conds.length ch,.slice ao q0.keys.length co,.int .i64 q0.limit] 35)=W0:=⟨_,rfl⟩
 obtain ⟨k0,k1,kS,kB⟩:=laid2 w (.cells #[.slice ad s0.dims.length capd,.slice am s0.mets.length capm,.int .i64 s0.grain] 24) (.cells #[.slice aa q0.aggs.length ca,.slice ab q0.names.length cb,.int .i64 q0.mode,.slice aS q0.sets.length cS,.int .i64 q0.every,.int .i64 q0.fil.kind,.string q0.fil.name,.slice z0 z1 z2,.int .i64 q0.fil.frm,.int .i64 q0.fil.to,.slice z3 q0.fil.l.length z4,.slice ah q0.conds.length ch,.slice ao q0.keys.length co,.int .i64 q0.limit] 35)
 rw [hW0] at k0 k1 kS kB
 have HX0:=Lib.hid (show Bq w _ _ W0 from ⟨k0,k1,kB⟩)
 clear k0 k1 kS kB
 go_enter Tryz.func4,Tryz.ntmps4
 go_wp2_with (fail)
 go_at_call 10
 refine (shown16_any a0 a1 W0 (HL.out.below HX0.out.below)).mono ?_
 rintro e W1 ⟨rfl,hB1⟩
 have HX1:=Lib.hid (HX0.out.later hB1)
 clear hB1 HX0 hW0
 obtain ⟨⟨x0,x1,x2⟩,x3,x4,x5⟩:=can3 HX1.out.k0
 go_wp2_with (fail)
 go_at_call 11
 refine (cutSch_any _ s0 W1 _ (HS.out.ag (Ag.new _ HX1.out.below))).mono ?_
 rintro e W2 ⟨vs',rfl,hs2,hB2⟩
 have HX2:=HX1.out.later hB2
 have hs2:=hs2.weak (q:=Dq w) (Dq.of HX1.out.lt)
 obtain ⟨s,hse⟩:∃ s,cutSch s0=s:=⟨_,rfl⟩
 rw [hse] at hs2
 clear hse
 obtain ⟨vd',vm',rfl,hd,hm,hd1,hm1⟩:=hs2
 have HS2:=Lib.hid (show SchAt (Dq w) W2 (.agg #[vd',vm',.int .i64 s.grain]) s from ⟨vd',vm',rfl,hd,hm,hd1,hm1⟩)
 obtain ⟨ad',capd',rfl,_⟩:=slp_len hd
 obtain ⟨am',capm',rfl,_⟩:=slp_len hm
 obtain ⟨W3,hW3,HX3,hA3⟩:=HX2.put0 (.slice ad' s.dims.length capd') (.slice am' s.mets.length capm') (.int .i64 s.grain)
 have HS3:=Lib.hid (HS2.out.ag hA3)
 have HX3:=Lib.hid HX3
 clear x0 x1 x2 x3 x4 x5 hd hm hd1 hm1 hB2 HS2 hA3 HX1
 obtain ⟨⟨x0,x1,x2⟩,x3,x4,x5⟩:=can3 HX2.k0
 obtain ⟨y0,y1,y2,y3,y4,y5,y6,y7,y8,y9,ya,yb,yc,yd⟩:=(can14 HX3.out.k1).1
 clear HX2
 go_wp2_with (fail)
 go_at_call 12
 refine (few15_any _ n _ q0 _ _ _ _ _ _ _ _ _ _ _ W3 (HQ.out.ag (Ag.new _ HX3.out.below))).mono ?_
 rintro e W4 ⟨v',ua,ub,uS,g0,g1,g2,g3,g4,g5,uh,uo,rfl,hq4,hcap,hB4⟩
 have hX4:=HX3.out.later hB4
 have hq4:=hq4.weak (q:=Dq w) (fun b hb=>by
  rcases hb with hb | hb
  ·exact ⟨by have:=hb.2;omega,by have:=hb.2;omega⟩
  ·exact Dq.of HX3.out.lt b hb)
 have HS4:=Lib.hid (HS3.out.ag (Ag.new _ hB4))
 have hn10:(Que.few q0).names.length≤10:=by show ((q0.names.take 10).map (cutN 30)).length≤10;simp;omega
 obtain ⟨Q,hQ⟩:∃ Q,Q=Que.few q0:=⟨_,rfl⟩
 rw [← hQ] at hq4 hcap hKF hn10
 clear hQ hB4 x0 x1 x2 x3 x4 x5 y0 y1 y2 y3 y4 y5 y6 y7 y8 y9 ya yb yc yd hW3 HS3
 have hv:=hq4.e
 subst hv
 obtain ⟨na,nc,rfl,_,hdum⟩:=sls_open hq4.names.1
 obtain ⟨ba,bc,rfl⟩:=hq4.aggs.shape
 obtain ⟨ta,tc,rfl⟩:=hq4.sets.shape
 obtain ⟨ha,hc,rfl⟩:=hq4.conds.shape
 obtain ⟨oa,oc,rfl⟩:=hq4.keys.shape
 obtain ⟨j0,j1,j2,j3,j4,ez⟩:=FilAt.shape6 hq4.fil
 simp only [Value.agg.injEq,Array.mk.injEq,List.cons.injEq,and_true] at ez
 obtain ⟨rfl,rfl,rfl,rfl,rfl,rfl⟩:=ez
 have HCAP:=Lib.hid hcap
 clear hdum hcap HX3 HQ HS
 obtain ⟨W5,hW5,hX5,hA5⟩:=hX4.put1 (.slice ba Q.aggs.length bc) (.slice na Q.names.length nc) (.int .i64 Q.mode) (.slice ta Q.sets.length tc) (.int .i64 Q.every) (.int .i64 Q.fil.kind) (.string Q.fil.name) (.slice j0 j1 j2) (.int .i64 Q.fil.frm) (.int .i64 Q.fil.to) (.slice j3 Q.fil.l.length j4) (.slice ha Q.conds.length hc) (.slice oa Q.keys.length oc) (.int .i64 Q.limit)
 obtain ⟨y0,y1,y2,y3,y4,y5,y6,y7,y8,y9,ya,yb,yc,yd⟩:=(can14 hX4.k1).1
 have zf:=(can14 hX4.k1).2
 have zz0:=zf 0 (by omega)
 have zz1:=zf 1 (by omega)
 have zz2:=zf 2 (by omega)
 have zz3:=zf 3 (by omega)
 have zz4:=zf 4 (by omega)
 have zz5:=zf 5 (by omega)
 have zz6:=zf 6 (by omega)
 have zz7:=zf 7 (by omega)
 have zz8:=zf 8 (by omega)
 have zz9:=zf 9 (by omega)
 have zza:=zf 10 (by omega)
 have zzb:=zf 11 (by omega)
 have zzc:=zf 12 (by omega)
 have zzd:=zf 13 (by omega)
 clear zf
 have HS5:=Lib.hid (HS4.out.ag hA5)
 have HQ5:=Lib.hid (hq4.ag hA5)
 have HX5:=Lib.hid hX5
 obtain ⟨x0,x1,x2⟩:=(can3 hX5.k0).1
 obtain ⟨v0,v1,v2,v3,v4,v5,v6,v7,v8,v9,va',vb',vc',vd'⟩:=(can14 hX5.k1).1
 clear hX4 hq4 hX5 hA5 HS4
 go_wp2_with (fail)
 go_at_call 13
 refine (rows_any _ vr rows0 50 (by omega) W5 (HR0.out.ag (Ag.new _ HX5.out.below))).mono ?_
 rintro e W6 ⟨v6,rfl,hr6,hB6⟩
 have hr6:=hr6.weak (q:=Dq w) (fun b hb=>by
  rcases hb with hb | hb
  ·exact ⟨by have:=hb.2;omega,by have:=hb.2;omega⟩
  ·exact Dq.of HX5.out.lt b hb)
 have hRr:=cut_rng (n:=50) hrng
 have hRl:=cut_len (n:=50) (rows:=rows0)
 obtain ⟨R,hR⟩:∃ R,rowsCut 50 rows0=R:=⟨_,rfl⟩
 rw [hR] at hr6 hRr hRl
 have hRl:R.length≤50:=by omega
 obtain ⟨ra,rc,rfl,hrc,_⟩:=ListAt.open hr6
 have HX6:=Lib.hid (HX5.out.later hB6)
 have HS6:=Lib.hid (HS5.out.ag (Ag.new _ hB6))
 have HQ6:=Lib.hid (HQ5.out.ag (Ag.new _ hB6))
 have HR6:=Lib.hid hr6
 have HRr:=Lib.hid hRr
 have HRl:=Lib.hid hRl
 clear hR hr6 hB6 x0 x1 x2 v0 v1 v2 v3 v4 v5 v6 v7 v8 v9 va' vb' vc' vd' y0 y1 y2 y3 y4 y5 y6 y7 y8 y9 ya yb yc yd zz0 zz1 zz2 zz3 zz4 zz5 zz6 zz7 zz8 zz9 zza zzb zzc zzd hW5 hRr hRl
 obtain ⟨x0,x1,x2⟩:=(can3 HX6.out.k0).1
 obtain ⟨W7,hW7⟩:∃ W7,W6.alloc (.cells #[.slice ad' s.dims.length capd',.slice am' s.mets.length capm',.int .i64 1] 24)=W7:=⟨_,rfl⟩
 obtain ⟨q1,qS,qB⟩:=laid1 W6 (.cells #[.slice ad' s.dims.length capd',.slice am' s.mets.length capm',.int .i64 1] 24)
 rw [hW7] at q1 qS qB
 have HX7:=Lib.hid (HX6.out.later qB)
 have HB67:=Lib.hid qB
 have HF7:=Lib.hid q1
 have HSF:=Lib.hid HS6.out.fine
 have hlt6:=HX6.out.lt
 have HLT6:=Lib.hid hlt6
 obtain ⟨p0,p1,p2⟩:=(can3 HX7.out.k0).1
 have HC1:=Lib.hid (roll_law (Dq w) _ _ s R W7 (HS6.out.ag (Ag.new _ qB)) (RowsIn.agR HR6.out (Ag.new _ qB)) HRl.out HRr.out)
 obtain ⟨eC,hC⟩:∃ eC,rollCode s R=eC:=⟨_,rfl⟩
 obtain ⟨eA,hA⟩:∃ eA,rollCode (Tess.fine s) R=eA:=⟨_,rfl⟩
 rw [hC] at HC1
 have HEC:=Lib.hid hC
 have HEA:=Lib.hid hA
 clear hC hA q1 qS qB
 go_wp2_with (fail)
 go_at_call 14
 refine HC1.out.mono ?_
 rintro e W8 ⟨c1,c2,c3,rfl,hc,hB8⟩
 have HCC:=Lib.hid hc
 have HX8:=Lib.hid (HX7.out.later hB8)
 have HB68:=Lib.hid (Bt HB67.out hB8)
 have HB78:=Lib.hid hB8
 have HF8:=Lib.hid ((hB8.block _ (Array.getElem?_eq_some_iff.1 HF7.out).1).trans HF7.out)
 have HC2:=Lib.hid (roll_law (Dq w) _ _ (Tess.fine s) R W8 (HSF.out.ag (Ag.new _ HB68.out)) (RowsIn.agR HR6.out (Ag.new _ HB68.out)) HRl.out HRr.out)
 rw [HEA.out] at HC2
 clear x0 x1 x2 p0 p1 p2 hc hB8 hW7 hlt6
 obtain ⟨x0,x1,x2⟩:=(can3 HF8.out).1
 go_wp2_with (fail)
 go_at_call 14
 refine HC2.out.mono ?_
 rintro e W9 ⟨d1,d2,d3,rfl,hd,hB9⟩
 have HDD:=Lib.hid hd
 have HX9:=Lib.hid (HX8.out.later hB9)
 have HB69:=Lib.hid (Bt HB68.out hB9)
 have HB89:=Lib.hid hB9
 have HF9:=Lib.hid ((hB9.block _ (Array.getElem?_eq_some_iff.1 HF8.out).1).trans HF8.out)
 clear x0 x1 x2 hd hB9
 by_cases h1:eC=0
 rotate_left
 ·have e1:(eC != (0:Int))=true:=by rw [bne_iff_ne];exact h1
  go_wp2_with (fail)
  go_ret
  exact ⟨rfl,HX9.out.below⟩
 subst h1
 by_cases h1:eA=0
 rotate_left
 ·have e1:(eA != (0:Int))=true:=by rw [bne_iff_ne];exact h1
  go_wp2_with (fail)
  go_ret
  exact ⟨rfl,HX9.out.below⟩
 subst h1
 have hDq:∀ b,W6.heap.size≤b→Dq w b:=Dq.of HX6.out.lt
 have HCB:=Lib.hid (((HCC.out rfl).ag (Ag.new _ HB89.out)).weak fun b hb=>hDq b (Nat.le_trans HB67.out.size hb))
 have HDB:=Lib.hid ((HDD.out rfl).weak fun b hb=>hDq b (Nat.le_trans HB68.out.size hb))
 have HOC:=Lib.hid (roll_cels HEC.out HRl.out HRr.out)
 have HOD:=Lib.hid (roll_cels HEA.out HRl.out HRr.out)
 have HRO:=Lib.hid (roll_code HEC.out)
 have HTC:=Lib.hid (show ([Tess.rollP s.grain R].flatten.map (·.2.n)).sum≤1000 by
  have:=roll_tot s.grain R;have:=HRl.out;simp only [List.flatten_cons,List.flatten_nil,List.append_nil];omega)
 have HTD:=Lib.hid (show ([Tess.rollP (Tess.fine s).grain R].flatten.map (·.2.n)).sum≤1000 by
  have:=roll_tot (Tess.fine s).grain R;have:=HRl.out;simp only [List.flatten_cons,List.flatten_nil,List.append_nil];omega)
 obtain ⟨x0,x1,x2⟩:=(can3 HX9.out.k0).1
 obtain ⟨v0,v1,v2,v3,v4,v5,v6,v7,v8,v9,va',vb',vc',vd'⟩:=(can14 HX9.out.k1).1
 obtain ⟨WA,hWx⟩:∃ WX,W9.alloc (.cells #[.slice c1 c2 c3] 41)=WX:=⟨_,rfl⟩
 have hBx:=(laid1 W9 (.cells #[.slice c1 c2 c3] 41)).2.2
 have hpx:=parts1 (v:=.slice c1 c2 c3) HCB.out
 rw [hWx] at hBx hpx
 have hpx:=hpx.weak (q:=Dq w) (fun b hb=>by
  rcases hb with hb | hb
  ·exact hb
  ·exact Dq.of HX9.out.lt b (by omega))
 have HXA:=Lib.hid (HX9.out.later hBx)
 have HB6A:=Lib.hid (Bt HB69.out hBx)
 have HA1:=Lib.hid hBx
 have HF:=Lib.hid (fold_any (T:=T) a0 a1 (Dq w) 8 _ _ _ s Q set [Tess.rollP s.grain R] _ _ _ _ _ _ _ _ _ _ _ WA (HL.out.below HXA.out.below).vars (HL.out.below HXA.out.below).vn (HL.out.below HXA.out.below).et (HS6.out.ag (Ag.new _ HB6A.out)) (HQ6.out.ag (Ag.new _ HB6A.out)) (by omega) hKF hn10 hpx (by simp) (fun _ C hC=>by obtain rfl:=List.mem_singleton.1 hC;exact HOC.out) HTC.out)
 clear hBx hpx
 go_wp2_with (fail)
 go_at_call 15
 refine HF.out.mono ?_
 rintro e WB ⟨gv,rfl,hG,hBx⟩
 obtain ⟨ag1,ng1,cg1,rfl⟩:∃ a n c,gv = .slice a n c:=let ⟨a,c,h,_⟩:=hG;⟨a,_,c,h⟩
 have HG1:=Lib.hid hG
 have HXB:=Lib.hid (HXA.out.later hBx)
 have HB6B:=Lib.hid (Bt HB6A.out hBx)
 have HH1:=Lib.hid hBx
 clear hG hBx hWx HF
 clear x0 x1 x2 v0 v1 v2 v3 v4 v5 v6 v7 v8 v9 va' vb' vc' vd'
 have HB9B:=Lib.hid (show Below W9.heap.size W9 WB from Bt HA1.out HH1.out)
 have HFB:=Lib.hid ((HB9B.out.block _ (Array.getElem?_eq_some_iff.1 HF9.out).1).trans HF9.out)
 obtain ⟨x0,x1,x2⟩:=(can3 HFB.out).1
 obtain ⟨v0,v1,v2,v3,v4,v5,v6,v7,v8,v9,va',vb',vc',vd'⟩:=(can14 HXB.out.k1).1
 obtain ⟨WC,hWx⟩:∃ WX,WB.alloc (.cells #[.slice d1 d2 d3] 41)=WX:=⟨_,rfl⟩
 have hBx:=(laid1 WB (.cells #[.slice d1 d2 d3] 41)).2.2
 have hpx:=parts1 (v:=.slice d1 d2 d3) (HDB.out.ag (Ag.new _ HB9B.out))
 rw [hWx] at hBx hpx
 have hpx:=hpx.weak (q:=Dq w) (fun b hb=>by
  rcases hb with hb | hb
  ·exact hb
  ·exact Dq.of HXB.out.lt b (by omega))
 have HXC:=Lib.hid (HXB.out.later hBx)
 have HB6C:=Lib.hid (Bt HB6B.out hBx)
 have HA2:=Lib.hid hBx
 have HF:=Lib.hid (fold_any (T:=T) a0 a1 (Dq w) 8 _ _ _ (Tess.fine s) Q set [Tess.rollP (Tess.fine s).grain R] _ _ _ _ _ _ _ _ _ _ _ WC (HL.out.below HXC.out.below).vars (HL.out.below HXC.out.below).vn (HL.out.below HXC.out.below).et (HSF.out.ag (Ag.new _ HB6C.out)) (HQ6.out.ag (Ag.new _ HB6C.out)) (by omega) hKF hn10 hpx (by simp) (fun _ C hC=>by obtain rfl:=List.mem_singleton.1 hC;exact HOD.out) HTD.out)
 clear hBx hpx
 go_wp2_with (fail)
 go_at_call 15
 refine HF.out.mono ?_
 rintro e WD ⟨gv,rfl,hG,hBx⟩
 obtain ⟨ag2,ng2,cg2,rfl⟩:∃ a n c,gv = .slice a n c:=let ⟨a,c,h,_⟩:=hG;⟨a,_,c,h⟩
 have HG2:=Lib.hid hG
 have HXD:=Lib.hid (HXC.out.later hBx)
 have HB6D:=Lib.hid (Bt HB6C.out hBx)
 have HH2:=Lib.hid hBx
 clear hG hBx hWx HF
 clear x0 x1 x2 v0 v1 v2 v3 v4 v5 v6 v7 v8 v9 va' vb' vc' vd'
 by_cases h1:foldE s Q set=0
 ·have h2:=foldE_fine0 HRO.out.1 h1
  have hg1:=HG1.out.ag (Ag.new _ (Bt HA2.out HH2.out))
  have hg2:=HG2.out
  rw [foldR_fine HRO.out.1 h1 HRO.out.2] at hg2
  have HR1:=Lib.hid (rgroups_eq _ _ _ _ _ WD hg1 hg2)
  rw [h1,h2]
  clear hg1 hg2 h1 h2
  go_wp2_with (fail)
  go_at_call 16
  refine HR1.out.mono ?_
  rintro e WJ ⟨rfl,hBJ⟩
  have HBJ:=Lib.hid (HXD.out.below.trans (hBJ.mono HXD.out.below.size))
  clear hBJ
  go_wp2_with (fail)
  go_ret
  exact ⟨rfl,HBJ.out⟩
 ·have h2:=foldE_fine HRO.out.1 Q set
  generalize foldE s Q set=E at *
  generalize foldE (Tess.fine s) Q set=F at *
  have e1:((E:Int) != (0:Int))=true:=by rw [bne_iff_ne];omega
  by_cases h3:F=E
  ·subst h3
   have e2:((F:Int) == (F:Int))=true:=by simp
   go_wp2_with (fail)
   go_ret
   exact ⟨rfl,HXD.out.below⟩
  ·have h4:E=110:=h2.resolve_left h3
   subst h4
   have e2:((F:Int) == (110:Int))=false:=by rw [beq_eq_false_iff_ne];omega
   clear h1 h2
   go_wp2_with (fail)
   go_ret
   exact ⟨rfl,HXD.out.below⟩
end Go.Proofs.YtaddkkkchkdgkaaGreatDoor
namespace Go.Proofs.YtaddkkkchkdgkaaGreatDoor
open Go.RowKit Go.Sort
open Tess (Que)
theorem GroupGrainW_any {vs vq vr:Value} {rows0:List Tess.Row} {s0:Tess.Sch} {q0:Que} {P0:Prop} (set:Int) (w:World) (hV:∃ a0 a1,Lw Lib.goPrintTabs a0 a1 w) (hs:SchAt (fun _=>True) w vs s0) (hq:QueOk w vq q0) (hr:RowsIn (fun _=>True) w vr rows0) (hrng:∀ r ∈ rows0,r.rng) (_:P0) :
  Calls Tryz.prog 4 #[vs,vq,vr,.int .i64 set] w fun e w'=>e = .returned (.bool true)∧Below w.heap.size w w':=by
 obtain ⟨a0,a1,hL⟩:=hV
 exact GroupGrain_any a0 a1 w hL hs hq hr hrng
end Go.Proofs.YtaddkkkchkdgkaaGreatDoor
