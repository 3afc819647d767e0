/- Joined by mergeK.py: K84, K86h, FlT -/
import Derived.Test.YtaddkkkchkdgkaaGreatDoorCC48
import Derived.Test.YtaddkkkchkdgkaaGreatDoorCC42
import Derived.Test.YtaddkkkchkdgkaaGreatDoorCC43
import Derived.Test.YtaddkkkchkdgkaaGreatDoorCC29
import Derived.Maps.AppendAt
import Derived.Laws.AppendOwnNone
import Derived.Test.YtaddkkkchkdgkaaGreatDoorCC27
namespace Go.Proofs.YtaddkkkchkdgkaaGreatDoor
open Go.RowKit Go.Sort Go.Shelf
open Tess (CK Pay PO CO2 CO Que Fil gP)
theorem pts_len {pts:List (List (CK×Pay))} (h:∀ C ∈ pts,C.length≤1000):pts.flatten.length≤pts.length * 1000:=by
 induction pts with
 | nil=>simp
 | cons C l ih=>
   rw [List.flatten_cons,List.length_append,List.length_cons,Nat.succ_mul]
   have h1:=ih fun D hD=>h D (by simp [hD])
   have h2:=h C (by simp)
   omega
theorem so7 {p:Nat→Prop} {w:World} {v:Value} {l:List Nat} (h:SlP p w v (natV l)):∃ a c,v = .slice a l.length c∧l.length≤9223372036854775807∧∀ j (hj:j < l.length),∃ b off,a=some ⟨b,off,none⟩∧b < w.heap.size∧w.cell? ⟨b,off + j,none⟩=some (.int .i64 ((l[j]:Nat):Int)):=by
 obtain ⟨⟨hl,a,c,rfl,hc⟩,_,_⟩:=h
 have e:(natV l).length=l.length:=by unfold natV;simp
 refine ⟨a,c,by rw [e],by unfold maxLen at hl;omega,fun j hj => ?_⟩
 obtain ⟨b,off,ha,hb,Aa⟩:=hc (by omega)
 exact ⟨b,off,ha,hb,by rw [Aa j (by omega)];unfold natV;simp⟩
theorem own_shape {N k:Nat} {t:TypeId} {W:World} {v:Value} {n:Nat} {xs:List Value} (h:W.ownsRow N t k v n xs):∃ a c,v = .slice a n c:=by
 rcases h.2 with ⟨rfl,e⟩ | ⟨g,Ab,Aa,rfl,_⟩
 ·exact ⟨none,0,by rw [e]⟩
 ·exact ⟨_,_,rfl⟩
theorem flat_k {k:Nat}:∀ {us:List (List Value)},(∀ x ∈ us,x.length=k)→us.flatten.length=us.length * k
 | [],_=>by simp
 | x :: us,h=>by rw [List.flatten_cons,List.length_append,flat_k (fun y hy=>h y (by simp [hy])),h x (by simp),List.length_cons,Nat.succ_mul,Nat.add_comm]
theorem runR_bad {s:Tess.Sch} {q:Que} {C:List (CK×Pay)} (h:runE s q C≠0):runR s q C=[]:=if_neg h
set_option maxRecDepth 100000 in
set_option maxHeartbeats 8000000 in
theorem run_any {T:Lib.PrintTabs} (a0 a1:Addr) (p:Nat→Prop) (n:Nat) (vs v vp:Value) (s:Tess.Sch) (q:Que) (pts:List (List (CK×Pay))) (va vb vS f0 f1 f2 f3 f4 f5 vh vo:Value) (w:World) (hV:Vars a0 a1 w) (hVn:∀ w',Below w.heap.size w w'→Vn T w') (hE:w.cell? ⟨0,0,none⟩=some (.iface 229 (.agg #[.pointer (some ⟨14,89,none⟩)]))) (hs:SA p w vs s) (hq:QA p n w v q va vb vS f0 f1 f2 f3 f4 f5 vh vo) (hn:n≤100) (hK:kO2 q.fil) (hnm:q.names.length≤10) (hp:PartsAt p w vp pts) (hpl:pts.length≤13)
  (hok:Que.check s q=0→∀ C ∈ pts,CO s C) (htot:(pts.flatten.map (·.2.n)).sum≤1000) :
  Calls Tryz.prog 22 #[vs,v,vp] w fun e w' => ∃ v',e = .returned (.tuple #[v',.int .i64 (runE s q pts.flatten:Nat)])∧GA3 (fun b=>w.heap.size≤b) w' v' (runR s q pts.flatten)∧Below w.heap.size w w':=by
 have Ae:=Hd (fun W (hB:Below w.heap.size w W) (k:Nat)=>fold_any (T:=T) a0 a1 p n vs v vp s q (k:Int) pts va vb vS f0 f1 f2 f3 f4 f5 vh vo W (hV.below hB) (fun w' hB'=>hVn w' (Bt hB hB')) ((hB.cell (p:=⟨0,0,none⟩) (World.block_lt_of_cell? _ _ hE)).trans hE) (hs.ag (Ag.new p hB)) (hq.ag (Ag.new p hB)) hn hK hnm (hp.ag (Ag.new p hB)) hpl hok htot)
 have Ad:=Hd (fun W (hB:Below w.heap.size w W)=>sa2 a0 a1 p n vs v s q va vb vS f0 f1 f2 f3 f4 f5 vh vo W (hV.below hB) (hs.ag (Ag.new p hB)) (hq.ag (Ag.new p hB)) hn hK)
 obtain ⟨s0,s1,rfl,_⟩:=id hs
 have hv:=hq.e
 subst hv
 obtain ⟨ap,cp,rfl,_⟩:=LA.open hp
 obtain ⟨W0,Az⟩:∃ W0,(w.alloc (.cells #[s0,s1,.int .i64 s.grain] 24)).alloc (.cells #[va,vb,.int .i64 q.mode,vS,.int .i64 q.every,f0,f1,f2,f3,f4,f5,vh,vo,.int .i64 q.limit] 35)=W0:=⟨_,rfl⟩
 obtain ⟨k0,k1,kS,kB⟩:=la3 w (.cells #[s0,s1,.int .i64 s.grain] 24) (.cells #[va,vb,.int .i64 q.mode,vS,.int .i64 q.every,f0,f1,f2,f3,f4,f5,vh,vo,.int .i64 q.limit] 35)
 rw [Az] at k0 k1 kS kB
 obtain ⟨⟨x0,x1,x2⟩,_⟩:=can3 k0
 obtain ⟨y0,y1,y2,y3,y4,y5,y6,y7,y8,y9,ya,yb,yc,yd⟩:=(ca2 k1).1
 have Bl:=Hd k0
 have Bj:=Hd k1
 have A0:=Hd kS
 have HB:=Hd kB
 obtain ⟨C,hC⟩:∃ C,pts.flatten=C:=⟨_,rfl⟩
 by_cases h0:Que.check s q=0
 ·have A3:=Hd h0
  have A6:C.length≤13000:=by
   have:=pts_len (pts:=pts) fun D hD=>(hok h0 D hD).len
   rw [hC] at this
   omega
  have Bd:=Hd A6
  have Au:=Hd (Tess.sOf h0)
  have Bm:=Hd (Tess.sOl h0)
  rw [hC] at Ae ⊢
  rw [h0] at Ad
  obtain ⟨i0,hi,Bi,Bn,Bs⟩:=info_parts infoGrp6
  clear hs hq hp hV hVn hE hok hK k0 k1 kS kB h0 hC A6 htot hpl
  go_enter Tryz.func22,Tryz.ntmps22
  go_wp2_with (fail)
  go_at_call 23
  refine (Ad.out W0 HB.out).mono ?_
  rintro e W1 ⟨lv,rfl,hl,Af⟩
  rw [if_pos rfl] at hl
  obtain ⟨al,cl,rfl,B1,An⟩:=so7 hl
  have A4:=Hd An
  have Bz:=Hd Af
  have Ay:=Hd (Bt HB.out Af)
  have Bx:=Hd ((Af.block _ (by have:=A0.out;omega)).trans Bl.out)
  have Bo:=Hd ((Af.block _ (by have:=A0.out;omega)).trans Bj.out)
  have Bv:w.heap.size + 2≤W1.heap.size:=by have:=A0.out;have:=Af.size;omega
  clear hl An Af x0 x1 x2 y0 y1 y2 y3 y4 y5 y6 y7 y8 y9 ya yb yc yd Az
  go_wp2_with (fail)
  go_loopw [10,26] (fun ov i wr => ∃ (k:Nat) (us:List (List Value)),k≤(Que.sO q).length∧i = .int .i64 k∧OwnL W1.heap.size 7 56 GA2 (fun b=>w.heap.size≤b) wr ov us (rT s q C k)∧(rT s q C k=[]→ov = .slice none 0 0)∧Below W1.heap.size W1 wr) (fun _ i _=>(Que.sO q).length - (intOf i).toNat)
  case atStart=>exact ⟨0,[],Nat.zero_le _,rfl,OwnL.nil _,fun _=>rfl,Below.refl _ _⟩
  case round=>
   obtain ⟨k,us,hk,rfl,Al,Ar,Am⟩:=hrel
   obtain ⟨ov,Bg⟩:∃ ov,ov=u10:=⟨_,rfl⟩
   subst Bg
   have HO:=Hd Al
   have HN:=Hd Ar
   have Bp:=Hd Am
   have Bc:=(Am.block _ (by omega)).trans Bx.out
   have A9:=(Am.block _ (by omega)).trans Bo.out
   obtain ⟨⟨x0,x1,x2⟩,_⟩:=can3 Bc
   obtain ⟨y0,y1,y2,y3,y4,y5,y6,y7,y8,y9,ya,yb,yc,yd⟩:=(ca2 A9).1
   have Aw:=Hd (Bt Ay.out Am)
   have At:=runTo_len (s:=s) (q:=q) (C:=C) 13000 Bd.out k hk
   have Ah:=Hd (show us.length≤k * 13000 by rw [Al.len];exact At)
   clear Al Ar At Bc A9
   by_cases hlt:k < (Que.sO q).length
   ·have A8:(k:Int) < ((Que.sO q).length:Int):=by omega
    obtain ⟨bl,ol,rfl,Bb,An⟩:=A4.out k hlt
    have An:=(Am.cell (p:=⟨bl,ol + k,none⟩) Bb).trans An
    have HF:=Hd (Ae.out wr Aw.out (Que.sO q)[k])
    have A5:=Bm.out _ (List.getElem_mem hlt)
    have Aa:=Hd (rTs s q C k hlt)
    rw [fEs A3.out A5,fRs A3.out A5] at HF
    have hm:=Tess.gm3 s q (Que.sO q)[k] C
    have HM:=Hd (show (oS2 (((Que.sO q)[k]:Nat):Int) (gP s q (Que.sO q)[k] C)).length≤13000 by rw [oSl];have:=Bd.out;omega)
    have B2:k < 64:=by have:=Au.out;omega
    clear Bb Am A5 hm
    generalize (Que.sO q)[k]=x at *
    obtain ⟨G,hG⟩:∃ G,oS2 ((x:Nat):Int) (gP s q x C)=G:=⟨_,rfl⟩
    rw [hG] at HF Aa HM
    clear hG
    go_wp2_with (fail)
    go_at_call 15
    refine HF.out.mono ?_
    rintro e W2 ⟨gv,rfl,hg,A2⟩
    have HG:=Hd hg
    have As:=Hd (HO.out.below gn2 A2)
    have Ax:=Hd (Bt Bp.out A2)
    obtain ⟨xs,A1,Ba,A7,Aq⟩:=LA.cells hg (by omega)
    have Be:=Hd (show ∀ j (hj:j < G.length) (hj':j < xs.length),GA2 (fun b=>w.heap.size≤b∧ov.ownBlock≠some b) W2 xs[j] G[j] from fun j hj hj'=>(A7 j hj hj').weak fun b hb=>⟨by have:=Aw.out.size;omega,fun e=>by have:=(HO.out.own.lt b e).2;omega⟩)
    clear hg A2 A7 x0 x1 x2 y0 y1 y2 y3 y4 y5 y6 y7 y8 y9 ya yb yc yd An
    rcases Aq with ⟨rfl,rfl⟩ | ⟨ad,cg,rfl,Ac⟩
    ·obtain rfl:G=[]:=List.eq_nil_of_length_eq_zero (by simpa using A1.symm)
     go_wp2_with (at_builtin;refine wpList_append_own_none rfl _ _ 45 rfl W1.heap.size 56 i0 7 Tryz.underlying45 hi _ _ _ rfl As.out.own rfl ?_)
     go_wp2
     go_roundw
     case rel=>exact ⟨k + 1,us,by omega,by go_num,by rw [Aa.out,List.append_nil];exact As.out,(by rw [Aa.out,List.append_nil];exact HN.out),Ax.out⟩
     case measure=>simp [intOf];omega
    ·have Bq:=Hd Ac
     have Av:=Hd A1
     have By:=Hd Ba
     clear Ac A1 Ba
     go_wp2_with (at_builtin;refine wpList_append_own_at _ rfl _ _ 45 rfl W1.heap.size 56 i0 (.agg #[.int .i64 0,.int .i64 0,.slice none 0 0,.int .i64 0,.slice none 0 0,.slice none 0 0,.slice none 0 0]) 7 120 Tryz.underlying45 hi Bi Bn Bs rfl (by decide) _ _ _ rfl As.out.own ad G.length cg xs.flatten rfl ?c0 ?c1 ?c5 ?c2 ?c3 ?c4 ?_)
     case c0=>rw [flat_k By.out,Av.out]
     case c1=>exact Bq.out
     case c5=>
      intro u hu
      obtain ⟨y,hy,hu⟩:=List.mem_flatten.1 hu
      obtain ⟨j,hj,rfl⟩:=List.mem_iff_getElem.1 hy
      exact gn2.one (Be.out j (by have:=Av.out;omega) hj) u hu
     case c2=>have:=Ah.out;have:=HM.out;have:=Nat.mul_le_mul_right 13000 (show k≤64 by omega);unfold maxLen;omega
     case c3=>have:=Ah.out;have:=HM.out;have:=Nat.mul_le_mul_right 13000 (show k≤64 by omega);omega
     case c4=>exact Ax.out.size
     intro v' w3 Ak Ab Ai Aj
     have Bw:=Hd (As.out.mores gn2 Av.out Be.out (by rw [Av.out];exact Ak) Ab (Aj.imp_right Or.inl))
     have Bk:=Hd (Ax.out.grown Ab Ax.out.size (fun j e=>(As.out.own.lt j e).1))
     have Bh:=Hd (show rT s q C (k + 1)=[]→v' = .slice none 0 0 from fun h=>by
      rw [Aa.out,List.append_eq_nil_iff] at h
      exact Ai.2 ⟨HN.out h.1,by rw [h.2]⟩)
     clear Ak Ab Ai Aj
     go_wp2
     go_roundw
     case rel=>exact ⟨k + 1,us ++ xs,by omega,by go_num,by rw [Aa.out];exact Bw.out,Bh.out,Bk.out⟩
     case measure=>simp [intOf];omega
   ·have A8:¬ (k:Int) < ((Que.sO q).length:Int):=by omega
    obtain rfl:k=(Que.sO q).length:=by omega
    rw [runTo_all] at HO HN
    have Bf:=HO.out.len
    have B0:(runG s q C).length≤1000000:=by
     have h1:=Ah.out
     have h2:=Au.out
     have:=Nat.mul_le_mul_right 13000 h2
     omega
    have Bu:=Hd (show GA3 (fun b=>w.heap.size≤b) wr ov (runG s q C) from HO.out.listed gn2 (fun _ h=>h) (fun b hb=>by omega) (by unfold maxLen;omega) HN.out)
    obtain ⟨ag,cg,e⟩:=own_shape HO.out.own
    subst e
    rw [Bf] at *
    have hE:runE s q C=if 3000 < (runG s q C).length then 160 else 0:=by unfold runE;rw [A3.out,if_neg (by simp)]
    have hR:runR s q C=if 3000 < (runG s q C).length then [] else runG s q C:=by
     by_cases h3:3000 < (runG s q C).length
     ·rw [if_pos h3] at hE ⊢
      exact runR_bad (by omega)
     ·rw [if_neg h3] at hE ⊢
      exact rRz hE
    have Ap:=Hd hE
    have Ao:=Hd hR
    clear hE hR Am HO HN Ah Bf A8 hlt hk x0 x1 x2 y0 y1 y2 y3 y4 y5 y6 y7 y8 y9 ya yb yc yd
    by_cases h3:3000 < (runG s q C).length
    ·rw [if_pos h3] at Ap Ao
     have Br:(3000:Int) < ((runG s q C).length:Int):=by omega
     clear h3
     generalize (runG s q C).length=N at *
     go_wp2_with (fail)
     go_ret2
     exact ⟨_,by rw [Ap.out];rfl,by rw [Ao.out];exact LA.nil _ _ _ _,Aw.out⟩
    ·rw [if_neg h3] at Ap Ao
     have Br:¬ (3000:Int) < ((runG s q C).length:Int):=by omega
     clear h3
     go_wp2_with (fail)
     go_ret2
     exact ⟨_,by rw [Ap.out];rfl,by rw [Ao.out];exact Bu.out,Aw.out⟩
 ·have hE:runE s q C=Que.check s q:=by unfold runE;rw [if_pos h0]
  have hR:runR s q C=[]:=runR_bad (by rw [hE];exact h0)
  have Ap:=Hd hE
  have Ao:=Hd hR
  rw [hC]
  clear hs hq hp hV hVn hE hok hK k0 k1 kS kB hC htot hpl hR Ae
  generalize Que.check s q=c at *
  have e1:((c:Int) != (0:Int))=true:=by rw [bne_iff_ne];omega
  go_enter Tryz.func22,Tryz.ntmps22
  go_wp2_with (fail)
  go_at_call 23
  refine (Ad.out W0 HB.out).mono ?_
  rintro e W1 ⟨lv,rfl,hl,Af⟩
  rw [if_neg h0] at hl
  obtain ⟨al,cl,rfl,_,_⟩:=so7 (l:=[]) hl
  have Ay:=Hd (Bt HB.out Af)
  clear hl Af x0 x1 x2 y0 y1 y2 y3 y4 y5 y6 y7 y8 y9 ya yb yc yd Az
  go_wp2_with (fail)
  go_ret2
  exact ⟨_,by rw [Ap.out];rfl,by rw [Ao.out];exact LA.nil _ _ _ _,Ay.out⟩
end Go.Proofs.YtaddkkkchkdgkaaGreatDoor
namespace Go.Proofs.YtaddkkkchkdgkaaGreatDoor
open Go.RowKit Go.Sort
open Tess (Fil Que CK Pay CO2 CO gP)
def rC5 (s:Tess.Sch) (R:List Tess.Row):List (CK×Pay):=if rC2 s R=0 then Tess.rP s.grain R else []
theorem rCo {s:Tess.Sch} {q:Que} {R:List Tess.Row} (hlen:R.length≤50) (hrow:∀ r ∈ R,r.l.length≤1000∧r.ns.length≤1000∧r.rng) (h:Que.check s q=0):CO s (rC5 s R):=by
 unfold rC5
 split
 ·rename_i h0
  exact roll_cels h0 hlen hrow
 ·exact ⟨(Tess.cc2 h).1,Nat.zero_le _,(fun x hx=>by cases hx),List.Pairwise.nil⟩
theorem rCt (s:Tess.Sch) (R:List Tess.Row) (hlen:R.length≤50):([rC5 s R].flatten.map (·.2.n)).sum≤1000:=by
 simp only [List.flatten_cons,List.flatten_nil,List.append_nil]
 unfold rC5
 split
 ·have:=roll_tot s.grain R;omega
 ·simp
theorem rlC (p:Nat→Prop) (vs va:Value) (s:Tess.Sch) (R:List Tess.Row) (w:World) (hs:SA p w vs s) (hv:RowsIn p w va R) (hlen:R.length≤50) (hrow:∀ r ∈ R,r.l.length≤1000∧r.ns.length≤1000∧r.rng) :
  Calls Tryz.prog 14 #[vs,va] w fun e w' => ∃ a n c,e = .returned (.tuple #[.slice a n c,.int .i64 (rC2 s R)])∧CA3 (fun b=>w.heap.size≤b) w' (.slice a n c) (rC5 s R)∧Below w.heap.size w w':=by
 refine (roll_any p vs va s R w hs hv (by omega) hrow).mono ?_
 rintro e w' ⟨v,rfl,h0,h1,hB⟩
 unfold rC5
 by_cases hc:rC2 s R=0
 ·rw [if_pos hc]
  have h:=h0 hc
  obtain ⟨a,c,rfl,_⟩:=id (LA.open h)
  exact ⟨_,_,_,rfl,h,hB⟩
 ·rw [if_neg hc]
  obtain rfl:=h1 hc
  exact ⟨_,_,_,rfl,CA3.nilc _ _,hB⟩
theorem whole_set {n:Nat}:2 ^ n - 1 < 2 ^ n:=by have:=Nat.two_pow_pos n;omega
theorem totG_nonneg {M:Nat} {A:List Grp} (h:∀ y ∈ A,GO2 M y):0≤totG A:=by have:=(tGt h 0).1;have:=(tGt h 0).2;omega
end Go.Proofs.YtaddkkkchkdgkaaGreatDoor
namespace Go.FlowT
open Go Go.RowKit Go.Flow Go.FlowP
section
variable {P:Program} {ops:Array Oper}
def lHF (ops:Array Oper) (fin:Array Bool→Bool):Nat→Nat→Array Bool→Bool
 | 0,_,listed=>fin listed
 | f + 1,k,listed=>(Region.ready .any ops listed).contains k && Region.free .any ops listed k && lHF ops fin f (k + 1) (listed.setIfInBounds k true)
theorem aFl3 {S:Nat→Flow.Spec} {w0:World} {n t1:Nat} {ks:List Nat} {fin:Array Bool→Bool} {Lq:Act→(Nat→World→Prop)→Prop} (hsel:Region.noSelect ops=true) (hs:sT2 ops n t1=true) (hc:cT2 ops t1 ks=true) (hks:∀ k ∈ ks,n≤k) (hfin:∀ listed,fin listed=true→∀ j ∈ Region.ready .any ops listed,n≤j) :
  ∀ (l:List Oper) (k:Nat) (listed:Array Bool) (a:Act) (Γ:Nat→World→Prop),(∀ j,j < l.length→l[j]? = ops[k + j]?)→k + l.length=n→HInv ops n ks listed →
  lHF ops fin l.length k listed=true→Tree P ops S w0 Lq l k a Γ →
  aF P ops S w0 n (fun listed' a' Γ'=>fin listed'=true∧Lq a' Γ') l.length listed a Γ
 | [],k,listed,a,Γ,_,hk,_,hB,h=>⟨by simpa [lHF] using hB,h⟩
 | o :: l,k,listed,a,Γ,hl,hk,inv,hB,h=>by
   have h0:ops[k]? = some o:=by simpa using (hl 0 (by simp)).symm
   simp only [List.length_cons,lHF,Bool.and_eq_true] at hB
   obtain ⟨⟨hr,hf⟩,Ab⟩:=hB
   have Ac:k < n:=by simp only [List.length_cons] at hk;omega
   have Aa:k ∈ Region.ready .any ops listed:=by simpa using hr
   exact aFf h0 (Region.noSelect_spec hsel) hs hc Ac hks (fun listed' a' Γ' hL=>hfin listed' hL.1) l.length listed a Γ inv (Region.free_spec h0 hf) Aa h.1
    (fun v hv=>aFl3 hsel hs hc hks hfin l (k + 1) _ _ _ (fun j hj=>by have:=hl (j + 1) (by simp;omega);simpa [Nat.add_assoc,Nat.add_comm 1 j] using this) (by simp only [List.length_cons] at hk;omega) (inv.set Aa (fun hk=>by have:=hks k hk;omega)) Ab (h.2 v hv))
structure Fin (ops:Array Oper) (n:Nat) (ps:List Nat) (x y:Nat) (listed:Array Bool):Prop where
 r:Region.ready .any ops listed=[n]
 p:pO ops ps (listed.setIfInBounds n true)=true
 xy:∀ i ∈ Region.ready .any ops (after ps (listed.setIfInBounds n true)),i=x∨i=y
 ne:Region.ready .any ops (after ps (listed.setIfInBounds n true))≠[]
 sx:seqL ops [y] ((after ps (listed.setIfInBounds n true)).setIfInBounds x true)=true
 sy:seqL ops [x] ((after ps (listed.setIfInBounds n true)).setIfInBounds y true)=true
def finB (ops:Array Oper) (n:Nat) (ps:List Nat) (x y:Nat) (listed:Array Bool):Bool:=
 decide (Region.ready .any ops listed=[n]) && (pO ops ps (listed.setIfInBounds n true) && (((Region.ready .any ops (after ps (listed.setIfInBounds n true))).all fun i=>i == x || i == y) && ((!(Region.ready .any ops (after ps (listed.setIfInBounds n true))).isEmpty) &&
  (seqL ops [y] ((after ps (listed.setIfInBounds n true)).setIfInBounds x true) && seqL ops [x] ((after ps (listed.setIfInBounds n true)).setIfInBounds y true)))))
theorem Fin.of {n:Nat} {ps:List Nat} {x y:Nat} {listed:Array Bool} (h:finB ops n ps x y listed=true):Fin ops n ps x y listed:=by
 unfold finB at h
 obtain ⟨a1,h⟩:=Bool.and_eq_true_iff.1 h
 obtain ⟨a2,h⟩:=Bool.and_eq_true_iff.1 h
 obtain ⟨a3,h⟩:=Bool.and_eq_true_iff.1 h
 obtain ⟨a4,h⟩:=Bool.and_eq_true_iff.1 h
 obtain ⟨a5,a6⟩:=Bool.and_eq_true_iff.1 h
 refine ⟨of_decide_eq_true a1,a2,fun i hi => ?_,?_,a5,a6⟩
 ·have:=List.all_eq_true.1 a3 i hi
  simpa using this
 ·intro e;rw [e] at a4;cases a4
structure OkT (ops:Array Oper) (n:Nat) (ks ps:List Nat) (x y:Nat):Prop where
 sel:Region.noSelect ops=true
 s:sT2 ops n n=true
 c:cT2 ops n ks=true
 kn:∀ k ∈ ks,n≤k
 kl:∀ k ∈ ks,k < ops.size
 nl:n < ops.size
 len:n + (1 + (ps.length + 2))=ops.size
 lex:lHF ops (finB ops n ps x y) n 0 (Array.replicate ops.size false)=true
 rest:∀ j,j < ops.size→j < n∨ks.contains j=true
def okT (ops:Array Oper) (n:Nat) (ks ps:List Nat) (x y:Nat):Bool:=
 Region.noSelect ops && (sT2 ops n n && (cT2 ops n ks && ((ks.all fun k=>decide (n≤k)) && ((ks.all fun k=>decide (k < ops.size)) && (decide (n < ops.size) && (decide (n + (1 + (ps.length + 2))=ops.size) && (lHF ops (finB ops n ps x y) n 0 (Array.replicate ops.size false) &&
  ((List.range ops.size).all fun j=>decide (j < n) || ks.contains j))))))))
theorem OkT.of {n:Nat} {ks ps:List Nat} {x y:Nat} (h:okT ops n ks ps x y=true):OkT ops n ks ps x y:=by
 unfold okT at h
 obtain ⟨a1,h⟩:=Bool.and_eq_true_iff.1 h
 obtain ⟨a2,h⟩:=Bool.and_eq_true_iff.1 h
 obtain ⟨a3,h⟩:=Bool.and_eq_true_iff.1 h
 obtain ⟨a4,h⟩:=Bool.and_eq_true_iff.1 h
 obtain ⟨a5,h⟩:=Bool.and_eq_true_iff.1 h
 obtain ⟨a6,h⟩:=Bool.and_eq_true_iff.1 h
 obtain ⟨a7,h⟩:=Bool.and_eq_true_iff.1 h
 obtain ⟨a8,h⟩:=Bool.and_eq_true_iff.1 h
 refine ⟨a1,a2,a3,fun k hk=>of_decide_eq_true (List.all_eq_true.1 a4 k hk),fun k hk=>of_decide_eq_true (List.all_eq_true.1 a5 k hk),of_decide_eq_true a6,of_decide_eq_true a7,a8,fun j hj => ?_⟩
 rcases Bool.or_eq_true_iff.1 (List.all_eq_true.1 h j (List.mem_range.2 hj)) with h | h
 ·exact Or.inl (of_decide_eq_true h)
 ·exact Or.inr h
theorem upon_conv {o:Oper} {a:Act} {E E':Act→World→Prop} {K':Act→World→Prop} {r:Result Next} (hK:∀ b w,Qn E .normal b w→K' b w) (h:o.upon P a (wpList P ops (Qn E) []) (Qn E) r):o.upon P a K' (Qn E') r:=by
 cases r with
 | ok n w'=>
   cases n <;> simp only [Oper.upon] at h ⊢
   case value u=>exact hK _ _ h
   case skip=>exact hK _ _ h
   case defer d=>exact hK _ _ h
   case enter f args=>
    refine Calls.mono h fun e w'' he => ?_
    cases e with
    | returned u=>exact hK _ _ he
    | panicked c=>exact (by cases he.1)
    | outgrown=>exact (nl2 _ he).elim
   case row=>exact Rows.mono h fun u w'' he=>hK _ _ he
 | halt x w'=>
   cases x <;> simp only [Oper.upon] at h ⊢
   case panic=>exact (by cases h.1)
theorem wpAny_two {E:Act→World→Prop} {x y:Nat} {ox oy:Oper} {listed:Array Bool} {a:Act} {w:World} (hx:ops[x]? = some ox) (hy:ops[y]? = some oy)
  (hxy:∀ i ∈ Region.ready .any ops listed,i=x∨i=y) (hne:Region.ready .any ops listed≠[]) (sx:seqL ops [y] (listed.setIfInBounds x true)=true) (sy:seqL ops [x] (listed.setIfInBounds y true)=true)
  (h1:wpList P ops (Qn E) [ox,oy] a w) (h2:wpList P ops (Qn E) [oy,ox] a w):wpAny P .any ops (Qn E) 2 listed a w:=by
 refine ⟨fun h=>absurd h hne,fun i hi => ?_⟩
 rcases hxy i hi with rfl | rfl
 ·refine wpOp_mono (K:=wpList P ops (Qn E) [oy]) (fun b w' hb=>wAo3 [y] [oy] _ b w' (by simp [hy]) sx hb) ?_
  unfold wpOp;simp only [hx];exact h1
 ·refine wpOp_mono (K:=wpList P ops (Qn E) [ox]) (fun b w' hb=>wAo3 [x] [ox] _ b w' (by simp [hx]) sy hb) ?_
  unfold wpOp;simp only [hy];exact h2
set_option maxHeartbeats 1000000 in
theorem wp_region {id:Nat} {Q:Exit→Act→World→Prop} {a:Act} {w:World} {l:List Oper} {on ox oy:Oper} (n:Nat) (ks ps:List Nat) (x y:Nat) (S:Nat→Flow.Spec) (hm:P.follows .mixedOrders=true) (hB:okT l.toArray n ks ps x y=true) (hS:∀ i,(S i).mono)
  (hn:l.toArray[n]? = some on) (hx:l.toArray[x]? = some ox) (hy:l.toArray[y]? = some oy)
  (h:Tree P l.toArray S w (fun a' Γ => ∀ w',Below w.heap.size w w'→(∀ j,Γ j w')→wpList P l.toArray (Qn (fun a2 w2=>Pure P l.toArray ps (fun a3=>wpList P l.toArray (Qn (Q .normal)) [ox,oy] a3 w2∧wpList P l.toArray (Qn (Q .normal)) [oy,ox] a3 w2) a2)) [on] a' w') (l.take n) 0 a (fun _ _=>True)) :
  (Code.region id l.toArray true).wp P Q a w:=by
 obtain ⟨Aa,hs,hc,Ak,Aj,Al,Ae,Af,Ac⟩:=OkT.of hB
 have Ad:(l.take n).length=n:=by simp;simp at Al;omega
 have Ah:HInv l.toArray n ks (Array.replicate l.toArray.size false):=
  ⟨by simp,fun j oj hj hl=>(by rw [getD_replicate_false] at hl;cases hl),fun t ht=>getD_in (by simpa using Aj t ht) (getD_replicate_false _ _),fun j h1 h2 h3=>by
    rcases Ac j h2 with h | h
    ·omega
    ·exact absurd (by simpa using h) h3⟩
 have Ag:∀ listed:Array Bool,finB l.toArray n ps x y listed=true→∀ j ∈ Region.ready .any l.toArray listed,n≤j:=by
  intro listed hf j hj
  rw [(Fin.of hf).r] at hj
  have:j=n:=by simpa using hj
  omega
 have H:=aFl3 (t1:=n) Aa hs hc Ak (fin:=finB l.toArray n ps x y) Ag (l.take n) 0 _ a (fun _ _=>True) (fun j hj=>by
   have Ai:j < n:=by rw [Ad] at hj;exact hj
   simp [Ai]) (by simpa using Ad) Ah (by rw [Ad];exact Af) h
 refine wp_region_any hm (wAw _ _ _ _ ?_)
 suffices hLL:∀ (listed:Array Bool) (a':Act) (Γ':Nat→World→Prop) (w':World),(finB l.toArray n ps x y listed=true∧∀ w',Below w.heap.size w w'→(∀ j,Γ' j w')→wpList P l.toArray (Qn (fun a2 w2=>Pure P l.toArray ps (fun a3=>wpList P l.toArray (Qn (Q .normal)) [ox,oy] a3 w2∧wpList P l.toArray (Qn (Q .normal)) [oy,ox] a3 w2) a2)) [on] a' w')→Below w.heap.size w w'→(∀ j,Γ' j w')→wpAny P .any l.toArray (Qn (Q .normal)) (1 + (ps.length + 2)) listed a' w' by
  have H2:=wAo (Q:=Qn (Q .normal)) (g:=1 + (ps.length + 2)) hS hLL _ _ _ _ { w with drawn:=w.drawn + 1 } H ((Below.refl _ _).drew) (fun _=>trivial) (fun _ _ _ _ _=>trivial)
  rw [Ad,Ae] at H2
  exact H2
 ·intro listed a' Γ' w' hL hb hG
  obtain ⟨hf,hw⟩:=hL
  have F:=Fin.of hf
  have h1:=hw w' hb hG
  rw [show 1 + (ps.length + 2)=(ps.length + 2) + 1 by omega]
  refine ⟨fun h=>(by rw [F.r] at h;cases h),fun i hi => ?_⟩
  have Am:i=n:=by rw [F.r] at hi;simpa using hi
  subst Am
  have Ab:∀ b w2,(Qn (fun a2 w2=>Pure P l.toArray ps (fun a3=>wpList P l.toArray (Qn (Q .normal)) [ox,oy] a3 w2∧wpList P l.toArray (Qn (Q .normal)) [oy,ox] a3 w2) a2)) .normal b w2→wpAny P .any l.toArray (Qn (Q .normal)) (ps.length + 2) (listed.setIfInBounds i true) b w2:=by
   rintro b w2 ⟨_,hp⟩
   rw [show ps.length + 2=2 + ps.length by omega]
   exact wAp Aa ps _ b F.p (pm (fun a3 h3=>wpAny_two hx hy F.xy F.ne F.sx F.sy h3.1 h3.2) ps b hp)
  unfold wpList at h1
  unfold wpOp
  simp only [hn]
  split
  ·rename_i hwt
   rw [if_pos hwt] at h1
   have h1:=h1.resolve_right (fun h=>nl2 _ h.2)
   refine .inl ?_
   unfold Oper.wp at h1 ⊢
   exact upon_conv (fun b w2 hb=>Ab b w2 hb) h1
  ·rename_i hwt
   rw [if_neg hwt] at h1
   exact Ab _ _ h1
end
end Go.FlowT
