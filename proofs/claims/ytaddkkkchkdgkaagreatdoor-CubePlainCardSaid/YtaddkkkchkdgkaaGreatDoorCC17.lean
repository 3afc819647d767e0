/- Joined by mergeK.py: K26, F40, K17, K12 -/
import Derived.Test.YtaddkkkchkdgkaaGreatDoorCC16
import Derived.Test.YtaddkkkchkdgkaaGreatDoorCC12
import Derived.Test.YtaddkkkchkdgkaaGreatDoorCC14
import Derived.Test.YtaddkkkchkdgkaaGreatDoorCC06
import Derived.Test.YtaddkkkchkdgkaaGreatDoorCC11
import Derived.Maps.AppendAt
namespace Go.Proofs.YtaddkkkchkdgkaaGreatDoor
open Go.RowKit Go.Sort
open Tess (CK Pay)
def fullList (q:CK×Pay→Bool) (l:List (CK×Pay)) (a:Option Addr) (w:World):Prop:=
 ∀ k (hk:k < l.length),∃ b off,a=some ⟨b,off,none⟩∧b < w.heap.size∧∃ c0 c1 c2 c3 c4 c5,(w.cell? ⟨b,off + k * 6,none⟩=some c0∧w.cell? ⟨b,off + k * 6 + 1,none⟩=some c1∧w.cell? ⟨b,off + k * 6 + 2,none⟩=some c2∧w.cell? ⟨b,off + k * 6 + 3,none⟩=some c3∧w.cell? ⟨b,off + k * 6 + 4,none⟩=some c4∧w.cell? ⟨b,off + k * 6 + 5,none⟩=some c5) ∧
   ∀ W,Below w.heap.size w W→Calls Tryz.prog 58 #[.agg #[c0,c1,c2,c3,c4,c5]] W fun e w'=>e = .returned (.bool (q l[k]))∧Below W.heap.size W w'
set_option maxHeartbeats 1000000 in
theorem index_full (q:CK×Pay→Bool) (l:List (CK×Pay)) (a:Option Addr) (cap:Nat) (w:World) (hlen:l.length≤maxLen) (hc:fullList q l a w) :
  Calls Tryz.prog 95 #[.slice a l.length cap,.func (.func 58) #[] #[]] w fun e w' => ∃ i:Int,e = .returned (.int .i64 i)∧decide (0≤i)=l.any q∧Below w.heap.size w w':=by
 have HC:=Hd hc
 have Ag:l.length≤9223372036854775807:=by unfold maxLen at hlen;omega
 clear hc hlen
 go_enter Tryz.func95,Tryz.ntmps95
 go_wp2
 go_loopw [8] (fun i wr => ∃ k:Nat,k≤l.length∧i = .int .i64 k∧(∀ j (hj:j < l.length),j < k→q l[j]=false)∧Below w.heap.size w wr) (fun i _=>l.length - (intOf i).toNat)
 case atStart=>exact ⟨0,Nat.zero_le _,rfl,fun j _ h=>absurd h (Nat.not_lt_zero _),Below.refl _ _⟩
 case round=>
  obtain ⟨k,hk,rfl,Ac,hB⟩:=hrel
  have HA:=Hd Ac
  have HB:=Hd hB
  clear Ac hB
  by_cases hlt:k < l.length
  ·obtain ⟨b,Aa,rfl,hb,c0,c1,c2,c3,c4,c5,⟨g0,g1,g2,g3,g4,g5⟩,Ab⟩:=HC.out k hlt
   have e0:wr.cell? ⟨b,Aa + k * 6,none⟩=some c0:=(HB.out.cell (p:=⟨b,Aa + k * 6,none⟩) hb).trans g0
   have e1:wr.cell? ⟨b,Aa + k * 6 + 1,none⟩=some c1:=(HB.out.cell (p:=⟨b,Aa + k * 6 + 1,none⟩) hb).trans g1
   have e2:wr.cell? ⟨b,Aa + k * 6 + 2,none⟩=some c2:=(HB.out.cell (p:=⟨b,Aa + k * 6 + 2,none⟩) hb).trans g2
   have e3:wr.cell? ⟨b,Aa + k * 6 + 3,none⟩=some c3:=(HB.out.cell (p:=⟨b,Aa + k * 6 + 3,none⟩) hb).trans g3
   have e4:wr.cell? ⟨b,Aa + k * 6 + 4,none⟩=some c4:=(HB.out.cell (p:=⟨b,Aa + k * 6 + 4,none⟩) hb).trans g4
   have e5:wr.cell? ⟨b,Aa + k * 6 + 5,none⟩=some c5:=(HB.out.cell (p:=⟨b,Aa + k * 6 + 5,none⟩) hb).trans g5
   have HX:=Hd Ab
   clear g0 g1 g2 g3 g4 g5 Ab
   have Af:(k:Int) < (l.length:Int):=by omega
   cases hyx:q l[k]
   ·rw [hyx] at HX
    have HY:=Hd hyx
    clear hyx
    go_wp2_with (go_at_call 58;refine (HX.out _ HB.out).mono ?_;rintro e w2 ⟨rfl,Ad⟩;have Ae:=Hd Ad;clear Ad)
    go_roundw
    case rel=>
     refine ⟨k + 1,by omega,by go_num,fun j hj hjk => ?_,Bt HB.out Ae.out⟩
     by_cases hjk':j < k
     ·exact HA.out j hj hjk'
     ·obtain rfl:j=k:=by omega
      exact HY.out
    case measure=>simp [intOf];omega
   ·rw [hyx] at HX
    have HY:=Hd hyx
    clear hyx
    go_wp2_with (go_at_call 58;refine (HX.out _ HB.out).mono ?_;rintro e w2 ⟨rfl,Ad⟩;have Ae:=Hd Ad;clear Ad)
    go_ret
    refine ⟨(k:Int),rfl,?_,Bt HB.out Ae.out⟩
    rw [decide_eq_true (by omega),eq_comm,List.any_eq_true]
    exact ⟨l[k],List.getElem_mem hlt,HY.out⟩
  ·have Af:¬ (k:Int) < (l.length:Int):=by omega
   go_wp2
   go_ret
   refine ⟨-1,rfl,?_,HB.out⟩
   rw [decide_eq_false (by omega),eq_comm,List.any_eq_false]
   intro y hy
   obtain ⟨j,hj,rfl⟩:=List.getElem_of_mem hy
   rw [HA.out j hj (by omega)];simp
theorem contains_full (q:CK×Pay→Bool) (l:List (CK×Pay)) (a:Option Addr) (cap:Nat) (w:World) (hlen:l.length≤maxLen) (hc:fullList q l a w) :
  Calls Tryz.prog 57 #[.slice a l.length cap,.func (.func 58) #[] #[]] w fun e w'=>e = .returned (.bool (l.any q))∧Below w.heap.size w w':=by
 have HI:=Hd (index_full q l a cap w hlen hc)
 clear hc
 go_enter Tryz.func57,Tryz.ntmps57
 go_wp2_with (go_at_call 95;refine HI.out.mono ?_;rintro e w2 ⟨i,rfl,hi,hB⟩;have HH:=Hd hi;have HB:=Hd hB;clear hi hB)
 go_ret
 refine ⟨?_,HB.out⟩
 rw [← HH.out];rfl
set_option maxHeartbeats 1000000 in
theorem full1_any (t n:Int) (ad a3 a4 a5:Option Addr) (dn dc n3 c3 n4 c4 n5 c5:Nat) (W:World) :
  Calls Tryz.prog 58 #[.agg #[.int .i64 t,.slice ad dn dc,.int .i64 n,.slice a3 n3 c3,.slice a4 n4 c4,.slice a5 n5 c5]] W fun e w'=>e = .returned (.bool (decide (1000000 < n)))∧Below W.heap.size W w':=by
 obtain ⟨W0,Aa⟩:∃ W0,W.alloc (.cells #[.int .i64 t,.slice ad dn dc,.int .i64 n,.slice a3 n3 c3,.slice a4 n4 c4,.slice a5 n5 c5] 83)=W0:=⟨_,rfl⟩
 obtain ⟨k0,kS,kB⟩:=la2 W (.cells #[.int .i64 t,.slice ad dn dc,.int .i64 n,.slice a3 n3 c3,.slice a4 n4 c4,.slice a5 n5 c5] 83)
 rw [Aa] at k0 kS kB
 obtain ⟨⟨f0,f1,f2,f3,f4,f5⟩,_⟩:=can6 k0
 go_enter Tryz.func58,Tryz.ntmps58
 go_wp2
 go_ret
 exact ⟨rfl,kB⟩
set_option maxHeartbeats 2000000 in
theorem ends_any (p:Nat→Prop) (va:Value) (L:List (CK×Pay)) (w:World) (hv:CA3 p w va L) (hl:L.length≤1000) (hn:∀ x ∈ L,x.2.n≤1000000) :
  Calls Tryz.prog 32 #[va] w fun e w'=>e = .returned (.tuple #[va,.int .i64 0])∧Below w.heap.size w w':=by
 obtain ⟨a,Ad,rfl,_,hm,_,hc⟩:=LA.open hv
 have HC:=Hd (contains_full (fun x=>decide (1000000 < x.2.n)) L a Ad w hm (fun k hk=>by
  obtain ⟨b,Af,h1,h2,_,cs,_,Ab,Aa⟩:=hc k hk
  obtain ⟨ad,cd,a3,c3,a4,c4,a5,c5,rfl,_⟩:=Ab.shapes
  exact ⟨b,Af,h1,h2,_,_,_,_,_,_,⟨Aa 0 (by omega),Aa 1 (by omega),Aa 2 (by omega),Aa 3 (by omega),Aa 4 (by omega),Aa 5 (by omega)⟩,fun W _=>full1_any _ _ _ _ _ _ _ _ _ _ _ _ _ _ W⟩))
 have hf:L.any (fun x=>decide (1000000 < x.2.n))=false:=List.any_eq_false.2 fun x hx=>by have:=hn x hx;simp;omega
 rw [hf] at HC
 have Ag:¬ (1000:Int) < (L.length:Int):=by omega
 clear hc hv
 go_enter Tryz.func32,Tryz.ntmps32
 go_wp2_with (go_at_call 57;refine HC.out.mono ?_;rintro e w2 ⟨rfl,Ac⟩;have Ae:=Hd Ac;clear Ac)
 go_ret2
 exact ⟨rfl,Ae.out⟩
end Go.Proofs.YtaddkkkchkdgkaaGreatDoor
namespace Go.Proofs.YtaddkkkchkdgkaaGreatDoor
open Go.RowKit Go.Sort
open Tess (Fil)
def oC (s:Tess.Sch) (t:Int) (l:List Tess.Val) (n:Nat):Int:=if Tess.sO2 s then (if Tess.rowFits s t l n then 0 else 101) else 100
theorem slp_int_at {p:Nat→Prop} {w:World} {a:Option Addr} {n c:Nat} {ns:List Int} (h:SlP p w (.slice a n c) (ns.map (.int .i64))) (k:Nat) (hk:k < ns.length):∃ b off,a=some ⟨b,off,none⟩∧b < w.heap.size∧w.cell? ⟨b,off + k,none⟩=some (.int .i64 ns[k]):=by
 obtain ⟨⟨_,a',c',e,hc⟩,_,_⟩:=h
 simp only [Value.slice.injEq] at e
 obtain ⟨rfl,_,_⟩:=e
 obtain ⟨b,off,ha,hb,Aa⟩:=hc (by simp;omega)
 exact ⟨b,off,ha,hb,by rw [Aa k (by simpa using hk),List.getElem_map]⟩
end Go.Proofs.YtaddkkkchkdgkaaGreatDoor
namespace Go.Proofs.YtaddkkkchkdgkaaGreatDoor
open Go.RowKit Go.Sort
open Tess (CK Pay)
theorem rowsI_of_slp {p:Nat→Prop} {w:World} {a:Option Addr} {c:Nat} {ns:List Int} (h:SlP p w (.slice a ns.length c) (ns.map (.int .i64))) (hc:ns.length≤c):RA 1 intF p w (.slice a ns.length c) ns:=by
 obtain ⟨⟨h0,a',c',hv,Aa⟩,hp,hn⟩:=h
 simp only [Value.slice.injEq] at hv
 obtain ⟨rfl,_,rfl⟩:=hv
 rw [List.length_map] at h0
 refine ⟨a,c,rfl,h0,hc,(fun e=>by subst e;exact hn _ _ rfl),fun hl => ?_⟩
 obtain ⟨b,Ab,rfl,hb,Ac⟩:=Aa (by simpa using hl)
 refine ⟨b,Ab,rfl,hb,hp (by simpa using hl) b rfl,fun j hj i hi => ?_⟩
 obtain rfl:i=0:=by omega
 rw [Nat.mul_one,Nat.add_zero,Ac j (by simpa using hj)]
 simp [intF]
def OfPost (s:Tess.Sch) (r:Tess.Row) (N:Nat) (w':World) (cs:List Value):Prop:=(Tess.Row.ok s r=true∧CA2 (fun b=>N≤b) w' cs (Tess.Row.kp s.grain r))∨(Tess.Row.ok s r=false∧cs=[.int .i64 0,.slice none 0 0,.int .i64 0,.slice none 0 0,.slice none 0 0,.slice none 0 0])
set_option maxRecDepth 100000 in
set_option maxHeartbeats 4000000 in
theorem of6_any (p:Nat→Prop) (vs vr:Value) (s:Tess.Sch) (r:Tess.Row) (w:World) (hs:SA p w vs s) (hr:RA2 p w vr r.t r.l r.ns) (hll:r.l.length≤1000) (hnl:r.ns.length≤1000) (hrg:r.rng) :
  Calls Tryz.prog 31 #[vs,vr] w fun e w' => ∃ cs:List Value,e = .returned (.tuple #[.agg cs.toArray,.int .i64 (oC s r.t r.l r.ns.length)])∧OfPost s r w.heap.size w' cs∧Below w.heap.size w w':=by
 obtain ⟨t,l,ns⟩:=r
 simp only at hr hll hnl ⊢
 have Bq:=Hd (show ∀ k (h:k < ns.length),I64 ns[k] from fun k h=>hrg _ (List.getElem_mem h))
 have A4:=Hd (show Tess.rowFits s t l ns.length=true→(l.map Tess.Val.c).map Tess.valOf=l from fun h=>Tess.valOf_cs (by unfold Tess.rowFits at h;simp only [Bool.and_eq_true] at h;exact h.2))
 clear hrg
 have HR:=Hd (fun W (hB:Below w.heap.size w W)=>sRa vs s p W (hs.ag (Ag.new p hB)))
 have HF:=Hd (fun W (hB:Below w.heap.size w W)=>sFits_any p vs vr s t l ns W (hs.ag (Ag.new p hB)) (hr.ag (Ag.new p hB)))
 obtain ⟨vd,vm,rfl,hd,hm,_,_⟩:=hs
 obtain ⟨ad,At,rfl,_⟩:=sl3 hd
 obtain ⟨am,Aq,rfl,_⟩:=sl3 hm
 obtain ⟨Cy,na,nc,rfl,Cg,hv,hn⟩:=hr
 have HV:=Hd hv
 have HN:=Hd hn
 obtain ⟨da,dc,rfl,_,_,_,_⟩:=hv
 clear hd hm hn
 obtain ⟨W0,Av⟩:∃ W0,((w.alloc (.cells #[.slice ad s.dims.length At,.slice am s.mets.length Aq,.int .i64 s.grain] 24)).alloc (.cells #[.int .i64 t,.slice da l.length dc,.slice na ns.length nc] 74)).alloc (.cells #[.int .i64 0,.slice none 0 0,.int .i64 0,.slice none 0 0,.slice none 0 0,.slice none 0 0] 83)=W0:=⟨_,rfl⟩
 obtain ⟨h0,h1,h2,hS,hB⟩:=laid3 w (.cells #[.slice ad s.dims.length At,.slice am s.mets.length Aq,.int .i64 s.grain] 24) (.cells #[.int .i64 t,.slice da l.length dc,.slice na ns.length nc] 74) (.cells #[.int .i64 0,.slice none 0 0,.int .i64 0,.slice none 0 0,.slice none 0 0,.slice none 0 0] 83)
 rw [Av] at h0 h1 h2 hS hB
 rw [show w.heap.size + 2=w.heap.size + 1 + 1 by omega] at h2
 obtain ⟨⟨x0,x1,x2⟩,_⟩:=can3 h0
 have HB:=Hd hB
 have Ca:=Hd hS
 have HC:=Hd (fun W (hW:Below W0.heap.size W0 W)=>And.intro ((hW.block _ (by omega)).trans h0) (And.intro ((hW.block _ (by omega)).trans h1) ((hW.block _ (by omega)).trans h2)))
 clear h0 h1 h2 hS hB
 cases hok:Tess.sO2 s
 ·rw [hok] at HR
  have Ab:oC s t l ns.length=100:=by unfold oC;rw [hok];rfl
  have Aa:Tess.rowFits s t l ns.length=false:=by unfold Tess.rowFits;rw [hok];simp
  have An:=Hd (show Tess.Row.ok s ⟨t,l,ns⟩=false from Aa)
  rw [Ab]
  clear Ab Aa
  go_enter Tryz.func31,Tryz.ntmps31
  go_wp2_with (fail)
  go_at_call 30
  refine (HR.out W0 HB.out).mono ?_
  rintro e w1 ⟨rfl,Ae⟩
  obtain ⟨_,_,q2⟩:=HC.out w1 Ae
  obtain ⟨_,f0,f1,f2,f3,f4,f5⟩:=can6 q2
  clear x0 x1 x2 Av
  go_wp2_with (fail)
  have Af:=Bt HB.out Ae
  have q1:=set6 (.int .i64 0) (.slice none 0 0) (.int .i64 0) (.slice none 0 0) (.slice none 0 0) (.slice none 0 0) q2
  have qB:=sb2 (.int .i64 0) (.slice none 0 0) (.int .i64 0) (.slice none 0 0) (.slice none 0 0) (.slice none 0 0) Af (show w.heap.size≤w.heap.size + 1 + 1 by omega)
  obtain ⟨⟨e0,e1,e2,e3,e4,e5⟩,_⟩:=can6 q1
  refine bodyPost_ret (v:=.tuple #[.agg #[.int .i64 0,.slice none 0 0,.int .i64 0,.slice none 0 0,.slice none 0 0,.slice none 0 0],.int .i64 100]) (by simp [results,Tryz.results31,go_sem,e0,e1,e2,e3,e4,e5]) rfl ⟨[.int .i64 0,.slice none 0 0,.int .i64 0,.slice none 0 0,.slice none 0 0,.slice none 0 0],rfl,.inr ⟨An.out,rfl⟩,qB⟩
 ·rw [hok] at HR
  cases Aa:Tess.rowFits s t l ns.length
  ·rw [Aa] at HF
   have Ab:oC s t l ns.length=101:=by unfold oC;rw [hok,Aa];rfl
   have An:=Hd (show Tess.Row.ok s ⟨t,l,ns⟩=false from Aa)
   rw [Ab]
   clear Ab
   go_enter Tryz.func31,Tryz.ntmps31
   go_wp2_with (fail)
   go_at_call 30
   refine (HR.out W0 HB.out).mono ?_
   rintro e w1 ⟨rfl,Ae⟩
   obtain ⟨q0,q1,_⟩:=HC.out w1 Ae
   clear x0 x1 x2 Av
   obtain ⟨⟨x0,x1,x2⟩,_⟩:=can3 q0
   obtain ⟨⟨y0,y1,y2⟩,_⟩:=can3 q1
   have Al:=Hd Ae
   clear q0 q1 Ae
   go_wp2_with (fail)
   go_at_call 54
   refine (HF.out w1 (Bt HB.out Al.out)).mono ?_
   rintro e w2 ⟨rfl,Af⟩
   have Af:=Bt Al.out Af
   obtain ⟨_,_,q2⟩:=HC.out w2 Af
   obtain ⟨_,f0,f1,f2,f3,f4,f5⟩:=can6 q2
   clear x0 x1 x2 y0 y1 y2
   go_wp2_with (fail)
   have q1:=set6 (.int .i64 0) (.slice none 0 0) (.int .i64 0) (.slice none 0 0) (.slice none 0 0) (.slice none 0 0) q2
   have qB:=sb2 (.int .i64 0) (.slice none 0 0) (.int .i64 0) (.slice none 0 0) (.slice none 0 0) (.slice none 0 0) (Bt HB.out Af) (show w.heap.size≤w.heap.size + 1 + 1 by omega)
   obtain ⟨⟨e0,e1,e2,e3,e4,e5⟩,_⟩:=can6 q1
   refine bodyPost_ret (v:=.tuple #[.agg #[.int .i64 0,.slice none 0 0,.int .i64 0,.slice none 0 0,.slice none 0 0,.slice none 0 0],.int .i64 101]) (by simp [results,Tryz.results31,go_sem,e0,e1,e2,e3,e4,e5]) rfl ⟨[.int .i64 0,.slice none 0 0,.int .i64 0,.slice none 0 0,.slice none 0 0,.slice none 0 0],rfl,.inr ⟨An.out,rfl⟩,qB⟩
  ·rw [Aa] at HF
   have B8:=Hd (A4.out Aa)
   have An:=Hd (show Tess.Row.ok s ⟨t,l,ns⟩=true from Aa)
   have Ab:oC s t l ns.length=0:=by unfold oC;rw [hok,Aa];rfl
   rw [Ab]
   have Ah:(0≤t∧t≤1000000000000)∧(1≤s.grain∧s.grain≤1000000000):=by
    unfold Tess.rowFits at Aa
    unfold Tess.sO2 at hok
    simp only [Bool.and_eq_true,decide_eq_true_eq] at Aa hok
    exact ⟨⟨Aa.1.1.1.1.2,Aa.1.1.1.2⟩,hok.1.1.2,hok.1.2⟩
   have HG:=Hd (fun W=>gCut_any t s.grain W Ah.1 Ah.2)
   generalize hT:t - t % s.grain=T at *
   have Bx:=Hd hT
   clear Ab Ah hok Aa hT
   go_enter Tryz.func31,Tryz.ntmps31
   go_wp2_with (fail)
   go_at_call 30
   refine (HR.out W0 HB.out).mono ?_
   rintro e w1 ⟨rfl,Ae⟩
   obtain ⟨q0,q1,_⟩:=HC.out w1 Ae
   clear x0 x1 x2 Av
   obtain ⟨⟨x0,x1,x2⟩,_⟩:=can3 q0
   obtain ⟨⟨y0,y1,y2⟩,_⟩:=can3 q1
   have Al:=Hd Ae
   clear q0 q1 Ae
   go_wp2_with (fail)
   go_at_call 54
   refine (HF.out w1 (Bt HB.out Al.out)).mono ?_
   rintro e w2 ⟨rfl,Af⟩
   have Bm:=Hd (Bt Al.out Af)
   clear x0 x1 x2 y0 y1 y2 Af
   obtain ⟨q0,q1,_⟩:=HC.out w2 Bm.out
   obtain ⟨⟨x0,x1,x2⟩,_⟩:=can3 q0
   obtain ⟨⟨y0,y1,y2⟩,_⟩:=can3 q1
   clear q0 q1
   go_wp2_with (fail)
   go_at_call 55
   refine (HG.out w2).mono ?_
   rintro e w3 ⟨rfl,Bo⟩
   have A0:=Hd (Bt Bm.out Bo)
   clear x0 x1 x2 y0 y1 y2 Bo
   obtain ⟨q0,q1,q2⟩:=HC.out w3 A0.out
   obtain ⟨⟨y0,y1,y2⟩,_⟩:=can3 q1
   obtain ⟨W4,Bg⟩:∃ W4,w3.alloc (.cells #[.int .i64 T,.slice da l.length dc,.int .i64 1,.slice none 0 0,.slice na ns.length nc,.slice na ns.length nc] 126)=W4:=⟨_,rfl⟩
   obtain ⟨k0,kS,kB⟩:=la2 w3 (.cells #[.int .i64 T,.slice da l.length dc,.int .i64 1,.slice none 0 0,.slice na ns.length nc,.slice na ns.length nc] 126)
   rw [Bg] at k0 kS kB
   have k1:=(kB.block _ (Array.getElem?_eq_some_iff.1 q1).1).trans q1
   have k2:=(kB.block _ (Array.getElem?_eq_some_iff.1 q2).1).trans q2
   obtain ⟨⟨u0,u1,u2⟩,_⟩:=can3 k1
   obtain ⟨G,hG⟩:∃ G,w3.heap.size=G:=⟨_,rfl⟩
   have Bh:=Hd k0
   have Cc:=Hd k2
   have Bj:=Hd kS
   have B6:=Hd (Bt (Bt HB.out A0.out) kB)
   have Aw:=Hd (show w.heap.size + 3≤w3.heap.size by have:=A0.out.size;have:=Ca.out;omega)
   clear q0 q1 q2 k0 k1 k2 kS kB
   go_wp2_with (fail)
   clear y0 y1 y2 u0 u1 u2 Bg
   obtain ⟨i0,hi,Bu,B2,B5⟩:=info_parts infoWide
   obtain ⟨N,hN⟩:∃ N,N=W4.heap.size:=⟨_,rfl⟩
   rw [hG] at Bh Bj Aw
   have Cd:=Hd hN
   have Cq:=Hd hG
   have A8:N=G + 1:=by rw [hN];exact Bj.out
   clear hN hG
   have As:=Hd A8
   clear A8
   go_loopw [42] (fun i wr => ∃ (k:Nat) (sv:Value),k≤ns.length∧i = .int .i64 k∧wr.heap[G]? = some (.cells #[.int .i64 T,.slice da l.length dc,.int .i64 1,sv,.slice na ns.length nc,.slice na ns.length nc] 126 (0,0))∧wr.heap[w.heap.size + 1 + 1]? = some (.cells #[.int .i64 0,.slice none 0 0,.int .i64 0,.slice none 0 0,.slice none 0 0,.slice none 0 0] 83 (0,0))∧wr.ownsRow N 60 2 sv k ((ns.take k).flatMap wF)∧(k=0→sv = .slice none 0 0)∧Below w.heap.size w wr∧N≤wr.heap.size) (fun i _=>ns.length - (intOf i).toNat)
   case atStart=>exact ⟨0,_,Nat.zero_le _,rfl,Bh.out,Cc.out,World.ownsRow_nil _ _ _ _,(fun _=>rfl),B6.out,by rw [Cd.out];exact Nat.le_refl _⟩
   case round=>
    obtain ⟨k,sv,hk,rfl,hg,hz,Am,Ap,Bf,Co⟩:=hrel
    have Bl:=Hd hg
    have Ao:=Hd hz
    have HO:=Hd Am
    have Br:=Hd Ap
    have Aj:=Hd Bf
    obtain ⟨⟨g0,g1,g2,g3,g4,g5⟩,_⟩:=can6 hg
    have Ay:G < wr.heap.size:=by have:=As.out;omega
    clear hg hz Am Ap Bf
    by_cases hlt:k < ns.length
    ·obtain ⟨b,B3,rfl,hb,hc⟩:=slp_int_at HN.out k hlt
     have B1:=(Aj.out.cell (p:=⟨b,B3 + k,none⟩) hb).trans hc
     have Cs:b < wr.heap.size:=Nat.lt_of_lt_of_le hb Aj.out.size
     have B4:(k:Int) < (ns.length:Int):=by omega
     have HW:=Hd (fun W=>wOf_eq ns[k] (Bq.out k hlt) W)
     have Ce:=Hd (show (ns.take k).flatMap wF ++ [.int .i64 (wHi ns[k]),.int .u64 (wLo ns[k])]=(ns.take (k + 1)).flatMap wF by rw [List.take_succ_eq_append_getElem hlt,List.flatMap_append];rfl)
     clear hc hb
     go_wp2_with (fail)
     refine Flow.wrf 6 (Flow.sp3 [.inl ?_,.inl ?_,.inl ?_,.inl ?_,.inr (isV (.agg #[.int .i64 (wHi ns[k]),.int .u64 (wLo ns[k])])),.inr (nT (.int .i64 (wHi ns[k])) (.int .u64 (wLo ns[k])))]) (by kernel_rfl) (by kernel_rfl) ?_ ?_
     rotate_left 4
     ·refine Flow.sm2 ?_
      repeat (first | exact Flow.ln2 | refine Flow.li2 ?_ | refine Flow.li3 (isV_mono _) ?_ | refine Flow.li3 (nTm _ _) ?_)
     all_goals try simp only [List.take_succ_cons,List.take_zero,List.drop_succ_cons,List.drop_zero]
     iterate 4 (refine Flow.tvK rfl (fun K hK=>⟨fun w hw hG => ?_,?_⟩);(have Ck:=Flow.bc4 hw;clear hG hw;unfold Flow.Runs Flow.yields;go_simp;try rfl);go_simp;refine hK _ ?_;clear hK K)
     (refine Flow.tvK2 rfl (fun K hK=>⟨fun w hw hG => ?_,?_⟩);(clear hG hw;unfold Flow.Runs Flow.yields;go_simp;refine (HW.out _).mono ?_;rintro e w5 ⟨rfl,B9⟩;exact ⟨_,rfl,B9,rfl⟩);intro vz;go_simp;refine hK _ _ ?_;clear hK K)
     (refine Flow.tvK2 rfl (fun K hK=>⟨fun w hw hG => ?_,?_⟩);(obtain rfl:=(show vz = .agg #[.int .i64 (wHi ns[k]),.int .u64 (wLo ns[k])] by simpa [Flow.upd,isV] using hG 4 (by kernel_rfl));clear hG;unfold Flow.Runs Flow.yields;go_simp;exact ⟨(la2 _ _).2.2,nTm2 _ _ _ _⟩);intro vy;go_simp;refine hK _ _ ?_;clear hK K)
     refine Flow.tn2 fun w5 hw5 hG => ?_
     obtain ⟨gn,rfl,Ci,Bd,Bp⟩:=(show nT (.int .i64 (wHi ns[k])) (.int .u64 (wLo ns[k])) vy w5 by simpa [Flow.upd] using hG 5)
     clear hG
     have Au:=Hd (ob2 HO.out hw5)
     have HY:=Hd (And.intro Bd Bp)
     have Bi:=Hd ((hw5.block _ Ay).trans Bl.out)
     have Ba:=Hd ((hw5.block _ (Array.getElem?_eq_some_iff.1 Ao.out).1).trans Ao.out)
     have Bk:=Hd (Bt Aj.out hw5)
     have Cf:=hw5.size
     have Ak:=Hd (show w.heap.size + 3 < N by have:=As.out;have:=Aw.out;omega)
     clear hw5 Bd Bp g0 g1 g2 g3 g4 g5 B1 HO Bl Ao
     go_wp2_with (have Cb:=HY;clear Cb;at_builtin;refine wpList_append_own_at _ rfl _ _ 53 rfl N 60 i0 (.agg #[.int .i64 0,.int .u64 0]) 2 16 Tryz.underlying53 hi Bu B2 B5 rfl (by decide) _ k _ rfl Au.out ⟨gn,0,none⟩ 1 1 [.int .i64 (wHi ns[k]),.int .u64 (wLo ns[k])] rfl rfl ?_ ?_ ?_ ?_ ?_ ?_)
     ·intro j u hj
      rcases j with _ | _ | j
      ·simp at hj;subst hj;simpa [Addr.add] using HY.out.1
      ·simp at hj;subst hj;simpa [Addr.add] using HY.out.2
      ·simp at hj
     ·exact wFo ns[k]
     ·unfold maxLen;omega
     ·omega
     ·omega
     intro v6 w6 Ad Ac _ _
     obtain ⟨gg,cp,rfl,_⟩:=oca Ad (by omega)
     have A2:∀ b,b < N→some b≠sv.ownBlock:=fun b hb e=>by have:=(Au.out.lt b e.symm).1;omega
     have Bn:=Hd ((Ac.block G (by omega) (A2 G (by have:=As.out;omega))).trans Bi.out)
     have Bv:=Hd ((Ac.block (w.heap.size + 1 + 1) (by have:=Ak.out;omega) (A2 _ (by have:=Ak.out;omega))).trans Ba.out)
     have B7:=Hd (Bk.out.grown Ac (by have:=Ak.out;omega) (fun j e=>by have:=(Au.out.lt j e).1;have:=Ak.out;omega))
     have B0:=Hd Ad
     have Ct:=Ac.size
     obtain ⟨_,f0,f1,f2,f3,f4,f5⟩:=can6 Bn.out
     clear Ad Ac A2 HY Au Bi Ba Bk
     go_wp2
     go_roundw
     case rel=>
      have Cm:=As.out
      have Cj:=Ak.out
      have Ch:=Aw.out
      refine ⟨k + 1,_,by omega,by go_num,heap_setCell_same _ _ _ _ _ _ Bn.out,(heap_setCell_other _ _ _ _ (show w.heap.size + 1 + 1≠G by omega)).trans Bv.out,ownsRow_setCell_below (by rw [← Ce.out];exact B0.out) (show G < N by omega) _,(fun h=>by omega),B7.out.setCell (show w.heap.size≤G by omega) _,by simp [World.setCell];omega⟩
     case measure=>simp [intOf];omega
    ·have B4:¬ (k:Int) < (ns.length:Int):=by omega
     have A3:=Aj.out
     have A1:k=ns.length:=by omega
     have Ai:RA 1 intF p wr (.slice na ns.length nc) ns:=rowsI_of_slp (HN.out.ag (Ag.new p A3)) (by omega)
     have Be:RA 2 wF (fun b=>N≤b) wr sv ns:=by
      have ho:=HO.out
      rw [A1,List.take_length] at ho
      exact ro2 (fun _ _=>rfl) ho (by unfold maxLen;omega) (fun h=>Br.out (by rw [A1,h];rfl))
     have Ar:CA2 (fun _=>True) wr [.int .i64 T,.slice da l.length dc,.int .i64 1,sv,.slice na ns.length nc,.slice na ns.length nc] ((T,l.map Tess.Val.c),⟨1,ns,ns,ns⟩):=
      ⟨_,_,_,_,rfl,by show VA _ _ _ ((l.map Tess.Val.c).map Tess.valOf);rw [B8.out];exact (HV.out.ag (Ag.new p A3)).weak fun _ _=>trivial,Be.weak fun _ _=>trivial,Ai.weak fun _ _=>trivial,Ai.weak fun _ _=>trivial⟩
     have A5:=Hd (own6_any _ _ _ wr Ar ⟨by simp;omega,by show ns.length≤_;omega,by show ns.length≤_;omega,by show ns.length≤_;omega⟩)
     clear Ar Be Ai A1
     have Bz:∃ a n c,sv = .slice a n c:=by
      rcases HO.out.2 with ⟨rfl,_⟩ | ⟨g,Cp,Cw,rfl,_⟩ <;> exact ⟨_,_,_,rfl⟩
     obtain ⟨sa,sn,sc,rfl⟩:=Bz
     clear A3
     go_wp2_with (fail)
     go_at_call 56
     refine A5.out.mono ?_
     rintro e w8 ⟨Cl,rfl,A9,_,_,A6⟩
     have Az:=(A6.block _ (Array.getElem?_eq_some_iff.1 Ao.out).1).trans Ao.out
     have Bb:=Hd A9
     obtain ⟨Cv,Cx,Cr,Cn,rfl,Bc,Ax⟩:=A9
     obtain ⟨d8,e8,rfl⟩:=Bc.shape
     obtain ⟨a3,p3,rfl⟩:=Ax.sums.shape
     obtain ⟨a4,p4,rfl⟩:=Ax.mins.shape
     obtain ⟨a5,p5,rfl⟩:=Ax.maxs.shape
     obtain ⟨nd,A7⟩:∃ nd,nd=((l.map Tess.Val.c).map Tess.valOf).length:=⟨_,rfl⟩
     simp only [← A7] at Bb ⊢
     have Cu:=Hd A7
     clear Bc Ax A7
     obtain ⟨_,f0,f1,f2,f3,f4,f5⟩:=can6 Az
     have q1:=set6 (.int .i64 T) (.slice d8 nd e8) (.int .i64 1) (.slice a3 ns.length p3) (.slice a4 ns.length p4) (.slice a5 ns.length p5) Az
     have qB:=sb2 (.int .i64 T) (.slice d8 nd e8) (.int .i64 1) (.slice a3 ns.length p3) (.slice a4 ns.length p4) (.slice a5 ns.length p5) (Bt Aj.out A6) (show w.heap.size≤w.heap.size + 1 + 1 by omega)
     have Bw:=Hd q1
     have Bs:=Hd qB
     have By:=Aj.out.size
     clear g0 g1 g2 g3 g4 g5 q1 qB A6 Az
     go_wp2_with (fail)
     obtain ⟨⟨e0,e1,e2,e3,e4,e5⟩,_⟩:=can6 Bw.out
     refine bodyPost_ret (v:=.tuple #[.agg #[.int .i64 T,.slice d8 nd e8,.int .i64 1,.slice a3 ns.length p3,.slice a4 ns.length p4,.slice a5 ns.length p5],.int .i64 0]) (by simp [results,Tryz.results31,go_sem,e0,e1,e2,e3,e4,e5]) rfl ⟨[.int .i64 T,.slice d8 nd e8,.int .i64 1,.slice a3 ns.length p3,.slice a4 ns.length p4,.slice a5 ns.length p5],rfl,.inl ⟨An.out,?_⟩,Bs.out⟩
     have hA:∀ W6,W6=((((((w8.setCell ⟨w.heap.size + 1 + 1,0,none⟩ (.int .i64 T)).setCell ⟨w.heap.size + 1 + 1,1,none⟩ (.slice d8 nd e8)).setCell ⟨w.heap.size + 1 + 1,2,none⟩ (.int .i64 1)).setCell ⟨w.heap.size + 1 + 1,3,none⟩ (.slice a3 ns.length p3)).setCell ⟨w.heap.size + 1 + 1,4,none⟩ (.slice a4 ns.length p4)).setCell ⟨w.heap.size + 1 + 1,5,none⟩ (.slice a5 ns.length p5))→Ag (fun b=>wr.heap.size≤b) w8 W6:=fun W6 e=>by
      rw [e]
      exact ⟨by rw [ss5];exact Nat.le_refl _,fun b _ hb=>so4 _ _ _ _ _ _ (by have:=As.out;have:=Aw.out;omega)⟩
     show CA2 (fun b=>w.heap.size≤b) _ _ ((t - t % s.grain,l.map Tess.Val.c),⟨1,ns,ns,ns⟩)
     rw [Bx.out]
     exact (Bb.out.ag (hA _ rfl)).weak fun b hb=>Nat.le_trans By hb
end Go.Proofs.YtaddkkkchkdgkaaGreatDoor
namespace Go.Proofs.YtaddkkkchkdgkaaGreatDoor
open Go.RowKit Go.Sort
open Tess (CK Pay)
def RowC (p:Nat→Prop) (w:World) (cs:List Value) (r:Tess.Row):Prop:=∃ vd a c,cs=[.int .i64 r.t,vd,.slice a r.ns.length c]∧r.ns.length≤c∧VA p w vd r.l∧SlP p w (.slice a r.ns.length c) (r.ns.map (.int .i64))
theorem RowC.row {p:Nat→Prop} {w:World} {cs:List Value} {r:Tess.Row} (h:RowC p w cs r):RA2 p w (.agg cs.toArray) r.t r.l r.ns:=by
 obtain ⟨vd,a,c,rfl,h1,h2,h3⟩:=h
 exact ⟨vd,a,c,rfl,h1,h2,h3⟩
theorem rn2:Nest 3 RowC where
 ag h hg:=let ⟨_,_,_,e,h1,h2,h3⟩:=h;⟨_,_,_,e,h1,h2.ag hg,h3.ag hg⟩
 weak h hpq:=let ⟨_,_,_,e,h1,h2,h3⟩:=h;⟨_,_,_,e,h1,h2.weak hpq,h3.weak hpq⟩
 lt h:=let ⟨_,_,_,e,h1,h2,h3⟩:=h;⟨_,_,_,e,h1,h2.lt,h3.lt⟩
 len h:=by obtain ⟨_,_,_,rfl,_⟩:=h;rfl
 one h u hu:=by
  obtain ⟨vd,a,c,rfl,_,h1,_⟩:=h
  obtain ⟨_,_,rfl⟩:=h1.shape
  simp only [List.mem_cons,List.not_mem_nil,or_false] at hu
  rcases hu with rfl | rfl | rfl <;> rfl
def RowsIn (p:Nat→Prop):World→Value→List Tess.Row→Prop:=LA 3 (RowC p) p
theorem RowsIn.ag {p:Nat→Prop} {w w':World} {v:Value} {l:List Tess.Row} (h:RowsIn p w v l) (hg:Ag p w w'):RowsIn p w' v l:=LA.ag h hg fun _ _ _ h=>rn2.ag h hg
theorem RowsIn.weak {p q:Nat→Prop} {w:World} {v:Value} {l:List Tess.Row} (h:RowsIn p w v l) (hpq:∀ b,p b→q b):RowsIn q w v l:=LA.weak h hpq fun _ _ _ h=>rn2.weak h hpq
def rC4 (r:Tess.Row):Tess.Row:=⟨r.t,cV2 r.l,r.ns.take 10⟩
def rC3 (n:Nat) (l:List Tess.Row):List Tess.Row:=(l.take n).map rC4
theorem infoRow:(Tryz.prog.info? 74).map (fun i=>(i.zero,i.size,i.bytes))=some (some (.agg #[.int .i64 0,.slice none 0 0,.slice none 0 0]),3,56):=by kernel_rfl
set_option maxRecDepth 100000 in
set_option maxHeartbeats 4000000 in
theorem rows_any (p:Nat→Prop) (v:Value) (l:List Tess.Row) (n:Nat) (hn:n≤1000) (w:World) (hv:RowsIn p w v l) :
  Calls Tryz.prog 13 #[v,.int .i64 n] w fun e w' => ∃ v',e = .returned v'∧RowsIn (fun b=>p b∨w.heap.size≤b) w' v' (rC3 n l)∧Below w.heap.size w w':=by
 obtain ⟨a,A7,rfl,_,hl,_,hc⟩:=LA.open hv
 have hl:l.length≤9223372036854775807:=by unfold maxLen at hl;omega
 have HC:=Hd hc
 clear hc
 obtain ⟨i0,hi,Au,Ay,A0⟩:=info_parts infoRow
 go_enter Tryz.func13,Tryz.ntmps13
 go_wp2
 go_loopw [5,6] (fun v i wr => ∃ (k:Nat) (us:List (List Value)),k≤l.length∧k≤n∧i = .int .i64 k∧us.length=k∧OwnL w.heap.size 3 74 RowC (fun b=>p b∨w.heap.size≤b) wr v us ((l.take k).map rC4)∧(k=0→v = .slice none 0 0)∧Below w.heap.size w wr) (fun _ i _=>n - (intOf i).toNat)
 case atStart=>exact ⟨0,[],Nat.zero_le _,Nat.zero_le _,rfl,rfl,OwnL.nil _,fun _=>rfl,Below.refl _ _⟩
 case round=>
  obtain ⟨k,us,hk,A9,rfl,Ar,Ak,Al,hB⟩:=hrel
  have HN:=Hd Al
  have HU:=Hd Ar
  have HO:=Hd Ak
  have HB:=Hd hB
  clear Al Ar Ak
  by_cases hlt:k < l.length∧k < n
  ·obtain ⟨h1,h2⟩:=hlt
   obtain ⟨b,Af,rfl,hb,_,cs,_,hR,Ab⟩:=HC.out k h1
   have HF:=Hd (fun W (hW:Below wr.heap.size wr W)=>fewRow_any (fun b=>p b∧b < w.heap.size) (.agg cs.toArray) l[k].t l[k].l l[k].ns W ((rn2.lt hR).row.ag (Ag.new _ (Bt hB hW))))
   obtain ⟨vd,na,nc,rfl,_,At,_⟩:=hR
   obtain ⟨da,dc,rfl⟩:=At.shape
   have c0:wr.cell? ⟨b,Af + k * 3,none⟩=some (.int .i64 l[k].t):=(hB.cell (p:=⟨b,Af + k * 3,none⟩) hb).trans (Ab 0 (by omega))
   have c1:wr.cell? ⟨b,Af + k * 3 + 1,none⟩=some (.slice da l[k].l.length dc):=(hB.cell (p:=⟨b,Af + k * 3 + 1,none⟩) hb).trans (Ab 1 (by omega))
   have c2:wr.cell? ⟨b,Af + k * 3 + 2,none⟩=some (.slice na l[k].ns.length nc):=(hB.cell (p:=⟨b,Af + k * 3 + 2,none⟩) hb).trans (Ab 2 (by omega))
   have A8:b < wr.heap.size:=Nat.lt_of_lt_of_le hb HB.out.size
   have A6:(k:Int) < (l.length:Int):=by omega
   have A4:(k:Int) < (n:Int):=by omega
   have HE:=Hd (show (l.take k).map rC4 ++ [rC4 l[k]]=(l.take (k + 1)).map rC4 by rw [List.take_succ_eq_append_getElem h1,List.map_append];rfl)
   clear hB hb Ab At
   generalize l[k]=r at *
   go_wp2_with (fail)
   go_at_call 29
   refine (HF.out wr (Below.refl _ _)).mono ?_
   rintro e w2 ⟨v3,rfl,Aq,_,Ao⟩
   have hr:RA2 (fun b=>(p b∧b < w.heap.size)∨wr.heap.size≤b) w2 v3 (rC4 r).t (rC4 r).l (rC4 r).ns:=Aq
   clear Aq
   generalize rC4 r=r2 at *
   obtain ⟨A1,Ah,Ai,rfl,g1,g2,g3⟩:=hr
   have Ax:=Hd (show RowC (fun b=>(p b∧b < w.heap.size)∨wr.heap.size≤b) w2 [.int .i64 r2.t,A1,.slice Ah r2.ns.length Ai] r2 from ⟨_,_,_,rfl,g1,g2,g3⟩)
   obtain ⟨z0,z1,rfl⟩:=g2.shape
   clear g1 g2 g3
   obtain ⟨W3,Az⟩:∃ W3,w2.alloc (.cells #[.int .i64 r2.t,.slice z0 r2.l.length z1,.slice Ah r2.ns.length Ai] 74)=W3:=⟨_,rfl⟩
   obtain ⟨k1,kS,kB⟩:=la2 w2 (.cells #[.int .i64 r2.t,.slice z0 r2.l.length z1,.slice Ah r2.ns.length Ai] 74)
   rw [Az] at k1 kS kB
   have Av:=Hd k1
   have Ae:=Bt Ao kB
   have Am:=Hd (HO.out.below rn2 Ae)
   have Ap:=Hd (rn2.ag Ax.out (Ag.new _ kB))
   have HX:=Hd (show RowC (fun b=>(p b∨w.heap.size≤b)∧u5.ownBlock≠some b) W3 [.int .i64 r2.t,.slice z0 r2.l.length z1,.slice Ah r2.ns.length Ai] r2 from rn2.weak Ap.out fun b hb=>by
    refine ⟨hb.imp And.left fun h=>Nat.le_trans HB.out.size h,fun e => ?_⟩
    have:=(HO.out.own.lt b e).1
    have:=(HO.out.own.lt b e).2
    rcases hb with hb | hb <;> omega)
   have An:=Hd (Bt HB.out Ae)
   clear Ao Ae kB kS k1 c0 c1 c2
   go_wp2_with (at_builtin;refine wpList_append_own_at _ rfl _ _ 36 rfl w.heap.size 74 i0 (.agg #[.int .i64 0,.slice none 0 0,.slice none 0 0]) 3 56 Tryz.underlying36 hi Au Ay A0 rfl (by decide) _ _ _ rfl Am.out.own ⟨w2.heap.size,0,none⟩ 1 1 [.int .i64 r2.t,.slice z0 r2.l.length z1,.slice Ah r2.ns.length Ai] rfl rfl ?_ (rn2.one Ap.out) ?_ ?_ ?_ ?_)
   ·intro j u hj
    rw [addr_add,cell_of_row _ _ _ _ _ _ Av.out,Nat.zero_add];simpa using hj
   ·have:=HU.out;unfold maxLen;omega
   ·have:=HU.out;omega
   ·exact An.out.size
   intro v' w3 Ad Aa Aj Ac
   have A2:=Hd (Am.out.more rn2 HX.out Ad Aa Ac)
   have Aw:=Hd (An.out.grown Aa An.out.size (fun j e=>(Am.out.own.lt j e).1))
   clear Ad Aa Aj Ac
   go_wp2
   go_roundw
   case rel=>exact ⟨k + 1,us ++ [[.int .i64 r2.t,.slice z0 r2.l.length z1,.slice Ah r2.ns.length Ai]],by omega,by omega,by go_num,by simp [HU.out],by rw [← HE.out];exact A2.out,fun h=>by omega,Aw.out⟩
   case measure=>simp [intOf];omega
  ·have he:(l.take k).map rC4=rC3 n l:=by
    unfold rC3
    by_cases e:k=n
    ·rw [e]
    ·rw [List.take_of_length_le (by omega),List.take_of_length_le (by omega)]
   rw [he] at HO
   have As:(rC3 n l).length=k:=by rw [← he];simp;omega
   have HL:=Hd (HO.out.listed (q:=fun b=>p b∨w.heap.size≤b) rn2 (fun _ h=>h) (fun _ h => .inr h) (by unfold maxLen;omega) (fun h=>HN.out (by rw [← As,h];rfl)))
   clear hB he As
   rcases (show (¬ (k:Int) < (l.length:Int))∨((k:Int) < (l.length:Int)∧¬ (k:Int) < (n:Int)) by omega) with A3 | ⟨A5,A3⟩
   all_goals
    clear hlt
    go_wp2
    go_ret
    exact ⟨_,rfl,HL.out,HB.out⟩
end Go.Proofs.YtaddkkkchkdgkaaGreatDoor
