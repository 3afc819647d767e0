/- Joined by mergeK.py: K26, F40, K17, K12 -/
import Derived.Test.YtaddkkkchkdgkaaGreatDoorWC17
import Derived.Test.YtaddkkkchkdgkaaGreatDoorWC13
import Derived.Test.YtaddkkkchkdgkaaGreatDoorWC15
import Derived.Test.YtaddkkkchkdgkaaGreatDoorWC08
import Derived.Test.YtaddkkkchkdgkaaGreatDoorWC12
import Derived.Maps.AppendAt
namespace Go.Proofs.YtaddkkkchkdgkaaGreatDoor
open Go.RowKit Go.Sort
open Tess (CK Pay)
def fullList (q:CK×Pay→Bool) (l:List (CK×Pay)) (a:Option Addr) (w:World):Prop:=
 ∀ k (hk:k < l.length),∃ b off,a=some ⟨b,off,none⟩∧b < w.heap.size∧∃ c0 c1 c2 c3 c4 c5,(w.cell? ⟨b,off + k * 6,none⟩=some c0∧w.cell? ⟨b,off + k * 6 + 1,none⟩=some c1∧w.cell? ⟨b,off + k * 6 + 2,none⟩=some c2∧w.cell? ⟨b,off + k * 6 + 3,none⟩=some c3∧w.cell? ⟨b,off + k * 6 + 4,none⟩=some c4∧w.cell? ⟨b,off + k * 6 + 5,none⟩=some c5) ∧
   ∀ W,Below w.heap.size w W→Calls Tryz.prog 58 #[.agg #[c0,c1,c2,c3,c4,c5]] W fun e w'=>e = .returned (.bool (q l[k]))∧Below W.heap.size W w'
set_option maxHeartbeats 1000000 in
theorem index_full (q:CK×Pay→Bool) (l:List (CK×Pay)) (a:Option Addr) (cap:Nat) (w:World) (hlen:l.length≤maxLen) (hc:fullList q l a w) :
  Calls Tryz.prog 95 #[.slice a l.length cap,.func (.func 58) #[] #[]] w fun e w' => ∃ i:Int,e = .returned (.int .i64 i)∧decide (0≤i)=l.any q∧Below w.heap.size w w':=by
 have HC:=Lib.hid hc
 have hmx:l.length≤9223372036854775807:=by unfold maxLen at hlen;omega
 clear hc hlen
 go_enter Tryz.func95,Tryz.ntmps95
 go_wp2
 go_loopw [8] (fun i wr => ∃ k:Nat,k≤l.length∧i = .int .i64 k∧(∀ j (hj:j < l.length),j < k→q l[j]=false)∧Below w.heap.size w wr) (fun i _=>l.length - (intOf i).toNat)
 case atStart=>exact ⟨0,Nat.zero_le _,rfl,fun j _ h=>absurd h (Nat.not_lt_zero _),Below.refl _ _⟩
 case round=>
  obtain ⟨k,hk,rfl,hall,hB⟩:=hrel
  have HA:=Lib.hid hall
  have HB:=Lib.hid hB
  clear hall hB
  by_cases hlt:k < l.length
  ·obtain ⟨b,off,rfl,hb,c0,c1,c2,c3,c4,c5,⟨g0,g1,g2,g3,g4,g5⟩,hcall⟩:=HC.out k hlt
   have e0:wr.cell? ⟨b,off + k * 6,none⟩=some c0:=(HB.out.cell (p:=⟨b,off + k * 6,none⟩) hb).trans g0
   have e1:wr.cell? ⟨b,off + k * 6 + 1,none⟩=some c1:=(HB.out.cell (p:=⟨b,off + k * 6 + 1,none⟩) hb).trans g1
   have e2:wr.cell? ⟨b,off + k * 6 + 2,none⟩=some c2:=(HB.out.cell (p:=⟨b,off + k * 6 + 2,none⟩) hb).trans g2
   have e3:wr.cell? ⟨b,off + k * 6 + 3,none⟩=some c3:=(HB.out.cell (p:=⟨b,off + k * 6 + 3,none⟩) hb).trans g3
   have e4:wr.cell? ⟨b,off + k * 6 + 4,none⟩=some c4:=(HB.out.cell (p:=⟨b,off + k * 6 + 4,none⟩) hb).trans g4
   have e5:wr.cell? ⟨b,off + k * 6 + 5,none⟩=some c5:=(HB.out.cell (p:=⟨b,off + k * 6 + 5,none⟩) hb).trans g5
   have HX:=Lib.hid hcall
   clear g0 g1 g2 g3 g4 g5 hcall
   have hki:(k:Int) < (l.length:Int):=by omega
   cases hyx:q l[k]
   ·rw [hyx] at HX
    have HY:=Lib.hid hyx
    clear hyx
    go_wp2_with (go_at_call 58;refine (HX.out _ HB.out).mono ?_;rintro e w2 ⟨rfl,hb2⟩;have HB2:=Lib.hid hb2;clear hb2)
    go_roundw
    case rel=>
     refine ⟨k + 1,by omega,by go_num,fun j hj hjk => ?_,Bt HB.out HB2.out⟩
     by_cases hjk':j < k
     ·exact HA.out j hj hjk'
     ·obtain rfl:j=k:=by omega
      exact HY.out
    case measure=>simp [intOf];omega
   ·rw [hyx] at HX
    have HY:=Lib.hid hyx
    clear hyx
    go_wp2_with (go_at_call 58;refine (HX.out _ HB.out).mono ?_;rintro e w2 ⟨rfl,hb2⟩;have HB2:=Lib.hid hb2;clear hb2)
    go_ret
    refine ⟨(k:Int),rfl,?_,Bt HB.out HB2.out⟩
    rw [decide_eq_true (by omega),eq_comm,List.any_eq_true]
    exact ⟨l[k],List.getElem_mem hlt,HY.out⟩
  ·have hki:¬ (k:Int) < (l.length:Int):=by omega
   go_wp2
   go_ret
   refine ⟨-1,rfl,?_,HB.out⟩
   rw [decide_eq_false (by omega),eq_comm,List.any_eq_false]
   intro y hy
   obtain ⟨j,hj,rfl⟩:=List.getElem_of_mem hy
   rw [HA.out j hj (by omega)];simp
theorem contains_full (q:CK×Pay→Bool) (l:List (CK×Pay)) (a:Option Addr) (cap:Nat) (w:World) (hlen:l.length≤maxLen) (hc:fullList q l a w) :
  Calls Tryz.prog 57 #[.slice a l.length cap,.func (.func 58) #[] #[]] w fun e w'=>e = .returned (.bool (l.any q))∧Below w.heap.size w w':=by
 have HI:=Lib.hid (index_full q l a cap w hlen hc)
 clear hc
 go_enter Tryz.func57,Tryz.ntmps57
 go_wp2_with (go_at_call 95;refine HI.out.mono ?_;rintro e w2 ⟨i,rfl,hi,hB⟩;have HH:=Lib.hid hi;have HB:=Lib.hid hB;clear hi hB)
 go_ret
 refine ⟨?_,HB.out⟩
 rw [← HH.out];rfl
set_option maxHeartbeats 1000000 in
theorem full1_any (t n:Int) (ad a3 a4 a5:Option Addr) (dn dc n3 c3 n4 c4 n5 c5:Nat) (W:World) :
  Calls Tryz.prog 58 #[.agg #[.int .i64 t,.slice ad dn dc,.int .i64 n,.slice a3 n3 c3,.slice a4 n4 c4,.slice a5 n5 c5]] W fun e w'=>e = .returned (.bool (decide (1000000 < n)))∧Below W.heap.size W w':=by
 obtain ⟨W0,hW0⟩:∃ W0,W.alloc (.cells #[.int .i64 t,.slice ad dn dc,.int .i64 n,.slice a3 n3 c3,.slice a4 n4 c4,.slice a5 n5 c5] 83)=W0:=⟨_,rfl⟩
 obtain ⟨k0,kS,kB⟩:=laid1 W (.cells #[.int .i64 t,.slice ad dn dc,.int .i64 n,.slice a3 n3 c3,.slice a4 n4 c4,.slice a5 n5 c5] 83)
 rw [hW0] at k0 kS kB
 obtain ⟨⟨f0,f1,f2,f3,f4,f5⟩,_⟩:=can6 k0
 go_enter Tryz.func58,Tryz.ntmps58
 go_wp2
 go_ret
 exact ⟨rfl,kB⟩
set_option maxHeartbeats 2000000 in
theorem ends_any (p:Nat→Prop) (va:Value) (L:List (CK×Pay)) (w:World) (hv:CelsAt p w va L) (hl:L.length≤1000) (hn:∀ x ∈ L,x.2.n≤1000000) :
  Calls Tryz.prog 32 #[va] w fun e w'=>e = .returned (.tuple #[va,.int .i64 0])∧Below w.heap.size w w':=by
 obtain ⟨a,cap,rfl,_,hm,_,hc⟩:=ListAt.open hv
 have HC:=Lib.hid (contains_full (fun x=>decide (1000000 < x.2.n)) L a cap w hm (fun k hk=>by
  obtain ⟨b,off,h1,h2,_,cs,_,hcel,hcell⟩:=hc k hk
  obtain ⟨ad,cd,a3,c3,a4,c4,a5,c5,rfl,_⟩:=hcel.shapes
  exact ⟨b,off,h1,h2,_,_,_,_,_,_,⟨hcell 0 (by omega),hcell 1 (by omega),hcell 2 (by omega),hcell 3 (by omega),hcell 4 (by omega),hcell 5 (by omega)⟩,fun W _=>full1_any _ _ _ _ _ _ _ _ _ _ _ _ _ _ W⟩))
 have hf:L.any (fun x=>decide (1000000 < x.2.n))=false:=List.any_eq_false.2 fun x hx=>by have:=hn x hx;simp;omega
 rw [hf] at HC
 have hli:¬ (1000:Int) < (L.length:Int):=by omega
 clear hc hv
 go_enter Tryz.func32,Tryz.ntmps32
 go_wp2_with (go_at_call 57;refine HC.out.mono ?_;rintro e w2 ⟨rfl,hb2⟩;have HB2:=Lib.hid hb2;clear hb2)
 go_ret2
 exact ⟨rfl,HB2.out⟩
end Go.Proofs.YtaddkkkchkdgkaaGreatDoor
namespace Go.Proofs.YtaddkkkchkdgkaaGreatDoor
open Go.RowKit Go.Sort
open Tess (Fil)
def ofCode (s:Tess.Sch) (t:Int) (l:List Tess.Val) (n:Nat):Int:=if Tess.schOk s then (if Tess.rowFits s t l n then 0 else 101) else 100
theorem slp_int_at {p:Nat→Prop} {w:World} {a:Option Addr} {n c:Nat} {ns:List Int} (h:SlP p w (.slice a n c) (ns.map (.int .i64))) (k:Nat) (hk:k < ns.length):∃ b off,a=some ⟨b,off,none⟩∧b < w.heap.size∧w.cell? ⟨b,off + k,none⟩=some (.int .i64 ns[k]):=by
 obtain ⟨⟨_,a',c',e,hc⟩,_,_⟩:=h
 simp only [Value.slice.injEq] at e
 obtain ⟨rfl,_,_⟩:=e
 obtain ⟨b,off,ha,hb,hcell⟩:=hc (by simp;omega)
 exact ⟨b,off,ha,hb,by rw [hcell k (by simpa using hk),List.getElem_map]⟩
end Go.Proofs.YtaddkkkchkdgkaaGreatDoor
namespace Go.Proofs.YtaddkkkchkdgkaaGreatDoor
open Go.RowKit Go.Sort
open Tess (CK Pay)
theorem rowsI_of_slp {p:Nat→Prop} {w:World} {a:Option Addr} {c:Nat} {ns:List Int} (h:SlP p w (.slice a ns.length c) (ns.map (.int .i64))) (hc:ns.length≤c):RowsAt 1 intF p w (.slice a ns.length c) ns:=by
 obtain ⟨⟨h0,a',c',hv,hcell⟩,hp,hn⟩:=h
 simp only [Value.slice.injEq] at hv
 obtain ⟨rfl,_,rfl⟩:=hv
 rw [List.length_map] at h0
 refine ⟨a,c,rfl,h0,hc,(fun e=>by subst e;exact hn _ _ rfl),fun hl => ?_⟩
 obtain ⟨b,off,rfl,hb,hcb⟩:=hcell (by simpa using hl)
 refine ⟨b,off,rfl,hb,hp (by simpa using hl) b rfl,fun j hj i hi => ?_⟩
 obtain rfl:i=0:=by omega
 rw [Nat.mul_one,Nat.add_zero,hcb j (by simpa using hj)]
 simp [intF]
def OfPost (s:Tess.Sch) (r:Tess.Row) (N:Nat) (w':World) (cs:List Value):Prop:=(Tess.Row.ok s r=true∧CelAt (fun b=>N≤b) w' cs (Tess.Row.kp s.grain r))∨(Tess.Row.ok s r=false∧cs=[.int .i64 0,.slice none 0 0,.int .i64 0,.slice none 0 0,.slice none 0 0,.slice none 0 0])
set_option maxRecDepth 100000 in
set_option maxHeartbeats 4000000 in
theorem of6_any (p:Nat→Prop) (vs vr:Value) (s:Tess.Sch) (r:Tess.Row) (w:World) (hs:SchAt p w vs s) (hr:RowAt p w vr r.t r.l r.ns) (hll:r.l.length≤1000) (hnl:r.ns.length≤1000) (hrg:r.rng) :
  Calls Tryz.prog 31 #[vs,vr] w fun e w' => ∃ cs:List Value,e = .returned (.tuple #[.agg cs.toArray,.int .i64 (ofCode s r.t r.l r.ns.length)])∧OfPost s r w.heap.size w' cs∧Below w.heap.size w w':=by
 obtain ⟨t,l,ns⟩:=r
 simp only at hr hll hnl ⊢
 have HRG:=Lib.hid (show ∀ k (h:k < ns.length),I64 ns[k] from fun k h=>hrg _ (List.getElem_mem h))
 have HOKV:=Lib.hid (show Tess.rowFits s t l ns.length=true→(l.map Tess.Val.c).map Tess.valOf=l from fun h=>Tess.valOf_cs (by unfold Tess.rowFits at h;simp only [Bool.and_eq_true] at h;exact h.2))
 clear hrg
 have HR:=Lib.hid (fun W (hB:Below w.heap.size w W)=>schRight_any vs s p W (hs.ag (Ag.new p hB)))
 have HF:=Lib.hid (fun W (hB:Below w.heap.size w W)=>sFits_any p vs vr s t l ns W (hs.ag (Ag.new p hB)) (hr.ag (Ag.new p hB)))
 obtain ⟨vd,vm,rfl,hd,hm,_,_⟩:=hs
 obtain ⟨ad,capd,rfl,_⟩:=slp_len hd
 obtain ⟨am,capm,rfl,_⟩:=slp_len hm
 obtain ⟨vdr,na,nc,rfl,hnc,hv,hn⟩:=hr
 have HV:=Lib.hid hv
 have HN:=Lib.hid hn
 obtain ⟨da,dc,rfl,_,_,_,_⟩:=hv
 clear hd hm hn
 obtain ⟨W0,hW0⟩:∃ W0,((w.alloc (.cells #[.slice ad s.dims.length capd,.slice am s.mets.length capm,.int .i64 s.grain] 24)).alloc (.cells #[.int .i64 t,.slice da l.length dc,.slice na ns.length nc] 74)).alloc (.cells #[.int .i64 0,.slice none 0 0,.int .i64 0,.slice none 0 0,.slice none 0 0,.slice none 0 0] 83)=W0:=⟨_,rfl⟩
 obtain ⟨h0,h1,h2,hS,hB⟩:=laid3 w (.cells #[.slice ad s.dims.length capd,.slice am s.mets.length capm,.int .i64 s.grain] 24) (.cells #[.int .i64 t,.slice da l.length dc,.slice na ns.length nc] 74) (.cells #[.int .i64 0,.slice none 0 0,.int .i64 0,.slice none 0 0,.slice none 0 0,.slice none 0 0] 83)
 rw [hW0] at h0 h1 h2 hS hB
 rw [show w.heap.size + 2=w.heap.size + 1 + 1 by omega] at h2
 obtain ⟨⟨x0,x1,x2⟩,_⟩:=can3 h0
 have HB:=Lib.hid hB
 have HSZ:=Lib.hid hS
 have HC:=Lib.hid (fun W (hW:Below W0.heap.size W0 W)=>And.intro ((hW.block _ (by omega)).trans h0) (And.intro ((hW.block _ (by omega)).trans h1) ((hW.block _ (by omega)).trans h2)))
 clear h0 h1 h2 hS hB
 cases hok:Tess.schOk s
 ·rw [hok] at HR
  have hcode:ofCode s t l ns.length=100:=by unfold ofCode;rw [hok];rfl
  have hfit:Tess.rowFits s t l ns.length=false:=by unfold Tess.rowFits;rw [hok];simp
  have HFT:=Lib.hid (show Tess.Row.ok s ⟨t,l,ns⟩=false from hfit)
  rw [hcode]
  clear hcode hfit
  go_enter Tryz.func31,Tryz.ntmps31
  go_wp2_with (fail)
  go_at_call 30
  refine (HR.out W0 HB.out).mono ?_
  rintro e w1 ⟨rfl,hB1⟩
  obtain ⟨_,_,q2⟩:=HC.out w1 hB1
  obtain ⟨_,f0,f1,f2,f3,f4,f5⟩:=can6 q2
  clear x0 x1 x2 hW0
  go_wp2_with (fail)
  have hB2:=Bt HB.out hB1
  have q1:=set6 (.int .i64 0) (.slice none 0 0) (.int .i64 0) (.slice none 0 0) (.slice none 0 0) (.slice none 0 0) q2
  have qB:=set6_below (.int .i64 0) (.slice none 0 0) (.int .i64 0) (.slice none 0 0) (.slice none 0 0) (.slice none 0 0) hB2 (show w.heap.size≤w.heap.size + 1 + 1 by omega)
  obtain ⟨⟨e0,e1,e2,e3,e4,e5⟩,_⟩:=can6 q1
  refine bodyPost_ret (v:=.tuple #[.agg #[.int .i64 0,.slice none 0 0,.int .i64 0,.slice none 0 0,.slice none 0 0,.slice none 0 0],.int .i64 100]) (by simp [results,Tryz.results31,go_sem,e0,e1,e2,e3,e4,e5]) rfl ⟨[.int .i64 0,.slice none 0 0,.int .i64 0,.slice none 0 0,.slice none 0 0,.slice none 0 0],rfl,.inr ⟨HFT.out,rfl⟩,qB⟩
 ·rw [hok] at HR
  cases hfit:Tess.rowFits s t l ns.length
  ·rw [hfit] at HF
   have hcode:ofCode s t l ns.length=101:=by unfold ofCode;rw [hok,hfit];rfl
   have HFT:=Lib.hid (show Tess.Row.ok s ⟨t,l,ns⟩=false from hfit)
   rw [hcode]
   clear hcode
   go_enter Tryz.func31,Tryz.ntmps31
   go_wp2_with (fail)
   go_at_call 30
   refine (HR.out W0 HB.out).mono ?_
   rintro e w1 ⟨rfl,hB1⟩
   obtain ⟨q0,q1,_⟩:=HC.out w1 hB1
   clear x0 x1 x2 hW0
   obtain ⟨⟨x0,x1,x2⟩,_⟩:=can3 q0
   obtain ⟨⟨y0,y1,y2⟩,_⟩:=can3 q1
   have HB1:=Lib.hid hB1
   clear q0 q1 hB1
   go_wp2_with (fail)
   go_at_call 54
   refine (HF.out w1 (Bt HB.out HB1.out)).mono ?_
   rintro e w2 ⟨rfl,hB2⟩
   have hB2:=Bt HB1.out hB2
   obtain ⟨_,_,q2⟩:=HC.out w2 hB2
   obtain ⟨_,f0,f1,f2,f3,f4,f5⟩:=can6 q2
   clear x0 x1 x2 y0 y1 y2
   go_wp2_with (fail)
   have q1:=set6 (.int .i64 0) (.slice none 0 0) (.int .i64 0) (.slice none 0 0) (.slice none 0 0) (.slice none 0 0) q2
   have qB:=set6_below (.int .i64 0) (.slice none 0 0) (.int .i64 0) (.slice none 0 0) (.slice none 0 0) (.slice none 0 0) (Bt HB.out hB2) (show w.heap.size≤w.heap.size + 1 + 1 by omega)
   obtain ⟨⟨e0,e1,e2,e3,e4,e5⟩,_⟩:=can6 q1
   refine bodyPost_ret (v:=.tuple #[.agg #[.int .i64 0,.slice none 0 0,.int .i64 0,.slice none 0 0,.slice none 0 0,.slice none 0 0],.int .i64 101]) (by simp [results,Tryz.results31,go_sem,e0,e1,e2,e3,e4,e5]) rfl ⟨[.int .i64 0,.slice none 0 0,.int .i64 0,.slice none 0 0,.slice none 0 0,.slice none 0 0],rfl,.inr ⟨HFT.out,rfl⟩,qB⟩
  ·rw [hfit] at HF
   have HOK:=Lib.hid (HOKV.out hfit)
   have HFT:=Lib.hid (show Tess.Row.ok s ⟨t,l,ns⟩=true from hfit)
   have hcode:ofCode s t l ns.length=0:=by unfold ofCode;rw [hok,hfit];rfl
   rw [hcode]
   have hrng:(0≤t∧t≤1000000000000)∧(1≤s.grain∧s.grain≤1000000000):=by
    unfold Tess.rowFits at hfit
    unfold Tess.schOk at hok
    simp only [Bool.and_eq_true,decide_eq_true_eq] at hfit hok
    exact ⟨⟨hfit.1.1.1.1.2,hfit.1.1.1.2⟩,hok.1.1.2,hok.1.2⟩
   have HG:=Lib.hid (fun W=>gCut_any t s.grain W hrng.1 hrng.2)
   generalize hT:t - t % s.grain=T at *
   have HTE:=Lib.hid hT
   clear hcode hrng hok hfit hT
   go_enter Tryz.func31,Tryz.ntmps31
   go_wp2_with (fail)
   go_at_call 30
   refine (HR.out W0 HB.out).mono ?_
   rintro e w1 ⟨rfl,hB1⟩
   obtain ⟨q0,q1,_⟩:=HC.out w1 hB1
   clear x0 x1 x2 hW0
   obtain ⟨⟨x0,x1,x2⟩,_⟩:=can3 q0
   obtain ⟨⟨y0,y1,y2⟩,_⟩:=can3 q1
   have HB1:=Lib.hid hB1
   clear q0 q1 hB1
   go_wp2_with (fail)
   go_at_call 54
   refine (HF.out w1 (Bt HB.out HB1.out)).mono ?_
   rintro e w2 ⟨rfl,hB2⟩
   have HB2:=Lib.hid (Bt HB1.out hB2)
   clear x0 x1 x2 y0 y1 y2 hB2
   obtain ⟨q0,q1,_⟩:=HC.out w2 HB2.out
   obtain ⟨⟨x0,x1,x2⟩,_⟩:=can3 q0
   obtain ⟨⟨y0,y1,y2⟩,_⟩:=can3 q1
   clear q0 q1
   go_wp2_with (fail)
   go_at_call 55
   refine (HG.out w2).mono ?_
   rintro e w3 ⟨rfl,hB3⟩
   have HB3:=Lib.hid (Bt HB2.out hB3)
   clear x0 x1 x2 y0 y1 y2 hB3
   obtain ⟨q0,q1,q2⟩:=HC.out w3 HB3.out
   obtain ⟨⟨y0,y1,y2⟩,_⟩:=can3 q1
   obtain ⟨W4,hW4⟩:∃ W4,w3.alloc (.cells #[.int .i64 T,.slice da l.length dc,.int .i64 1,.slice none 0 0,.slice na ns.length nc,.slice na ns.length nc] 126)=W4:=⟨_,rfl⟩
   obtain ⟨k0,kS,kB⟩:=laid1 w3 (.cells #[.int .i64 T,.slice da l.length dc,.int .i64 1,.slice none 0 0,.slice na ns.length nc,.slice na ns.length nc] 126)
   rw [hW4] at k0 kS kB
   have k1:=(kB.block _ (Array.getElem?_eq_some_iff.1 q1).1).trans q1
   have k2:=(kB.block _ (Array.getElem?_eq_some_iff.1 q2).1).trans q2
   obtain ⟨⟨u0,u1,u2⟩,_⟩:=can3 k1
   obtain ⟨G,hG⟩:∃ G,w3.heap.size=G:=⟨_,rfl⟩
   have HK0:=Lib.hid k0
   have HK2:=Lib.hid k2
   have HKS:=Lib.hid kS
   have HB4:=Lib.hid (Bt (Bt HB.out HB3.out) kB)
   have HGE:=Lib.hid (show w.heap.size + 3≤w3.heap.size by have:=HB3.out.size;have:=HSZ.out;omega)
   clear q0 q1 q2 k0 k1 k2 kS kB
   go_wp2_with (fail)
   clear y0 y1 y2 u0 u1 u2 hW4
   obtain ⟨i0,hi,hz0,hz1,hz2⟩:=info_parts infoWide
   obtain ⟨N,hN⟩:∃ N,N=W4.heap.size:=⟨_,rfl⟩
   rw [hG] at HK0 HKS HGE
   have HN4:=Lib.hid hN
   have HGG:=Lib.hid hG
   have hNG:N=G + 1:=by rw [hN];exact HKS.out
   clear hN hG
   have HNG:=Lib.hid hNG
   clear hNG
   go_loopw [42] (fun i wr => ∃ (k:Nat) (sv:Value),k≤ns.length∧i = .int .i64 k∧wr.heap[G]? = some (.cells #[.int .i64 T,.slice da l.length dc,.int .i64 1,sv,.slice na ns.length nc,.slice na ns.length nc] 126 (0,0))∧wr.heap[w.heap.size + 1 + 1]? = some (.cells #[.int .i64 0,.slice none 0 0,.int .i64 0,.slice none 0 0,.slice none 0 0,.slice none 0 0] 83 (0,0))∧wr.ownsRow N 60 2 sv k ((ns.take k).flatMap wideF)∧(k=0→sv = .slice none 0 0)∧Below w.heap.size w wr∧N≤wr.heap.size) (fun i _=>ns.length - (intOf i).toNat)
   case atStart=>exact ⟨0,_,Nat.zero_le _,rfl,HK0.out,HK2.out,World.ownsRow_nil _ _ _ _,(fun _=>rfl),HB4.out,by rw [HN4.out];exact Nat.le_refl _⟩
   case round=>
    obtain ⟨k,sv,hk,rfl,hg,hz,hown,hone,hBr,hNr⟩:=hrel
    have HGB:=Lib.hid hg
    have HZB:=Lib.hid hz
    have HO:=Lib.hid hown
    have HON:=Lib.hid hone
    have HBr:=Lib.hid hBr
    obtain ⟨⟨g0,g1,g2,g3,g4,g5⟩,_⟩:=can6 hg
    have hGlt:G < wr.heap.size:=by have:=HNG.out;omega
    clear hg hz hown hone hBr
    by_cases hlt:k < ns.length
    ·obtain ⟨b,off,rfl,hb,hc⟩:=slp_int_at HN.out k hlt
     have hck:=(HBr.out.cell (p:=⟨b,off + k,none⟩) hb).trans hc
     have hbw:b < wr.heap.size:=Nat.lt_of_lt_of_le hb HBr.out.size
     have hki:(k:Int) < (ns.length:Int):=by omega
     have HW:=Lib.hid (fun W=>wOf_eq ns[k] (HRG.out k hlt) W)
     have HTK:=Lib.hid (show (ns.take k).flatMap wideF ++ [.int .i64 (wHi ns[k]),.int .u64 (wLo ns[k])]=(ns.take (k + 1)).flatMap wideF by rw [List.take_succ_eq_append_getElem hlt,List.flatMap_append];rfl)
     clear hc hb
     go_wp2_with (fail)
     refine Flow.wp_region_flow_tail 6 (Flow.specs [.inl ?_,.inl ?_,.inl ?_,.inl ?_,.inr (isV (.agg #[.int .i64 (wHi ns[k]),.int .u64 (wLo ns[k])])),.inr (newTwo (.int .i64 (wHi ns[k])) (.int .u64 (wLo ns[k])))]) (by kernel_rfl) (by kernel_rfl) ?_ ?_
     rotate_left 4
     ·refine Flow.specs_mono ?_
      repeat (first | exact Flow.lmono_nil | refine Flow.lmono_inl ?_ | refine Flow.lmono_inr (isV_mono _) ?_ | refine Flow.lmono_inr (newTwo_mono _ _) ?_)
     all_goals try simp only [List.take_succ_cons,List.take_zero,List.drop_succ_cons,List.drop_zero]
     iterate 4 (refine Flow.tree_valK rfl (fun K hK=>⟨fun w hw hG => ?_,?_⟩);(have hcl:=Flow.bcell hw;clear hG hw;unfold Flow.Runs Flow.yields;go_simp;try rfl);go_simp;refine hK _ ?_;clear hK K)
     (refine Flow.tree_varK rfl (fun K hK=>⟨fun w hw hG => ?_,?_⟩);(clear hG hw;unfold Flow.Runs Flow.yields;go_simp;refine (HW.out _).mono ?_;rintro e w5 ⟨rfl,hb5⟩;exact ⟨_,rfl,hb5,rfl⟩);intro vz;go_simp;refine hK _ _ ?_;clear hK K)
     (refine Flow.tree_varK rfl (fun K hK=>⟨fun w hw hG => ?_,?_⟩);(obtain rfl:=(show vz = .agg #[.int .i64 (wHi ns[k]),.int .u64 (wLo ns[k])] by simpa [Flow.upd,isV] using hG 4 (by kernel_rfl));clear hG;unfold Flow.Runs Flow.yields;go_simp;exact ⟨(laid1 _ _).2.2,newTwo_mk _ _ _ _⟩);intro vy;go_simp;refine hK _ _ ?_;clear hK K)
     refine Flow.tree_nil fun w5 hw5 hG => ?_
     obtain ⟨gn,rfl,hgn,hy0,hy1⟩:=(show newTwo (.int .i64 (wHi ns[k])) (.int .u64 (wLo ns[k])) vy w5 by simpa [Flow.upd] using hG 5)
     clear hG
     have HO5:=Lib.hid (owns_below HO.out hw5)
     have HY:=Lib.hid (And.intro hy0 hy1)
     have HG5:=Lib.hid ((hw5.block _ hGlt).trans HGB.out)
     have HZ5:=Lib.hid ((hw5.block _ (Array.getElem?_eq_some_iff.1 HZB.out).1).trans HZB.out)
     have HB5:=Lib.hid (Bt HBr.out hw5)
     have hs5:=hw5.size
     have HNW:=Lib.hid (show w.heap.size + 3 < N by have:=HNG.out;have:=HGE.out;omega)
     clear hw5 hy0 hy1 g0 g1 g2 g3 g4 g5 hck HO HGB HZB
     go_wp2_with (have hxx:=HY;clear hxx;at_builtin;refine wpList_append_own_at _ rfl _ _ 53 rfl N 60 i0 (.agg #[.int .i64 0,.int .u64 0]) 2 16 Tryz.underlying53 hi hz0 hz1 hz2 rfl (by decide) _ k _ rfl HO5.out ⟨gn,0,none⟩ 1 1 [.int .i64 (wHi ns[k]),.int .u64 (wLo ns[k])] rfl rfl ?_ ?_ ?_ ?_ ?_ ?_)
     ·intro j u hj
      rcases j with _ | _ | j
      ·simp at hj;subst hj;simpa [Addr.add] using HY.out.1
      ·simp at hj;subst hj;simpa [Addr.add] using HY.out.2
      ·simp at hj
     ·exact wideF_one ns[k]
     ·unfold maxLen;omega
     ·omega
     ·omega
     intro v6 w6 hown6 hgrow6 _ _
     obtain ⟨gg,cp,rfl,_⟩:=owns_cell_any hown6 (by omega)
     have hne:∀ b,b < N→some b≠sv.ownBlock:=fun b hb e=>by have:=(HO5.out.lt b e.symm).1;omega
     have HG6:=Lib.hid ((hgrow6.block G (by omega) (hne G (by have:=HNG.out;omega))).trans HG5.out)
     have HZ6:=Lib.hid ((hgrow6.block (w.heap.size + 1 + 1) (by have:=HNW.out;omega) (hne _ (by have:=HNW.out;omega))).trans HZ5.out)
     have HB6:=Lib.hid (HB5.out.grown hgrow6 (by have:=HNW.out;omega) (fun j e=>by have:=(HO5.out.lt j e).1;have:=HNW.out;omega))
     have HO6:=Lib.hid hown6
     have hs6:=hgrow6.size
     obtain ⟨_,f0,f1,f2,f3,f4,f5⟩:=can6 HG6.out
     clear hown6 hgrow6 hne HY HO5 HG5 HZ5 HB5
     go_wp2
     go_roundw
     case rel=>
      have hGN:=HNG.out
      have hNw:=HNW.out
      have hGw:=HGE.out
      refine ⟨k + 1,_,by omega,by go_num,heap_setCell_same _ _ _ _ _ _ HG6.out,(heap_setCell_other _ _ _ _ (show w.heap.size + 1 + 1≠G by omega)).trans HZ6.out,ownsRow_setCell_below (by rw [← HTK.out];exact HO6.out) (show G < N by omega) _,(fun h=>by omega),HB6.out.setCell (show w.heap.size≤G by omega) _,by simp [World.setCell];omega⟩
     case measure=>simp [intOf];omega
    ·have hki:¬ (k:Int) < (ns.length:Int):=by omega
     have hBw:=HBr.out
     have hke:k=ns.length:=by omega
     have hrow:RowsAt 1 intF p wr (.slice na ns.length nc) ns:=rowsI_of_slp (HN.out.ag (Ag.new p hBw)) (by omega)
     have hrw:RowsAt 2 wideF (fun b=>N≤b) wr sv ns:=by
      have ho:=HO.out
      rw [hke,List.take_length] at ho
      exact rows_owned (fun _ _=>rfl) ho (by unfold maxLen;omega) (fun h=>HON.out (by rw [hke,h];rfl))
     have hcel:CelAt (fun _=>True) wr [.int .i64 T,.slice da l.length dc,.int .i64 1,sv,.slice na ns.length nc,.slice na ns.length nc] ((T,l.map Tess.Val.c),⟨1,ns,ns,ns⟩):=
      ⟨_,_,_,_,rfl,by show ValsAt _ _ _ ((l.map Tess.Val.c).map Tess.valOf);rw [HOK.out];exact (HV.out.ag (Ag.new p hBw)).weak fun _ _=>trivial,hrw.weak fun _ _=>trivial,hrow.weak fun _ _=>trivial,hrow.weak fun _ _=>trivial⟩
     have HOWN:=Lib.hid (own6_any _ _ _ wr hcel ⟨by simp;omega,by show ns.length≤_;omega,by show ns.length≤_;omega,by show ns.length≤_;omega⟩)
     clear hcel hrw hrow hke
     have hsh:∃ a n c,sv = .slice a n c:=by
      rcases HO.out.2 with ⟨rfl,_⟩ | ⟨g,cap,cur,rfl,_⟩ <;> exact ⟨_,_,_,rfl⟩
     obtain ⟨sa,sn,sc,rfl⟩:=hsh
     clear hBw
     go_wp2_with (fail)
     go_at_call 56
     refine HOWN.out.mono ?_
     rintro e w8 ⟨cs8,rfl,hc8,_,_,hB8⟩
     have hz8:=(hB8.block _ (Array.getElem?_eq_some_iff.1 HZB.out).1).trans HZB.out
     have HC8:=Lib.hid hc8
     obtain ⟨vd8,v38,v48,v58,rfl,hd8,hp8⟩:=hc8
     obtain ⟨d8,e8,rfl⟩:=hd8.shape
     obtain ⟨a3,p3,rfl⟩:=hp8.sums.shape
     obtain ⟨a4,p4,rfl⟩:=hp8.mins.shape
     obtain ⟨a5,p5,rfl⟩:=hp8.maxs.shape
     obtain ⟨nd,hnd⟩:∃ nd,nd=((l.map Tess.Val.c).map Tess.valOf).length:=⟨_,rfl⟩
     simp only [← hnd] at HC8 ⊢
     have HND:=Lib.hid hnd
     clear hd8 hp8 hnd
     obtain ⟨_,f0,f1,f2,f3,f4,f5⟩:=can6 hz8
     have q1:=set6 (.int .i64 T) (.slice d8 nd e8) (.int .i64 1) (.slice a3 ns.length p3) (.slice a4 ns.length p4) (.slice a5 ns.length p5) hz8
     have qB:=set6_below (.int .i64 T) (.slice d8 nd e8) (.int .i64 1) (.slice a3 ns.length p3) (.slice a4 ns.length p4) (.slice a5 ns.length p5) (Bt HBr.out hB8) (show w.heap.size≤w.heap.size + 1 + 1 by omega)
     have HQ1:=Lib.hid q1
     have HQB:=Lib.hid qB
     have hs8:=HBr.out.size
     clear g0 g1 g2 g3 g4 g5 q1 qB hB8 hz8
     go_wp2_with (fail)
     obtain ⟨⟨e0,e1,e2,e3,e4,e5⟩,_⟩:=can6 HQ1.out
     refine bodyPost_ret (v:=.tuple #[.agg #[.int .i64 T,.slice d8 nd e8,.int .i64 1,.slice a3 ns.length p3,.slice a4 ns.length p4,.slice a5 ns.length p5],.int .i64 0]) (by simp [results,Tryz.results31,go_sem,e0,e1,e2,e3,e4,e5]) rfl ⟨[.int .i64 T,.slice d8 nd e8,.int .i64 1,.slice a3 ns.length p3,.slice a4 ns.length p4,.slice a5 ns.length p5],rfl,.inl ⟨HFT.out,?_⟩,HQB.out⟩
     have hA:∀ W6,W6=((((((w8.setCell ⟨w.heap.size + 1 + 1,0,none⟩ (.int .i64 T)).setCell ⟨w.heap.size + 1 + 1,1,none⟩ (.slice d8 nd e8)).setCell ⟨w.heap.size + 1 + 1,2,none⟩ (.int .i64 1)).setCell ⟨w.heap.size + 1 + 1,3,none⟩ (.slice a3 ns.length p3)).setCell ⟨w.heap.size + 1 + 1,4,none⟩ (.slice a4 ns.length p4)).setCell ⟨w.heap.size + 1 + 1,5,none⟩ (.slice a5 ns.length p5))→Ag (fun b=>wr.heap.size≤b) w8 W6:=fun W6 e=>by
      rw [e]
      exact ⟨by rw [set6_size];exact Nat.le_refl _,fun b _ hb=>set6_other _ _ _ _ _ _ (by have:=HNG.out;have:=HGE.out;omega)⟩
     show CelAt (fun b=>w.heap.size≤b) _ _ ((t - t % s.grain,l.map Tess.Val.c),⟨1,ns,ns,ns⟩)
     rw [HTE.out]
     exact (HC8.out.ag (hA _ rfl)).weak fun b hb=>Nat.le_trans hs8 hb
end Go.Proofs.YtaddkkkchkdgkaaGreatDoor
namespace Go.Proofs.YtaddkkkchkdgkaaGreatDoor
open Go.RowKit Go.Sort
open Tess (CK Pay)
def RowC (p:Nat→Prop) (w:World) (cs:List Value) (r:Tess.Row):Prop:=∃ vd a c,cs=[.int .i64 r.t,vd,.slice a r.ns.length c]∧r.ns.length≤c∧ValsAt p w vd r.l∧SlP p w (.slice a r.ns.length c) (r.ns.map (.int .i64))
theorem RowC.row {p:Nat→Prop} {w:World} {cs:List Value} {r:Tess.Row} (h:RowC p w cs r):RowAt p w (.agg cs.toArray) r.t r.l r.ns:=by
 obtain ⟨vd,a,c,rfl,h1,h2,h3⟩:=h
 exact ⟨vd,a,c,rfl,h1,h2,h3⟩
theorem row_nest:Nest 3 RowC where
 ag h hg:=let ⟨_,_,_,e,h1,h2,h3⟩:=h;⟨_,_,_,e,h1,h2.ag hg,h3.ag hg⟩
 weak h hpq:=let ⟨_,_,_,e,h1,h2,h3⟩:=h;⟨_,_,_,e,h1,h2.weak hpq,h3.weak hpq⟩
 lt h:=let ⟨_,_,_,e,h1,h2,h3⟩:=h;⟨_,_,_,e,h1,h2.lt,h3.lt⟩
 len h:=by obtain ⟨_,_,_,rfl,_⟩:=h;rfl
 one h u hu:=by
  obtain ⟨vd,a,c,rfl,_,h1,_⟩:=h
  obtain ⟨_,_,rfl⟩:=h1.shape
  simp only [List.mem_cons,List.not_mem_nil,or_false] at hu
  rcases hu with rfl | rfl | rfl <;> rfl
def RowsIn (p:Nat→Prop):World→Value→List Tess.Row→Prop:=ListAt 3 (RowC p) p
theorem RowsIn.ag {p:Nat→Prop} {w w':World} {v:Value} {l:List Tess.Row} (h:RowsIn p w v l) (hg:Ag p w w'):RowsIn p w' v l:=ListAt.ag h hg fun _ _ _ h=>row_nest.ag h hg
theorem RowsIn.weak {p q:Nat→Prop} {w:World} {v:Value} {l:List Tess.Row} (h:RowsIn p w v l) (hpq:∀ b,p b→q b):RowsIn q w v l:=ListAt.weak h hpq fun _ _ _ h=>row_nest.weak h hpq
def rowCut (r:Tess.Row):Tess.Row:=⟨r.t,cutVals r.l,r.ns.take 10⟩
def rowsCut (n:Nat) (l:List Tess.Row):List Tess.Row:=(l.take n).map rowCut
theorem infoRow:(Tryz.prog.info? 74).map (fun i=>(i.zero,i.size,i.bytes))=some (some (.agg #[.int .i64 0,.slice none 0 0,.slice none 0 0]),3,56):=by kernel_rfl
set_option maxRecDepth 100000 in
set_option maxHeartbeats 4000000 in
theorem rows_any (p:Nat→Prop) (v:Value) (l:List Tess.Row) (n:Nat) (hn:n≤1000) (w:World) (hv:RowsIn p w v l) :
  Calls Tryz.prog 13 #[v,.int .i64 n] w fun e w' => ∃ v',e = .returned v'∧RowsIn (fun b=>p b∨w.heap.size≤b) w' v' (rowsCut n l)∧Below w.heap.size w w':=by
 obtain ⟨a,cap,rfl,_,hl,_,hc⟩:=ListAt.open hv
 have hl:l.length≤9223372036854775807:=by unfold maxLen at hl;omega
 have HC:=Lib.hid hc
 clear hc
 obtain ⟨i0,hi,hz0,hz1,hz2⟩:=info_parts infoRow
 go_enter Tryz.func13,Tryz.ntmps13
 go_wp2
 go_loopw [5,6] (fun v i wr => ∃ (k:Nat) (us:List (List Value)),k≤l.length∧k≤n∧i = .int .i64 k∧us.length=k∧OwnL w.heap.size 3 74 RowC (fun b=>p b∨w.heap.size≤b) wr v us ((l.take k).map rowCut)∧(k=0→v = .slice none 0 0)∧Below w.heap.size w wr) (fun _ i _=>n - (intOf i).toNat)
 case atStart=>exact ⟨0,[],Nat.zero_le _,Nat.zero_le _,rfl,rfl,OwnL.nil _,fun _=>rfl,Below.refl _ _⟩
 case round=>
  obtain ⟨k,us,hk,hkn,rfl,hus,hown,hnil,hB⟩:=hrel
  have HN:=Lib.hid hnil
  have HU:=Lib.hid hus
  have HO:=Lib.hid hown
  have HB:=Lib.hid hB
  clear hnil hus hown
  by_cases hlt:k < l.length∧k < n
  ·obtain ⟨h1,h2⟩:=hlt
   obtain ⟨b,off,rfl,hb,_,cs,_,hR,hcell⟩:=HC.out k h1
   have HF:=Lib.hid (fun W (hW:Below wr.heap.size wr W)=>fewRow_any (fun b=>p b∧b < w.heap.size) (.agg cs.toArray) l[k].t l[k].l l[k].ns W ((row_nest.lt hR).row.ag (Ag.new _ (Bt hB hW))))
   obtain ⟨vd,na,nc,rfl,_,hvd,_⟩:=hR
   obtain ⟨da,dc,rfl⟩:=hvd.shape
   have c0:wr.cell? ⟨b,off + k * 3,none⟩=some (.int .i64 l[k].t):=(hB.cell (p:=⟨b,off + k * 3,none⟩) hb).trans (hcell 0 (by omega))
   have c1:wr.cell? ⟨b,off + k * 3 + 1,none⟩=some (.slice da l[k].l.length dc):=(hB.cell (p:=⟨b,off + k * 3 + 1,none⟩) hb).trans (hcell 1 (by omega))
   have c2:wr.cell? ⟨b,off + k * 3 + 2,none⟩=some (.slice na l[k].ns.length nc):=(hB.cell (p:=⟨b,off + k * 3 + 2,none⟩) hb).trans (hcell 2 (by omega))
   have hbw:b < wr.heap.size:=Nat.lt_of_lt_of_le hb HB.out.size
   have hki:(k:Int) < (l.length:Int):=by omega
   have hkj:(k:Int) < (n:Int):=by omega
   have HE:=Lib.hid (show (l.take k).map rowCut ++ [rowCut l[k]]=(l.take (k + 1)).map rowCut by rw [List.take_succ_eq_append_getElem h1,List.map_append];rfl)
   clear hB hb hcell hvd
   generalize l[k]=r at *
   go_wp2_with (fail)
   go_at_call 29
   refine (HF.out wr (Below.refl _ _)).mono ?_
   rintro e w2 ⟨v3,rfl,hf3,_,hb3⟩
   have hr:RowAt (fun b=>(p b∧b < w.heap.size)∨wr.heap.size≤b) w2 v3 (rowCut r).t (rowCut r).l (rowCut r).ns:=hf3
   clear hf3
   generalize rowCut r=r2 at *
   obtain ⟨vd2,na2,nc2,rfl,g1,g2,g3⟩:=hr
   have HR2:=Lib.hid (show RowC (fun b=>(p b∧b < w.heap.size)∨wr.heap.size≤b) w2 [.int .i64 r2.t,vd2,.slice na2 r2.ns.length nc2] r2 from ⟨_,_,_,rfl,g1,g2,g3⟩)
   obtain ⟨z0,z1,rfl⟩:=g2.shape
   clear g1 g2 g3
   obtain ⟨W3,hW3⟩:∃ W3,w2.alloc (.cells #[.int .i64 r2.t,.slice z0 r2.l.length z1,.slice na2 r2.ns.length nc2] 74)=W3:=⟨_,rfl⟩
   obtain ⟨k1,kS,kB⟩:=laid1 w2 (.cells #[.int .i64 r2.t,.slice z0 r2.l.length z1,.slice na2 r2.ns.length nc2] 74)
   rw [hW3] at k1 kS kB
   have HK1:=Lib.hid k1
   have hb3':=Bt hb3 kB
   have HO2:=Lib.hid (HO.out.below row_nest hb3')
   have HR3:=Lib.hid (row_nest.ag HR2.out (Ag.new _ kB))
   have HX:=Lib.hid (show RowC (fun b=>(p b∨w.heap.size≤b)∧u5.ownBlock≠some b) W3 [.int .i64 r2.t,.slice z0 r2.l.length z1,.slice na2 r2.ns.length nc2] r2 from row_nest.weak HR3.out fun b hb=>by
    refine ⟨hb.imp And.left fun h=>Nat.le_trans HB.out.size h,fun e => ?_⟩
    have:=(HO.out.own.lt b e).1
    have:=(HO.out.own.lt b e).2
    rcases hb with hb | hb <;> omega)
   have HB2:=Lib.hid (Bt HB.out hb3')
   clear hb3 hb3' kB kS k1 c0 c1 c2
   go_wp2_with (at_builtin;refine wpList_append_own_at _ rfl _ _ 36 rfl w.heap.size 74 i0 (.agg #[.int .i64 0,.slice none 0 0,.slice none 0 0]) 3 56 Tryz.underlying36 hi hz0 hz1 hz2 rfl (by decide) _ _ _ rfl HO2.out.own ⟨w2.heap.size,0,none⟩ 1 1 [.int .i64 r2.t,.slice z0 r2.l.length z1,.slice na2 r2.ns.length nc2] rfl rfl ?_ (row_nest.one HR3.out) ?_ ?_ ?_ ?_)
   ·intro j u hj
    rw [addr_add,cell_of_row _ _ _ _ _ _ HK1.out,Nat.zero_add];simpa using hj
   ·have:=HU.out;unfold maxLen;omega
   ·have:=HU.out;omega
   ·exact HB2.out.size
   intro v' w3 hown3 hgrow3 hnil3 hloc3
   have HO3:=Lib.hid (HO2.out.more row_nest HX.out hown3 hgrow3 hloc3)
   have HB3:=Lib.hid (HB2.out.grown hgrow3 HB2.out.size (fun j e=>(HO2.out.own.lt j e).1))
   clear hown3 hgrow3 hnil3 hloc3
   go_wp2
   go_roundw
   case rel=>exact ⟨k + 1,us ++ [[.int .i64 r2.t,.slice z0 r2.l.length z1,.slice na2 r2.ns.length nc2]],by omega,by omega,by go_num,by simp [HU.out],by rw [← HE.out];exact HO3.out,fun h=>by omega,HB3.out⟩
   case measure=>simp [intOf];omega
  ·have he:(l.take k).map rowCut=rowsCut n l:=by
    unfold rowsCut
    by_cases e:k=n
    ·rw [e]
    ·rw [List.take_of_length_le (by omega),List.take_of_length_le (by omega)]
   rw [he] at HO
   have hll:(rowsCut n l).length=k:=by rw [← he];simp;omega
   have HL:=Lib.hid (HO.out.listed (q:=fun b=>p b∨w.heap.size≤b) row_nest (fun _ h=>h) (fun _ h => .inr h) (by unfold maxLen;omega) (fun h=>HN.out (by rw [← hll,h];rfl)))
   clear hB he hll
   rcases (show (¬ (k:Int) < (l.length:Int))∨((k:Int) < (l.length:Int)∧¬ (k:Int) < (n:Int)) by omega) with hni | ⟨hkl,hni⟩
   all_goals
    clear hlt
    go_wp2
    go_ret
    exact ⟨_,rfl,HL.out,HB.out⟩
end Go.Proofs.YtaddkkkchkdgkaaGreatDoor
