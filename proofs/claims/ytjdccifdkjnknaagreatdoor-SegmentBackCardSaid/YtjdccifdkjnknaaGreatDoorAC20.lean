/- Joined by mergeK.py: K19, K20, K21, K22, K25 -/
import Derived.Test.YtjdccifdkjnknaaGreatDoorAC17
import Derived.Test.YtjdccifdkjnknaaGreatDoorAC19
import Derived.Laws.CopyRow
import Derived.Laws.OwnMore
import Derived.Laws.AppendOwnNone
import Derived.Test.YtjdccifdkjnknaaGreatDoorAC04
import Derived.Deep.DeepAppendRoom
namespace Go.Proofs.YtjdccifdkjnknaaGreatDoor
open Go.RowKit Go.Sort Go.Shelf
open Tess (CK Pay ckLt)
open Tess.Kl (Asc)
theorem cu (q:Nat→Bool):∀ n,(∀ a b,a≤b→b < n→q b=true→q a=true)→(List.range n).countP q≤n∧∀ j,j < n→(q j=true↔j < (List.range n).countP q)
 | 0,_=>⟨by simp,fun j h=>by omega⟩
 | n + 1,h=>by
   obtain ⟨h1,h2⟩:=cu q n fun a b hab hb=>h a b hab (by omega)
   rw [List.range_succ,List.countP_append]
   cases hq:q n
   ·simp only [List.countP_cons,List.countP_nil,hq,Bool.false_eq_true,if_false,Nat.add_zero]
    refine ⟨by omega,fun j hj => ?_⟩
    by_cases e:j=n
    ·subst e;rw [hq];simp;omega
    ·exact h2 j (by omega)
   ·have hall:(List.range n).countP q=n:=by
     rcases Nat.eq_zero_or_pos n with h0 | h0
     ·subst h0;simp
     ·have:=(h2 (n - 1) (by omega)).1 (h (n - 1) n (by omega) (by omega) hq);omega
    simp only [List.countP_cons,List.countP_nil,hq,if_true,Nat.zero_add]
    refine ⟨by omega,fun j hj=>⟨fun _=>by omega,fun _=>h j n (by omega) (by omega) hq⟩⟩
theorem vc2 (l:List Tess.DV):(l.map Tess.valOf).map Tess.Val.c=l:=by
 rw [List.map_map]
 exact (List.map_congr_left fun v _=>Tess.c_valOf v).trans (List.map_id l)
structure PS (N:Nat) (W:World) (v:Value) (us:List (List Value)) (L:List (CK×Pay)):Prop where
 own:OwnL N 6 56 CA3 (fun b=>N≤b) W v us L
 nod:(us.flatMap muts).Nodup
 free:∀ cs ∈ us,Free W cs
theorem Free.below {w w':World} {cs:List Value} (h:Free w cs) (hb:Below w.heap.size w w'):Free w' cs:=fun v hv=>(h v hv).below hb
theorem PS.below {N:Nat} {W W':World} {v:Value} {us:List (List Value)} {L:List (CK×Pay)} (h:PS N W v us L) (hb:Below W.heap.size W W'):PS N W' v us L:=
 ⟨h.own.below cn2 hb,h.nod,fun cs hc=>(h.free cs hc).below hb⟩
theorem PS.row {N:Nat} {W:World} {v:Value} {us:List (List Value)} {L:List (CK×Pay)} (h:PS N W v us L) {j:Nat} (hj:j < L.length):∃ g cap cs,v = .slice (some ⟨g,0,none⟩) L.length cap∧N≤g∧g < W.heap.size∧L.length≤cap∧(∃ cur,W.heap[g]? = some (.cells cur 56 (0,0)))∧(∃ h':j < us.length,us[j]=cs)∧CA3 (fun b=>N≤b∧b≠g) W cs L[j]∧∀ i,i < 6→W.cell? ⟨g,j * 6 + i,none⟩=cs[i]? := by
 have Ab:=h.own.len
 have Aa:j < us.length:=by omega
 rcases h.own.own.2 with ⟨_,h0⟩ | ⟨g,cap,cur,hv,hg,hh,Ag,_,_,_⟩
 ·omega
 ·obtain ⟨g',Ae,Ac,_,Af,_,_,Ah⟩:=oca h.own.own (by omega)
  rw [hv] at Ac
  simp only [Value.slice.injEq,Option.some.injEq,Addr.mk.injEq] at Ac
  obtain ⟨⟨rfl,_⟩,_,rfl⟩:=Ac
  refine ⟨g,cap,us[j],by rw [hv,Ab],hg,Af,by omega,⟨cur,hh⟩,⟨Aa,rfl⟩,cn2.weak (h.own.at_ j hj Aa) fun b hb=>⟨hb.1,fun e=>hb.2 (by rw [hv,e];rfl)⟩,fun i hi => ?_⟩
  have Ad:j * 6 + i < us.length * 6:=by omega
  rw [Ah _ Ad]
  exact flatU us (h.own.lens cn2) j i Aa hi
theorem asc_before {L:List (CK×Pay)} (h:Asc ckLt L) {x:CK} {i j:Nat} (hi:i < L.length) (hj:j < L.length) (hij:i≤j) (hx:ckLt L[j].1 x=true):ckLt L[i].1 x=true:=by
 rcases Nat.lt_or_ge i j with h1 | h1
 ·exact Tess.cs3.trans ((List.pairwise_iff_getElem.1 h) i j hi hj h1) hx
 ·obtain rfl:i=j:=by omega
  exact hx
set_option maxHeartbeats 2000000 in
theorem search_any {N bl bc:Nat} {W:World} {v:Value} {us:List (List Value)} {L:List (CK×Pay)} {x:CK×Pay} {cs:List Value} {q:Nat→Prop} {T T':TypeId} (h:PS N W v us L) (hasc:Asc ckLt L) (hll:L.length < 4611686018427387904)
  (hl:W.heap[bl]? = some (.cells #[v] T (0,0))) (hc:W.heap[bc]? = some (.cells cs.toArray T' (0,0))) (hx:CA3 q W cs x) :
  Calls Tryz.prog 62 #[.int .i64 L.length,.func (.func 63) #[] #[.pointer (some ⟨bl,0,none⟩),.pointer (some ⟨bc,0,none⟩)]] W fun e w' => ∃ k:Nat,e = .returned (.int .i64 k)∧k≤L.length∧(∀ j (hj:j < L.length),ckLt L[j].1 x.1=true↔j < k)∧Below W.heap.size W w':=by
 have eu:∀ args w,(callFunc 63 args).run Tryz.prog w = .ok (.enter 63 args) w:=enters_of Tryz.func63 (by kernel_rfl) rfl
 obtain ⟨vx,xs,xm,xx,rfl,Ag,Ae⟩:=hx
 obtain ⟨bx,dx,rfl,Aj,Ak⟩:=Ag.cells
 obtain ⟨b3,d3,rfl⟩:=Ae.sums.shape
 obtain ⟨b4,d4,rfl⟩:=Ae.mins.shape
 obtain ⟨b5,d5,rfl⟩:=Ae.maxs.shape
 obtain ⟨⟨f0,f1,f2,f3,f4,f5⟩,_⟩:=can6 hc
 have fl:=(cob hl).1
 have Aa:∀ a b,a≤b→b < L.length→(if h:b < L.length then ckLt L[b].1 x.1 else false)=true→(if h:a < L.length then ckLt L[a].1 x.1 else false)=true:=fun a b hab hb hq=>by
  rw [dif_pos hb] at hq
  rw [dif_pos (show a < L.length by omega)]
  exact asc_before hasc (by omega) hb hab hq
 have hS:=Any.sort_Search Tryz.laysSearch 63 #[.pointer (some ⟨bl,0,none⟩),.pointer (some ⟨bc,0,none⟩)] L.length (fun i => !(if h:i < L.length then ckLt L[i].1 x.1 else false)) W eu hll
  (fun m os i hi=>by
    obtain ⟨g,An,Ao,hv,hg,Ac,Am,_,_,Ad,Ab⟩:=h.row hi
    obtain ⟨vy,ys,ym,yx,rfl,Ah,Af⟩:=Ad
    obtain ⟨Ai,ey,rfl,_,Al⟩:=Ah.cells
    obtain ⟨c3,e3,rfl⟩:=Af.sums.shape
    obtain ⟨c4,e4,rfl⟩:=Af.mins.shape
    obtain ⟨c5,e5,rfl⟩:=Af.maxs.shape
    rw [hv] at fl
    have hz:∀ j,0 + i * 6 + j=i * 6 + j:=fun j=>by omega
    have z0:W.cell? ⟨g,0 + i * 6,none⟩=some (.int .i64 L[i].1.1):=by have:=Ab 0 (by omega);rw [Nat.add_zero] at this;rw [Nat.zero_add];exact this
    have hp:=put1_any bl bc g 0 L.length An i Ai bx ey dx (L[i].1.2.map Tess.valOf) (x.1.2.map Tess.valOf) L[i].1.1 x.1.1 L[i].2.n x.2.n c3 c4 c5 b3 b4 b5 L[i].2.sums.length L[i].2.mins.length L[i].2.maxs.length e3 e4 e5 x.2.sums.length x.2.mins.length x.2.maxs.length d3 d4 d5 (grow (W.drewN m) os) hi Aj
     (cell_grown (World.block_lt_of_cell? _ _ fl) fl m os) (cell_grown Ac z0 m os) (cell_grown Ac (by rw [hz];exact Ab 1 (by omega)) m os) (cell_grown Ac (by rw [hz];exact Ab 2 (by omega)) m os) (cell_grown Ac (by rw [hz];exact Ab 3 (by omega)) m os) (cell_grown Ac (by rw [hz];exact Ab 4 (by omega)) m os) (cell_grown Ac (by rw [hz];exact Ab 5 (by omega)) m os)
     (cell_grown (World.block_lt_of_cell? _ _ f0) f0 m os) (cell_grown (World.block_lt_of_cell? _ _ f1) f1 m os) (cell_grown (World.block_lt_of_cell? _ _ f2) f2 m os) (cell_grown (World.block_lt_of_cell? _ _ f3) f3 m os) (cell_grown (World.block_lt_of_cell? _ _ f4) f4 m os) (cell_grown (World.block_lt_of_cell? _ _ f5) f5 m os)
     (Al.grown m os) (Ak.grown m os)
    rw [vc2,vc2] at hp
    rw [dif_pos hi]
    exact hp)
  (fun a b hab hb hq=>by
    cases hb':(if h:b < L.length then ckLt L[b].1 x.1 else false)
    ·rfl
    ·rw [Aa a b hab hb hb'] at hq;cases hq)
 refine Calls.mono (show Calls Tryz.prog 62 _ _ _ from hS) ?_
 rintro e w' ⟨rfl,q',os,rfl⟩
 simp only [Bool.not_not]
 obtain ⟨hk,hj⟩:=cu (fun i=>if h:i < L.length then ckLt L[i].1 x.1 else false) L.length Aa
 refine ⟨_,rfl,hk,fun j hjl => ?_,below_grown_sl W.heap.size W q' os (Nat.le_refl _)⟩
 have:=hj j hjl
 rw [dif_pos hjl] at this
 exact this
end Go.Proofs.YtjdccifdkjnknaaGreatDoor
namespace Go
open Go.RowKit
variable {P:Program} (w:World)
theorem rcr (dT sT ty elem:TypeId) (g o dLen dCap k:Nat) (a:Addr) (sLen sCap:Nat) (cur:Array Value) (t:TypeId) (cs:List Value)
  (hu:P.underlying dT=some (.slice elem)) (hs:(P.info? elem).map (·.size)=some k)
  (hg:w.heap[g]? = some (.cells cur t (0,0))) (hn:cs.length=Nat.min sLen dLen * k)
  (hsrc:∀ j v,cs[j]? = some v→w.cell? (a.add j)=some v) (hfit:o + cs.length≤cur.size) (h1:∀ v ∈ cs,v.oneCell'=true) :
  (Builtin.copy_ #[dT,sT] ty #[.slice (some ⟨g,o,none⟩) dLen dCap,.slice (some a) sLen sCap]).run P w =
   .ok (goInt (Nat.min sLen dLen)) (w.setRow g (cur.toList.take o ++ cs ++ cur.toList.drop (o + cs.length)).toArray):=by
 have hl:=run_loadCells_list (P:=P) w a cs hsrc
 have Aa:=run_storeCells_at P g o t cs 0 cur w hg (by simpa using hfit) h1
 cases hq:P.info? elem with
 | none=>simp [hq] at hs
 | some i=>
   have hi:i.size=k:=by simpa [hq] using hs
   simp [Builtin.copy_,run_underlying hu,Builtin.lenOf,Builtin.firstCells,sizeOf,typeInfo,hq,hi,← hn,hl,Aa]
theorem rcn (dT sT ty elem:TypeId) (d:Option Addr) (dLen dCap k:Nat) (hu:P.underlying dT=some (.slice elem)) (hs:(P.info? elem).map (·.size)=some k) :
  (Builtin.copy_ #[dT,sT] ty #[.slice d dLen dCap,.slice none 0 0]).run P w = .ok (goInt 0) w:=by
 cases hq:P.info? elem with
 | none=>simp [hq] at hs
 | some i=>cases d <;> simp [Builtin.copy_,run_underlying hu,Builtin.lenOf,Builtin.firstCells,sizeOf,typeInfo,hq,storeCells]
theorem rms (t e:TypeId) (i:TypeInfo) (z:Value) (size:Nat) (ht:P.underlying t=some (.slice e)) (hi:P.info? e=some i) (hz:i.zero=some z) (hsize:i.size=size)
  (kl kc:IntKind) (m n:Nat) (hmn:m≤n) (hbytes:i.bytes * n≤281474976710656) (h63:n≤maxLen) :
  ∃ w' cur,(Instr.makeSlice t (.int kl (m:Int)) (.int kc (n:Int))).run P w = .ok (.slice (some ⟨w.heap.size,0,none⟩) m n) w' ∧
    w'.heap[w.heap.size]? = some (.cells cur e (0,0))∧cur.size=n * size∧Below w.heap.size w w':=by
 subst hsize
 have Aa:(n:Int)≤9223372036854775807:=by
  have h:=h63
  simp [maxLen] at h
  omega
 have Ab:(i.bytes:Int) * (n:Int)≤281474976710656:=by
  have h:((i.bytes * n:Nat):Int)≤281474976710656:=by omega
  rwa [Int.natCast_mul] at h
 have hr:=run_make (P:=P) w t e i z ht hi hz kl kc m n (by omega) (by omega) Ab Aa
 simp only [Int.toNat_natCast] at hr
 exact ⟨_,_,hr,heap_alloc_new _ _,size_madeCells _ _,(Below.refl _ _).alloc (Nat.le_refl _) _⟩
end Go
namespace Go.Proofs.YtjdccifdkjnknaaGreatDoor
open Go.RowKit Go.Sort
open Tess (CK Pay)
theorem CA3.iM {p:Nat→Prop} {w:World} {cs:List Value} {x:CK×Pay} (h:CA3 p w cs x):∀ b ∈ muts cs,p b:=by
 obtain ⟨vd,vs,vm,vx,rfl,h1,h2⟩:=h
 intro b hb
 unfold muts at hb
 obtain ⟨v,hv,Aa⟩:=List.mem_filterMap.1 hb
 simp only [List.mem_cons,List.not_mem_nil,or_false] at hv
 rcases hv with rfl | rfl | rfl | rfl | rfl | rfl
 ·cases Aa
 ·exact h1.blk Aa
 ·cases Aa
 ·exact h2.sums.blk Aa
 ·exact h2.mins.blk Aa
 ·exact h2.maxs.blk Aa
theorem VA.keep {p:Nat→Prop} {W W':World} {v:Value} {l:List Tess.Val} (h:VA p W v l) (hsz:W.heap.size≤W'.heap.size) (hs:∀ b,blkN v=some b→W'.heap[b]? = W.heap[b]?):VA p W' v l:=by
 obtain ⟨a,c,rfl,h1,h2,h3,h4⟩:=h
 refine ⟨a,c,rfl,h1,h2,h3,fun hl => ?_⟩
 obtain ⟨b,Aa,rfl,hb,hp,hc⟩:=h4 hl
 exact ⟨b,Aa,rfl,Nat.lt_of_lt_of_le hb hsz,hp,fun j hj=>⟨(World.cell?_of_block (hs b (bNs hl))).trans (hc j hj).1,(World.cell?_of_block (hs b (bNs hl))).trans (hc j hj).2⟩⟩
theorem CA3.keep {p:Nat→Prop} {W W':World} {cs:List Value} {x:CK×Pay} (h:CA3 p W cs x) (hsz:W.heap.size≤W'.heap.size) (hs:∀ b ∈ muts cs,W'.heap[b]? = W.heap[b]?):CA3 p W' cs x:=by
 obtain ⟨vd,vs,vm,vx,rfl,h1,h2,h3,h4⟩:=h
 have hm:∀ v ∈ [.int .i64 x.1.1,vd,.int .i64 x.2.n,vs,vm,vx],∀ b,blkN v=some b→W'.heap[b]? = W.heap[b]? := fun v hv b hb=>hs b (List.mem_filterMap.2 ⟨v,hv,hb⟩)
 exact ⟨_,_,_,_,rfl,h1.keep hsz (hm _ (by simp)),h2.keep hsz (hm _ (by simp)),h3.keep hsz (hm _ (by simp)),h4.keep hsz (hm _ (by simp))⟩
theorem np2 {us:List (List Value)} (h:(us.flatMap muts).Nodup):(∀ cs ∈ us,(muts cs).Nodup)∧∀ i j (hi:i < us.length) (hj:j < us.length),i≠j→∀ b ∈ muts us[i],b ∉ muts us[j]:=by
 rw [List.nodup_iff_pairwise_ne,List.pairwise_flatMap] at h
 refine ⟨fun cs hc=>by rw [List.nodup_iff_pairwise_ne];exact h.1 cs hc,fun i j hi hj hij b hb hb' => ?_⟩
 have hp:=List.pairwise_iff_getElem.1 h.2
 rcases Nat.lt_or_gt_of_ne hij with hl | hl
 ·exact hp i j hi hj hl b hb b hb' rfl
 ·exact hp j i hj hi hl b hb' b hb rfl
theorem fs3 (us:List (List Value)) (k:Nat) (cs:List Value):(us.take k ++ cs :: us.drop k).flatten=(us.take k).flatten ++ cs ++ (us.drop k).flatten:=by simp
theorem PS.insert {N:Nat} {W0 W:World} {v v':Value} {us:List (List Value)} {L:List (CK×Pay)} {cs:List Value} {x:CK×Pay} {k:Nat} (h:PS N W0 v us L) (hb:Below W0.heap.size W0 W) (hk:k≤L.length)
  (hg:∀ g,v'.ownBlock=some g→W0.heap.size≤g) (hown:W.ownsRow N 56 6 v' (L.length + 1) ((us.take k).flatten ++ cs ++ (us.drop k).flatten))
  (hx:CA3 (fun b=>N≤b∧W0.heap.size≤b∧v'.ownBlock≠some b) W cs x) (hnd:(muts cs).Nodup) (hfree:Free W cs):PS N W v' (us.take k ++ cs :: us.drop k) (L.take k ++ x :: L.drop k):=by
 have Ad:=h.own.len
 have Aa:∀ j (hj:j < L.length) (hj':j < us.length),CA3 (fun b=>N≤b∧v'.ownBlock≠some b) W us[j] L[j]:=fun j hj hj'=>
  ((cn2.lt (h.own.at_ j hj hj')).ag (Ag.new _ hb)).weak fun b hb'=>⟨hb'.1.1,fun e=>by have:=hg b e;have:=hb'.2;omega⟩
 have Ab:(us.take k ++ cs :: us.drop k).length=L.length + 1:=by simp;omega
 refine ⟨⟨by rw [Ab,fs3];exact hown,by rw [Ab];simp;omega,fun j hj hj' => ?_⟩,?_,fun c hc => ?_⟩
 ·rcases Nat.lt_trichotomy j k with h1 | h1 | h1
  ·rw [List.getElem_append_left (by simp;omega),List.getElem_append_left (by simp;omega),List.getElem_take,List.getElem_take]
   exact Aa j (by omega) (by omega)
  ·subst h1
   rw [List.getElem_append_right (by simp;omega),List.getElem_append_right (by simp;omega)]
   simp only [List.length_take,Nat.min_eq_left hk,Nat.min_eq_left (show j≤us.length by omega),Nat.sub_self,List.getElem_cons_zero]
   exact hx.weak fun b hb=>⟨hb.1,hb.2.2⟩
  ·rw [Ab] at hj'
   have e1:(us.take k ++ cs :: us.drop k)[j]'(by rw [Ab];omega)=us[j - 1]'(by omega):=by
    rw [List.getElem_append_right (by simp;omega)]
    simp only [List.length_take,Nat.min_eq_left (show k≤us.length by omega)]
    obtain ⟨m,rfl⟩:∃ m,j=k + 1 + m:=⟨j - (k + 1),by omega⟩
    simp only [show k + 1 + m - k=m + 1 by omega,List.getElem_cons_succ,List.getElem_drop,show k + 1 + m - 1=k + m by omega]
   have e2:(L.take k ++ x :: L.drop k)[j]'hj=L[j - 1]'(by omega):=by
    rw [List.getElem_append_right (by simp;omega)]
    simp only [List.length_take,Nat.min_eq_left hk]
    obtain ⟨m,rfl⟩:∃ m,j=k + 1 + m:=⟨j - (k + 1),by omega⟩
    simp only [show k + 1 + m - k=m + 1 by omega,List.getElem_cons_succ,List.getElem_drop,show k + 1 + m - 1=k + m by omega]
   rw [e1,e2]
   exact Aa (j - 1) (by omega) (by omega)
 ·have hp:(us.take k ++ cs :: us.drop k).Perm (cs :: us):=by
   have:=List.perm_middle (a:=cs) (l₁:=us.take k) (l₂:=us.drop k)
   rwa [List.take_append_drop] at this
  refine (List.Perm.nodup_iff (List.Perm.flatMap_right muts hp)).2 ?_
  rw [List.flatMap_cons,List.nodup_append]
  refine ⟨hnd,h.nod,fun a ha b hb' e => ?_⟩
  subst e
  obtain ⟨c,hc,Ac⟩:=List.mem_flatMap.1 hb'
  obtain ⟨j,hj,rfl⟩:=List.mem_iff_getElem.1 hc
  have h1:=(hx.iM a ha).2.1
  have h2:=((cn2.lt (h.own.at_ j (by omega) hj)).iM a Ac).2
  omega
 ·rcases List.mem_append.1 hc with hc | hc
  ·exact (h.free c (List.mem_of_mem_take hc)).below hb
  ·rcases List.mem_cons.1 hc with rfl | hc
   ·exact hfree
   ·exact (h.free c (List.mem_of_mem_drop hc)).below hb
end Go.Proofs.YtjdccifdkjnknaaGreatDoor
namespace Go.Proofs.YtjdccifdkjnknaaGreatDoor
open Go.RowKit Go.Sort
open Tess (CK Pay)
theorem ss2 (u r:List Value) (hu:u.length=6) (m:Nat) (y:Value):(u ++ r).set (m + 6) y=u ++ r.set m y:=by
 rw [List.set_append,if_neg (by omega),show m + 6 - u.length=m by omega]
theorem fs2 (y0 y1 y2 y3 y4 y5:Value):∀ (us:List (List Value)) (k:Nat),(∀ u ∈ us,u.length=6)→k < us.length→((((((us.flatten.set (k * 6) y0).set (k * 6 + 1) y1).set (k * 6 + 2) y2).set (k * 6 + 3) y3).set (k * 6 + 4) y4).set (k * 6 + 5) y5)=(us.set k [y0,y1,y2,y3,y4,y5]).flatten
 | [],k,_,hk=>by simp at hk
 | u :: us,0,h,_=>by
   have hu:=h u (by simp)
   obtain ⟨a0,u1,rfl⟩:∃ a b,u=a :: b:=by cases u;simp at hu;exact ⟨_,_,rfl⟩
   obtain ⟨a1,u2,rfl⟩:∃ a b,u1=a :: b:=by cases u1;simp at hu;exact ⟨_,_,rfl⟩
   obtain ⟨a2,u3,rfl⟩:∃ a b,u2=a :: b:=by cases u2;simp at hu;exact ⟨_,_,rfl⟩
   obtain ⟨a3,u4,rfl⟩:∃ a b,u3=a :: b:=by cases u3;simp at hu;exact ⟨_,_,rfl⟩
   obtain ⟨a4,u5,rfl⟩:∃ a b,u4=a :: b:=by cases u4;simp at hu;exact ⟨_,_,rfl⟩
   obtain ⟨a5,u6,rfl⟩:∃ a b,u5=a :: b:=by cases u5;simp at hu;exact ⟨_,_,rfl⟩
   have:u6=[]:=by simpa using hu
   subst this
   simp
 | u :: us,k + 1,h,hk=>by
   have hu:=h u (by simp)
   have ih:=fs2 y0 y1 y2 y3 y4 y5 us k (fun v hv=>h v (by simp [hv])) (by simpa using hk)
   rw [List.flatten_cons,List.set_cons_succ,List.flatten_cons,← ih]
   have e:∀ i,k * 6 + 6 + i=k * 6 + i + 6:=fun i=>by omega
   have e0:(k + 1) * 6=k * 6 + 6:=by omega
   rw [e0,e,e,e,e,e,ss2 _ _ hu,ss2 _ _ hu,ss2 _ _ hu,ss2 _ _ hu,ss2 _ _ hu,ss2 _ _ hu]
theorem RA.own {α:Type} {k:Nat} {f:α→List Value} {p q:Nat→Prop} {w:World} {v:Value} {l:List α} (h:RA k f p w v l) (hq:∀ b,blkN v=some b→q b):RA k f q w v l:=by
 obtain ⟨a,c,rfl,h1,h2,h3,h4⟩:=h
 refine ⟨a,c,rfl,h1,h2,h3,fun hl => ?_⟩
 obtain ⟨b,Aa,rfl,hb,hp,hc⟩:=h4 hl
 exact ⟨b,Aa,rfl,hb,hq b (bNs hl),hc⟩
theorem so4 {W:World} {g k b:Nat} (y0 y1 y2 y3 y4 y5:Value) (h:b≠g):((((((W.setCell ⟨g,k * 6,none⟩ y0).setCell ⟨g,k * 6 + 1,none⟩ y1).setCell ⟨g,k * 6 + 2,none⟩ y2).setCell ⟨g,k * 6 + 3,none⟩ y3).setCell ⟨g,k * 6 + 4,none⟩ y4).setCell ⟨g,k * 6 + 5,none⟩ y5).heap[b]? = W.heap[b]? :=
 (heap_setCell_other _ _ _ _ h).trans ((heap_setCell_other _ _ _ _ h).trans ((heap_setCell_other _ _ _ _ h).trans ((heap_setCell_other _ _ _ _ h).trans ((heap_setCell_other _ _ _ _ h).trans (heap_setCell_other _ _ _ _ h)))))
theorem ss3 {W:World} {g k:Nat} (y0 y1 y2 y3 y4 y5:Value):((((((W.setCell ⟨g,k * 6,none⟩ y0).setCell ⟨g,k * 6 + 1,none⟩ y1).setCell ⟨g,k * 6 + 2,none⟩ y2).setCell ⟨g,k * 6 + 3,none⟩ y3).setCell ⟨g,k * 6 + 4,none⟩ y4).setCell ⟨g,k * 6 + 5,none⟩ y5).heap.size=W.heap.size:=by
 simp only [sCs]
theorem PS.replace {N g cap k B:Nat} {W1 W4:World} {us:List (List Value)} {L:List (CK×Pay)} {S:Nat→Prop} {n':Int} {vd vs vm vx:Value} {y:Pay} {n:Int} {t:Int}
  (h:PS N W1 (.slice (some ⟨g,0,none⟩) us.length cap) us L) (hk:k < L.length) (hT:Tch S W1 W4) (hk':k < us.length) (hcs:us[k]=[.int .i64 t,vd,.int .i64 n,vs,vm,vx]) (ht:t=L[k].1.1)
  (hS:∀ b,S b→b=B∨b ∈ muts [vs,vm,vx]) (hB:W1.heap.size≤B∨(∀ j (hj:j < us.length),B ∉ muts us[j])∧B≠g)
  (hs:RA 2 wF (fun _=>True) W4 vs y.sums) (hm:RA 1 intF (fun _=>True) W4 vm y.mins) (hx:RA 1 intF (fun _=>True) W4 vx y.maxs) (fs:Fr W4 vs) (fm:Fr W4 vm) (fx:Fr W4 vx) (hn:y.n=n') :
  PS N ((((((W4.setCell ⟨g,k * 6,none⟩ (.int .i64 t)).setCell ⟨g,k * 6 + 1,none⟩ vd).setCell ⟨g,k * 6 + 2,none⟩ (.int .i64 n')).setCell ⟨g,k * 6 + 3,none⟩ vs).setCell ⟨g,k * 6 + 4,none⟩ vm).setCell ⟨g,k * 6 + 5,none⟩ vx) (.slice (some ⟨g,0,none⟩) us.length cap) (us.set k [.int .i64 t,vd,.int .i64 n',vs,vm,vx]) (L.set k (L[k].1,y)):=by
 have Ai:=h.own.len
 obtain ⟨Am,Ah⟩:=np2 h.nod
 have Af:=h.own.at_ k hk hk'
 have Ab:∀ j (hj:j < L.length) (hj':j < us.length),∀ b ∈ muts us[j],N≤b∧b≠g∧b < W1.heap.size:=fun j hj hj' b hb=>by
  have:=((cn2.lt (h.own.at_ j hj hj')).iM b hb)
  exact ⟨this.1.1,fun e=>this.1.2 (by rw [e];rfl),this.2⟩
 have Ak:∀ b,b ∈ muts [vs,vm,vx]→b ∈ muts us[k]:=fun b hb=>by
  rw [hcs]
  obtain ⟨v,hv,e⟩:=List.mem_filterMap.1 hb
  simp only [List.mem_cons,List.not_mem_nil,or_false] at hv
  refine List.mem_filterMap.2 ⟨v,?_,e⟩
  rcases hv with rfl | rfl | rfl <;> simp
 have Ao:¬ S g:=fun e=>by
  rcases hS g e with e | e
  ·rcases hB with hb | hb
   ·have:g < W1.heap.size:=by
     rcases h.own.own.2 with ⟨e1,_⟩ | ⟨g',_,_,e1,_,hh,_⟩
     ·cases e1
     ·cases e1;exact (Array.getElem?_eq_some_iff.1 hh).1
    omega
   ·exact hb.2 e.symm
  ·exact (Ab k hk hk' g (Ak g e)).2.1 rfl
 have Al:∀ j (hj:j < L.length) (hj':j < us.length),j≠k→∀ b ∈ muts us[j],¬ S b:=fun j hj hj' hjk b hb e=>by
  rcases hS b e with e | e
  ·rcases hB with Ad | Ad
   ·have:=(Ab j hj hj' b hb).2.2;omega
   ·exact Ad.1 j hj' (e ▸ hb)
  ·exact Ah j k hj' hk' hjk b hb (Ak b e)
 have Aa:∀ b,b < W1.heap.size→¬ S b→b≠g→((((((W4.setCell ⟨g,k * 6,none⟩ (.int .i64 t)).setCell ⟨g,k * 6 + 1,none⟩ vd).setCell ⟨g,k * 6 + 2,none⟩ (.int .i64 n')).setCell ⟨g,k * 6 + 3,none⟩ vs).setCell ⟨g,k * 6 + 4,none⟩ vm).setCell ⟨g,k * 6 + 5,none⟩ vx).heap[b]? = W1.heap[b]? := fun b hb hSb hbg=>
  (so4 _ _ _ _ _ _ hbg).trans (hT.block b hb hSb)
 have hz:W1.heap.size≤((((((W4.setCell ⟨g,k * 6,none⟩ (.int .i64 t)).setCell ⟨g,k * 6 + 1,none⟩ vd).setCell ⟨g,k * 6 + 2,none⟩ (.int .i64 n')).setCell ⟨g,k * 6 + 3,none⟩ vs).setCell ⟨g,k * 6 + 4,none⟩ vm).setCell ⟨g,k * 6 + 5,none⟩ vx).heap.size:=by rw [ss3];exact hT.size
 have Ac:∀ v ∈ [vs,vm,vx],∀ b,blkN v=some b→N≤b∧b≠g:=fun v hv b hb=>by
  have:=Ab k hk hk' b (Ak b (List.mem_filterMap.2 ⟨v,hv,hb⟩));exact ⟨this.1,this.2.1⟩
 have Aj:W4.heap.size≤((((((W4.setCell ⟨g,k * 6,none⟩ (.int .i64 t)).setCell ⟨g,k * 6 + 1,none⟩ vd).setCell ⟨g,k * 6 + 2,none⟩ (.int .i64 n')).setCell ⟨g,k * 6 + 3,none⟩ vs).setCell ⟨g,k * 6 + 4,none⟩ vm).setCell ⟨g,k * 6 + 5,none⟩ vx).heap.size:=by rw [ss3];exact Nat.le_refl _
 have Ag:W4.ownsRow N 56 6 (.slice (some ⟨g,0,none⟩) us.length cap) us.length us.flatten:=by
  refine ⟨h.own.own.1,?_⟩
  rcases h.own.own.2 with e1 | ⟨g',Aq,An,e1,hg,hh,r⟩
  ·exact .inl e1
  ·cases e1
   exact .inr ⟨g,cap,An,rfl,hg,(hT.block g (Array.getElem?_eq_some_iff.1 hh).1 Ao).trans hh,r⟩
 refine ⟨⟨?_,by simp [Ai],fun j hj hj' => ?_⟩,?_,fun c hc => ?_⟩
 ·have q:=((((((Ag.stored (k * 6) (.int .i64 t)).1.stored (k * 6 + 1) vd).1.stored (k * 6 + 2) (.int .i64 n')).1.stored (k * 6 + 3) vs).1.stored (k * 6 + 4) vm).1.stored (k * 6 + 5) vx).1
  rw [fs2 _ _ _ _ _ _ us k (h.own.lens cn2) hk'] at q
  rw [List.length_set];exact q
 ·simp only [List.length_set] at hj hj'
  by_cases e:j=k
  ·subst e
   rw [List.getElem_set_self,List.getElem_set_self]
   rw [hcs] at Af
   obtain ⟨As,At,Au,Ar,e1,hd,_⟩:=Af
   simp only [List.cons.injEq,and_true] at e1
   obtain ⟨_,rfl,_,rfl,rfl,rfl⟩:=e1
   refine ⟨vd,vs,vm,vx,by rw [ht,← hn],?_,(hs.own fun b hb => ?_).keep Aj fun b hb => ?_,(hm.own fun b hb => ?_).keep Aj fun b hb => ?_,(hx.own fun b hb => ?_).keep Aj fun b hb => ?_⟩
   ·refine hd.keep hz fun b hb=>Aa b ?_ (fun hSb => ?_) ?_
    ·exact (Ab j hk hk' b (by rw [hcs];exact List.mem_filterMap.2 ⟨vd,by simp,hb⟩)).2.2
    ·rcases hS b hSb with e | e
     ·subst e
      rcases hB with Ad | Ad
      ·have:=(Ab j hk hk' b (by rw [hcs];exact List.mem_filterMap.2 ⟨vd,by simp,hb⟩)).2.2;omega
      ·exact Ad.1 j hk' (by rw [hcs];exact List.mem_filterMap.2 ⟨vd,by simp,hb⟩)
     ·have Ae:=Am _ (List.getElem_mem hk')
      rw [hcs] at Ae
      unfold muts at Ae e
      have e1:∀ z,blkN (.int .i64 z)=none:=fun _=>rfl
      rw [List.filterMap_cons,e1] at Ae
      simp only [List.filterMap_cons_some hb] at Ae
      rw [List.filterMap_cons,e1] at Ae
      exact (List.nodup_cons.1 Ae).1 e
    ·exact (Ab j hk hk' b (by rw [hcs];exact List.mem_filterMap.2 ⟨vd,by simp,hb⟩)).2.1
   ·have:=Ac vs (by simp) b hb;exact ⟨this.1,fun e=>this.2 (Option.some.inj e).symm⟩
   ·exact so4 _ _ _ _ _ _ (Ac vs (by simp) b hb).2
   ·have:=Ac vm (by simp) b hb;exact ⟨this.1,fun e=>this.2 (Option.some.inj e).symm⟩
   ·exact so4 _ _ _ _ _ _ (Ac vm (by simp) b hb).2
   ·have:=Ac vx (by simp) b hb;exact ⟨this.1,fun e=>this.2 (Option.some.inj e).symm⟩
   ·exact so4 _ _ _ _ _ _ (Ac vx (by simp) b hb).2
  ·rw [List.getElem_set_ne (Ne.symm e),List.getElem_set_ne (Ne.symm e)]
   exact (h.own.at_ j hj hj').keep hz fun b hb=>Aa b (Ab j hj hj' b hb).2.2 (Al j hj hj' e b hb) (Ab j hj hj' b hb).2.1
 ·have e:(us.set k [.int .i64 t,vd,.int .i64 n',vs,vm,vx]).flatMap muts=us.flatMap muts:=by
   have:(us.set k [.int .i64 t,vd,.int .i64 n',vs,vm,vx]).map muts=us.map muts:=by
    rw [List.map_set]
    have Ap:muts [.int .i64 t,vd,.int .i64 n',vs,vm,vx]=(us.map muts)[k]'(by simpa using hk'):=by rw [List.getElem_map,hcs];rfl
    rw [Ap,List.set_getElem_self]
   simp only [List.flatMap,this]
  rw [e];exact h.nod
 ·obtain ⟨j,hj,rfl⟩:=List.mem_iff_getElem.1 hc
  simp only [List.length_set] at hj
  by_cases e:j=k
  ·subst e
   rw [List.getElem_set_self]
   intro v hv
   simp only [List.drop_succ_cons,List.drop_zero,List.mem_cons,List.not_mem_nil,or_false] at hv
   rcases hv with rfl | rfl | rfl
   ·exact fs.same fun b hb=>so4 _ _ _ _ _ _ (Ac _ (by simp) b hb).2
   ·exact fm.same fun b hb=>so4 _ _ _ _ _ _ (Ac _ (by simp) b hb).2
   ·exact fx.same fun b hb=>so4 _ _ _ _ _ _ (Ac _ (by simp) b hb).2
  ·rw [List.getElem_set_ne (Ne.symm e)]
   intro v hv
   refine (h.free _ (List.getElem_mem hj) v hv).same fun b hb => ?_
   have Ad:b ∈ muts us[j]:=List.mem_filterMap.2 ⟨v,List.mem_of_mem_drop hv,hb⟩
   exact Aa b (Ab j (by omega) hj b Ad).2.2 (Al j (by omega) hj e b Ad) (Ab j (by omega) hj b Ad).2.1
end Go.Proofs.YtjdccifdkjnknaaGreatDoor
namespace Go.Proofs.YtjdccifdkjnknaaGreatDoor
open Go.RowKit Go.Sort
open Tess (CK Pay)
def one (g:Nat) (Z Y:Obj):FlowR.Rel where
 r w w':=w'.os=w.os∧w'.tape=w.tape∧w'.output=w.output∧w.heap.size≤w'.heap.size∧(∀ k,k < w.heap.size→k≠g→w'.heap[k]? = w.heap[k]?) ∧
   (w'.heap[g]? = w.heap[g]? ∨ (w.heap[g]? = some Z∧w'.heap[g]? = some Y))
 rf w:=⟨rfl,rfl,rfl,Nat.le_refl _,fun _ _ _=>rfl,.inl rfl⟩
 tr:=by
  rintro a b c ⟨h1,h2,h3,h4,h5,h6⟩ ⟨k1,k2,k3,k4,k5,k6⟩
  refine ⟨k1.trans h1,k2.trans h2,k3.trans h3,Nat.le_trans h4 k4,fun k hk hg=>(k5 k (Nat.lt_of_lt_of_le hk h4) hg).trans (h5 k hk hg),?_⟩
  rcases h6 with e1 | ⟨e1,e1'⟩ <;> rcases k6 with e2 | ⟨e2,e2'⟩
  ·exact .inl (e2.trans e1)
  ·exact .inr ⟨e1 ▸ e2,e2'⟩
  ·exact .inr ⟨e1,e2.trans e1'⟩
  ·exact .inr ⟨e1,e2'⟩
 drew w:=⟨rfl,rfl,rfl,Nat.le_refl _,fun _ _ _=>rfl,.inl rfl⟩
section
variable {g:Nat} {Z Y:Obj} {w w':World}
theorem ob3 (hr:(one g Z Y).r w w') {b:Nat} (hb:b < w.heap.size) (hg:b≠g):w'.heap[b]? = w.heap[b]? := hr.2.2.2.2.1 b hb hg
theorem one_at (hr:(one g Z Y).r w w') {b o:Nat} (hb:b < w.heap.size) (hg:b≠g):w'.cell? ⟨b,o,none⟩=w.cell? ⟨b,o,none⟩:=
 World.cell?_of_block (a:=⟨b,o,none⟩) (hr.2.2.2.2.1 b hb hg)
theorem ob4 (hr:(one g Z Y).r w w') {N:Nat} (hN:N≤g) (hw:N≤w.heap.size):Below N w w':=⟨hr.1,hr.2.1,hr.2.2.1,hr.2.2.2.1,fun k hk=>hr.2.2.2.2.1 k (by omega) (by omega)⟩
theorem oa4 (hg:g < w.heap.size) (o:Obj):(one g Z Y).r w (w.alloc o):=
 ⟨rfl,rfl,rfl,by simp,fun k hk _=>heap_alloc_old w _ hk,.inl (heap_alloc_old w _ hg)⟩
def newRow (g:Nat) (cs:List Value) (v:Value) (w:World):Prop:=∃ h,v = .slice (some ⟨h,0,none⟩) 1 1∧h < w.heap.size∧h≠g∧∀ j u,cs[j]? = some u→w.cell? ⟨h,j,none⟩=some u
theorem nRm (cs:List Value):FlowR.Spec.mono (one g Z Y) (.inr (newRow g cs)):=by
 rintro v a b ⟨h,h1,h2,h3,h4⟩ hr
 exact ⟨h,h1,Nat.lt_of_lt_of_le h2 hr.2.2.2.1,h3,fun j u hu=>(one_at hr h2 h3).trans (h4 j u hu)⟩
def tT2 (g:Nat) (Y:Obj) (u v:Value) (w:World):Prop:=v=u∧w.heap[g]? = some Y
theorem tTm (u:Value):FlowR.Spec.mono (one g Z Y) (.inr (tT2 g Y u)):=by
 rintro v a b ⟨h1,hp⟩ hr
 refine ⟨h1,?_⟩
 rcases hr.2.2.2.2.2 with e | ⟨_,e⟩
 ·exact e.trans hp
 ·exact e
end
def over (cur:Array Value) (n:Nat) (cs:List Value):Array Value:=(cur.toList.take n ++ cs ++ cur.toList.drop (n + cs.length)).toArray
theorem os5 {cur:Array Value} {n:Nat} {cs:List Value} (h:n + cs.length≤cur.size):(over cur n cs).size=cur.size:=by
 simp only [over,List.size_toArray,List.length_append,List.length_take,List.length_drop,Array.length_toList];omega
theorem oo3 {cur:Array Value} {n:Nat} {cs:List Value} (h:n + cs.length≤cur.size):over (over cur n cs) n cs=over cur n cs:=by
 have hl:(cur.toList.take n).length=n:=by simp;omega
 have e1:(cur.toList.take n ++ cs ++ cur.toList.drop (n + cs.length)).take n=cur.toList.take n:=by
  rw [List.append_assoc,List.take_append_of_le_length (by omega),List.take_of_length_le (by omega)]
 have e2:(cur.toList.take n ++ cs ++ cur.toList.drop (n + cs.length)).drop (n + cs.length)=cur.toList.drop (n + cs.length):=
  List.drop_left' (by rw [List.length_append,hl])
 unfold over
 simp only [e1,e2]
theorem ot2 {cur:Array Value} {n:Nat} {cs:List Value} (h:n + cs.length≤cur.size):(over cur n cs).toList.take (n + cs.length)=cur.toList.take n ++ cs:=by
 have hl:(cur.toList.take n).length=n:=by simp;omega
 unfold over
 exact List.take_left' (by rw [List.length_append,hl])
theorem oa3 {P:Program} {B n cap:Nat} {cur:Array Value} {T ty t:TypeId} {i:TypeInfo} {cs:List Value} {w0 w:World} {vs:Value} (ht:P.underlying t=some (.slice T)) (hi:P.info? T=some i) (hz:i.size=6)
  (hw:(one B (.cells cur T (0,0)) (.cells (over cur (n * 6) cs) T (0,0))).r w0 w) (h0:w0.heap[B]? = some (.cells cur T (0,0))) (hcs:cs.length=6) (h1:∀ u ∈ cs,u.oneCell'=true)
  (hs:cur.size=cap * 6) (hn:n + 1≤cap) (hv:newRow B cs vs w) :
  ∃ w',(Builtin.append_ #[t,t] ty #[.slice (some ⟨B,0,none⟩) n cap,vs]).run P w = .ok (.slice (some ⟨B,0,none⟩) (n + 1) cap) w' ∧
    (one B (.cells cur T (0,0)) (.cells (over cur (n * 6) cs) T (0,0))).r w w'∧tT2 B (.cells (over cur (n * 6) cs) T (0,0)) (.slice (some ⟨B,0,none⟩) (n + 1) cap) (.slice (some ⟨B,0,none⟩) (n + 1) cap) w':=by
 obtain ⟨h,rfl,hl,Ab,hc⟩:=hv
 have Aa:n * 6 + cs.length≤cur.size:=by omega
 obtain ⟨c2,h2,h3,h4⟩:∃ c2,w.heap[B]? = some (.cells c2 T (0,0))∧c2.size=cur.size∧over c2 (n * 6) cs=over cur (n * 6) cs:=by
  rcases hw.2.2.2.2.2 with e | ⟨_,e⟩
  ·exact ⟨cur,e.trans h0,rfl,rfl⟩
  ·exact ⟨_,e,os5 Aa,oo3 Aa⟩
 have hr:=run_append_room (P:=P) w t ty T i ht hi B n cap c2 h2 ⟨h,0,none⟩ 1 1 cs (by rw [hz,hcs]) (fun j u hu=>by rw [Addr.add_lit,Nat.zero_add];exact hc j u hu) h1 hn (by rw [hz];omega)
 rw [hz] at hr
 have hb:(w.setRow B (over c2 (n * 6) cs)).heap[B]? = some (.cells (over cur (n * 6) cs) T (0,0)):=by rw [h4];exact setRow_heap w B c2 _ T _ h2
 refine ⟨_,hr,⟨rfl,rfl,rfl,by rw [setRow_size];exact Nat.le_refl _,fun k _ hk=>setRow_other w B k _ hk,?_⟩,rfl,hb⟩
 rcases hw.2.2.2.2.2 with e | ⟨_,e⟩
 ·exact .inr ⟨e.trans h0,hb⟩
 ·exact .inl (hb.trans e.symm)
theorem oo2 {N B n cap:Nat} {cur:Array Value} {T:TypeId} {cs xs:List Value} {w:World} (hB:N≤B) (hb:w.heap[B]? = some (.cells (over cur (n * 6) cs) T (0,0))) (hcs:cs.length=6) (hs:cur.size=cap * 6) (hn:n + 1≤cap) (hm:cap≤maxLen)
  (ht:cur.toList.take (n * 6)=xs):w.ownsRow N T 6 (.slice (some ⟨B,0,none⟩) (n + 1) cap) (n + 1) (xs ++ cs):=by
 have Aa:n * 6 + cs.length≤cur.size:=by omega
 have hl:xs.length=n * 6:=by rw [← ht];simp;omega
 refine ⟨by simp [hl,hcs];omega,.inr ⟨B,cap,_,rfl,hB,hb,hn,hm,by rw [os5 Aa,hs],?_⟩⟩
 rw [← ht,← ot2 Aa,hcs,show (n + 1) * 6=n * 6 + 6 by omega]
theorem PS.setBox {N g i:Nat} {W:World} {v:Value} {us:List (List Value)} {L:List (CK×Pay)} (h:PS N W v us L) (hg:g < N) (u:Value):PS N (W.setCell ⟨g,i,none⟩ u) v us L:=
 ⟨h.own.set cn2 hg (by omega) u,h.nod,fun cs hc x hx=>(h.free cs hc x hx).same fun b hb=>heap_setCell_other _ _ _ _ (by
   show b≠g
   obtain ⟨j,hj,rfl⟩:=List.mem_iff_getElem.1 hc
   have:=((h.own.at_ j (by have:=h.own.len;omega) hj).iM b (List.mem_filterMap.2 ⟨x,List.mem_of_mem_drop hx,hb⟩)).1
   omega)⟩
theorem ra2 {P:Program} {R:FlowR.Rel} {ops:Array Oper} {o:Oper} {a:Act} {w w':World} {s:FlowR.Spec} {u v1 v2:Value} {t:TypeId} (y x:Operand) (ho:o.op = .call { callee:=.builtin .append,args:=#[y,x],argTypes:=#[t,t] }) (hw:Region.wanted o (yielded ops a.tmps)=true)
  (h1:a.eval y=v1) (h2:a.eval x=v2) (hr:(Builtin.append_ #[t,t] o.type #[v1,v2]).run P w = .ok u w') (hb:R.r w w') (hv:s.holds u w'):FlowR.Runs R P ops o s a w:=
 FlowR.runs_ok hw (by
  unfold execOp
  simp only [ho,resolve,invoke,builtin,Sem.run_bind,Sem.run_pure,Result.andThen_ok,List.map_toArray,List.map_cons,List.map_nil,h1,h2,hr]) hb hv
theorem run_append_nil {P:Program} {w:World} {t ty e:TypeId} {i:TypeInfo} (ht:P.underlying t=some (.slice e)) (hi:P.info? e=some i) (b:Addr) (n c:Nat) (hle:n≤c) :
  (Builtin.append_ #[t,t] ty #[.slice (some b) n c,.slice none 0 0]).run P w = .ok (.slice (some b) n c) w:=by
 simp [Builtin.append_,run_underlying ht,sizeOf,typeInfo,hi,Builtin.lenOf,hle,Builtin.firstCells,storeCells]
theorem wLa3 {P:Program} {w:World} {ops:Array Oper} {rest:List Oper} {o:Oper} {a:Act} {Q:Exit→Act→World→Prop} (hgd:o.guard=none) (s x:Operand) (t:TypeId)
  (ho:o.op = .call { callee:=.builtin .append,args:=#[s,x],argTypes:=#[t,t] }) (e:TypeId) (i:TypeInfo) (ht:P.underlying t=some (.slice e)) (hi:P.info? e=some i) (b:Addr) (n c:Nat) (hs:a.eval s = .slice (some b) n c) (hx:a.eval x = .slice none 0 0) (hle:n≤c)
  (h:wpList P ops Q rest (a.put o.dst (.slice (some b) n c)) w):wpList P ops Q (o :: rest) a w:=
 wpList_plain hgd fun _ hK=>by
  have hr:=run_append_nil (P:=P) (w:=w) (ty:=o.type) ht hi b n c hle
  unfold Oper.wp execOp
  simp only [ho,resolve,invoke,builtin,Sem.run_bind,Sem.run_pure,Result.andThen_ok,List.map_toArray,List.map_cons,List.map_nil,hs,hx,hr]
  exact hK _ _ h
theorem fl2:∀ (us:List (List Value)),(∀ u ∈ us,u.length=6)→us.flatten.length=us.length * 6
 | [],_=>rfl
 | u :: us,h=>by
   rw [List.flatten_cons,List.length_append,h u (by simp),fl2 us fun v hv=>h v (by simp [hv]),List.length_cons]
   omega
theorem ft3 {us:List (List Value)} (h:∀ u ∈ us,u.length=6) {k:Nat} (hk:k≤us.length):us.flatten.take (k * 6)=(us.take k).flatten∧us.flatten.drop (k * 6)=(us.drop k).flatten:=by
 have e:us.flatten=(us.take k).flatten ++ (us.drop k).flatten:=by rw [← List.flatten_append,List.take_append_drop]
 have hl:(us.take k).flatten.length=k * 6:=by
  rw [fl2 _ fun u hu=>h u (List.mem_of_mem_take hu),List.length_take,Nat.min_eq_left hk]
 rw [e]
 exact ⟨List.take_left' hl,List.drop_left' hl⟩
end Go.Proofs.YtjdccifdkjnknaaGreatDoor
