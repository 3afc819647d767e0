/- Joined by mergeQ.py: Q51, Q52, Q53 -/
import Derived.Test.YtmfnhjdeoklnlaaGreatDoorYQ47
import Derived.Test.YtmfnhjdeoklnlaaGreatDoorYQ50
import Derived.Test.YtmfnhjdeoklnlaaGreatDoorYPE
namespace Go.Proofs.YtmfnhjdeoklnlaaGreatDoor
open Go.RowKit Go.Sort
open Tess (Tok Fil Que)
set_option maxRecDepth 100000 in
set_option maxHeartbeats 8000000 in
theorem print_any (p:Nat→Prop) (n:Nat) (v:Value) (q:Que) (va vb vs f0 f1 f2 f3 f4 f5 vh vo:Value) (w:World) (hV:Vy w) (hq:QueAt p n w v q va vb vs f0 f1 f2 f3 f4 f5 vh vo) (hs:SmallQ q) :
  Calls Tryz.prog 11 #[v] w fun e w'=>e = .returned (.tuple #[.string (Tess.Prs.print q).1,.int .i64 (Tess.Prs.print q).2])∧Below w.heap.size w w':=by
 have HQ:=Lib.hid hq
 have hv:=hq.e
 subst hv
 have hsz:(Tok.ofL (Tess.Wr.written q)).size≤9223372036854775807:=by rw [Tess.Tok.size_ofL];have:=hs.w;omega
 have HP1:=Lib.hid (fun (h:Tess.Prs.parse (Tok.ofL (Tess.Wr.written q))=(q,0,0))=>Tess.Prs.print_some h)
 have HP0:=Lib.hid (fun (h:Tess.Prs.parse (Tok.ofL (Tess.Wr.written q))≠(q,0,0))=>Tess.Prs.print_none h)
 have HPK:=Lib.hid (fun (q':Que) (k:Nat) (h:Tess.Prs.parse (Tok.ofL (Tess.Wr.written q))=(q',k,0))=>Tess.Prs.parse_ok h)
 have HWR:=Lib.hid (fun W (h:Below w.heap.size w W)=>written_any p n _ q va vb vs f0 f1 f2 f3 f4 f5 vh vo W (hV.below h).z (HQ.out.ag (Ag.new p h)) hs)
 have HPA:=Lib.hid (fun W (h:Below w.heap.size w W)=>parse_any (Tok.ofL (Tess.Wr.written q)) W (hV.below h) hsz)
 obtain ⟨a1,k1,a2,k2,a3,k3,wa,wn,wc,a4,k4,a5,k5,a6,k6,rfl,rfl,rfl,rfl,rfl,rfl,rfl,rfl,rfl,rfl,rfl⟩:=hq.shapesS
 clear hq hs hV hsz
 unfold ParsePost at HPA
 generalize Tess.Prs.print q=PR at *
 obtain ⟨⟨q',K,C⟩,hPP⟩:∃ P,Tess.Prs.parse (Tok.ofL (Tess.Wr.written q))=P:=⟨_,rfl⟩
 rw [hPP] at HPA HP1 HP0 HPK
 simp only at HPA
 clear hPP
 generalize Tok.ofL (Tess.Wr.written q)=S at *
 obtain ⟨l1,l2,l3⟩:=laid1 w (.cells #[.slice a1 q.aggs.length k1,.slice a2 q.names.length k2,.int .i64 q.mode,.slice a3 q.sets.length k3,.int .i64 q.every,.int .i64 q.fil.kind,.string q.fil.name,.slice wa wn wc,.int .i64 q.fil.frm,.int .i64 q.fil.to,.slice a4 q.fil.l.length k4,.slice a5 q.conds.length k5,.slice a6 q.keys.length k6,.int .i64 q.limit] 33)
 obtain ⟨W0,hW0⟩:∃ W0,w.alloc (.cells #[.slice a1 q.aggs.length k1,.slice a2 q.names.length k2,.int .i64 q.mode,.slice a3 q.sets.length k3,.int .i64 q.every,.int .i64 q.fil.kind,.string q.fil.name,.slice wa wn wc,.int .i64 q.fil.frm,.int .i64 q.fil.to,.slice a4 q.fil.l.length k4,.slice a5 q.conds.length k5,.slice a6 q.keys.length k6,.int .i64 q.limit] 33)=W0:=⟨_,rfl⟩
 rw [hW0] at l1 l2 l3
 have HB0:=Lib.hid l3
 have HKX:=Lib.hid (fun X (hX:Below W0.heap.size W0 X)=>(can14 ((hX.block _ (by omega)).trans l1)).1)
 obtain ⟨c0,c1,c2,c3,c4,c5,c6,c7,c8,c9,ca,cb,cc,cd⟩:=HKX.out W0 (Below.refl _ _)
 clear l1 l2 l3
 go_enter Tryz.func11,Tryz.ntmps11
 go_wp2_with (fail)
 go_at_call 22
 refine (HWR.out _ HB0.out).mono ?_
 rintro e w1 ⟨rfl,hB1⟩
 have HB1:=Lib.hid hB1
 clear hB1 c0 c1 c2 c3 c4 c5 c6 c7 c8 c9 ca cb cc cd
 go_wp2_with (fail)
 go_at_call 12
 refine (HPA.out _ (Bt HB0.out HB1.out)).mono ?_
 rintro e w2 ⟨ua,ub,us,g0,g1,g2,g3,g4,g5,uh,uo,rfl,hq2,hB2⟩
 have HQ2:=Lib.hid hq2
 obtain ⟨b1,j1,b2,j2,b3,j3,xa,xn,xc,b4,j4,b5,j5,b6,j6,rfl,rfl,rfl,rfl,rfl,rfl,rfl,rfl,rfl,rfl,rfl⟩:=hq2.shapesS
 have HB2:=Lib.hid (Bt HB1.out hB2)
 obtain ⟨m1,m2,m3⟩:=laid1 w2 (.cells #[.slice b1 q'.aggs.length j1,.slice b2 q'.names.length j2,.int .i64 q'.mode,.slice b3 q'.sets.length j3,.int .i64 q'.every,.int .i64 q'.fil.kind,.string q'.fil.name,.slice xa xn xc,.int .i64 q'.fil.frm,.int .i64 q'.fil.to,.slice b4 q'.fil.l.length j4,.slice b5 q'.conds.length j5,.slice b6 q'.keys.length j6,.int .i64 q'.limit] 33)
 obtain ⟨W3,hW3⟩:∃ W3,w2.alloc (.cells #[.slice b1 q'.aggs.length j1,.slice b2 q'.names.length j2,.int .i64 q'.mode,.slice b3 q'.sets.length j3,.int .i64 q'.every,.int .i64 q'.fil.kind,.string q'.fil.name,.slice xa xn xc,.int .i64 q'.fil.frm,.int .i64 q'.fil.to,.slice b4 q'.fil.l.length j4,.slice b5 q'.conds.length j5,.slice b6 q'.keys.length j6,.int .i64 q'.limit] 33)=W3:=⟨_,rfl⟩
 rw [hW3] at m1 m2 m3
 have HB3:=Lib.hid (Bt HB2.out m3)
 obtain ⟨c0,c1,c2,c3,c4,c5,c6,c7,c8,c9,ca,cb,cc,cd⟩:=HKX.out W3 HB3.out
 obtain ⟨d0,d1,d2,d3,d4,d5,d6,d7,d8,d9,da,db,dc,dd⟩:=(can14 m1).1
 by_cases hC:C=0
 ·subst hC
  obtain rfl:=HPK.out q' K rfl
  have HSM:=Lib.hid (qsame_any _ p 1000000 n _ _ q' q _ _ _ _ _ _ _ _ _ _ _ _ _ _ _ _ _ _ _ _ _ _ W3 (HQ2.out.ag (Ag.new _ m3)) (HQ.out.ag (Ag.new p (Bt HB0.out HB3.out))))
  clear hq2 hB2 m1 m2 m3 HPA HWR HKX HPK
  by_cases hqq:q'=q
  ·subst hqq
   rw [sameQ_true rfl] at HSM
   have HR:=Lib.hid (HP1.out rfl)
   clear HP0 HP1
   go_wp2_with (go_at_call 13;refine HSM.out.mono ?_;rintro e w4 ⟨rfl,hb4⟩;have HB4:=Lib.hid (Bt HB3.out hb4);clear hb4)
   go_ret2
   exact ⟨by rw [HR.out];rfl,Bt HB0.out HB4.out⟩
  ·rw [sameQ_false hqq] at HSM
   have HR:=Lib.hid (HP0.out fun h=>hqq (Prod.mk.inj h).1)
   clear HP0 HP1 hqq
   go_wp2_with (go_at_call 13;refine HSM.out.mono ?_;rintro e w4 ⟨rfl,hb4⟩;have HB4:=Lib.hid (Bt HB3.out hb4);clear hb4)
   go_ret2
   exact ⟨by rw [HR.out];rfl,Bt HB0.out HB4.out⟩
 ·have hCb:(((C:Nat):Int) != 0)=true:=by rw [bne_iff_ne];omega
  have HR:=Lib.hid (HP0.out fun h=>hC (Prod.mk.inj (Prod.mk.inj h).2).2)
  clear hq2 hB2 m1 m2 m3 HPA HWR HKX HPK HP0 HP1 hC
  go_wp2
  go_ret2
  exact ⟨by rw [HR.out];rfl,Bt HB0.out HB3.out⟩
end Go.Proofs.YtmfnhjdeoklnlaaGreatDoor
namespace Go.Proofs.YtmfnhjdeoklnlaaGreatDoor
open Tess (Tok Fil Que)
open Tess.Prs (wR GoodQ GoodF GoodFL GoodA GoodC GoodK)
open Tess.Wr (sep aggR namesR setR condR keyR wordsR askR askRL queR optR)
theorem len_wR (xs:List Tok.Rt):xs.length≤wR xs:=by
 induction xs with
 | nil=>exact Nat.le_refl _
 | cons x r ih=>rw [Tess.Prs.wR_cons,List.length_cons];omega
theorem sep_small {α:Type} (s:Tok.Rt) (f:α→List Tok.Rt) (hf:∀ x,f x≠[]) (l:List α):l.length≤wR (sep s (l.map f)):=by
 have h1:=Tess.Prs.sep_len s (l.map f) (by intro x hx;obtain ⟨y,_,rfl⟩:=List.mem_map.1 hx;exact hf y)
 rw [List.length_map] at h1
 exact Nat.le_trans h1 (len_wR _)
theorem J_le (xs:List Tok.Rt):(Tess.Wr.J xs).length≤wR xs:=by
 cases xs with
 | nil=>exact Nat.le_refl _
 | cons x r=>have:=Tess.Prs.J_len (xs:=x :: r) (by simp);omega
theorem comma_le {α:Type} (f:α→List Tok.Rt) (g:α→List UInt8) (l:List α) (hf:∀ x,f x≠[]) (h:∀ x,Tess.Wr.J (f x)=g x):(Tess.Wr.join Tess.Wr.sComma (l.map g)).length≤wR (sep (Tok.signR Tess.Prs.wComma) (l.map f)):=by
 rw [← Tess.Wr.J_comma f g l hf h]
 exact J_le _
theorem quote_size (x:ByteArray):x.size≤(Tess.Wr.quoted x).length:=by
 have h:∀ l:List UInt8,l.length≤(l.flatMap Tess.Wr.quoteB).length:=by
  intro l
  induction l with
  | nil=>exact Nat.le_refl _
  | cons c r ih=>rw [List.flatMap_cons,List.length_append,List.length_cons];have:=(quote_len c).2;omega
 have:=h (Tess.Wr.bs x)
 unfold Tess.Wr.quoted
 rw [List.length_cons,List.length_append]
 have e:(Tess.Wr.bs x).length=x.size:=Array.length_toList
 omega
theorem word_part {s:Tok.Rt} {l:List ByteArray} {x:ByteArray} (h:x ∈ l):(Tess.Wr.quoted x).length≤wR (sep s (l.map fun x=>[Tok.strR x])):=by
 induction l with
 | nil=>cases h
 | cons y r ih=>
   cases r with
   | nil=>
     rw [List.mem_singleton] at h
     rw [h]
     show _≤wR [Tok.strR y]
     simp only [Tess.Prs.wR_cons,Tess.Prs.wR_nil,Tess.Prs.strR_len];omega
   | cons z r=>
     rw [List.map_cons,Tess.Prs.sep_cons (by simp)]
     rcases List.mem_cons.1 h with rfl | h
     ·simp only [Tess.Prs.wR_cons,Tess.Prs.wR_nil,Tess.Prs.strR_len];omega
     ·have:=ih h;omega
theorem sepL_part {s:Tok.Rt} {l:List (List Tok.Rt)} {x:List Tok.Rt} (h:x ∈ l):wR x≤wR (sep s l):=by
 induction l with
 | nil=>cases h
 | cons y r ih=>
   cases r with
   | nil=>rw [List.mem_singleton] at h;rw [h];exact Nat.le_refl _
   | cons z r=>
     rw [Tess.Prs.sep_cons (by simp)]
     rcases List.mem_cons.1 h with rfl | h
     ·omega
     ·have:=ih h;omega
theorem flat_part {l:List (List Tok.Rt)} {x:List Tok.Rt} (h:x ∈ l):wR x≤wR l.flatten:=by
 induction l with
 | nil=>cases h
 | cons y r ih=>
   rw [List.flatten_cons,Tess.Prs.wR_append]
   rcases List.mem_cons.1 h with rfl | h
   ·omega
   ·have:=ih h;omega
theorem flat_len {α:Type} (f:α→List Tok.Rt) (hf:∀ x,f x≠[]) (l:List α):l.length≤wR (l.map f).flatten:=by
 induction l with
 | nil=>exact Nat.le_refl _
 | cons y r ih=>
   rw [List.map_cons,List.flatten_cons,Tess.Prs.wR_append,List.length_cons]
   have h1:=len_wR (f y)
   have h2:=List.length_pos_iff.2 (hf y)
   omega
theorem smallFL_of {l:List Fil} (h:∀ x ∈ l,SmallF x):SmallFL l:=by
 induction l with
 | nil=>unfold SmallFL;trivial
 | cons f r ih=>unfold SmallFL;exact ⟨h f List.mem_cons_self,ih fun x hx=>h x (List.mem_cons_of_mem _ hx)⟩
theorem smallF_of:∀ (n:Nat) (f:Fil),f.deep≤n→GoodF f→wR (askR f)≤1000000→SmallF f
 | 0,f,h,_,_=>by
   obtain ⟨k,nm,ws,a,b,l⟩:=f
   unfold Fil.deep at h
   omega
 | n + 1,f,h,hg,hw=>by
   obtain ⟨k,nm,ws,a,b,l⟩:=f
   have hdeep:∀ x ∈ l,x.deep≤n:=by
    have hd:Fil.deepL l≤n:=by unfold Fil.deep at h;omega
    clear h hg hw
    induction l with
    | nil=>intro x hx;cases hx
    | cons f r ih=>
      unfold Fil.deepL at hd
      intro x hx
      rcases List.mem_cons.1 hx with rfl | hx
      ·omega
      ·exact ih (by omega) x hx
   have hnm:Tess.Tok.isNameB nm=true→nm.size≤1000000000:=fun h=>by
    have:=Tess.Prs.name_len h
    have e:(Tess.Wr.bs nm).length=nm.size:=Array.length_toList
    omega
   have h0:(ByteArray.empty).size≤1000000000:=Nat.zero_le _
   have nL:SmallFL []:=by unfold SmallFL;trivial
   unfold GoodF at hg
   unfold SmallF
   rcases hg with ⟨rfl,rfl,rfl,rfl,rfl,rfl⟩ | ⟨rfl,h1,h2,rfl,rfl,rfl⟩ | ⟨rfl,h1,rfl,rfl,rfl,rfl⟩ | ⟨rfl,h1,⟨v,rfl⟩,rfl,rfl,rfl⟩ | ⟨rfl,h1,⟨v,u,rfl⟩,rfl,rfl,rfl⟩ | ⟨rfl,rfl,rfl,⟨h1,h2,h3,h4⟩,rfl⟩ | ⟨rfl,rfl,rfl,rfl,rfl,h1,h2⟩ | ⟨hk,rfl,rfl,rfl,rfl,h1,h2⟩
   ·exact ⟨h0,by simp,fun x hx=>(by cases hx),by omega,by omega,by simp,nL⟩
   ·have hw:wR (Tok.nameR nm :: Tok.wordR Tess.Prs.wIs :: wordsR Tess.Prs.wBar ws)≤1000000:=hw
    simp only [Tess.Prs.wR_cons] at hw
    have h3:=sep_small (Tok.signR Tess.Prs.wBar) (fun x=>[Tok.strR x]) (fun _=>by simp) ws
    have h4:wR (wordsR Tess.Prs.wBar ws)=wR (sep (Tok.signR Tess.Prs.wBar) (ws.map fun x=>[Tok.strR x])):=rfl
    refine ⟨hnm h1,by omega,fun x hx => ?_,by omega,by omega,by simp,nL⟩
    have e1:=word_part (s:=Tok.signR Tess.Prs.wBar) hx
    have e2:=quote_size x
    omega
   ·exact ⟨hnm h1,by simp,fun x hx=>(by cases hx),by omega,by omega,by simp,nL⟩
   ·have hw:wR [Tok.nameR nm,Tok.wordR Tess.Prs.wPrefix,Tok.strR v]≤1000000:=hw
    simp only [Tess.Prs.wR_cons,Tess.Prs.wR_nil,Tess.Prs.strR_len] at hw
    refine ⟨hnm h1,by simp,fun x hx => ?_,by omega,by omega,by simp,nL⟩
    rw [List.mem_singleton] at hx
    have e2:=quote_size v
    rw [hx];omega
   ·have hw:wR [Tok.nameR nm,Tok.wordR Tess.Prs.wBetween,Tok.strR v,Tok.signR Tess.Prs.wDots,Tok.strR u]≤1000000:=hw
    simp only [Tess.Prs.wR_cons,Tess.Prs.wR_nil,Tess.Prs.strR_len] at hw
    refine ⟨hnm h1,by simp,fun x hx => ?_,by omega,by omega,by simp,nL⟩
    have e2:=quote_size v
    have e3:=quote_size u
    simp only [List.mem_cons,List.not_mem_nil,or_false] at hx
    rcases hx with rfl | rfl <;> omega
   ·exact ⟨h0,by simp,fun x hx=>(by cases hx),⟨by omega,h2⟩,⟨by omega,h4⟩,by simp,nL⟩
   ·have hw:wR (Tok.wordR Tess.Prs.wNot :: (askRL l).flatten)≤1000000:=hw
    rw [Tess.Prs.wR_cons,Tess.Prs.askRL_map] at hw
    refine ⟨h0,by simp,fun x hx=>(by cases hx),by omega,by omega,by omega,smallFL_of fun x hx=>smallF_of n x (hdeep x hx) (h2.mem x hx) ?_⟩
    have:=flat_part (List.mem_map.2 ⟨x,hx,rfl⟩:askR x ∈ l.map askR)
    omega
   ·have hw:∃ s:Tok.Rt,wR (Tok.signR Tess.Prs.wOpen :: (sep s (l.map askR) ++ [Tok.signR Tess.Prs.wClose]))≤1000000:=by
     rw [← Tess.Prs.askRL_map]
     rcases hk with rfl | rfl
     ·exact ⟨_,hw⟩
     ·exact ⟨_,hw⟩
    obtain ⟨s,hw⟩:=hw
    rw [Tess.Prs.wR_cons,Tess.Prs.wR_append] at hw
    have h3:=sep_small s askR Tess.Wr.askR_ne l
    refine ⟨h0,by simp,fun x hx=>(by cases hx),by omega,by omega,by omega,smallFL_of fun x hx=>smallF_of n x (hdeep x hx) (h2.mem x hx) ?_⟩
    have:=sepL_part (s:=s) (List.mem_map.2 ⟨x,hx,rfl⟩:askR x ∈ l.map askR)
    omega
theorem set_le_R (l:List ByteArray):wR (namesR l)≤wR (setR l):=by
 unfold Tess.Wr.setR
 split
 ·rename_i h
  have:l=[]:=by simpa using h
  rw [this];exact Nat.zero_le _
 ·rw [Tess.Prs.wR_cons,Tess.Prs.wR_append];omega
theorem opt_le {b:Bool} {x:List (List Tok.Rt)} {n:Nat} (h:wR (optR b x).flatten≤n) (hb:b=true):wR x.flatten≤n:=by
 rw [hb] at h;exact h
theorem small_of_good {q:Que} (hg:GoodQ q) (hw:wR (queR q)≤1000000):SmallQ q:=by
 have hW:=Tess.Prs.written_len hg
 have hw0:=hw
 unfold Tess.Wr.queR at hw
 simp only [List.flatten_append,Tess.Prs.wR_append] at hw
 have one:∀ a b:List Tok.Rt,wR [a,b].flatten=wR a + wR b:=fun a b=>by simp only [List.flatten_cons,List.flatten_nil,List.append_nil,Tess.Prs.wR_append]
 have hA:wR (sep (Tok.signR Tess.Prs.wComma) (q.aggs.map aggR))≤1000000:=by rw [one] at hw;omega
 have hN:wR (namesR q.names)≤1000000:=by
  cases hb:q.names.isEmpty with
  | true=>
    have:q.names=[]:=by simpa using hb
    rw [this];exact Nat.zero_le _
  | false=>
    have h1:wR (optR (!q.names.isEmpty) [[Tok.wordR Tess.Prs.wBy],namesR q.names]).flatten≤1000000:=by omega
    have:=opt_le h1 (by rw [hb];rfl)
    rw [one] at this;omega
 have hS:wR (q.sets.map setR).flatten≤1000000:=by
  by_cases hm:q.mode=4
  ·have h1:wR (optR (q.mode == 4) [[Tok.wordR Tess.Prs.wSets],(q.sets.map setR).flatten]).flatten≤1000000:=by omega
   have:=opt_le h1 (by rw [hm];rfl)
   rw [one] at this;omega
  ·have:q.sets=[]:=by
    rcases hg.m with ⟨_,h⟩ | ⟨_,⟨_,h⟩ | ⟨_,h⟩ | ⟨h,_⟩⟩
    ·exact h
    ·exact h
    ·exact h
    ·exact absurd h hm
   rw [this];exact Nat.zero_le _
 have hF:wR (askR q.fil)≤1000000:=by
  by_cases hk:q.fil.kind=1
  ·have gf:=hg.f
   generalize q.fil=x at *
   obtain ⟨k,nm,ws,a,b,l⟩:=x
   simp only [Fil.kind] at hk
   subst hk
   show wR [Tok.wordR Tess.Prs.wAll]≤1000000
   decide
  ·have h1:wR (optR (q.fil.kind != 1) [[Tok.wordR Tess.Prs.wWhere],askR q.fil]).flatten≤1000000:=by omega
   have:=opt_le h1 (by rw [bne_iff_ne];exact hk)
   rw [one] at this;omega
 have hC:wR (sep (Tok.signR Tess.Prs.wComma) (q.conds.map condR))≤1000000:=by
  cases hb:q.conds.isEmpty with
  | true=>
    have:q.conds=[]:=by simpa using hb
    rw [this];exact Nat.zero_le _
  | false=>
    have h1:wR (optR (!q.conds.isEmpty) [[Tok.wordR Tess.Prs.wHaving],sep (Tok.signR Tess.Prs.wComma) (q.conds.map condR)]).flatten≤1000000:=by omega
    have:=opt_le h1 (by rw [hb];rfl)
    rw [one] at this;omega
 have hK:wR (sep (Tok.signR Tess.Prs.wComma) (q.keys.map (keyR q.names)))≤1000000:=by
  cases hb:q.keys.isEmpty with
  | true=>
    have:q.keys=[]:=by simpa using hb
    rw [this];exact Nat.zero_le _
  | false=>
    have h1:wR (optR (!q.keys.isEmpty) [[Tok.wordR Tess.Prs.wOrder],sep (Tok.signR Tess.Prs.wComma) (q.keys.map (keyR q.names))]).flatten≤1000000:=by omega
    have:=opt_le h1 (by rw [hb];rfl)
    rw [one] at this;omega
 have nsz:∀ {x:ByteArray},Tess.Tok.isNameB x=true→x.size≤1000000000:=fun {x} h=>by
  have:=Tess.Prs.name_len h
  have e:(Tess.Wr.bs x).length=x.size:=Array.length_toList
  omega
 have hsetn:∀ l ∈ q.sets,∀ x ∈ l,Tess.Tok.isNameB x=true:=fun l hl x hx=>by
  rcases hg.m with ⟨_,h⟩ | ⟨_,⟨_,h⟩ | ⟨_,h⟩ | ⟨_,_,h⟩⟩
  ·rw [h] at hl;cases hl
  ·rw [h] at hl;cases hl
  ·rw [h] at hl;cases hl
  ·exact h l hl x hx
 have hdeep:=hg.f
 exact {
  a1:=by have:=sep_small (Tok.signR Tess.Prs.wComma) aggR Tess.Wr.aggR_ne q.aggs;omega
  a2:=fun a ha=>by
   rcases hg.a.2 a ha with ⟨_,h⟩ | ⟨_,h⟩
   ·rw [h];exact Nat.zero_le _
   ·exact nsz h
  a3:=by have:=comma_le aggR Tess.Wr.summing q.aggs Tess.Wr.aggR_ne Tess.Wr.aggR_txt;omega
  n1:=by have:=sep_small (Tok.signR Tess.Prs.wComma) (fun x=>[Tok.nameR x]) (fun _=>by simp) q.names;unfold Tess.Wr.namesR at hN;omega
  n2:=fun x hx=>nsz (hg.n x hx)
  n3:=by rw [← Tess.Wr.namesR_txt];have:=J_le (namesR q.names);omega
  s1:=by have:=flat_len setR Tess.Wr.setR_ne q.sets;omega
  s2:=fun l hl=>⟨by
   have h1:=sep_small (Tok.signR Tess.Prs.wComma) (fun x=>[Tok.nameR x]) (fun _=>by simp) l
   have h2:=set_le_R l
   have h3:=flat_part (List.mem_map.2 ⟨l,hl,rfl⟩:setR l ∈ q.sets.map setR)
   unfold Tess.Wr.namesR at h2
   omega,fun x hx=>nsz (hsetn l hl x hx)⟩
  s3:=by
   have h1:=Tess.Wr.J_flat (q.sets.map setR) (by intro x hx;obtain ⟨y,_,rfl⟩:=List.mem_map.1 hx;exact Tess.Wr.setR_ne y)
   rw [List.map_map,show Tess.Wr.J ∘ setR=Tess.Wr.set from funext Tess.Wr.setR_txt] at h1
   rw [h1]
   have:=J_le (q.sets.map setR).flatten
   omega
  e:=⟨by have:=hg.e.1;omega,hg.e.2⟩
  f1:=smallF_of _ q.fil (Nat.le_refl _) hg.f hF
  f2:=by
   rw [← Tess.Wr.askR_txt q.fil (Tess.Prs.full_of _ q.fil (Nat.le_refl _) hg.f)]
   have:=J_le (askR q.fil)
   omega
  c1:=by have:=sep_small (Tok.signR Tess.Prs.wComma) condR (fun _=>by simp [Tess.Wr.condR]) q.conds;omega
  c2:=fun c hc=>by
   obtain ⟨h1,h2,h3,h4,h5,h6⟩:=hg.c c hc
   exact ⟨⟨by omega,by omega⟩,⟨by omega,by omega⟩,h5,h6⟩
  c3:=by have:=comma_le condR Tess.Wr.condition q.conds (fun _=>by simp [Tess.Wr.condR]) Tess.Wr.condR_txt;omega
  k1:=by have:=sep_small (Tok.signR Tess.Prs.wComma) (keyR q.names) (Tess.Wr.keyR_ne _) q.keys;omega
  k2:=fun k hk=>by
   have h0:=sep_small (Tok.signR Tess.Prs.wComma) (fun x=>[Tok.nameR x]) (fun _=>by simp) q.names
   unfold Tess.Wr.namesR at hN
   rcases hg.k k hk with ⟨_,h1,h2⟩ | ⟨_,i,hi,hp,_⟩
   ·exact ⟨by omega,by omega⟩
   ·exact ⟨by omega,by omega⟩
  k3:=by have:=comma_le (keyR q.names) (Tess.Wr.key q.names) q.keys (Tess.Wr.keyR_ne _) (Tess.Wr.keyR_txt q.names);omega
  l:=⟨by have:=hg.l.1;omega,by have:=hg.l.2;omega⟩
  w:=by omega }
theorem small_parsed {s:ByteArray} (hs:s.size≤2000) {q:Que} {k:Nat} (h:Tess.Prs.parse s=(q,k,0)):SmallQ q:=by
 obtain ⟨hg,hl⟩:=Tess.Prs.parse_good hs h
 have:=Tess.Prs.written_len hg
 exact small_of_good hg (by omega)
end Go.Proofs.YtmfnhjdeoklnlaaGreatDoor
namespace Go.Proofs.YtmfnhjdeoklnlaaGreatDoor
open Go.RowKit Go.Sort
open Tess (Tok Fil Que)
theorem T1_small:SmallQ Tess.Prs.Q1:=small_parsed (by decide) Tess.Prs.parse_T1
set_option maxRecDepth 100000 in
set_option maxHeartbeats 8000000 in
theorem shown15_any (w:World) (hV:Vy w):Calls Tryz.prog 9 #[] w fun e w'=>e = .returned (.bool true)∧Below w.heap.size w w':=by
 have HP1:=Lib.hid (fun W (h:Below w.heap.size w W)=>parse_any Tess.Prs.T1 W (hV.below h) (by decide))
 have HP2:=Lib.hid (fun W (h:Below w.heap.size w W)=>parse_any Tess.Prs.T2 W (hV.below h) (by decide))
 have HPR:=Lib.hid (fun va vb vs f0 f1 f2 f3 f4 f5 vh vo v p W (h:Below w.heap.size w W) (hq:QueAt p 1000000 W v Tess.Prs.Q1 va vb vs f0 f1 f2 f3 f4 f5 vh vo)=>print_any p 1000000 v Tess.Prs.Q1 va vb vs f0 f1 f2 f3 f4 f5 vh vo W (hV.below h) hq T1_small)
 unfold ParsePost at HP1 HP2
 rw [Tess.Prs.parse_T1] at HP1
 rw [Tess.Prs.parse_T2] at HP2
 rw [Tess.Prs.print_Q1] at HPR
 unfold Tess.Prs.T1w at HPR
 simp only at HP1 HP2 HPR
 have HL:=Lib.hid (show Tess.Prs.Q1.limit=5 from rfl)
 have HA:=Lib.hid (show Tess.Prs.Q1.aggs.length=2 from rfl)
 generalize Tess.Prs.Q1=q at *
 generalize Tess.Prs.noQue=z at *
 clear hV
 go_enter Tryz.func9,Tryz.ntmps9
 go_wp2_with (fail)
 go_at_call 12
 refine (HP1.out _ (Below.refl _ _)).mono ?_
 rintro e w1 ⟨u0,u1,u2,u3,u4,u5,u6,u7,u8,u9,ua,rfl,hq1,hB1⟩
 have HQ1:=Lib.hid hq1
 obtain ⟨a1,ac1,a2,ac2,a3,ac3,a4,an4,ac4,a5,ac5,a6,ac6,a7,ac7,rfl,rfl,rfl,rfl,rfl,rfl,rfl,rfl,rfl,rfl,rfl⟩:=hq1.shapesS
 obtain ⟨m1,m2,m3⟩:=laid1 w1 (.cells #[.slice a1 q.aggs.length ac1,.slice a2 q.names.length ac2,.int .i64 q.mode,.slice a3 q.sets.length ac3,.int .i64 q.every,.int .i64 q.fil.kind,.string q.fil.name,.slice a4 an4 ac4,.int .i64 q.fil.frm,.int .i64 q.fil.to,.slice a5 q.fil.l.length ac5,.slice a6 q.conds.length ac6,.slice a7 q.keys.length ac7,.int .i64 q.limit] 33)
 obtain ⟨W1,hW1⟩:∃ W1,w1.alloc (.cells #[.slice a1 q.aggs.length ac1,.slice a2 q.names.length ac2,.int .i64 q.mode,.slice a3 q.sets.length ac3,.int .i64 q.every,.int .i64 q.fil.kind,.string q.fil.name,.slice a4 an4 ac4,.int .i64 q.fil.frm,.int .i64 q.fil.to,.slice a5 q.fil.l.length ac5,.slice a6 q.conds.length ac6,.slice a7 q.keys.length ac7,.int .i64 q.limit] 33)=W1:=⟨_,rfl⟩
 rw [hW1] at m1 m2 m3
 have HK1:=Lib.hid m1
 have HB1:=Lib.hid (hB1)
 have HC1:=Lib.hid (Bt HB1.out m3)
 have HM1:=Lib.hid m3
 clear hq1 hB1 m1 m2 m3
 obtain ⟨⟨c0,c1,c2,c3,c4,c5,c6,c7,c8,c9,ca,cb,cc,cd⟩,_⟩:=can14 HK1.out
 go_wp2_with (fail)
 go_at_call 11
 refine (HPR.out _ _ _ _ _ _ _ _ _ _ _ _ _ W1 HC1.out (HQ1.out.ag (Ag.new _ HM1.out))).mono ?_
 rintro e w3 ⟨rfl,hB3⟩
 have HB3:=Lib.hid (Bt HC1.out hB3)
 have HM3:=Lib.hid (Bt HM1.out hB3)
 have HK3:=Lib.hid ((hB3.block _ (Array.getElem?_eq_some_iff.1 HK1.out).1).trans HK1.out)
 clear hB3 c0 c1 c2 c3 c4 c5 c6 c7 c8 c9 ca cb cc cd
 go_wp2_with (fail)
 go_at_call 12
 refine (HP2.out _ HB3.out).mono ?_
 rintro e w4 ⟨u0,u1,u2,u3,u4,u5,u6,u7,u8,u9,ua,rfl,hq4,hB4⟩
 have HQ4:=Lib.hid hq4
 obtain ⟨b1,bc1,b2,bc2,b3,bc3,b4,bn4,bc4,b5,bc5,b6,bc6,b7,bc7,rfl,rfl,rfl,rfl,rfl,rfl,rfl,rfl,rfl,rfl,rfl⟩:=hq4.shapesS
 obtain ⟨m1,m2,m3⟩:=laid1 w4 (.cells #[.slice b1 z.aggs.length bc1,.slice b2 z.names.length bc2,.int .i64 z.mode,.slice b3 z.sets.length bc3,.int .i64 z.every,.int .i64 z.fil.kind,.string z.fil.name,.slice b4 bn4 bc4,.int .i64 z.fil.frm,.int .i64 z.fil.to,.slice b5 z.fil.l.length bc5,.slice b6 z.conds.length bc6,.slice b7 z.keys.length bc7,.int .i64 z.limit] 33)
 obtain ⟨W4,hW4⟩:∃ W4,w4.alloc (.cells #[.slice b1 z.aggs.length bc1,.slice b2 z.names.length bc2,.int .i64 z.mode,.slice b3 z.sets.length bc3,.int .i64 z.every,.int .i64 z.fil.kind,.string z.fil.name,.slice b4 bn4 bc4,.int .i64 z.fil.frm,.int .i64 z.fil.to,.slice b5 z.fil.l.length bc5,.slice b6 z.conds.length bc6,.slice b7 z.keys.length bc7,.int .i64 z.limit] 33)=W4:=⟨_,rfl⟩
 rw [hW4] at m1 m2 m3
 have HK4:=Lib.hid m1
 have HB4:=Lib.hid (Bt HB3.out hB4)
 have hB4k:=(hB4.block _ (Array.getElem?_eq_some_iff.1 HK3.out).1).trans HK3.out
 have HC4:=Lib.hid (Bt HB4.out m3)
 have HM4:=Lib.hid m3
 clear hq4 hB4 m1 m2 m3
 have hK5:=(HM4.out.block _ (Array.getElem?_eq_some_iff.1 hB4k).1).trans hB4k
 obtain ⟨⟨c0,c1,c2,c3,c4,c5,c6,c7,c8,c9,ca,cb,cc,cd⟩,_⟩:=can14 hK5
 have hl5:(q.limit == 5)=true:=by rw [HL.out];rfl
 have ha2:((q.aggs.length:Int) == 2)=true:=by rw [HA.out];rfl
 clear hK5 hB4k
 go_wp2
 go_ret
 exact ⟨rfl,HC4.out⟩
end Go.Proofs.YtmfnhjdeoklnlaaGreatDoor
