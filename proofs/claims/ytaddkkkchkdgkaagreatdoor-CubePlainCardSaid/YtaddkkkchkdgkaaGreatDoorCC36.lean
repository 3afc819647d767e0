/- Joined by mergeK.py: K54, K56, H1, H2 -/
import Derived.Test.YtaddkkkchkdgkaaGreatDoorCC35
import Derived.Test.YtaddkkkchkdgkaaGreatDoorCC30
import Derived.Test.YtaddkkkchkdgkaaGreatDoorCC11
import Derived.Shelf.SlSortCmp.NoneTotal
import Derived.Test.YtaddkkkchkdgkaaGreatDoorCC34
import Derived.Test.YtaddkkkchkdgkaaGreatDoorCC29
import Derived.Test.YtaddkkkchkdgkaaGreatDoorCC04
import Derived.Test.YtaddkkkchkdgkaaGreatDoorCC05
import Derived.Test.YtaddkkkchkdgkaaGreatDoorCC06
import Derived.Test.YtaddkkkchkdgkaaGreatDoorCC07
namespace Go.Proofs.YtaddkkkchkdgkaaGreatDoor
open Go.RowKit Go.Sort Go.Shelf
open Tess (CK Pay PO)
theorem cmpK_lt (t u:Int) (l m:List Tess.DV):decide (cmpK t (l.map Tess.valOf) u (m.map Tess.valOf) < 0)=Tess.ckLt (t,l) (u,m):=by
 have e:∀ x:List Tess.DV,(x.map Tess.valOf).map Tess.Val.c=x:=fun x=>vc2 x
 unfold cmpK Tess.ckLt Tess.Kl.pair Tess.iLt
 rw [e,e]
 by_cases h:t=u
 ·subst h
  rw [if_pos rfl]
  cases h1:Tess.Kl.lex Tess.vLt l m
  ·cases h2:Tess.Kl.lex Tess.vLt m l <;> simp
  ·simp
 ·rw [if_neg h]
  unfold cmpI
  by_cases h1:t < u
  ·simp [h1]
  ·have h2:u < t:=by omega
   simp [h1,h2]
abbrev GA (p:Nat→Prop) (w:World) (v:Value):={ x:List Value×Grp // GA2 (fun b=>(p b∧v.ownBlock≠some b)∧b < w.heap.size) w x.1 x.2 }
def GA.cmp {p:Nat→Prop} {w:World} {v:Value} (x y:GA p w v):Int:=cmpK x.1.2.2.1.1 (x.1.2.2.1.2.map Tess.valOf) y.1.2.2.1.1 (y.1.2.2.1.2.map Tess.valOf)
section
variable {p:Nat→Prop} {w:World} {v:Value}
theorem GA.lt (x y:GA p w v):ltOf GA.cmp x y=Tess.ckLt x.1.2.2.1 y.1.2.2.1:=cmpK_lt _ _ _ _
theorem GA.swo:SWO (ltOf (GA.cmp (p:=p) (w:=w) (v:=v))) where
 irrefl x:=by rw [GA.lt];exact Tess.cs3.irr _
 trans x y z h1 h2:=by rw [GA.lt] at *;exact Tess.cs3.trans h1 h2
 ntrans x y z h1 h2:=by
  rw [GA.lt] at *
  cases h3:Tess.ckLt y.1.2.2.1 x.1.2.2.1 with
  | false=>rw [Tess.cs3.tri h1 h3];exact h2
  | true=>
    cases h4:Tess.ckLt x.1.2.2.1 z.1.2.2.1 with
    | false=>rfl
    | true=>rw [Tess.cs3.trans h3 h4] at h2;cases h2
end
theorem gBs {α:Type} [Inhabited α] {enc:α→List Value} {k:Nat} {w:World} {g n:Nat} {os:Array Obj} (d:Array α):w.grownBy (sortWorldK enc k w g 0 n d os) (some g):=by
 refine ⟨rfl,rfl,rfl,by simp [sortWorldK,putRowK],fun b hb hne => ?_⟩
 unfold sortWorldK putRowK
 rw [heap_grow_old _ _ (by simpa using hb)]
 have:g≠b:=fun e=>hne (by rw [e])
 simp [putRow,mapBlock,Sort.ahead,Array.getElem?_modify,this]
theorem heap_sortedK {α:Type} [Inhabited α] {enc:α→List Value} {k:Nat} {w:World} {g n:Nat} {os:Array Obj} {cur:Array Value} {e:TypeId} {fr:Nat×Nat} (d:Array α) (hb:w.heap[g]? = some (.cells cur e fr)) :
  (sortWorldK enc k w g 0 n d os).heap[g]? = some (.cells (putCells id 0 (Go.Sort.flatK enc k d) cur) e fr):=by
 have hg:g < w.heap.size:=(Array.getElem?_eq_some_iff.1 hb).1
 unfold sortWorldK putRowK
 rw [heap_grow_old _ _ (by simpa using hg)]
 simp [putRow,mapBlock,Sort.ahead,Array.getElem?_modify,hb,onCells]
theorem flatK_get {α:Type} [Inhabited α] {enc:α→List Value} (he:∀ x,(enc x).length=7) (d:Array α) {j:Nat} (hj:j < d.size * 7):(d.toList.map enc).flatten[j]? = some (Go.Sort.flatK enc 7 d)[j]! := by
 rw [get_flatK _ _ _ _ hj]
 have h1:j / 7 < d.size:=by omega
 have h2:=flatU (k:=7) (d.toList.map enc) (fun x hx=>by obtain ⟨y,_,rfl⟩:=List.mem_map.1 hx;exact he y) (j / 7) (j % 7) (by simpa using h1) (Nat.mod_lt _ (by decide))
 rw [show j / 7 * 7 + j % 7=j by omega] at h2
 rw [h2]
 have h3:j % 7 < (enc d[j / 7]).length:=by rw [he];exact Nat.mod_lt _ (by decide)
 simp [getElem!_pos d (j / 7) h1,h3]
theorem cmp_lays {p:Nat→Prop} {w:World} {g n cap size:Nat} [Inhabited (GA p w (.slice (some ⟨g,0,none⟩) n cap))] :
  CmpLays Tryz.prog 69 #[] (fun x:GA p w (.slice (some ⟨g,0,none⟩) n cap)=>x.1.1) 7 GA.cmp g 0 size w:=by
 intro m os dk _ x y
 have hg:=gBs (enc:=fun x:GA p w (.slice (some ⟨g,0,none⟩) n cap)=>x.1.1) (k:=7) (w:=w) (g:=g) (n:=m) (os:=os) dk
 generalize sortWorldK (fun x:GA p w (.slice (some ⟨g,0,none⟩) n cap)=>x.1.1) 7 w g 0 m dk os=W at *
 obtain ⟨⟨cx,X⟩,hx⟩:=x
 obtain ⟨⟨cy,Y⟩,hy⟩:=y
 have ag:Ag (fun b=>(p b∧(Value.slice (some ⟨g,0,none⟩) n cap).ownBlock≠some b)∧b < w.heap.size) w W:=⟨hg.size,fun b hb hp=>hg.block b hb fun e=>hp.1.2 e.symm⟩
 have Af:=GA2.ag hx ag
 have Ae:=GA2.ag hy ag
 obtain ⟨vd,vs,vm,vx,Ac,h1,h2⟩:=Af
 obtain ⟨ud,us,um,ux,Ad,k1,k2⟩:=Ae
 obtain ⟨_,_,rfl⟩:=h2.sums.shape
 obtain ⟨_,_,rfl⟩:=h2.mins.shape
 obtain ⟨_,_,rfl⟩:=h2.maxs.shape
 obtain ⟨_,_,rfl⟩:=k2.sums.shape
 obtain ⟨_,_,rfl⟩:=k2.mins.shape
 obtain ⟨_,_,rfl⟩:=k2.maxs.shape
 obtain ⟨_,_,rfl,hl,hv⟩:=h1.cells
 obtain ⟨_,_,rfl,kl,kv⟩:=k1.cells
 simp only at Ac Ad
 subst Ac Ad
 have Aa:(X.2.1.2.map Tess.valOf).length≤9223372036854775807:=by
  obtain ⟨_,_,_,h5,_⟩:=h1;exact h5
 have Ab:(Y.2.1.2.map Tess.valOf).length≤9223372036854775807:=by
  obtain ⟨_,_,_,h5,_⟩:=k1;exact h5
 exact cmpG_any _ _ _ _ _ _ _ _ _ _ _ _ _ _ _ _ _ _ _ _ _ _ _ _ _ _ _ _ _ _ W Aa Ab hv kv
theorem len7:∀ l:List (List Value),(∀ x ∈ l,x.length=7)→l.flatten.length=l.length * 7
 | [],_=>rfl
 | x :: l,h=>by rw [List.flatten_cons,List.length_append,h x (by simp),len7 l fun y hy=>h y (by simp [hy]),List.length_cons];omega
theorem frozen_blk {w:World} {g:Nat} {cur:Array Value} {e:TypeId} (h:w.heap[g]? = some (.cells cur e (0,0))) (o:Nat):w.frozen? ⟨g,o,none⟩=false:=frozen_of_row _ _ _ _ _ h
set_option maxHeartbeats 1000000 in
theorem sortG_any {p:Nat→Prop} {N:Nat} {v:Value} {us:List (List Value)} {L:List Grp} (w:World) (h:OwnL N 7 56 GA2 p w v us L) (hn:L=[]→v = .slice none 0 0) (hL:L.length≤1000000000) :
  Calls Tryz.prog 68 #[v,.func (.func 69) #[] #[]] w fun e w'=>e = .returned (.tuple #[])∧∃ us' L',L'.Perm L∧L'.Pairwise (fun a b=>Tess.ckLt b.2.1 a.2.1=false)∧OwnL N 7 56 GA2 p w' v us' L'∧w.grownBy w' v.ownBlock:=by
 rcases Nat.eq_zero_or_pos L.length with h0 | h0
 ·have e:L=[]:=List.eq_nil_of_length_eq_zero h0
  subst e
  rw [hn rfl]
  have eu:us=[]:=List.eq_nil_of_length_eq_zero h.len
  subst eu
  rw [hn rfl] at h
  have hc:=AnyF.slices_SortFunc_none (L:=Tryz.laysSortG) none 0 (.func (.func 69) #[] #[]) w
  change Calls Tryz.prog 68 _ _ _ at hc
  exact hc.mono fun e w' ⟨h1,h2⟩=>⟨h1,[],[],.refl _,.nil,h2 ▸ h,h2 ▸ ⟨rfl,rfl,rfl,Nat.le_refl _,fun _ _ _=>rfl⟩⟩
 ·have Ac:=h.len
  obtain ⟨Ar,⟨_,h1⟩ | ⟨g,Aa,Al,hv,hb,hg,Am,hm,hs,ht⟩⟩:=h.own
  ·omega
  rw [Ac] at hv
  subst hv
  have Ai:=(Array.getElem?_eq_some_iff.1 hg).1
  have Ah:=fun j (hj:j < L.length)=>gn2.lt (h.at_ j hj (by omega))
  let d:Array (GA p w (.slice (some ⟨g,0,none⟩) L.length Aa)):=Array.ofFn (n:=L.length) fun j=>⟨(us[j.1]'(by omega),L[j.1]),Ah j.1 j.2⟩
  haveI:Inhabited (GA p w (.slice (some ⟨g,0,none⟩) L.length Aa)):=⟨⟨(us[0]'(by omega),L[0]),Ah 0 h0⟩⟩
  have hd:d.size=L.length:=by simp [d]
  have Ad:∀ x:GA p w (.slice (some ⟨g,0,none⟩) L.length Aa),x.1.1.length=7:=fun x=>gn2.len x.2
  have An:d.toList.map (fun x=>x.1.1)=us:=by
   apply List.ext_getElem (by simp [d,Ac])
   intro i h1 h2
   simp [d]
  have Aq:d.toList.map (fun x=>x.1.2)=L:=by
   apply List.ext_getElem (by simp [d])
   intro i h1 h2
   simp [d]
  have hH:HoldsK (fun x:GA p w (.slice (some ⟨g,0,none⟩) L.length Aa)=>x.1.1) 7 w g 0 d:=by
   intro j hj
   rw [size_flatK,hd] at hj
   refine ⟨?_,frozen_blk hg _⟩
   rw [Nat.zero_add,cell_of_row _ _ _ _ _ _ hg]
   have h1:=flatK_get Ad d (j:=j) (by rw [hd];exact hj)
   rw [An,← ht,List.getElem?_take,if_pos (by omega),Array.getElem?_toList] at h1
   exact h1
  have hc:=AnyQ.slices_SortFunc (L:=Tryz.laysSortG) 7 Tryz.isAgg56 Tryz.sizeOf56 (fun x:GA p w (.slice (some ⟨g,0,none⟩) L.length Aa)=>x.1.1) Ad (fun x=>gn2.one x.2) GA.cmp GA.swo 69 #[] g 0 Aa d w (enters_of Tryz.func69 (by kernel_rfl) rfl) cmp_lays hH Ai (by omega)
  change Calls Tryz.prog 68 _ _ _ at hc
  rw [hd] at hc
  refine hc.mono ?_
  rintro e w' ⟨rfl,d',n,os,hp,Ap,rfl⟩
  have Ab:d'.size=L.length:=hp.1.trans hd
  have Ae:d'.toList.Perm d.toList:=by
   have h1:=hp.2.2
   have e1:=Array.extract_size (xs:=d')
   have e2:=Array.extract_size (xs:=d)
   rw [Ab] at e1
   rw [hd] at e2
   rwa [e1,e2] at h1
  have Af:=gBs (enc:=fun x:GA p w (.slice (some ⟨g,0,none⟩) L.length Aa)=>x.1.1) (k:=7) (w:=w) (g:=g) (n:=n) (os:=os) d'
  have Ak:=heap_sortedK (enc:=fun x:GA p w (.slice (some ⟨g,0,none⟩) L.length Aa)=>x.1.1) (k:=7) (n:=n) (os:=os) d' hg
  refine ⟨rfl,d'.toList.map (fun x=>x.1.1),d'.toList.map (fun x=>x.1.2),Aq ▸ Ae.map _,?_,⟨?_,by simp,?_⟩,Af⟩
  ·rw [List.pairwise_map,List.pairwise_iff_getElem]
   intro i j hi hj Aj
   simp only [Array.length_toList] at hi hj
   have h1:=Ap i j (Nat.zero_le _) Aj (by omega)
   rw [GA.lt,getElem!_pos d' i hi,getElem!_pos d' j hj] at h1
   simpa using h1
  ·refine ⟨?_,.inr ⟨g,Aa,_,by simp [Ab],hb,Ak,by simp;omega,hm,by simp [putCells,hs],?_⟩⟩
   ·exact len7 _ fun x hx=>by obtain ⟨y,_,rfl⟩:=List.mem_map.1 hx;exact Ad y
   ·apply List.ext_getElem?
    intro j
    have Ao:(d'.toList.map (fun x=>x.1.1)).length=L.length:=by simp [Ab]
    rw [Ao]
    by_cases hj:j < L.length * 7
    ·rw [List.getElem?_take,if_pos hj,Array.getElem?_toList,flatK_get Ad d' (by rw [Ab];exact hj)]
     have Ag:j < Al.size:=by rw [hs];exact Nat.lt_of_lt_of_le hj (Nat.mul_le_mul_right 7 (by omega))
     simp [putCells,Ab,hj,Ag]
    ·rw [List.getElem?_take,if_neg hj,List.getElem?_eq_none]
     rw [len7 _ fun x hx=>by obtain ⟨y,_,rfl⟩:=List.mem_map.1 hx;exact Ad y,List.length_map,Array.length_toList,Ab]
     omega
  ·intro j hj Ag
   simp only [List.length_map,Array.length_toList] at hj
   simp only [List.getElem_map]
   have h1:=(d'.toList[j]'(by simpa using hj)).2
   refine gn2.weak (gn2.ag h1 ⟨Af.size,fun b hb' hpb=>Af.block b hb' fun e=>hpb.1.2 e.symm⟩) fun b hb'=>hb'.1
end Go.Proofs.YtaddkkkchkdgkaaGreatDoor
namespace Go.Proofs.YtaddkkkchkdgkaaGreatDoor
open Go.RowKit Go.Sort
open Tess (CK Pay PO CO2 CO Que Fil)
theorem OwnL.same {α:Type} {N k:Nat} {t:TypeId} {R:(Nat→Prop)→World→List Value→α→Prop} {p:Nat→Prop} {W W':World} {lv:Value} {us:List (List Value)} {ls:List α} {l:Nat} (hN:Nest k R) (h:OwnL N k t R p W lv us ls) (hp:∀ b,p b→N≤b) (hl:l < N) (hs:Rf.SB l W W'):OwnL N k t R p W' lv us ls:=
 ⟨ok2 h.own fun b hb=>hs.block b (by have:=(h.own.lt b hb).1;omega),h.len,fun j hj hj'=>hN.ag (h.at_ j hj hj') ⟨Nat.le_of_eq hs.size.symm,fun b _ hb=>hs.block b (by have:=hp b hb.1;omega)⟩⟩
section
variable {T:Lib.PrintTabs} {N gb mb l:Nat} {w W W' W2 W3:World} {v v' v'':Value} {us us' us'':List (List Value)} {V V' V'':ByteArray→RowV} {L L' L'':List Grp}
theorem GS.same (h:GS T N gb mb W v us V L) (hl:l < N) (hg:l≠gb) (hm:l≠mb) (hs:Rf.SB l W W'):GS T N gb mb W' v us V L where
 gbN:=h.gbN
 mbN:=h.mbN
 ne:=h.ne
 NW:=by rw [hs.size];exact h.NW
 box:=(hs.block gb (Ne.symm hg)).trans h.box
 own:=h.own.same gn2 (fun _ hb=>hb.1) hl hs
 nil:=h.nil
 map:=h.map.keep (hs.block mb (Ne.symm hm))
 rows:=fun s=>(h.rows s).imp id fun ⟨r,h1,h2,h3,h4⟩=>⟨r,h1,h2,h3,ok2 h4 fun b hb=>hs.block b (by have:=(h4.lt b hb).1;omega)⟩
 apart:=h.apart
theorem Put.below (h:Put T N gb mb v V w W v' us' V' L') (hb:Below W.heap.size W W'):Put T N gb mb v V w W' v' us' V' L':=
 ⟨h.gs.below hb,h.tch.trans (Tch.new hb),h.own⟩
theorem Put.then (h1:Put T N gb mb v V w W v' us' V' L') (hb:Below W.heap.size W W2) (h2:Put T N gb mb v' V' W2 W3 v'' us'' V'' L''):Put T N gb mb v V w W3 v'' us'' V'' L'':=
 ⟨h2.gs,tch_step h1.tch h1.own ((Tch.new hb).trans h2.tch),fun b hb'=>(h2.own b hb').elim (fun h=>h1.own b h) fun h => .inr (Nat.le_trans h1.tch.size (Nat.le_trans hb.size h))⟩
theorem Put.round {X X1 X2 w6 w7 X7:World} {v0:Value} {V0:ByteArray→RowV} (h1:Put T N gb mb v0 V0 w X v us V L) (b1:Below X.heap.size X X1) (s2:Rf.SB l X1 X2) (b3:Below X2.heap.size X2 w6) (h2:Put T N gb mb v V w6 w7 v' us' V' L') (s7:Rf.SB l w7 X7) (hl:l < N) (hg:l≠gb) (hm:l≠mb) (he:X7.heap[l]? = w.heap[l]?):Put T N gb mb v0 V0 w X7 v' us' V' L' where
 gs:=h2.gs.same hl hg hm s7
 tch:=⟨s7.os.trans (h2.tch.os.trans (b3.os.trans (s2.os.trans (b1.os.trans h1.tch.os)))),s7.tape.trans (h2.tch.tape.trans (b3.tape.trans (s2.tape.trans (b1.tape.trans h1.tch.tape)))),s7.output.trans (h2.tch.output.trans (b3.output.trans (s2.output.trans (b1.output.trans h1.tch.output)))),by
  have e1:=h1.tch.size
  have e2:=b1.size
  have e3:=s2.size
  have e4:=b3.size
  have e5:=h2.tch.size
  have e6:=s7.size
  omega,fun b hb hn=>by
  by_cases e:b=l
  ·rw [e];exact he
  ·have e1:=h1.tch.size
   have e2:=b1.size
   have e3:=s2.size
   have e4:=b3.size
   refine (s7.block b e).trans ((h2.tch.block b (by omega) fun hS => ?_).trans ((b3.block b (by omega)).trans ((s2.block b e).trans ((b1.block b (by omega)).trans (h1.tch.block b hb hn)))))
   rcases h1.own b hS with h | h
   ·exact hn h
   ·omega⟩
 own:=fun b hb=>(h2.own b hb).elim (fun h=>h1.own b h) fun h => .inr (by
  have e1:=h1.tch.size
  have e2:=b1.size
  have e3:=s2.size
  have e4:=b3.size
  omega)
end
theorem no_S {gb mb:Nat} {b:Nat} (h:GS.S gb mb (.slice none 0 0) (fun _=>none) b):b=gb∨b=mb:=by
 rcases h with h | h | h | ⟨s,r,hr,_⟩
 ·exact .inl h
 ·exact .inr h
 ·cases h
 ·cases hr
end Go.Proofs.YtaddkkkchkdgkaaGreatDoor
namespace Go.Proofs.YtaddkkkchkdgkaaGreatDoor
open Go.RowKit Go.Sort
open Tess (Fil)
open Tess.Fil (gO2)
set_option maxRecDepth 100000 in
set_option maxHeartbeats 1000000 in
theorem metric_any (v:Value) (s:Tess.Sch) (x:ByteArray) (p:Nat→Prop) (w:World) (hv:SA p w v s) :
  Calls Tryz.prog 164 #[v,.string x] w fun e w'=>e = .returned (.tuple #[.int .i64 ((Tess.metW s x).1:Nat),.bool (Tess.metW s x).2])∧Below w.heap.size w w':=by
 have HV:=Hd hv
 obtain ⟨vd,vm,rfl,hd,hm,_,_⟩:=hv
 have HP:=Hd (fun W (hB:Below w.heap.size w W)=>place_any _ vm s s.mets x p W (HV.out.ag (Ag.new p hB)) (hm.1.below hB))
 obtain ⟨ad,Ab,rfl,_⟩:=sl3 hd
 obtain ⟨am,Ac,rfl,_⟩:=sl3 hm
 clear hd hm
 have HD:RowKit.Hid (Tess.metW s x=Tess.pW (Tess.sO2 s) s.mets x):=Hd rfl
 rw [← HD.out] at HP
 generalize Tess.metW s x=r at *
 obtain ⟨r1,r2⟩:=r
 simp only at HP
 go_enter Tryz.func164,Tryz.ntmps164
 go_wp2_with (go_at_call 143;refine (HP.out _ ((Below.refl _ _).alloc (Nat.le_refl _) _)).mono ?_;rintro e w2 ⟨rfl,Aa⟩;have HB:=Hd (((Below.refl _ _).alloc (Nat.le_refl _) _).trans (Aa.mono (by simp)));clear Aa)
 go_ret2
 exact ⟨rfl,HB.out⟩
set_option maxRecDepth 100000 in
set_option maxHeartbeats 1000000 in
theorem areGrains2 (b:Nat) (g h:Int) (w:World) (hc:w.cell? ⟨b,0,none⟩=some (.int .i64 g)) (hd:w.cell? ⟨b,1,none⟩=some (.int .i64 h)) :
  Calls Tryz.prog 91 #[.slice (some ⟨b,0,none⟩) 2 2] w fun e w'=>e = .returned (.bool (gO2 g && gO2 h))∧w=w':=by
 have gk:∀ x:Int,gO2 x=true∧decide (x < 1)=false∧decide (1000000000 < x)=false∨gO2 x=false∧decide (x < 1)=true∨gO2 x=false∧decide (x < 1)=false∧decide (1000000000 < x)=true:=by
  intro x
  unfold gO2
  by_cases h1:1≤x
  ·by_cases h2:x≤1000000000
   ·left;simp [h1,h2]
   ·right;right;simp [h1];omega
  ·right;left;simp;omega
 rcases gk g with ⟨e,d1,d2⟩ | ⟨e,d1⟩ | ⟨e,d1,d2⟩
 ·rw [e,Bool.true_and]
  rcases gk h with ⟨e',Aa,Ab⟩ | ⟨e',Aa⟩ | ⟨e',Aa,Ab⟩
  all_goals
   rw [e']
   clear gk e e'
   go_enter Tryz.func91,Tryz.ntmps91
   go_wp2
   refine wp_loop_rounds 3 ?_
   rw [rounds_succ]
   go_wp2
   rw [rounds_succ]
   go_wp2
   try (rw [rounds_succ];go_wp2)
   go_ret
   exact ⟨rfl,rfl⟩
 all_goals
  rw [e,Bool.false_and]
  clear gk e
  go_enter Tryz.func91,Tryz.ntmps91
  go_wp2
  refine wp_loop_rounds 3 ?_
  rw [rounds_succ]
  go_wp2
  go_ret
  exact ⟨rfl,rfl⟩
set_option maxRecDepth 100000 in
set_option maxHeartbeats 1000000 in
theorem coarser_any (a b:Int) (w:World):Calls Tryz.prog 79 #[.int .i64 a,.int .i64 b] w fun e w'=>e = .returned (.bool (Tess.co2 a b))∧Below w.heap.size w w':=by
 unfold Tess.co2
 have HG:=Hd (fun (k:Nat) (W:World) h1 h2=>areGrains2 k a b W h1 h2)
 cases hg:gO2 a && gO2 b
 ·rw [hg] at HG
  rw [Bool.false_and]
  go_enter Tryz.func79,Tryz.ntmps79
  go_wp2_with (go_at_call 91;refine (HG.out _ _ (by simp) (by simp)).mono ?_;rintro e w3 ⟨rfl,rfl⟩;have Aa:=Hd ((Below.refl w.heap.size w).alloc (Nat.le_refl _) (.cells #[.int .i64 a,.int .i64 b] 2)))
  go_ret
  exact ⟨rfl,Aa.out⟩
 ·rw [hg] at HG
  have h1:1≤a∧a≤1000000000∧1≤b∧b≤1000000000:=by
   unfold gO2 at hg;simp at hg;omega
  obtain ⟨h1,h2,h3,h4⟩:=h1
  rw [Bool.true_and]
  obtain ⟨r,hr⟩:∃ r,((b % a:Int) == 0)=r:=⟨_,rfl⟩
  have e1:decide (b % a=0)=r:=by rw [← hr];rfl
  rw [e1]
  have Ab:0≤b:=by omega
  clear e1 hg
  go_enter Tryz.func79,Tryz.ntmps79
  go_wp2_with (go_at_call 91;refine (HG.out _ _ (by simp) (by simp)).mono ?_;rintro e w3 ⟨rfl,rfl⟩;have Aa:=Hd ((Below.refl w.heap.size w).alloc (Nat.le_refl _) (.cells #[.int .i64 a,.int .i64 b] 2)))
  go_ret
  exact ⟨rfl,Aa.out⟩
theorem qa2 (n a b:Int) (w:World):Calls Tryz.prog 116 #[.int .i64 n,.int .i64 a,.int .i64 b] w fun e w'=>e = .returned (.bool (Tess.within n a b))∧w=w':=by
 unfold Tess.within
 obtain ⟨r,hr⟩:∃ r,decide (n≤b)=r:=⟨_,rfl⟩
 by_cases h1:a≤n
 ·have d1:decide (a≤n)=true:=decide_eq_true h1
  rw [d1,hr]
  go_enter Tryz.func116,Tryz.ntmps116
  go_wp2
  go_ret
  exact ⟨rfl,rfl⟩
 ·have d1:decide (a≤n)=false:=decide_eq_false h1
  rw [d1,Bool.false_and]
  go_enter Tryz.func116,Tryz.ntmps116
  go_wp2
  go_ret
  exact ⟨rfl,rfl⟩
theorem sli_at {p:Nat→Prop} {w:World} {a:Option Addr} {n c:Nat} {ns:List Int} (h:SlP p w (.slice a n c) (ns.map (.int .i64))) (k:Nat) (hk:k < ns.length):∃ b off,a=some ⟨b,off,none⟩∧b < w.heap.size∧w.cell? ⟨b,off + k,none⟩=some (.int .i64 ns[k]):=by
 obtain ⟨⟨_,a',c',e,hc⟩,_,_⟩:=h
 simp only [Value.slice.injEq] at e
 obtain ⟨rfl,_,_⟩:=e
 obtain ⟨b,off,ha,hb,Aa⟩:=hc (by simp;omega)
 exact ⟨b,off,ha,hb,by rw [Aa k (by simpa using hk),List.getElem_map]⟩
theorem sli_open {p:Nat→Prop} {w:World} {v:Value} {ns:List Int} (h:SlP p w v (ns.map (.int .i64))):∃ a cap,v = .slice a ns.length cap∧ns.length≤9223372036854775807∧(∀ k (hk:k < ns.length),∃ b off,a=some ⟨b,off,none⟩∧b < w.heap.size∧w.cell? ⟨b,off + k,none⟩=some (.int .i64 ns[k])):=by
 obtain ⟨a,n,c,rfl⟩:=h.shape
 have hn:n=ns.length:=by
  obtain ⟨⟨_,a',Aa,hv,_⟩,_⟩:=h
  cases hv;simp
 have hl:=h.1.1
 rw [List.length_map] at hl
 subst hn
 exact ⟨a,c,rfl,hl,fun k hk=>sli_at h k hk⟩
set_option maxHeartbeats 1000000 in
theorem rInts_any (p q:Nat→Prop) (va vb:Value) (a b:List Int) (w:World) (ha:SlP p w va (a.map (.int .i64))) (hb:SlP q w vb (b.map (.int .i64))) :
  Calls Tryz.prog 43 #[va,vb] w fun e w'=>e = .returned (.bool (decide (a=b)))∧Below w.heap.size w w':=by
 obtain ⟨aa,ac,rfl,Ap,Af⟩:=sli_open ha
 obtain ⟨ba,bc,rfl,Ao,Ag⟩:=sli_open hb
 have HA:=Hd Af
 have Ak:=Hd Ag
 clear ha hb Af Ag
 by_cases hl:a.length=b.length
 ·have HL:=Hd hl
  have Aj:((a.length:Int) != (b.length:Int))=false:=by rw [bne_eq_false_iff_eq];omega
  clear hl
  go_enter Tryz.func43,Tryz.ntmps43
  go_wp2
  go_loopw [5] (fun i wr => ∃ k:Nat,k≤a.length∧i = .int .i64 k∧(∀ j (h1:j < a.length) (h2:j < b.length),j < k→a[j]=b[j])∧Below w.heap.size w wr) (fun i _=>a.length - (intOf i).toNat)
  case atStart=>exact ⟨0,Nat.zero_le _,rfl,fun j _ _ h=>absurd h (Nat.not_lt_zero _),Below.refl _ _⟩
  case round=>
   obtain ⟨k,hk,rfl,Ab,hB⟩:=hrel
   have Aa:=Hd Ab
   have HB:=Hd hB
   clear Ab hB
   by_cases hlt:k < a.length
   ·have Al:k < b.length:=by have:=HL.out;omega
    obtain ⟨b1,o1,rfl,Am,Ad⟩:=HA.out k hlt
    obtain ⟨b2,o2,rfl,Ah,Ae⟩:=Ak.out k Al
    obtain ⟨x,hx⟩:∃ x,x=a[k]:=⟨_,rfl⟩
    obtain ⟨y,hy⟩:∃ y,y=b[k]:=⟨_,rfl⟩
    rw [← hx] at Ad
    rw [← hy] at Ae
    have e1:=(HB.out.cell (p:=⟨b1,o1 + k,none⟩) Am).trans Ad
    have e2:=(HB.out.cell (p:=⟨b2,o2 + k,none⟩) Ah).trans Ae
    have An:(k:Int) < (a.length:Int):=by omega
    have Ac:=Hd (And.intro hx hy)
    clear hx hy Ad Ae
    by_cases he:x=y
    ·have Ai:(x != y)=false:=by simp [he]
     have HE:=Hd he
     clear he
     go_wp2
     go_quiet (fail)
     go_wp2
     go_roundw
     case rel=>
      refine ⟨k + 1,by omega,by go_num,fun j h1 h2 hjk => ?_,below_drewN HB.out _⟩
      by_cases hjk':j < k
      ·exact Aa.out j h1 h2 hjk'
      ·obtain rfl:j=k:=by omega
       rw [← Ac.out.1,← Ac.out.2];exact HE.out
     case measure=>simp [intOf];omega
    ·have Ai:(x != y)=true:=by simp [he]
     have HE:=Hd he
     clear he
     go_wp2
     go_quiet (fail)
     go_wp2
     go_ret
     refine ⟨rb2 ?_,below_drewN HB.out _⟩
     refine (decide_eq_false fun e=>HE.out ?_).symm
     rw [Ac.out.1,Ac.out.2]
     subst e;rfl
   ·have An:¬ (k:Int) < (a.length:Int):=by omega
    go_wp2
    go_ret
    refine ⟨rb2 (decide_eq_true (List.ext_getElem HL.out fun j h1 h2=>Aa.out j h1 h2 (by omega))).symm,HB.out⟩
 ·have Aj:((a.length:Int) != (b.length:Int))=true:=by rw [bne_iff_ne];omega
  have HN:=Hd (show a≠b from fun e=>hl (by rw [e]))
  clear hl
  go_enter Tryz.func43,Tryz.ntmps43
  go_wp2
  go_ret
  exact ⟨rb2 (decide_eq_false HN.out).symm,Below.refl _ _⟩
end Go.Proofs.YtaddkkkchkdgkaaGreatDoor
