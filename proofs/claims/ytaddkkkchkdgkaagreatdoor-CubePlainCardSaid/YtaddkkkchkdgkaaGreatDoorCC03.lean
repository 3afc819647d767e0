/- Joined by mergeK.py: F10, F11, F12, F13, F14 -/
import Derived.Test.YtaddkkkchkdgkaaGreatDoorCC02
import Derived.Maps.AppendAt
namespace Go.Proofs.YtaddkkkchkdgkaaGreatDoor
open Go.RowKit Go.Sort
open Tess (Fil)
def FA2 (p:Nat→Prop):Nat→World→Value→Fil→Prop
 | 0,_,_,_=>False
 | n + 1,w,v,f => ∃ vw a cap,v = .agg #[.int .i64 f.kind,.string f.name,vw,.int .i64 f.frm,.int .i64 f.to,.slice a f.l.length cap]∧f.name.size≤maxLen∧SlP p w vw (f.words.map .string)∧(∀ x ∈ f.words,x.size≤maxLen)∧f.l.length≤maxLen∧(a=none→cap=0) ∧
     (0 < f.l.length→∃ b off,a=some ⟨b,off,none⟩∧b < w.heap.size∧p b∧∀ j (h:j < f.l.length),∃ c0 c1 c2 c3 c4 c5,FA2 p n w (.agg #[c0,c1,c2,c3,c4,c5]) f.l[j] ∧
       w.cell? ⟨b,off + j * 6,none⟩=some c0∧w.cell? ⟨b,off + j * 6 + 1,none⟩=some c1∧w.cell? ⟨b,off + j * 6 + 2,none⟩=some c2∧w.cell? ⟨b,off + j * 6 + 3,none⟩=some c3∧w.cell? ⟨b,off + j * 6 + 4,none⟩=some c4∧w.cell? ⟨b,off + j * 6 + 5,none⟩=some c5)
theorem FA2.ag {p:Nat→Prop}:∀ {n:Nat} {w w':World} {v:Value} {f:Fil},FA2 p n w v f→Ag p w w'→FA2 p n w' v f
 | 0,_,_,_,_,h,_=>h.elim
 | n + 1,w,w',v,f,h,hg=>by
   obtain ⟨vw,a,cap,hv,h1,h2,h3,h4,h5,h6⟩:=h
   refine ⟨vw,a,cap,hv,h1,h2.ag hg,h3,h4,h5,fun hl => ?_⟩
   obtain ⟨b,off,ha,hb,hp,hc⟩:=h6 hl
   refine ⟨b,off,ha,Nat.lt_of_lt_of_le hb hg.1,hp,fun j hj => ?_⟩
   obtain ⟨c0,c1,c2,c3,c4,c5,hf,e0,e1,e2,e3,e4,e5⟩:=hc j hj
   exact ⟨c0,c1,c2,c3,c4,c5,hf.ag hg,(hg.cell hb hp).trans e0,(hg.cell hb hp).trans e1,(hg.cell hb hp).trans e2,(hg.cell hb hp).trans e3,(hg.cell hb hp).trans e4,(hg.cell hb hp).trans e5⟩
theorem FA2.weak {p q:Nat→Prop} (hpq:∀ b,p b→q b):∀ {n:Nat} {w:World} {v:Value} {f:Fil},FA2 p n w v f→FA2 q n w v f
 | 0,_,_,_,h=>h.elim
 | n + 1,w,v,f,h=>by
   obtain ⟨vw,a,cap,hv,h1,h2,h3,h4,h5,h6⟩:=h
   refine ⟨vw,a,cap,hv,h1,h2.weak hpq,h3,h4,h5,fun hl => ?_⟩
   obtain ⟨b,off,ha,hb,hp,hc⟩:=h6 hl
   refine ⟨b,off,ha,hb,hpq b hp,fun j hj => ?_⟩
   obtain ⟨c0,c1,c2,c3,c4,c5,hf,e⟩:=hc j hj
   exact ⟨c0,c1,c2,c3,c4,c5,hf.weak hpq,e⟩
theorem FA2.shape {p:Nat→Prop} {n:Nat} {w:World} {v:Value} {f:Fil} (h:FA2 p n w v f):∃ x a cap,v = .agg #[.int .i64 f.kind,.string f.name,x,.int .i64 f.frm,.int .i64 f.to,.slice a f.l.length cap]:=by
 cases n with
 | zero=>exact h.elim
 | succ n=>obtain ⟨vw,a,cap,hv,_⟩:=h;exact ⟨vw,a,cap,hv⟩
set_option maxRecDepth 100000 in
set_option maxHeartbeats 2000000 in
theorem count_any (p:Nat→Prop) (n:Nat):∀ (v:Value) (f:Fil) (w:World),FA2 p n w v f→f.count≤1000000000 →
  Calls Tryz.prog 49 #[v] w fun e w'=>e = .returned (.int .i64 (f.count:Nat))∧Below w.heap.size w w':=by
 induction n with
 | zero=>intro v f w h;exact h.elim
 | succ n ih=>
   intro v f w h Ab
   have HF:=Hd h
   obtain ⟨vw,a,Ae,rfl,_,Al,_,hl,_,hc⟩:=h
   obtain ⟨wa,wn,wc,rfl⟩:=Al.shape
   have HC:=Hd hc
   have Ax:f.l.length≤9223372036854775807:=by unfold maxLen at hl;omega
   have Am:=Hd (Fil.ce3 f)
   have Ap:=Hd Ab
   clear Al hc hl Ab
   go_enter Tryz.func49,Tryz.ntmps49
   go_wp2_with fail
   obtain ⟨W0,Ad⟩:∃ W0,w.alloc (.cells #[.int .i64 f.kind,.string f.name,.slice wa wn wc,.int .i64 f.frm,.int .i64 f.to,.slice a f.l.length Ae] 31)=W0:=⟨_,rfl⟩
   have Aq:Below w.heap.size w W0:=by rw [← Ad];exact (Below.refl _ _).alloc (Nat.le_refl _) _
   have Ac:W0.heap[w.heap.size]? = some (.cells #[.int .i64 f.kind,.string f.name,.slice wa wn wc,.int .i64 f.frm,.int .i64 f.to,.slice a f.l.length Ae] 31 (0,0)):=by rw [← Ad];exact heap_alloc_new _ _
   rw [Ad]
   clear Ad
   go_loopw [3,4] (fun c i wr => ∃ k:Nat,k≤f.l.length∧i = .int .i64 k∧c = .int .i64 ((1 + Fil.cL2 (f.l.take k):Nat):Int)∧Below W0.heap.size W0 wr) (fun _ i _=>f.l.length - (intOf i).toNat)
   case atStart=>exact ⟨0,Nat.zero_le _,rfl,rfl,Below.refl _ _⟩
   case round=>
    obtain ⟨k,hk,rfl,rfl,hB⟩:=hrel
    have Au:w.heap.size < W0.heap.size:=(Array.getElem?_eq_some_iff.1 Ac).1
    have c5:=cell_of_row wr w.heap.size 5 _ _ _ ((hB.block _ Au).trans Ac)
    simp only [List.getElem?_toArray,List.getElem?_cons_succ,List.getElem?_cons_zero] at c5
    have HB:=Hd (Bt Aq hB)
    have Ar:=Hd hB
    clear hB
    by_cases hlt:k < f.l.length
    ·obtain ⟨b,Aa,rfl,hb,hp,An⟩:=HC.out (by omega)
     obtain ⟨e0,e1,e2,e3,e4,e5,hf,q0,q1,q2,q3,q4,q5⟩:=An k hlt
     have Aj:=Hd (fun W (hBW:Below w.heap.size w W) (hc:(f.l[k]).count≤1000000000)=>ih _ _ W (hf.ag (Ag.new p hBW)) hc)
     have As:(k:Int) < (f.l.length:Int):=by omega
     have r0:=(HB.out.cell (p:=⟨b,Aa + k * 6,none⟩) hb).trans q0
     have r1:=(HB.out.cell (p:=⟨b,Aa + k * 6 + 1,none⟩) hb).trans q1
     have r2:=(HB.out.cell (p:=⟨b,Aa + k * 6 + 2,none⟩) hb).trans q2
     have r3:=(HB.out.cell (p:=⟨b,Aa + k * 6 + 3,none⟩) hb).trans q3
     have r4:=(HB.out.cell (p:=⟨b,Aa + k * 6 + 4,none⟩) hb).trans q4
     have r5:=(HB.out.cell (p:=⟨b,Aa + k * 6 + 5,none⟩) hb).trans q5
     clear An q0 q1 q2 q3 q4 q5 hf
     have Ah:=Fil.cLt f.l k hlt
     have Aw:=Fil.cLt2 f.l (k + 1)
     have Ak:=Ap.out
     rw [Am.out] at Ak
     have Af:(f.l[k]).count≤1000000000:=by omega
     have At:=Hd (Aj.out wr HB.out Af)
     have Av:=Hd Ah
     have hm:1 + Fil.cL2 (f.l.take k) + (f.l[k]).count≤1000000000:=by omega
     clear Ah Aw Ak Af Aj
     generalize Fil.cL2 (f.l.take k)=m at *
     generalize (f.l[k]).count=m2 at *
     go_wp2_with (go_at_call 49;refine At.out.mono ?_;rintro e w2 ⟨rfl,Ai⟩;have Ao:=Hd (Bt Ar.out Ai);clear Ai)
     go_roundw
     case rel=>exact ⟨k + 1,by omega,by go_num,by rw [Av.out];go_num,Ao.out⟩
     case measure=>simp [intOf];omega
    ·have As:¬ (k:Int) < (f.l.length:Int):=by omega
     have HE:=Hd (show f.l.take k=f.l from List.take_of_length_le (by omega))
     go_wp2
     go_ret
     exact ⟨ri2 (by rw [Am.out,HE.out];omega),HB.out⟩
theorem FA2.sh2 {p:Nat→Prop} {n:Nat} {w:World} {v:Value} {f:Fil} (h:FA2 p n w v f):∃ wa wn wc a cap,v = .agg #[.int .i64 f.kind,.string f.name,.slice wa wn wc,.int .i64 f.frm,.int .i64 f.to,.slice a f.l.length cap]:=by
 cases n with
 | zero=>exact h.elim
 | succ n=>
   obtain ⟨vw,a,cap,hv,_,hs,_⟩:=h
   obtain ⟨x,y,z,rfl⟩:=hs.shape
   exact ⟨x,y,z,a,cap,hv⟩
end Go.Proofs.YtaddkkkchkdgkaaGreatDoor
namespace Tess
open Go
namespace Fil
def cut:Nat→Fil→Fil
 | 0,f=>mk f.kind (cutN 30 f.name) ((f.words.take 10).map (cutN 110)) f.frm f.to []
 | d + 1,f=>mk f.kind (cutN 30 f.name) ((f.words.take 10).map (cutN 110)) f.frm f.to ((f.l.take 10).map (cut d))
def tops:Nat→Nat
 | 0=>1
 | d + 1=>1 + 10 * tops d
theorem cut_count (d:Nat):∀ f:Fil,(cut d f).count≤tops d:=by
 induction d with
 | zero=>intro f;rw [ce3];simp [cut,l,cL2,tops]
 | succ d ih=>
   intro f
   rw [ce3]
   have h:∀ q:List Fil,cL2 (q.map (cut d))≤q.length * tops d:=fun q=>by
    induction q with
    | nil=>simp [cL2]
    | cons a r ihr=>
      have:=ih a
      rw [List.map_cons,List.length_cons,Nat.add_mul]
      unfold cL2
      omega
   have h1:=h (f.l.take 10)
   have h2:(f.l.take 10).length≤10:=by rw [List.length_take];omega
   have h3:(f.l.take 10).length * tops d≤10 * tops d:=Nat.mul_le_mul_right _ h2
   show 1 + cL2 ((f.l.take 10).map (cut d))≤1 + 10 * tops d
   omega
end Fil
end Tess
namespace Go.Proofs.YtaddkkkchkdgkaaGreatDoor
open Go.RowKit Go.Sort
open Tess (Fil)
theorem FA2.lt {p:Nat→Prop}:∀ {n:Nat} {w:World} {v:Value} {f:Fil},FA2 p n w v f→FA2 (fun b=>p b∧b < w.heap.size) n w v f
 | 0,_,_,_,h=>h.elim
 | n + 1,w,v,f,h=>by
   obtain ⟨vw,a,cap,hv,h1,h2,h3,h4,h5,h6⟩:=h
   refine ⟨vw,a,cap,hv,h1,h2.lt,h3,h4,h5,fun hl => ?_⟩
   obtain ⟨b,off,ha,hb,hp,hc⟩:=h6 hl
   refine ⟨b,off,ha,hb,⟨hp,hb⟩,fun j hj => ?_⟩
   obtain ⟨c0,c1,c2,c3,c4,c5,hf,e⟩:=hc j hj
   exact ⟨c0,c1,c2,c3,c4,c5,hf.lt,e⟩
theorem FA2.mono {p:Nat→Prop}:∀ {n m:Nat} {w:World} {v:Value} {f:Fil},n≤m→FA2 p n w v f→FA2 p m w v f
 | 0,_,_,_,_,_,h=>h.elim
 | n + 1,0,_,_,_,hnm,_=>by omega
 | n + 1,m + 1,w,v,f,hnm,h=>by
   obtain ⟨vw,a,cap,hv,h1,h2,h3,h4,h5,h6⟩:=h
   refine ⟨vw,a,cap,hv,h1,h2,h3,h4,h5,fun hl => ?_⟩
   obtain ⟨b,off,ha,hb,hp,hc⟩:=h6 hl
   refine ⟨b,off,ha,hb,hp,fun j hj => ?_⟩
   obtain ⟨c0,c1,c2,c3,c4,c5,hf,e⟩:=hc j hj
   exact ⟨c0,c1,c2,c3,c4,c5,hf.mono (by omega),e⟩
def newAt (B:Nat) (cs:Array Value) (t:TypeId) (v:Value) (w:World):Prop:=∃ g,v = .pointer (some ⟨g,0,none⟩)∧B≤g∧w.heap[g]? = some (.cells cs t (0,0))
theorem newAt_mono (B:Nat) (cs:Array Value) (t:TypeId):Flow.Spec.mono (.inr (newAt B cs t)):=fun _ _ _ ⟨g,h1,h2,h3⟩ hb=>⟨g,h1,h2,(hb.block g (Array.getElem?_eq_some_iff.1 h3).1).trans h3⟩
def ce2:Value→List Value
 | .agg cs=>cs.toList
 | _=>[]
structure Fils (N:Nat) (p:Nat→Prop) (n:Nat) (W:World) (lv:Value) (us:List Value) (fs:List Fil):Prop where
 own:W.ownsRow N 31 6 lv us.length (us.flatMap ce2)
 len:us.length=fs.length
 at_:∀ j (h:j < fs.length) (h':j < us.length),FA2 p n W us[j] fs[j]
theorem cl2 {p:Nat→Prop} {n:Nat} {w:World} {v:Value} {f:Fil} (h:FA2 p n w v f):(ce2 v).length=6:=by
 obtain ⟨x,a,Aa,rfl⟩:=h.shape;rfl
theorem flat6 (us:List Value) (h:∀ u ∈ us,(ce2 u).length=6):∀ (j i:Nat) (hj:j < us.length),i < 6→(us.flatMap ce2)[j * 6 + i]? = (ce2 us[j])[i]? := by
 induction us with
 | nil=>intro j i hj;simp at hj
 | cons u r ih=>
   intro j i hj hi
   rw [List.flatMap_cons]
   cases j with
   | zero=>
     rw [List.getElem?_append_left (by rw [h u (List.mem_cons_self)];omega)]
     simp
   | succ j=>
     rw [List.getElem?_append_right (by rw [h u (List.mem_cons_self)];omega),h u (List.mem_cons_self),show (j + 1) * 6 + i - 6=j * 6 + i by omega]
     exact ih (fun x hx=>h x (List.mem_cons_of_mem _ hx)) j i (by simpa using hj) hi
theorem oca {w:World} {base:Nat} {e:TypeId} {size:Nat} {v:Value} {n:Nat} {xs:List Value} (h:w.ownsRow base e size v n xs) (hn:0 < n) :
  ∃ g cap,v = .slice (some ⟨g,0,none⟩) n cap∧base≤g∧g < w.heap.size∧n≤cap∧cap≤maxLen∧∀ j,j < n * size→w.cell? ⟨g,j,none⟩=xs[j]? := by
 obtain ⟨hl,h⟩:=h
 rcases h with ⟨_,h0⟩ | ⟨g,cap,Ab,hv,hb,hg,Aa,hm,hs,ht⟩
 ·omega
 ·refine ⟨g,cap,hv,hb,(Array.getElem?_eq_some_iff.1 hg).1,Aa,hm,fun j hj => ?_⟩
  rw [cell_of_row _ _ _ _ _ _ hg,← ht,List.getElem?_take,if_pos hj,Array.getElem?_toList]
theorem Fils.listed {N:Nat} {p q:Nat→Prop} {n:Nat} {W:World} {lv:Value} {us:List Value} {fs:List Fil} (h:Fils N p n W lv us fs) (hpq:∀ b,p b→q b) (hN:∀ b,N≤b→q b) :
  ∃ a cap,lv = .slice a fs.length cap∧fs.length≤maxLen∧(a=none→cap=0) ∧
    (0 < fs.length→∃ b off,a=some ⟨b,off,none⟩∧b < W.heap.size∧q b∧∀ j (h:j < fs.length),∃ c0 c1 c2 c3 c4 c5,FA2 q n W (.agg #[c0,c1,c2,c3,c4,c5]) fs[j] ∧
      W.cell? ⟨b,off + j * 6,none⟩=some c0∧W.cell? ⟨b,off + j * 6 + 1,none⟩=some c1∧W.cell? ⟨b,off + j * 6 + 2,none⟩=some c2∧W.cell? ⟨b,off + j * 6 + 3,none⟩=some c3∧W.cell? ⟨b,off + j * 6 + 4,none⟩=some c4∧W.cell? ⟨b,off + j * 6 + 5,none⟩=some c5):=by
 have Ab:=h.len
 rcases Nat.eq_zero_or_pos us.length with h0 | h0
 ·have Af:fs=[]:=List.eq_nil_of_length_eq_zero (by omega)
  subst Af
  obtain ⟨_,⟨hv,_⟩ | ⟨g,cap,Ah,hv,hb,hg,_⟩⟩:=h.own
  ·exact ⟨none,0,hv,Nat.zero_le _,fun _=>rfl,fun h=>absurd h (by simp)⟩
  ·rw [h0] at hv
   exact ⟨_,cap,hv,Nat.zero_le _,(fun e=>by cases e),fun h=>absurd h (by simp)⟩
 ·obtain ⟨g,cap,hv,hb,Ae,Ag,hm,hc⟩:=oca h.own h0
  refine ⟨_,cap,by rw [hv,Ab],by omega,(fun e=>by cases e),fun _=>⟨g,0,rfl,Ae,hN g hb,fun j hj => ?_⟩⟩
  have Ad:j < us.length:=by omega
  have Ac:=h.at_ j hj Ad
  obtain ⟨x,a,c,hs⟩:=Ac.shape
  have h6:∀ u ∈ us,(ce2 u).length=6:=fun u hu=>by
   obtain ⟨i,hi,rfl⟩:=List.getElem_of_mem hu
   exact cl2 (h.at_ i (by omega) hi)
  have Aa:∀ i,i < 6→W.cell? ⟨g,0 + j * 6 + i,none⟩=(ce2 us[j])[i]? := fun i hi=>by
   rw [show 0 + j * 6 + i=j * 6 + i by omega,hc _ (by omega),flat6 us h6 j i Ad hi]
  rw [hs] at Ac Aa
  exact ⟨_,_,_,_,_,_,Ac.weak hpq,Aa 0 (by omega),Aa 1 (by omega),Aa 2 (by omega),Aa 3 (by omega),Aa 4 (by omega),Aa 5 (by omega)⟩
theorem infoFil:(Tryz.prog.info? 31).map (fun i=>(i.zero,i.size,i.bytes))=some (some (.agg #[.int .i64 0,.string ⟨#[]⟩,.slice none 0 0,.int .i64 0,.int .i64 0,.slice none 0 0]),6,88):=by kernel_rfl
theorem set6 {W:World} {g:Nat} {x0 x1 x2 x3 x4 x5:Value} {t:TypeId} (y0 y1 y2 y3 y4 y5:Value) (h:W.heap[g]? = some (.cells #[x0,x1,x2,x3,x4,x5] t (0,0))) :
  ((((((W.setCell ⟨g,0,none⟩ y0).setCell ⟨g,1,none⟩ y1).setCell ⟨g,2,none⟩ y2).setCell ⟨g,3,none⟩ y3).setCell ⟨g,4,none⟩ y4).setCell ⟨g,5,none⟩ y5).heap[g]? = some (.cells #[y0,y1,y2,y3,y4,y5] t (0,0)):=
 heap_setCell_same _ _ _ _ _ _ (heap_setCell_same _ _ _ _ _ _ (heap_setCell_same _ _ _ _ _ _ (heap_setCell_same _ _ _ _ _ _ (heap_setCell_same _ _ _ _ _ _ (heap_setCell_same _ _ _ _ _ _ h)))))
theorem so4 {W:World} {g k:Nat} (y0 y1 y2 y3 y4 y5:Value) (h:k≠g) :
  ((((((W.setCell ⟨g,0,none⟩ y0).setCell ⟨g,1,none⟩ y1).setCell ⟨g,2,none⟩ y2).setCell ⟨g,3,none⟩ y3).setCell ⟨g,4,none⟩ y4).setCell ⟨g,5,none⟩ y5).heap[k]? = W.heap[k]? := by
 rw [heap_setCell_other _ _ _ _ h,heap_setCell_other _ _ _ _ h,heap_setCell_other _ _ _ _ h,heap_setCell_other _ _ _ _ h,heap_setCell_other _ _ _ _ h,heap_setCell_other _ _ _ _ h]
theorem sb2 {B:Nat} {a W:World} {g:Nat} (y0 y1 y2 y3 y4 y5:Value) (h:Below B a W) (hg:B≤g) :
  Below B a ((((((W.setCell ⟨g,0,none⟩ y0).setCell ⟨g,1,none⟩ y1).setCell ⟨g,2,none⟩ y2).setCell ⟨g,3,none⟩ y3).setCell ⟨g,4,none⟩ y4).setCell ⟨g,5,none⟩ y5):=
 (((((h.setCell hg _).setCell hg _).setCell hg _).setCell hg _).setCell hg _).setCell hg _
theorem ss5 {W:World} {g:Nat} (y0 y1 y2 y3 y4 y5:Value):((((((W.setCell ⟨g,0,none⟩ y0).setCell ⟨g,1,none⟩ y1).setCell ⟨g,2,none⟩ y2).setCell ⟨g,3,none⟩ y3).setCell ⟨g,4,none⟩ y4).setCell ⟨g,5,none⟩ y5).heap.size=W.heap.size:=by simp [World.setCell]
theorem sa5 (q:Nat→Prop) {W:World} {g:Nat} (y0 y1 y2 y3 y4 y5:Value) (h:¬ q g) :
  Ag q W ((((((W.setCell ⟨g,0,none⟩ y0).setCell ⟨g,1,none⟩ y1).setCell ⟨g,2,none⟩ y2).setCell ⟨g,3,none⟩ y3).setCell ⟨g,4,none⟩ y4).setCell ⟨g,5,none⟩ y5):=
 (((((Ag.set q _ _ h).trans (Ag.set q _ _ h)).trans (Ag.set q _ _ h)).trans (Ag.set q _ _ h)).trans (Ag.set q _ _ h)).trans (Ag.set q _ _ h)
structure Cf (w:World) (g:Nat) (bx:Array Value) (k:Int) (nm:ByteArray) (wv:Value) (fr to:Int) (lv:Value) (W:World):Prop where
 k1:W.heap[w.heap.size]? = some (.cells bx 31 (0,0))
 k2:W.heap[w.heap.size + 1]? = some (.cells #[.int .i64 0,.string ⟨#[]⟩,.slice none 0 0,.int .i64 0,.int .i64 0,.slice none 0 0] 31 (0,0))
 k3:W.heap[g]? = some (.cells #[.int .i64 k,.string nm,wv,.int .i64 fr,.int .i64 to,lv] 31 (0,0))
 below:Below w.heap.size w W
 hg:w.heap.size + 2≤g
section
variable {w W W':World} {g:Nat} {bx:Array Value} {k fr to:Int} {nm:ByteArray} {wv lv:Value}
theorem Cf.lt (h:Cf w g bx k nm wv fr to lv W):g < W.heap.size:=(Array.getElem?_eq_some_iff.1 h.k3).1
theorem Cf.later (h:Cf w g bx k nm wv fr to lv W) (hb:Below W.heap.size W W'):Cf w g bx k nm wv fr to lv W':=
 have:=h.lt;have:=h.hg
 ⟨(hb.block _ (by omega)).trans h.k1,(hb.block _ (by omega)).trans h.k2,(hb.block _ (by omega)).trans h.k3,Bt h.below hb,h.hg⟩
theorem Cf.grown (h:Cf w g bx k nm wv fr to lv W) {o:Option Nat} (hg:W.grownBy W' o) (ho:∀ k,o=some k→g < k):Cf w g bx k nm wv fr to lv W':=
 have h1:=h.lt;have h2:=h.hg
 ⟨(hg.block _ (by omega) (fun e=>by have:=ho _ e.symm;omega)).trans h.k1,(hg.block _ (by omega) (fun e=>by have:=ho _ e.symm;omega)).trans h.k2,(hg.block _ (by omega) (fun e=>by have:=ho _ e.symm;omega)).trans h.k3,
   h.below.grown hg h.below.size (fun k e=>by have:=ho k e;omega),h.hg⟩
theorem Cf.set2 (h:Cf w g bx k nm wv fr to lv W) (wv':Value):Cf w g bx k nm wv' fr to lv (W.setCell ⟨g,2,none⟩ wv'):=
 have h2:=h.hg
 ⟨(heap_setCell_other _ _ _ _ (by show _≠g;omega)).trans h.k1,(heap_setCell_other _ _ _ _ (by show _≠g;omega)).trans h.k2,heap_setCell_same _ _ _ _ _ _ h.k3,h.below.setCell (by show _≤g;omega) _,h.hg⟩
theorem Cf.set5 (h:Cf w g bx k nm wv fr to lv W) (lv':Value):Cf w g bx k nm wv fr to lv' (W.setCell ⟨g,5,none⟩ lv'):=
 have h2:=h.hg
 ⟨(heap_setCell_other _ _ _ _ (by show _≠g;omega)).trans h.k1,(heap_setCell_other _ _ _ _ (by show _≠g;omega)).trans h.k2,heap_setCell_same _ _ _ _ _ _ h.k3,h.below.setCell (by show _≤g;omega) _,h.hg⟩
end
theorem cf_start {w W0 w2:World} {g:Nat} {bx:Array Value} {k fr to:Int} (nm nm':ByteArray) (hn:nm=nm') (hB0:Below w.heap.size w W0) (hS0:W0.heap.size=w.heap.size + 2) (hw2:Below W0.heap.size W0 w2)
  (hk1:W0.heap[w.heap.size]? = some (.cells bx 31 (0,0)))
  (hk2:W0.heap[w.heap.size + 1]? = some (.cells #[.int .i64 0,.string ⟨#[]⟩,.slice none 0 0,.int .i64 0,.int .i64 0,.slice none 0 0] 31 (0,0)))
  (hgb:w.heap.size + 2≤g) (hk3:w2.heap[g]? = some (.cells #[.int .i64 0,.string ⟨#[]⟩,.slice none 0 0,.int .i64 0,.int .i64 0,.slice none 0 0] 31 (0,0))) :
  ∃ W1,((((((w2.setCell ⟨g,0,none⟩ (.int .i64 k)).setCell ⟨g,1,none⟩ (.string nm)).setCell ⟨g,2,none⟩ (.slice none 0 0)).setCell ⟨g,3,none⟩ (.int .i64 fr)).setCell ⟨g,4,none⟩ (.int .i64 to)).setCell ⟨g,5,none⟩ (.slice none 0 0))=W1∧Cf w g bx k nm' (.slice none 0 0) fr to (.slice none 0 0) W1:=by
 subst hn
 refine ⟨_,rfl,⟨?_,?_,set6 _ _ _ _ _ _ hk3,sb2 _ _ _ _ _ _ (hB0.trans (hw2.mono hB0.size)) (by omega),hgb⟩⟩
 ·rw [so4 _ _ _ _ _ _ (by omega)];exact (hw2.block _ (by omega)).trans hk1
 ·rw [so4 _ _ _ _ _ _ (by omega)];exact (hw2.block _ (by omega)).trans hk2
theorem cut_fil {q:Nat→Prop} {n:Nat} {W:World} {k fr to:Int} {nm:ByteArray} {ws:List ByteArray} {fs:List Fil} {wv:Value} {la:Option Addr} {len lc:Nat} (hlen:len=fs.length) (h1:nm.size≤maxLen) (h2:SlP q W wv (ws.map .string)) (h3:∀ x ∈ ws,x.size≤maxLen) (h4:fs.length≤maxLen) (h5:la=none→lc=0)
  (h6:0 < fs.length→∃ b off,la=some ⟨b,off,none⟩∧b < W.heap.size∧q b∧∀ j (h:j < fs.length),∃ c0 c1 c2 c3 c4 c5,FA2 q n W (.agg #[c0,c1,c2,c3,c4,c5]) fs[j] ∧
     W.cell? ⟨b,off + j * 6,none⟩=some c0∧W.cell? ⟨b,off + j * 6 + 1,none⟩=some c1∧W.cell? ⟨b,off + j * 6 + 2,none⟩=some c2∧W.cell? ⟨b,off + j * 6 + 3,none⟩=some c3∧W.cell? ⟨b,off + j * 6 + 4,none⟩=some c4∧W.cell? ⟨b,off + j * 6 + 5,none⟩=some c5) :
  FA2 q (n + 1) W (.agg #[.int .i64 k,.string nm,wv,.int .i64 fr,.int .i64 to,.slice la len lc]) (Fil.mk k nm ws fr to fs):=by
 subst hlen
 exact ⟨wv,la,lc,rfl,h1,h2,h3,h4,h5,h6⟩
def newFil (N n:Nat) (f:Fil) (v:Value) (W:World):Prop:=∃ gn x,v = .slice (some ⟨gn,0,none⟩) 1 1∧gn < W.heap.size∧FA2 (fun b=>N≤b) n W x f∧∀ j u,(ce2 x)[j]? = some u→W.cell? ⟨gn,j,none⟩=some u
theorem newFil_mono (N n:Nat) (f:Fil):Flow.Spec.mono (.inr (newFil N n f)):=fun _ _ _ ⟨gn,x,h1,h2,h3,h4⟩ hb=>⟨gn,x,h1,Nat.lt_of_lt_of_le h2 hb.size,h3.ag (Ag.new _ hb),fun j u hj=>(hb.cell (p:=⟨gn,j,none⟩) h2).trans (h4 j u hj)⟩
def isFil (N n:Nat) (f:Fil) (v:Value) (W:World):Prop:=FA2 (fun b=>N≤b) n W v f
theorem isFil_mono (N n:Nat) (f:Fil):Flow.Spec.mono (.inr (isFil N n f)):=fun _ _ _ h hb=>FA2.ag h (Ag.new _ hb)
theorem cells6_one {p:Nat→Prop} {n:Nat} {w:World} {v:Value} {f:Fil} (h:FA2 p n w v f):∀ u ∈ ce2 v,u.oneCell'=true:=by
 cases n with
 | zero=>exact h.elim
 | succ n=>
   obtain ⟨vw,a,Aa,rfl,_,hs,_⟩:=h
   obtain ⟨x,y,z,rfl⟩:=hs.shape
   intro u hu
   simp only [ce2,List.mem_cons,List.not_mem_nil,or_false] at hu
   rcases hu with rfl | rfl | rfl | rfl | rfl | rfl <;> rfl
theorem Fils.below {N:Nat} {q:Nat→Prop} {n:Nat} {W W':World} {lv:Value} {us:List Value} {fs:List Fil} (h:Fils N q n W lv us fs) (hb:Below W.heap.size W W'):Fils N q n W' lv us fs:=
 ⟨ob2 h.own hb,h.len,fun j hj hj'=>(h.at_ j hj hj').ag (Ag.new _ hb)⟩
theorem Fils.set {N:Nat} {q:Nat→Prop} {n:Nat} {W:World} {lv:Value} {us:List Value} {fs:List Fil} (h:Fils N q n W lv us fs) {g i:Nat} (hg:g < N) (hq:∀ b,q b→N≤b) (u:Value):Fils N q n (W.setCell ⟨g,i,none⟩ u) lv us fs:=
 ⟨ownsRow_setCell_below h.own (by show g < N;exact hg) _,h.len,fun j hj hj'=>(h.at_ j hj hj').ag (Ag.set q W u (fun e=>by have:=hq _ e;simp only at this;omega))⟩
theorem Fils.more {N:Nat} {n:Nat} {W W':World} {lv lv':Value} {us:List Value} {fs:List Fil} {x:Value} {f:Fil} {L:Nat}
  (h:Fils N (fun b=>N≤b∧lv.ownBlock≠some b) n W lv us fs) (hx:FA2 (fun b=>L≤b) n W x f) (hL:∀ g,lv.ownBlock=some g→g < L) (hNL:N≤L)
  (hown:W'.ownsRow N 31 6 lv' (us.length + 1) (us.flatMap ce2 ++ ce2 x)) (hg:W.grownBy W' lv.ownBlock) (hloc:lv'.ownBlock=lv.ownBlock∨lv'.ownBlock=some W.heap.size) :
  Fils N (fun b=>N≤b∧lv'.ownBlock≠some b) n W' lv' (us ++ [x]) (fs ++ [f]):=by
 have Ac:Ag (fun b=>lv.ownBlock≠some b) W W':=Ag.grown hg fun g e=>by rw [e];simp
 have Aa:∀ {v f},FA2 (fun b=>N≤b∧lv.ownBlock≠some b) n W v f→FA2 (fun b=>N≤b∧lv'.ownBlock≠some b) n W' v f:=fun h=>
  (h.lt.ag (Ac.weak fun b hb=>hb.1.2)).weak fun b hb=>⟨hb.1.1,by
   rcases hloc with e | e
   ·rw [e];exact hb.1.2
   ·rw [e];intro e';have:=hb.2;simp only [Option.some.injEq] at e';omega⟩
 refine ⟨by simpa using hown,by simp [h.len],fun j hj hj' => ?_⟩
 have Ab:=h.len
 by_cases e:j < us.length
 ·rw [List.getElem_append_left e,List.getElem_append_left (by omega)]
  exact Aa (h.at_ j (by omega) e)
 ·have ej:j=us.length:=by simp at hj';omega
  subst ej
  rw [List.getElem_append_right (by omega)]
  have:(fs ++ [f])[us.length]=f:=by rw [List.getElem_append_right (by omega)];simp
  rw [this]
  simp only [Nat.sub_self,List.getElem_cons_zero]
  exact Aa (hx.weak fun b hb=>⟨Nat.le_trans hNL hb,fun e=>by have:=hL b e;have:L≤b:=hb;omega⟩)
end Go.Proofs.YtaddkkkchkdgkaaGreatDoor
namespace Go.Proofs.YtaddkkkchkdgkaaGreatDoor
open Go.RowKit Go.Sort
open Tess (Fil)
abbrev zF2:Array Value:=#[.int .i64 0,.string ⟨#[]⟩,.slice none 0 0,.int .i64 0,.int .i64 0,.slice none 0 0]
def CutC (d:Nat):Prop:=∀ (p:Nat→Prop) (n:Nat) (v:Value) (f:Fil) (w:World),FA2 p n w v f →
 Calls Tryz.prog 48 #[v,.int .i64 ((d + 1:Nat):Int)] w fun e w' => ∃ v',e = .returned v'∧FA2 (fun b=>w.heap.size≤b) (d + 1) w' v' (Fil.cut d f)∧Below w.heap.size w w'
set_option maxRecDepth 100000 in
set_option maxHeartbeats 4000000 in
theorem cut_step (d:Nat) (hd7:d≤100) (hrec:d=0∨∃ e,d=e + 1∧CutC e):CutC d:=by
 intro p n v f w hv
 have A4:=Hd hrec
 clear hrec
 cases n with
 | zero=>exact hv.elim
 | succ n=>
 obtain ⟨vw,al,Ai,rfl,Bd,hw,Bj,Bl,_,Am⟩:=hv
 obtain ⟨aw,Ah,rfl,Ct,A8⟩:=so2 hw.1
 have HW:=Hd A8
 have Bs:=Hd Bj
 have Ca:=Hd Am
 have Cm:f.name.size≤9223372036854775807:=by unfold maxLen at Bd;omega
 have Ch:f.l.length≤9223372036854775807:=by unfold maxLen at Bl;omega
 clear A8 hw Bj Am Bd Bl
 obtain ⟨i0,hi,Bt,B6,B9⟩:=info_parts iS2
 obtain ⟨j0,ji,Cc,Co,Cb⟩:=info_parts infoFil
 go_enter Tryz.func48,Tryz.ntmps48
 go_wp2
 obtain ⟨W0,Aw⟩:∃ W0,(w.alloc (.cells #[.int .i64 f.kind,.string f.name,.slice aw f.words.length Ah,.int .i64 f.frm,.int .i64 f.to,.slice al f.l.length Ai] 31)).alloc (.cells zF2 31)=W0:=⟨_,rfl⟩
 obtain ⟨Ae,Au,A7,Ax⟩:W0.heap[w.heap.size]? = some (.cells #[.int .i64 f.kind,.string f.name,.slice aw f.words.length Ah,.int .i64 f.frm,.int .i64 f.to,.slice al f.l.length Ai] 31 (0,0))∧W0.heap[w.heap.size + 1]? = some (.cells zF2 31 (0,0))∧W0.heap.size=w.heap.size + 2∧Below w.heap.size w W0:=by rw [← Aw];exact la3 w _ _
 rw [Aw]
 clear Aw
 have s0:w.heap.size < W0.heap.size:=by omega
 have At:=Hd A7
 clear A7
 have c0:=cell_of_row W0 w.heap.size 0 _ _ _ Ae
 have c1:=cell_of_row W0 w.heap.size 1 _ _ _ Ae
 have c3:=cell_of_row W0 w.heap.size 3 _ _ _ Ae
 have c4:=cell_of_row W0 w.heap.size 4 _ _ _ Ae
 simp only [List.getElem?_toArray,List.getElem?_cons_succ,List.getElem?_cons_zero] at c0 c1 c3 c4
 rcases (show ((30:Int) < (f.name.size:Int)∧(¬ (f.name.size:Int)≤30∧(30:Int)≤(f.name.size:Int)))∨(¬ (30:Int) < (f.name.size:Int)∧(f.name.size:Int)≤30) by omega) with ⟨A0,Av⟩ | ⟨A0,Av⟩
 all_goals
  refine Flow.wrf 13 (Flow.sp3 [.inl ?_,.inl ?_,.inl ?_,.inl ?_,.inl ?_,.inl ?_,.inl ?_,.inl ?_,.inl ?_,.inl ?_,.inl ?_,.inl ?_,.inr (newAt (w.heap.size + 2) zF2 31)]) (by kernel_rfl) (by kernel_rfl) ?_ ?_
  rotate_left 12
  ·refine Flow.sm2 ?_
   repeat (first | exact Flow.ln2 | refine Flow.li2 ?_ | refine Flow.li3 (newAt_mono _ _ _) ?_)
  simp only [List.take_succ_cons,List.take_zero,List.drop_succ_cons,List.drop_zero]
  iterate 12 (refine Flow.tvK rfl (fun K hK=>⟨fun w hw hG => ?_,?_⟩);(have Bc:=Flow.bc4 hw;clear hG hw;unfold Flow.Runs Flow.yields;go_simp;try rfl);go_simp;refine hK _ ?_;clear hK K)
  (refine Flow.tvK2 rfl (fun K hK=>⟨fun w hw hG => ?_,?_⟩);(clear hG;unfold Flow.Runs Flow.yields;go_simp;refine ⟨(Below.refl _ _).alloc (Nat.le_refl _) _,?_⟩);rotate_left;intro vz;go_simp;refine hK _ _ ?_;clear hK K;rotate_left)
  ·exact ⟨_,rfl,by have:=hw.size;have:=At.out;omega,heap_alloc_new _ _⟩
  refine Flow.tn2 fun w2 hw2 hG => ?_
  obtain ⟨g,rfl,As,Ac⟩:=(show newAt (w.heap.size + 2) zF2 31 vz w2 by simpa [Flow.upd] using hG 12)
  clear hG
  have z0:=frozen_of_row w2 g 0 _ _ Ac
  have z1:=frozen_of_row w2 g 1 _ _ Ac
  have z2:=frozen_of_row w2 g 2 _ _ Ac
  have z3:=frozen_of_row w2 g 3 _ _ Ac
  have z4:=frozen_of_row w2 g 4 _ _ Ac
  have z5:=frozen_of_row w2 g 5 _ _ Ac
  have e0:=cell_of_row w2 g 0 _ _ _ Ac
  have e1:=cell_of_row w2 g 1 _ _ _ Ac
  have e2:=cell_of_row w2 g 2 _ _ _ Ac
  have e3:=cell_of_row w2 g 3 _ _ _ Ac
  have e4:=cell_of_row w2 g 4 _ _ _ Ac
  have e5:=cell_of_row w2 g 5 _ _ _ Ac
  simp only [List.getElem?_toArray,List.getElem?_cons_succ,List.getElem?_cons_zero] at e0 e1 e2 e3 e4 e5
  clear c0 c1 c3 c4
  go_wp2
  obtain ⟨bx,A5⟩:∃ bx:Array Value,bx=#[.int .i64 f.kind,.string f.name,.slice aw f.words.length Ah,.int .i64 f.frm,.int .i64 f.to,.slice al f.l.length Ai]:=⟨_,rfl⟩
  have Bb:=Hd A5
  rw [← A5] at Ae
  clear A5
  first
   | (obtain ⟨W1,Ar,A1⟩:=cf_start (k:=f.kind) (fr:=f.frm) (to:=f.to) (f.name.extract 0 30) (cutN 30 f.name) rfl Ax At.out hw2 Ae Au As Ac;rw [Ar])
   | (obtain ⟨W1,Ar,A1⟩:=cf_start (k:=f.kind) (fr:=f.frm) (to:=f.to) f.name (cutN 30 f.name) (cNs 30 f.name (by omega)).symm Ax At.out hw2 Ae Au As Ac;rw [Ar])
  clear Ar z0 z1 z2 z3 z4 z5 e0 e1 e2 e3 e4 e5 Ae Au Ac s0 Ax As hw2
  go_loopw [6] (fun i wr => ∃ (k:Nat) (wv:Value),k≤f.words.length∧k≤10∧i = .int .i64 k∧Cf w g bx f.kind (cutN 30 f.name) wv f.frm f.to (.slice none 0 0) wr∧wr.ownsRow (g + 1) 9 1 wv k (nV 110 10 f.words k)) (fun i _=>10 - (intOf i).toNat)
  case atStart=>exact ⟨0,_,Nat.zero_le _,Nat.zero_le _,rfl,A1,by simpa [nV] using World.ownsRow_nil W1 (g + 1) 9 1⟩
  case round=>
   obtain ⟨k,wv,hk,Ao,rfl,hC,Al⟩:=hrel
   have HC:=Hd hC
   have HO:=Hd Al
   clear hC Al A1
   have Cr:=HC.out.hg
   have A6:=HC.out.lt
   have Br:w.heap.size < wr.heap.size:=by omega
   have c1:=cell_of_row wr w.heap.size 2 _ _ _ HC.out.k1
   have c3:=cell_of_row wr g 2 _ _ _ HC.out.k3
   have z3:=frozen_of_row wr g 2 _ _ HC.out.k3
   rw [Bb.out] at c1
   simp only [List.getElem?_toArray,List.getElem?_cons_succ,List.getElem?_cons_zero] at c1 c3
   by_cases hlt:k < f.words.length∧k < 10
   ·obtain ⟨h1,h2⟩:=hlt
    obtain ⟨b,Ad,rfl,hb,Af⟩:=HW.out k h1
    have Cq:wr.cell? ⟨b,Ad + k,none⟩=some (.string f.words[k]):=(HC.out.below.cell (p:=⟨b,Ad + k,none⟩) hb).trans Af
    have Cp:f.words[k].size≤9223372036854775807:=Bs.out _ (List.getElem_mem h1)
    have Ci:b < wr.heap.size:=Nat.lt_of_lt_of_le hb HC.out.below.size
    clear Af hb
    go_wp2
    obtain ⟨x,hx⟩:∃ x,x=cutN 110 f.words[k]:=⟨_,rfl⟩
    have HX:=Hd hx
    clear hx
    rcases (show ((110:Int) < (f.words[k].size:Int)∧(¬ (f.words[k].size:Int)≤110∧(110:Int)≤(f.words[k].size:Int)))∨(¬ (110:Int) < (f.words[k].size:Int)∧(f.words[k].size:Int)≤110) by omega) with ⟨A0,Av⟩ | ⟨A0,Av⟩
    all_goals
     refine Flow.wrf 16 (Flow.sp3 [.inl ?_,.inl ?_,.inl ?_,.inl ?_,.inl ?_,.inl ?_,.inl ?_,.inl ?_,.inl ?_,.inl ?_,.inl ?_,.inl ?_,.inl ?_,.inl ?_,.inl ?_,.inr (nO (.string x))]) (by kernel_rfl) (by kernel_rfl) ?_ ?_
     rotate_left 15
     ·refine Flow.sm2 ?_
      repeat (first | exact Flow.ln2 | refine Flow.li2 ?_ | refine Flow.li3 (nOm _) ?_)
     all_goals try simp only [List.take_succ_cons,List.take_zero,List.drop_succ_cons,List.drop_zero]
     iterate 15 (refine Flow.tvK rfl (fun K hK=>⟨fun w hw hG => ?_,?_⟩);(have Bc:=Flow.bc4 hw;clear hG hw;unfold Flow.Runs Flow.yields;go_simp;try rfl);go_simp;refine hK _ ?_;clear hK K)
     (refine Flow.tvK2 rfl (fun K hK=>⟨fun w hw hG => ?_,?_⟩);(clear hG hw;unfold Flow.Runs Flow.yields;go_simp;refine ⟨(Below.refl _ _).alloc (Nat.le_refl _) _,?_⟩;rw [HX.out]);rotate_left;intro vz;go_simp;refine hK _ _ ?_;clear hK K;rotate_left)
     ·first | exact nOm2 _ _ _ | (rw [cNs _ _ (by omega)];exact nOm2 _ _ _)
     refine Flow.tn2 fun w2 hw2 hG => ?_
     obtain ⟨gn,rfl,Bx,Bw⟩:=(show nO (.string x) vz w2 by simpa [Flow.upd] using hG 15)
     clear hG
     have Ak:=Hd (ob2 HO.out hw2)
     have HE:=Hd (ns3 110 10 f.words k h1 x HX.out.symm)
     have A2:=Hd (HC.out.later hw2)
     have A3:=hw2.size
     go_wp2_with (at_builtin;refine wpList_append_own _ rfl _ _ 22 rfl (g + 1) 9 i0 (.string ByteArray.empty) 1 16 Tryz.underlying22 hi Bt B6 B9 rfl (by decide) _ _ _ rfl Ak.out ⟨gn,0,none⟩ 1 1 [.string x] rfl rfl ?_ ?_ ?_ ?_ ?_ ?_)
     ·intro j u hj;rcases j with _ | j <;> simp at hj;subst hj;simpa [Addr.add] using Bw
     ·simp [Value.oneCell']
     ·unfold maxLen;omega
     ·omega
     ·omega
     intro v' w3 Ab Aa _
     obtain ⟨gg,cp,rfl,_⟩:=oc2 Ab (by omega)
     have Aj:=Hd (A2.out.grown Aa (fun j e=>by have:=(Ak.out.lt j e).1;omega))
     have Cl:=Hd (jo2 Ab HE.out)
     clear Ab Aa
     have z3:=frozen_of_row w3 g 2 _ _ Aj.out.k3
     have c3:=cell_of_row w3 g 2 _ _ _ Aj.out.k3
     simp only [List.getElem?_toArray,List.getElem?_cons_succ,List.getElem?_cons_zero] at c3
     go_wp2
     go_roundw
     case rel=>exact ⟨k + 1,_,by omega,by omega,by go_num,Aj.out.set2 _,ownsRow_setCell_below Cl.out (by show g < _;omega) _⟩
     case measure=>simp [intOf];omega
   ·have HE:=Hd (ne2 110 10 f.words k (by omega) hk Ao)
    have Az:=Hd ((SlP.owned (HE.out ▸ HO.out)).lt)
    obtain ⟨N1,Bo⟩:∃ N1,N1=wr.heap.size:=⟨_,rfl⟩
    rw [← Bo] at Az
    have Cj:g < N1:=by omega
    have Bg:N1≤wr.heap.size:=by omega
    clear Bo
    obtain ⟨wo,rfl⟩:∃ wo:World,wo=wr:=⟨_,rfl⟩
    have A9:=Hd HC.out
    clear HO HE HC
    rcases (show (¬ (k:Int) < (f.words.length:Int))∨((k:Int) < (f.words.length:Int)∧¬ (k:Int) < 10) by omega) with Ap | ⟨Be,Ap⟩
    all_goals
     clear hlt
     go_wp2
     go_loopw [7] (fun i wq => ∃ (k:Nat) (lv:Value) (us:List Value),k≤f.l.length∧k≤10∧(d=0→k=0)∧i = .int .i64 k∧Cf w g bx f.kind (cutN 30 f.name) wv f.frm f.to lv wq∧SlP (fun b=>g + 1≤b∧b < N1) wq wv (((f.words.take 10).map (cutN 110)).map .string)∧Fils N1 (fun b=>N1≤b∧lv.ownBlock≠some b) d wq lv us ((f.l.take k).map (Fil.cut (d - 1)))∧N1≤wq.heap.size) (fun i _=>10 - (intOf i).toNat)
     case atStart=>exact ⟨0,_,[],Nat.zero_le _,Nat.zero_le _,fun _=>rfl,rfl,A9.out,Az.out,⟨World.ownsRow_nil wo N1 31 6,rfl,fun j h=>absurd h (by simp)⟩,Bg⟩
     case round=>
      clear Az A9 Ap c1 c3 z3 Br A6 Bg
      obtain ⟨k,lv,us,hk,Ao,Bn,rfl,hC,hP,hF,Ay⟩:=hrel
      have HC:=Hd hC
      have HP:=Hd hP
      have HF:=Hd hF
      have B0:=Hd Bn
      clear hC hP hF Bn
      have A6:=HC.out.lt
      have Br:w.heap.size < wr.heap.size:=by omega
      have c1:=cell_of_row wr w.heap.size 5 _ _ _ HC.out.k1
      have c3:=cell_of_row wr g 5 _ _ _ HC.out.k3
      have z3:=frozen_of_row wr g 5 _ _ HC.out.k3
      rw [Bb.out] at c1
      simp only [List.getElem?_toArray,List.getElem?_cons_succ,List.getElem?_cons_zero] at c1 c3
      by_cases hlt:k < f.l.length∧k < 10∧0 < d
      ·obtain ⟨h1,h2,h3⟩:=hlt
       obtain ⟨e,Aq,B8⟩:∃ e,d=e + 1∧RowKit.Hid (CutC e):=by
        rcases A4.out with h | ⟨e,h,hc⟩
        ·omega
        ·exact ⟨e,h,Hd hc⟩
       have Cs:(1:Int) < (d:Int) + 1:=by omega
       have Cu:IntKind.i64.wrap (d:Int)=(d:Int):=by rw [IntKind.wrap_i64];omega
       obtain ⟨b,Ad,rfl,hb,hp,Am⟩:=Ca.out (by omega)
       obtain ⟨x0,x1,x2,x3,x4,x5,Bi,q0,q1,q2,q3,q4,q5⟩:=Am k h1
       have B5:=Hd Bi
       have r0:=(HC.out.below.cell (p:=⟨b,Ad + k * 6,none⟩) hb).trans q0
       have r1:=(HC.out.below.cell (p:=⟨b,Ad + k * 6 + 1,none⟩) hb).trans q1
       have r2:=(HC.out.below.cell (p:=⟨b,Ad + k * 6 + 2,none⟩) hb).trans q2
       have r3:=(HC.out.below.cell (p:=⟨b,Ad + k * 6 + 3,none⟩) hb).trans q3
       have r4:=(HC.out.below.cell (p:=⟨b,Ad + k * 6 + 4,none⟩) hb).trans q4
       have r5:=(HC.out.below.cell (p:=⟨b,Ad + k * 6 + 5,none⟩) hb).trans q5
       have Ci:b < wr.heap.size:=Nat.lt_of_lt_of_le hb HC.out.below.size
       have B2:=Hd Aq
       clear Am q0 q1 q2 q3 q4 q5 Bi hb Aq
       go_wp2
       have Ba:=Hd HC.out.below
       refine Flow.wrf 11 (Flow.sp3 [.inl ?_,.inl ?_,.inl ?_,.inl ?_,.inl ?_,.inl ?_,.inl ?_,.inl ?_,.inl ?_,.inr (isFil wr.heap.size d (Fil.cut (d - 1) f.l[k])),.inr (newFil wr.heap.size d (Fil.cut (d - 1) f.l[k]))]) (by kernel_rfl) (by kernel_rfl) ?_ ?_
       rotate_left 9
       ·refine Flow.sm2 ?_
        repeat (first | exact Flow.ln2 | refine Flow.li2 ?_ | refine Flow.li3 (isFil_mono _ _ _) ?_ | refine Flow.li3 (newFil_mono _ _ _) ?_)
       all_goals try simp only [List.take_succ_cons,List.take_zero,List.drop_succ_cons,List.drop_zero]
       iterate 9 (refine Flow.tvK rfl (fun K hK=>⟨fun w hw hG => ?_,?_⟩);(have Bc:=Flow.bc4 hw;clear hG hw;unfold Flow.Runs Flow.yields;go_simp;try rfl);go_simp;refine hK _ ?_;clear hK K)
       (refine Flow.tvK2 rfl (fun K hK=>⟨fun w hw hG => ?_,?_⟩);(clear hG;unfold Flow.Runs Flow.yields;go_simp);rotate_left;intro vz;go_simp;refine hK _ _ ?_;clear hK K;rotate_left)
       ·have Aq:=B2.out
        subst Aq
        refine (B8.out p n _ _ _ (B5.out.ag (Ag.new p (Ba.out.trans (hw.mono Ba.out.size))))).mono ?_
        rintro e3 w3 ⟨v3,rfl,B1,Bu⟩
        exact ⟨v3,rfl,Bu,B1.weak fun b hb=>Nat.le_trans hw.size hb⟩
       (refine Flow.tvK2 rfl (fun K hK=>⟨fun w hw hG => ?_,?_⟩);(have Bk:=(show isFil wr.heap.size d (Fil.cut (d - 1) f.l[k]) vz w by simpa [Flow.upd] using hG 9 (by kernel_rfl));clear hG;obtain ⟨y0,y1,y2,rfl⟩:=FA2.shape Bk;unfold Flow.Runs Flow.yields;go_simp;refine ⟨(Below.refl _ _).alloc (Nat.le_refl _) _,?_⟩);rotate_left;intro vy;go_simp;refine hK _ _ ?_;clear hK K;rotate_left)
       ·refine ⟨w.heap.size,_,rfl,by simp,FA2.ag Bk (Ag.new _ ((Below.refl _ _).alloc (Nat.le_refl _) _)),fun j u hj => ?_⟩
        rw [cell_of_row _ _ _ _ _ _ (heap_alloc_new _ _)]
        simpa [ce2] using hj
       refine Flow.tn2 fun w2 hw2 hG => ?_
       obtain ⟨gn,x,rfl,Bx,hx,Bh⟩:=(show newFil wr.heap.size d (Fil.cut (d - 1) f.l[k]) vy w2 by simpa [Flow.upd] using hG 10)
       clear hG
       have Ak:=Hd (ob2 HF.out.own hw2)
       have A2:=Hd (HC.out.later hw2)
       have HX:=Hd hx
       have Cd:=Hd Bh
       have Bm:=Hd hw2
       have A3:=hw2.size
       have By:us.length≤10:=by have:=HF.out.len;simp at this;omega
       clear hx Bh hw2
       go_wp2_with (at_builtin;refine wpList_append_own_at _ rfl _ _ 29 rfl N1 31 j0 _ 6 88 Tryz.underlying29 ji Cc Co Cb rfl (by decide) _ us.length _ rfl Ak.out ⟨gn,0,none⟩ 1 1 (ce2 x) rfl ?_ ?_ ?_ ?_ ?_ ?_ ?_)
       ·rw [cl2 HX.out]
       ·intro j u hj
        rw [show (⟨gn,0,none⟩:Addr).add j=⟨gn,j,none⟩ by unfold Addr.add;split <;> simp_all]
        exact Cd.out j u hj
       ·exact cells6_one HX.out
       ·unfold maxLen;omega
       ·omega
       ·omega
       intro v' w3 Ab Aa _ An
       have B3:=Hd (Fils.more (HF.out.below Bm.out) HX.out (fun g' e=>(HF.out.own.lt g' e).2) Ay Ab Aa An)
       have Cn:=Hd ((HP.out.ag (Ag.new _ Bm.out)).ag (Ag.grown Aa (fun j e=>by have:=(Ak.out.lt j e).1;rintro ⟨_,h⟩;omega)))
       obtain ⟨gg,cp,rfl,_⟩:=oca Ab (by omega)
       have Aj:=Hd (A2.out.grown Aa (fun j e=>by have:=(Ak.out.lt j e).1;omega))
       have Ce:=Aa.size
       clear Ab Aa An
       have z3:=frozen_of_row w3 g 5 _ _ Aj.out.k3
       have c3:=cell_of_row w3 g 5 _ _ _ Aj.out.k3
       simp only [List.getElem?_toArray,List.getElem?_cons_succ,List.getElem?_cons_zero] at c3
       go_wp2
       go_roundw
       case rel=>
        refine ⟨k + 1,_,us ++ [x],by omega,by omega,fun h=>by omega,by go_num,Aj.out.set5 _,Cn.out.ag (Ag.set _ _ _ (by rintro ⟨h,_⟩;have:g + 1≤g:=h;omega)),?_,by simp [World.setCell];omega⟩
        rw [List.take_succ_eq_append_getElem h1,List.map_append,List.map_singleton]
        exact B3.out.set Cj (fun b hb=>hb.1) _
       case measure=>simp [intOf];omega
      ·have Ck:RowKit.Hid (Fil.cut d f=Fil.mk f.kind (cutN 30 f.name) ((f.words.take 10).map (cutN 110)) f.frm f.to ((f.l.take k).map (Fil.cut (d - 1)))):=Hd (by
        rcases Nat.eq_zero_or_pos d with h0 | h0
        ·have B7:=B0.out h0
         subst h0 B7;rfl
        ·obtain ⟨e,rfl⟩:∃ e,d=e + 1:=⟨d - 1,by omega⟩
         have:f.l.take k=f.l.take 10:=by
          by_cases e10:k=10
          ·rw [e10]
          ·rw [List.take_of_length_le (by omega),List.take_of_length_le (by omega)]
         rw [this];rfl)
       have B4:=HF.out.listed (q:=fun b=>w.heap.size + 2≤b∧b≠g) (fun b hb=>⟨by have:=hb.1;omega,by have:=hb.1;omega⟩) (fun b hb=>⟨by omega,by omega⟩)
       obtain ⟨la,lc,rfl,Bz,Bp,Bf⟩:=B4
       obtain ⟨wa,wn,wc,rfl⟩:=HP.out.shape
       have Cg:=Hd Bf
       have Bv:=Hd Bp
       clear Bf Bp
       have d0:=cell_of_row wr g 0 _ _ _ HC.out.k3
       have d1:=cell_of_row wr g 1 _ _ _ HC.out.k3
       have d2:=cell_of_row wr g 2 _ _ _ HC.out.k3
       have d3:=cell_of_row wr g 3 _ _ _ HC.out.k3
       have d4:=cell_of_row wr g 4 _ _ _ HC.out.k3
       have e0:=cell_of_row wr (w.heap.size + 1) 0 _ _ _ HC.out.k2
       have e1:=cell_of_row wr (w.heap.size + 1) 1 _ _ _ HC.out.k2
       have e2:=cell_of_row wr (w.heap.size + 1) 2 _ _ _ HC.out.k2
       have e3:=cell_of_row wr (w.heap.size + 1) 3 _ _ _ HC.out.k2
       have e4:=cell_of_row wr (w.heap.size + 1) 4 _ _ _ HC.out.k2
       have e5:=cell_of_row wr (w.heap.size + 1) 5 _ _ _ HC.out.k2
       have y0:=frozen_of_row wr (w.heap.size + 1) 0 _ _ HC.out.k2
       have y1:=frozen_of_row wr (w.heap.size + 1) 1 _ _ HC.out.k2
       have y2:=frozen_of_row wr (w.heap.size + 1) 2 _ _ HC.out.k2
       have y3:=frozen_of_row wr (w.heap.size + 1) 3 _ _ HC.out.k2
       have y4:=frozen_of_row wr (w.heap.size + 1) 4 _ _ HC.out.k2
       have y5:=frozen_of_row wr (w.heap.size + 1) 5 _ _ HC.out.k2
       simp only [List.getElem?_toArray,List.getElem?_cons_succ,List.getElem?_cons_zero] at d0 d1 d2 d3 d4 e0 e1 e2 e3 e4 e5
       rcases (show (¬ (k:Int) < (f.l.length:Int))∨((k:Int) < (f.l.length:Int)∧¬ (k:Int) < 10)∨((k:Int) < (f.l.length:Int)∧(k:Int) < 10∧¬ (1:Int) < (d:Int) + 1) by omega) with Ap | ⟨Be,Ap⟩ | ⟨Be,Bq,Ap⟩
       all_goals
        clear hlt
        go_wp2
        refine bodyPost_ret (v:=.agg #[.int .i64 f.kind,.string (cutN 30 f.name),.slice wa wn wc,.int .i64 f.frm,.int .i64 f.to,.slice la k lc]) (by simp [results,Tryz.results48,go_sem,e0,e1,e2,e3,e4,e5]) rfl ⟨_,rfl,?_,sb2 _ _ _ _ _ _ HC.out.below (by omega)⟩
        rw [Ck.out]
        refine FA2.weak (p:=fun b=>w.heap.size + 2≤b∧b≠g) (fun b hb=>by have:=hb.1;omega) ?_
        refine FA2.ag ?_ (sa5 _ _ _ _ _ _ _ (by rintro ⟨h,_⟩;omega))
        refine cut_fil (by simp;omega) (by have:=cNs2 30 f.name;unfold maxLen;omega) (HP.out.weak fun b hb=>⟨by have:=hb.1;omega,by have:=hb.1;omega⟩) (ns2 110 10 f.words (by omega)) Bz Bv.out Cg.out
end Go.Proofs.YtaddkkkchkdgkaaGreatDoor
namespace Tess
namespace Fil
def few (f:Fil):Fil:=if 100 < (cut 7 f).count then mk (cut 7 f).kind (cut 7 f).name (cut 7 f).words (cut 7 f).frm (cut 7 f).to [] else cut 7 f
end Fil
end Tess
namespace Go.Proofs.YtaddkkkchkdgkaaGreatDoor
open Go.RowKit Go.Sort
open Tess (Fil)
theorem cut_any (d:Nat) (hd:d≤100):CutC d:=by
 induction d with
 | zero=>exact cut_step 0 hd (.inl rfl)
 | succ d ih=>exact cut_step (d + 1) hd (.inr ⟨d,rfl,ih (by omega)⟩)
set_option maxRecDepth 100000 in
set_option maxHeartbeats 2000000 in
theorem few_any (p:Nat→Prop) (n:Nat) (v:Value) (f:Fil) (w:World) (hv:FA2 p n w v f) :
  Calls Tryz.prog 28 #[v] w fun e w' => ∃ v',e = .returned v'∧FA2 (fun b=>w.heap.size≤b) 8 w' v' (Fil.few f)∧Below w.heap.size w w':=by
 have HV:=Hd hv
 obtain ⟨xw,a,As,rfl⟩:=hv.shape
 cases n with
 | zero=>exact hv.elim
 | succ n=>
 obtain ⟨vw,a',Av,Ac,_,A6,_⟩:=hv
 obtain ⟨wa,wn,wc,rfl⟩:=A6.shape
 obtain ⟨rfl,rfl,rfl⟩:xw = .slice wa wn wc∧a=a'∧As=Av:=by simpa using Ac
 clear Ac A6
 obtain ⟨c,hc⟩:∃ c,c=Fil.cut 7 f:=⟨_,rfl⟩
 have A2:c.count≤1000000000:=by rw [hc];exact Nat.le_trans (Fil.cut_count 7 f) (by decide)
 have Ah:=Hd (fun W (hB:Below w.heap.size w W)=>hc ▸ cut_any 7 (by omega) p (n + 1) _ f W (HV.out.ag (Ag.new p hB)))
 have Ba:=Hd A2
 have Ak:RowKit.Hid (Fil.few f=if 100 < c.count then Fil.mk c.kind c.name c.words c.frm c.to [] else c):=Hd (by rw [hc];rfl)
 clear hc A2 HV
 go_enter Tryz.func28,Tryz.ntmps28
 go_wp2_with fail
 obtain ⟨W0,Aq⟩:∃ W0,(w.alloc (.cells #[.int .i64 f.kind,.string f.name,.slice wa wn wc,.int .i64 f.frm,.int .i64 f.to,.slice a f.l.length As] 31)).alloc (.cells zF2 31)=W0:=⟨_,rfl⟩
 obtain ⟨Aa,Ab,Aw,Az⟩:W0.heap[w.heap.size]? = some (.cells #[.int .i64 f.kind,.string f.name,.slice wa wn wc,.int .i64 f.frm,.int .i64 f.to,.slice a f.l.length As] 31 (0,0))∧W0.heap[w.heap.size + 1]? = some (.cells zF2 31 (0,0))∧W0.heap.size=w.heap.size + 2∧Below w.heap.size w W0:=by rw [← Aq];exact la3 w _ _
 rw [Aq]
 clear Aq
 have Ao:=Hd Aw
 have Ar:=Hd Az
 have Al:=Hd Aa
 have Aj:=Hd Ab
 clear Aw Az Aa Ab
 refine (Ah.out W0 Ar.out).mono ?_
 rintro e1 w1 ⟨v1,rfl,An,Am⟩
 obtain ⟨u2,ua,uc,rfl⟩:=An.shape
 obtain ⟨Bb,a1,Ap,Ac,_,Af,_⟩:=(show FA2 _ (7 + 1) _ _ _ from An)
 obtain ⟨va,vn,vc,rfl⟩:=Af.shape
 obtain ⟨rfl,rfl,rfl⟩:u2 = .slice va vn vc∧ua=a1∧uc=Ap:=by simpa using Ac
 have A1:=Hd An
 have Ax:=Hd Am
 have Aa:=(Am.block _ (by have:=Ao.out;omega)).trans Al.out
 have Ab:=(Am.block _ (by have:=Ao.out;omega)).trans Aj.out
 have z0:=frozen_of_row w1 w.heap.size 0 _ _ Aa
 have z1:=frozen_of_row w1 w.heap.size 1 _ _ Aa
 have z2:=frozen_of_row w1 w.heap.size 2 _ _ Aa
 have z3:=frozen_of_row w1 w.heap.size 3 _ _ Aa
 have z4:=frozen_of_row w1 w.heap.size 4 _ _ Aa
 have z5:=frozen_of_row w1 w.heap.size 5 _ _ Aa
 have e0:=cell_of_row w1 w.heap.size 0 _ _ _ Aa
 have e1:=cell_of_row w1 w.heap.size 1 _ _ _ Aa
 have e2:=cell_of_row w1 w.heap.size 2 _ _ _ Aa
 have e3:=cell_of_row w1 w.heap.size 3 _ _ _ Aa
 have e4:=cell_of_row w1 w.heap.size 4 _ _ _ Aa
 have e5:=cell_of_row w1 w.heap.size 5 _ _ _ Aa
 simp only [List.getElem?_toArray,List.getElem?_cons_succ,List.getElem?_cons_zero] at e0 e1 e2 e3 e4 e5
 have Ai:=Hd Aa
 have Ae:=Hd Ab
 clear Ac Af An Am Ah Aa Ab Al Aj
 go_wp2_with fail
 clear z0 z1 z2 z3 z4 z5 e0 e1 e2 e3 e4 e5
 obtain ⟨W2,A4,Aa,Ab,At,A3⟩:∃ W2,((((((w1.setCell ⟨w.heap.size,0,none⟩ (.int .i64 c.kind)).setCell ⟨w.heap.size,1,none⟩ (.string c.name)).setCell ⟨w.heap.size,2,none⟩ (.slice va vn vc)).setCell ⟨w.heap.size,3,none⟩ (.int .i64 c.frm)).setCell ⟨w.heap.size,4,none⟩ (.int .i64 c.to)).setCell ⟨w.heap.size,5,none⟩ (.slice ua c.l.length uc))=W2 ∧
   W2.heap[w.heap.size]? = some (.cells #[.int .i64 c.kind,.string c.name,.slice va vn vc,.int .i64 c.frm,.int .i64 c.to,.slice ua c.l.length uc] 31 (0,0))∧W2.heap[w.heap.size + 1]? = some (.cells zF2 31 (0,0)) ∧
   FA2 (fun b=>w.heap.size + 2≤b) 8 W2 (.agg #[.int .i64 c.kind,.string c.name,.slice va vn vc,.int .i64 c.frm,.int .i64 c.to,.slice ua c.l.length uc]) c∧Below w.heap.size w W2:=by
  have:=Ao.out
  refine ⟨_,rfl,set6 _ _ _ _ _ _ Ai.out,?_,?_,sb2 _ _ _ _ _ _ (Ar.out.trans (Ax.out.mono (by omega))) (Nat.le_refl _)⟩
  ·rw [so4 _ _ _ _ _ _ (by omega)];exact Ae.out
  ·rw [← this]
   exact A1.out.ag (sa5 _ _ _ _ _ _ _ (by omega))
 rw [A4]
 clear A4 Ai Ae Ar Ax A1
 have A9:=Hd At
 have Au:=Hd (count_any _ 8 _ c W2 At Ba.out)
 have A5:=Hd A3
 have Al:=Hd Aa
 have Aj:=Hd Ab
 clear At A3 Aa Ab
 refine Au.out.mono ?_
 rintro e3 w3 ⟨rfl,Ad⟩
 have Bd:w.heap.size + 1 < W2.heap.size:=(Array.getElem?_eq_some_iff.1 Aj.out).1
 have Aa:=(Ad.block _ (by omega)).trans Al.out
 have Ab:=(Ad.block _ (by omega)).trans Aj.out
 have z5:=frozen_of_row w3 w.heap.size 5 _ _ Aa
 have e0:=cell_of_row w3 w.heap.size 0 _ _ _ Aa
 have e1:=cell_of_row w3 w.heap.size 1 _ _ _ Aa
 have e2:=cell_of_row w3 w.heap.size 2 _ _ _ Aa
 have e3:=cell_of_row w3 w.heap.size 3 _ _ _ Aa
 have e4:=cell_of_row w3 w.heap.size 4 _ _ _ Aa
 have e5:=cell_of_row w3 w.heap.size 5 _ _ _ Aa
 have d0:=cell_of_row w3 (w.heap.size + 1) 0 _ _ _ Ab
 have d1:=cell_of_row w3 (w.heap.size + 1) 1 _ _ _ Ab
 have d2:=cell_of_row w3 (w.heap.size + 1) 2 _ _ _ Ab
 have d3:=cell_of_row w3 (w.heap.size + 1) 3 _ _ _ Ab
 have d4:=cell_of_row w3 (w.heap.size + 1) 4 _ _ _ Ab
 have d5:=cell_of_row w3 (w.heap.size + 1) 5 _ _ _ Ab
 have y0:=frozen_of_row w3 (w.heap.size + 1) 0 _ _ Ab
 have y1:=frozen_of_row w3 (w.heap.size + 1) 1 _ _ Ab
 have y2:=frozen_of_row w3 (w.heap.size + 1) 2 _ _ Ab
 have y3:=frozen_of_row w3 (w.heap.size + 1) 3 _ _ Ab
 have y4:=frozen_of_row w3 (w.heap.size + 1) 4 _ _ Ab
 have y5:=frozen_of_row w3 (w.heap.size + 1) 5 _ _ Ab
 simp only [List.getElem?_toArray,List.getElem?_cons_succ,List.getElem?_cons_zero] at e0 e1 e2 e3 e4 e5 d0 d1 d2 d3 d4 d5
 have Ay:=Hd Ad
 have A0:=Hd (A9.out.ag (Ag.new _ Ad))
 have Bc:=Ad.size
 clear Ad Aa Ab
 by_cases hc:100 < c.count
 ·have A7:(100:Int) < (c.count:Int):=by omega
  go_wp2
  refine bodyPost_ret (v:=.agg #[.int .i64 c.kind,.string c.name,.slice va vn vc,.int .i64 c.frm,.int .i64 c.to,.slice none 0 0]) (by simp [results,Tryz.results28,go_sem,d0,d1,d2,d3,d4,d5]) rfl ⟨_,rfl,?_,sb2 _ _ _ _ _ _ ((Bt A5.out Ay.out).setCell (Nat.le_refl _) _) (by omega)⟩
  rw [Ak.out,if_pos hc]
  refine FA2.weak (p:=fun b=>w.heap.size + 2≤b) (fun b hb=>by omega) ?_
  refine FA2.ag ?_ ((Ag.set _ _ _ (by show ¬ w.heap.size + 2≤w.heap.size;omega)).trans (sa5 _ _ _ _ _ _ _ (by omega)))
  obtain ⟨vw,a2,A8,Ac,h1,h2,h3,_⟩:=(show FA2 _ (7 + 1) _ _ _ from A0.out)
  obtain ⟨rfl,_⟩ : .slice va vn vc=vw∧ua=a2:=by simp at Ac;exact ⟨Ac.1,Ac.2.1⟩
  exact cut_fil rfl h1 h2 h3 (Nat.zero_le _) (fun _=>rfl) (fun h=>absurd h (by simp))
 ·have A7:¬ (100:Int) < (c.count:Int):=by omega
  go_wp2
  refine bodyPost_ret (v:=.agg #[.int .i64 c.kind,.string c.name,.slice va vn vc,.int .i64 c.frm,.int .i64 c.to,.slice ua c.l.length uc]) (by simp [results,Tryz.results28,go_sem,d0,d1,d2,d3,d4,d5]) rfl ⟨_,rfl,?_,sb2 _ _ _ _ _ _ (Bt A5.out Ay.out) (by omega)⟩
  rw [Ak.out,if_neg hc]
  refine FA2.weak (p:=fun b=>w.heap.size + 2≤b) (fun b hb=>by omega) ?_
  exact FA2.ag A0.out (sa5 _ _ _ _ _ _ _ (by omega))
end Go.Proofs.YtaddkkkchkdgkaaGreatDoor
namespace Go
open Go.RowKit
theorem wLi {H:Type} {P:Program} (w:World) {ops:Array Oper} {rest:List Oper} {o:Oper} {a:Act} {Q:Exit→Act→World→Prop}
  (hg:o.guard=none) (m x v:Operand) (t:TypeId) (hop:o.op=Op.insert t m x v)
  (k e:TypeId) (K:Maps.Keyed P k) (ht:P.underlying t=some (.map k e)) (R:Value→Option (DataW H×List MemPlace)) (b n:Nat) (D:DataW H)
  (hm:a.eval m = .map (some b)) (hown:w.ownsMap P k R b n D) (hn:n < maxLen) (key val:Value) (kl:Lit) (hx:a.eval x=key) (hv:a.eval v=val) (hkey:keyOf P k key=some kl)
  (d:DataW H) (ps:List MemPlace) (hval:R val=some (d,ps))
  (hK:∀ w',w'.ownsMap P k R b (n + 1) (D.put kl d)→w.grownBy w' (some b)→wpList P ops Q rest (a.put o.dst undef) w') :
  wpList P ops Q (o :: rest) a w:=by
 refine wpList_plain hg fun K' hK' => ?_
 obtain ⟨w',Aa,r1,r2⟩:=hown.update K ht hn hkey hval
 unfold Oper.wp
 simp [execOp,hop,hm,hx,hv,Aa,Result.andThen]
 exact hK' _ _ (hK w' r1 r2)
def asIs (v:Value):Option (DataW Value×List MemPlace):=some (.held v,[])
end Go
namespace Go.Proofs.YtaddkkkchkdgkaaGreatDoor
open Go.RowKit Go.Sort Go.Maps
open Tess (Fil)
def fV (x:Bool×Bool×(Nat×Nat)×(Nat×Nat)):Value:=.agg #[.bool x.1,.bool x.2.1,.int .i64 (x.2.2.1.1:Nat),.int .i64 (x.2.2.1.2:Nat),.int .i64 (x.2.2.2.1:Nat),.int .i64 (x.2.2.2.2:Nat)]
def zF:Bool×Bool×(Nat×Nat)×(Nat×Nat):=(false,false,(0,0),(0,0))
def formsD:DataW Value:=
 (((((((((DataW.map []).put (.int .i64 1) (.held (fV (false,false,(0,0),(0,0))))).put (.int .i64 2) (.held (fV (true,false,(1,8),(0,0))))).put (.int .i64 3) (.held (fV (true,false,(0,0),(0,0))))).put (.int .i64 4) (.held (fV (true,false,(1,1),(0,0))))).put (.int .i64 5) (.held (fV (true,false,(2,2),(0,0))))).put (.int .i64 6) (.held (fV (false,true,(0,0),(0,0))))).put (.int .i64 7) (.held (fV (false,false,(0,0),(1,1))))).put (.int .i64 8) (.held (fV (false,false,(0,0),(2,8))))).put (.int .i64 9) (.held (fV (false,false,(0,0),(2,8))))
theorem lawInt:Keyed Tryz.prog 3:=int_keyed Tryz.underlying3
theorem zeroFormV (w:World):(zeroValue 280).run Tryz.prog w = .ok (fV zF) w:=by kernel_rfl
def FA3 (w:World) (b:Nat):Prop:=w.ownsMap Tryz.prog 3 asIs b 9 formsD
theorem forms_at (k:Int):formsD.atKey (.int .i64 k) (.held (fV zF)) = .held (fV ((Fil.form k).getD zF))∧Maps.has formsD (.int .i64 k)=(Fil.form k).isSome:=by
 by_cases h1:k=1
 ·subst h1;exact ⟨rfl,rfl⟩
 by_cases h2:k=2
 ·subst h2;exact ⟨rfl,rfl⟩
 by_cases h3:k=3
 ·subst h3;exact ⟨rfl,rfl⟩
 by_cases h4:k=4
 ·subst h4;exact ⟨rfl,rfl⟩
 by_cases h5:k=5
 ·subst h5;exact ⟨rfl,rfl⟩
 by_cases h6:k=6
 ·subst h6;exact ⟨rfl,rfl⟩
 by_cases h7:k=7
 ·subst h7;exact ⟨rfl,rfl⟩
 by_cases h8:k=8
 ·subst h8;exact ⟨rfl,rfl⟩
 by_cases h9:k=9
 ·subst h9;exact ⟨rfl,rfl⟩
 have hf:Fil.form k=none:=by unfold Fil.form;simp [h1,h2,h3,h4,h5,h6,h7,h8,h9]
 have ne:∀ m:Int,k≠m→(Lit.int .i64 k) ≠ .int .i64 m:=fun m h e=>h (by cases e;rfl)
 rw [hf]
 unfold formsD
 constructor
 ·rw [atKey_put_other (ne 9 h9),atKey_put_other (ne 8 h8),atKey_put_other (ne 7 h7),atKey_put_other (ne 6 h6),atKey_put_other (ne 5 h5),atKey_put_other (ne 4 h4),atKey_put_other (ne 3 h3),atKey_put_other (ne 2 h2),atKey_put_other (ne 1 h1)]
  rfl
 ·rw [has_put_other (ne 9 h9),has_put_other (ne 8 h8),has_put_other (ne 7 h7),has_put_other (ne 6 h6),has_put_other (ne 5 h5),has_put_other (ne 4 h4),has_put_other (ne 3 h3),has_put_other (ne 2 h2),has_put_other (ne 1 h1)]
  rfl
theorem FA3.look {w:World} {b:Nat} (h:FA3 w b) (k:Int) (hk : -9223372036854775808≤k∧k≤9223372036854775807) :
  (Instr.lookup 282 (.map (some b)) (.int .i64 k) true).run Tryz.prog w = .ok (.tuple #[fV ((Fil.form k).getD zF),.bool (Fil.form k).isSome]) w:=by
 obtain ⟨v,ps,Aa,hv⟩:=World.ownsMap.look_ok h lawInt Tryz.underlying282 (zeroFormV w) (zd:=.held (fV zF)) (zp:=[]) rfl (keyOf_int_mk Tryz.underlying3 (WalkArith.wf_i64 hk))
 rw [(forms_at k).1] at hv
 rw [(forms_at k).2] at Aa
 unfold asIs at hv
 have:v=fV ((Fil.form k).getD zF):=by simpa using (Prod.ext_iff.1 (Option.some.inj hv)).1
 rw [Aa,this]
set_option maxRecDepth 100000 in
set_option maxHeartbeats 4000000 in
theorem forms_any (w:World) :
  Calls Tryz.prog 207 #[] w fun e w' => ∃ b,e = .returned (.map (some b))∧FA3 w' b∧Below w.heap.size w w':=by
 have Aj:=@run_makeMap Tryz.prog
 have Ad:=Hd (World.ownsMap_made (H:=Value) (w.alloc (.cells #[.int .i64 2,.int .i64 8] 278)) Tryz.prog 3 asIs)
 have Ai:=Hd (((Below.refl w.heap.size w).alloc (Nat.le_refl _) (.cells #[.int .i64 2,.int .i64 8] 278)).alloc (by simp) (.map #[] 0))
 have Ah:=Hd (show ((w.alloc (.cells #[.int .i64 2,.int .i64 8] 278)).alloc (.map #[] 0)).heap[w.heap.size]? = some (.cells #[.int .i64 2,.int .i64 8] 278 (0,0)) from (la3 w _ _).1)
 rw [show (w.alloc (.cells #[.int .i64 2,.int .i64 8] 278)).heap.size=w.heap.size + 1 by simp] at Ad
 go_enter Tryz.func207,Tryz.ntmps207
 have HO:=Ad
 have HB:=Ai
 have HC:=Ah
 clear Ad Ai Ah
 go_wp2_with (refine wLi _ rfl _ _ _ 282 rfl 3 280 lawInt Tryz.underlying282 asIs (w.heap.size + 1) _ _ rfl HO.out (by decide) _ _ _ rfl rfl (keyOf_int_mk Tryz.underlying3 (by decide)) _ _ rfl ?_;intro w1 Aa Ac;have Ab:=(Ac.block w.heap.size (by have:=HB.out;have:=(Array.getElem?_eq_some_iff.1 HC.out).1;exact this) (by simp)).trans HC.out;have Ag:=Hd (HB.out.grown Ac HB.out.size (fun j e=>by cases e;omega));have Ae:=Hd Aa;have Af:=Hd Ab;have q0:=cell_of_row w1 w.heap.size 0 _ _ _ Ab;have q1:=cell_of_row w1 w.heap.size 1 _ _ _ Ab;simp only [List.getElem?_toArray,List.getElem?_cons_succ,List.getElem?_cons_zero] at q0 q1;clear Aa Ac Ab HO HB HC;have HO:=Ae;have HB:=Ag;have HC:=Af;clear Ae Ag Af)
 go_ret
 exact ⟨_,rfl,HO.out,HB.out⟩
end Go.Proofs.YtaddkkkchkdgkaaGreatDoor
