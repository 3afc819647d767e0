/- Joined by mergeK.py: FlI, F2, F1p, F3, F4, F5, F6, F7 -/
import Derived.Test.YtjdccifdkjnknaaGreatDoorAC01
import Derived.OwnWalkIn
import Derived.RegionIn
import Derived.Test.YtjdccifdkjnknaaGreatDoorRows
import Derived.Laws.RangeAny
import Derived.Lib.AppendZerosOnto
import Derived.Maps.OwnSet
namespace Go.Flow
open Go Go.RowKit
section
variable {P:Program} {ops:Array Oper} {n:Nat}
theorem wIo {o:Oper} {a:Act} {w:World} {K:Act→World→Prop} {Q:Exit→Act→World→Prop} (hy:yields P o a.eval w fun v w'=>K (a.put o.dst v) w'):o.wpIn Fence.wide n P a w K Q:=by
 unfold Oper.wpIn
 refine ⟨fun _ _=>trivial,?_⟩
 have he:o.semAt Fence.wide.round a.eval=execOp a.eval o:=by simp [Oper.semAt,Fence.wide]
 rw [he]
 unfold yields at hy
 generalize (execOp a.eval o).run P w=r at *
 cases r with
 | ok nx w'=>
   cases nx <;> simp only [Oper.uponIn] <;> first
    | exact hy
    | exact (show False from hy).elim
    | exact ⟨(fun h=>by cases h),callsIn_wide.2 (Calls.mono hy (fun e w'' ⟨v,he,hr⟩=>by subst he;exact hr))⟩
 | halt x w'=>exact hy.elim
theorem wAI4 {md:Region.Mode} {F:Fence} {Q':Exit→Act→World→Prop}:∀ (l:List Oper) (k:Nat) (listed:Array Bool) (a:Act) (w:World),(∀ j,l[j]? = ops[k + j]?) →
  Region.seqB md ops l.length k listed=true→wpListIn F n P ops Q' l a w→wpAnyIn F n P md ops Q' l.length listed a w
 | [],_,_,_,_,_,hB,h=>⟨by simpa [Region.seqB] using hB,h⟩
 | o :: l,k,listed,a,w,hl,hB,h=>by
   have h0:ops[k]? = some o:=by simpa using (hl 0).symm
   simp only [List.length_cons,Region.seqB,Bool.and_eq_true,decide_eq_true_eq] at hB
   refine ⟨fun h1=>(by rw [hB.1] at h1;cases h1),fun i hi => ?_⟩
   rw [hB.1] at hi
   have Aa:i=k:=by simpa using hi
   subst Aa
   have hw:wpOpIn F n P ops Q' i (wpListIn F n P ops Q' l) a w:=by unfold wpOpIn;simp only [h0];exact h
   exact wpOpIn_mono (fun a' w' h'=>wAI4 l (i + 1) _ a' w' (fun j=>by have:=hl (j + 1);simpa [Nat.add_assoc,Nat.add_comm 1 j] using this) hB.2 h') hw
theorem wAI2 {S:Nat→Spec} {w0:World} (hS:∀ i,(S i).mono) {m g:Nat} {L:Array Bool→Act→(Nat→World→Prop)→Prop} {Q:Exit→Act→World→Prop}
  (hL:∀ listed a Γ w,L listed a Γ→Below w0.heap.size w0 w→(∀ j,Γ j w)→wpAnyIn Fence.wide n P .any ops Q g listed a w):∀ (f:Nat) (listed:Array Bool) (a:Act) (Γ:Nat→World→Prop) (w:World),
  aF P ops S w0 m L f listed a Γ→Below w0.heap.size w0 w→(∀ j,Γ j w)→(∀ j,Mono (Γ j))→wpAnyIn Fence.wide n P .any ops Q (f + g) listed a w
 | 0,_,_,_,_,h,hB,hG,_=>by rw [Nat.zero_add];exact hL _ _ _ _ h hB hG
 | f + 1,listed,a,Γ,w,h,hB,hG,hM=>by
   rw [show f + 1 + g=(f + g) + 1 by omega]
   refine ⟨fun h0=>absurd h0 h.1,fun i hi => ?_⟩
   have h1:=(h.2 i hi).2
   unfold fOp at h1
   unfold wpOpIn
   have hM':∀ v j,Mono (upd Γ i ((S i).holds v) j):=fun v j=>by
    by_cases e:j=i
    ·subst e;rw [upd_same];exact hS j v
    ·rw [upd_ne e];exact hM j
   have hG':∀ v w',Below w.heap.size w w'→(S i).holds v w'→∀ j,upd Γ i ((S i).holds v) j w':=fun v w' hb hv j=>by
    by_cases e:j=i
    ·subst e;rw [upd_same];exact hv
    ·rw [upd_ne e];exact hM j _ _ (hG j) hb
   have hok:∀ v w',(S i).holds v w'→(S i).ok v:=fun v w' hv=>by
    cases hs:S i with
    | inl u=>rw [hs] at hv;exact hv
    | inr V=>trivial
   split
   ·rename_i ho
    simp only [ho] at h1
    exact wAI2 hS hL f _ _ _ _ h1 hB hG hM
   ·rename_i o ho
    simp only [ho] at h1
    have h2:=h1.1 w hB (fun j _=>hG j)
    unfold Runs at h2
    split
    ·rename_i hw
     simp only [hw,if_true] at h2
     refine wIo (ym2 ?_ h2)
     intro v w' ⟨hb,hv⟩
     exact wAI2 hS hL f _ _ _ _ (h1.2 v (hok v w' hv)) (hB.trans (hb.mono hB.size)) (hG' v w' hb hv) (hM' v)
    ·rename_i hw
     simp only [hw] at h2
     exact ⟨fun _ _=>trivial,wAI2 hS hL f _ _ _ _ (h1.2 undef (hok _ _ h2)) hB (hG' _ _ (Below.refl _ _) h2) (hM' _)⟩
theorem wIr {id:Nat} {Q:Exit→Act→World→Prop} {a:Act} {w:World} {l:List Oper} (m:Nat) (S:Nat→Spec) (hm:P.follows .mixedOrders=true) (hB:Region.lexTailB .any l.toArray m=true) (hS:∀ i,(S i).mono)
  (h:Tree P l.toArray S w (fun a' Γ => ∀ w',Below w.heap.size w w'→(∀ j,Γ j w')→wpListIn Fence.wide n P l.toArray Q (l.drop m) a' w') (l.take m) 0 a (fun _ _=>True)):(Code.region id l.toArray true).wpIn Fence.wide n P Q a w:=by
 simp only [Region.lexTailB,Bool.and_eq_true,decide_eq_true_eq] at hB
 obtain ⟨⟨⟨⟨Ab,hn⟩,hs⟩,hc⟩,Ad⟩:=hB
 have Ag:m < l.length:=by simpa using hn
 have Aa:(l.take m).length=m:=by simp;omega
 have Ae:(l.drop m).length=l.toArray.size - m:=by simp
 have Ac:HeadInv .any l.toArray m (Array.replicate l.toArray.size false):=
  ⟨by simp,fun j oj _ hl=>(by rw [getD_replicate_false] at hl;cases hl),fun t _ ht=>getD_in (by simpa using ht) (getD_replicate_false _ _)⟩
 have H:=aFl (g:=l.toArray.size - m) Ab hs hc hn (l.take m) 0 _ a (fun _ _=>True) (fun j hj=>by
  have Af:j < m:=by rw [Aa] at hj;exact hj
  simp [Af]) (by simpa using Aa) Ac (by rw [Aa];exact Ad) h
 refine wpIn_region_any hm ?_
 have:=wAI2 (n:=n) (Q:=Q) (g:=l.toArray.size - m) hS (fun listed a' Γ' w' hL hb hG=>by
  have:=wAI4 (md:=.any) (F:=Fence.wide) (n:=n) (Q':=Q) (l.drop m) m listed a' w' (fun j=>by simp [List.getElem?_drop]) (by rw [Ae];exact hL.1) (hL.2 w' hb hG)
  rwa [Ae] at this) _ _ _ _ { w with drawn:=w.drawn + 1 } H ((Below.refl _ _).drew) (fun _=>trivial) (fun _ _ _ _ _=>trivial)
 rw [Aa,show m + (l.toArray.size - m)=l.toArray.size by omega] at this
 exact this
end
end Go.Flow
namespace Go
open Go.RowKit
theorem Flow.bc4 {W w1:World} (hb:Below W.heap.size W w1):(∀ b o,b < W.heap.size→w1.cell? ⟨b,o,none⟩=W.cell? ⟨b,o,none⟩):=
 fun b o h=>hb.cell (p:=⟨b,o,none⟩) h
def cutN (n:Nat) (s:ByteArray):ByteArray:=s.extract 0 n
theorem cNs3 (n:Nat) (s:ByteArray):(cutN n s).size≤n:=by simp [cutN];omega
theorem cNs (n:Nat) (s:ByteArray) (h:s.size≤n):cutN n s=s:=by
 apply ByteArray.ext
 have:s.data.size≤n:=h
 simp [cutN];omega
def blk:Value→Option Nat
 | .slice (some a) _ _=>some a.block
 | _=>none
def Ag (p:Nat→Prop) (w w':World):Prop:=w.heap.size≤w'.heap.size∧∀ b,b < w.heap.size→p b→w'.heap[b]? = w.heap[b]?
def NilOk (v:Value):Prop:=∀ n c,v = .slice none n c→c=0
def SlP (p:Nat→Prop) (w:World) (v:Value) (cs:List Value):Prop:=SlOf w v cs∧(0 < cs.length→∀ b,blk v=some b→p b)∧NilOk v
section
variable {p q:Nat→Prop} {w w' w'':World} {v:Value} {cs:List Value}
theorem Ag.refl (p:Nat→Prop) (w:World):Ag p w w:=⟨Nat.le_refl _,fun _ _ _=>rfl⟩
theorem Ag.trans (h:Ag p w w') (k:Ag p w' w''):Ag p w w'':=⟨Nat.le_trans h.1 k.1,fun b hb hp=>(k.2 b (Nat.lt_of_lt_of_le hb h.1) hp).trans (h.2 b hb hp)⟩
theorem Ag.below (p:Nat→Prop) {B:Nat} (h:Below B w w') (hB:∀ b,b < w.heap.size→p b→b < B):Ag p w w':=⟨h.size,fun b hb hp=>h.block b (hB b hb hp)⟩
theorem Ag.new (p:Nat→Prop) (h:Below w.heap.size w w'):Ag p w w':=Ag.below p h fun _ hb _=>hb
theorem Ag.weak (h:Ag q w w') (hpq:∀ b,p b→q b):Ag p w w':=⟨h.1,fun b hb hp=>h.2 b hb (hpq b hp)⟩
theorem Ag.set (p:Nat→Prop) (w:World) {a:Addr} (v:Value) (h:¬ p a.block):Ag p w (w.setCell a v):=
 ⟨by simp [World.setCell],fun b _ hp=>heap_setCell_other w a b v (fun e=>h (e ▸ hp))⟩
theorem Ag.grown {o:Option Nat} (h:w.grownBy w' o) (hp:∀ g,o=some g→¬ p g):Ag p w w':=
 ⟨h.size,fun b hb hpb=>h.block b hb (fun e=>hp b e.symm hpb)⟩
theorem Ag.cell (h:Ag p w w') {b o:Nat} (hb:b < w.heap.size) (hp:p b):w'.cell? ⟨b,o,none⟩=w.cell? ⟨b,o,none⟩:=World.cell?_of_block (h.2 b hb hp)
theorem SlP.ag (h:SlP p w v cs) (hg:Ag p w w'):SlP p w' v cs:=by
 obtain ⟨⟨h0,a,Ac,hv,hc⟩,hp,hn⟩:=h
 refine ⟨⟨h0,a,Ac,hv,fun hl => ?_⟩,hp,hn⟩
 obtain ⟨b,Ab,rfl,hb,Aa⟩:=hc hl
 exact ⟨b,Ab,rfl,Nat.lt_of_lt_of_le hb hg.1,fun j hj=>(hg.cell hb (hp hl b (by rw [hv];rfl))).trans (Aa j hj)⟩
theorem SlP.weak (h:SlP p w v cs) (hpq:∀ b,p b→q b):SlP q w v cs:=⟨h.1,fun hl b hb=>hpq b (h.2.1 hl b hb),h.2.2⟩
theorem SlP.lt (h:SlP p w v cs):SlP (fun b=>p b∧b < w.heap.size) w v cs:=by
 refine ⟨h.1,fun hl b hb=>⟨h.2.1 hl b hb,?_⟩,h.2.2⟩
 obtain ⟨⟨h0,a,Ad,hv,hc⟩,hp⟩:=h
 obtain ⟨b',Ac,rfl,Ab,Aa⟩:=hc hl
 rw [hv] at hb;cases hb;exact Ab
theorem SlP.of (h:SlOf w v cs) (hn:NilOk v):SlP (fun _=>True) w v cs:=⟨h,fun _ _ _=>trivial,hn⟩
theorem SlP.nil (p:Nat→Prop) (w:World):SlP p w (.slice none 0 0) []:=⟨SlOf.nil w,fun h=>absurd h (by simp),fun n c e=>by cases e;rfl⟩
theorem SlP.shape (h:SlP p w v cs):∃ a n c,v = .slice a n c:=let ⟨⟨_,a,c,hv,_⟩,_⟩:=h;⟨a,_,c,hv⟩
theorem SlP.owned {base:Nat} {e:TypeId} {n:Nat} (h:w.ownsRow base e 1 v n cs):SlP (fun b=>base≤b) w v cs:=by
 refine ⟨SlOf.owned h,fun _ b hb => ?_,fun n c e => ?_⟩
 ·obtain ⟨_,⟨rfl,_⟩ | ⟨g,Ab,Aa,rfl,hg,_⟩⟩:=h
  ·cases hb
  ·cases hb;exact hg
 ·obtain ⟨_,⟨rfl,_⟩ | ⟨g,Ab,Aa,rfl,hg,_⟩⟩:=h
  ·cases e;rfl
  ·cases e
end
section
variable (w:World) (A B C D E:Obj)
theorem la2:(w.alloc A).heap[w.heap.size]? = some A∧(w.alloc A).heap.size=w.heap.size + 1∧Below w.heap.size w (w.alloc A):=⟨heap_alloc_new w A,by simp,(Below.refl _ _).alloc (Nat.le_refl _) _⟩
theorem la3:((w.alloc A).alloc B).heap[w.heap.size]? = some A∧((w.alloc A).alloc B).heap[w.heap.size + 1]? = some B∧((w.alloc A).alloc B).heap.size=w.heap.size + 2∧Below w.heap.size w ((w.alloc A).alloc B):=by
 obtain ⟨h1,h2,h3⟩:=la2 w A
 obtain ⟨k1,k2,k3⟩:=la2 (w.alloc A) B
 rw [h2] at k1
 exact ⟨(k3.block _ (by omega)).trans h1,k1,by rw [k2,h2],h3.trans (k3.mono (by omega))⟩
theorem laid3:(((w.alloc A).alloc B).alloc C).heap[w.heap.size]? = some A∧(((w.alloc A).alloc B).alloc C).heap[w.heap.size + 1]? = some B∧(((w.alloc A).alloc B).alloc C).heap[w.heap.size + 2]? = some C∧(((w.alloc A).alloc B).alloc C).heap.size=w.heap.size + 3∧Below w.heap.size w (((w.alloc A).alloc B).alloc C):=by
 obtain ⟨h1,h2,h3,h4⟩:=la3 w A B
 obtain ⟨k1,k2,k3⟩:=la2 ((w.alloc A).alloc B) C
 rw [h3] at k1
 exact ⟨(k3.block _ (by omega)).trans h1,(k3.block _ (by omega)).trans h2,k1,by rw [k2,h3],h4.trans (k3.mono (by omega))⟩
theorem laid4:((((w.alloc A).alloc B).alloc C).alloc D).heap[w.heap.size]? = some A∧((((w.alloc A).alloc B).alloc C).alloc D).heap[w.heap.size + 1]? = some B∧((((w.alloc A).alloc B).alloc C).alloc D).heap[w.heap.size + 2]? = some C∧((((w.alloc A).alloc B).alloc C).alloc D).heap[w.heap.size + 3]? = some D∧((((w.alloc A).alloc B).alloc C).alloc D).heap.size=w.heap.size + 4∧Below w.heap.size w ((((w.alloc A).alloc B).alloc C).alloc D):=by
 obtain ⟨h1,h2,h3,h4,h5⟩:=laid3 w A B C
 obtain ⟨k1,k2,k3⟩:=la2 (((w.alloc A).alloc B).alloc C) D
 rw [h4] at k1
 exact ⟨(k3.block _ (by omega)).trans h1,(k3.block _ (by omega)).trans h2,(k3.block _ (by omega)).trans h3,k1,by rw [k2,h4],h5.trans (k3.mono (by omega))⟩
end
end Go
namespace Tess
open Go
structure Sch where
 dims:List ByteArray
 mets:List ByteArray
 grain:Int
structure Val where
 s:ByteArray
 null:Bool
def iL (c:UInt8):Bool:=decide (97≤c.toNat) && decide (c.toNat≤122)
def iR (c:UInt8):Bool:=iL c || c.toNat == 95 || (decide (48≤c.toNat) && decide (c.toNat≤57))
def nameL:List UInt8→Bool
 | []=>false
 | c :: r=>iL c && r.all iR
def nO (s:ByteArray):Bool:=decide (s.size≤20) && nameL s.data.toList
def hasW (l:List ByteArray) (x:ByteArray):Bool:=l.any fun y=>decide (y=x)
def idxW (l:List ByteArray) (x:ByteArray):Nat:=l.findIdx fun y=>decide (y=x)
theorem hWi (l:List ByteArray) (x:ByteArray):hasW l x=true↔x ∈ l:=by simp [hasW]
theorem hWn (l:List ByteArray) (x:ByteArray):hasW l x=false↔x ∉ l:=by rw [← hWi];simp
def distinct:List ByteArray→Bool
 | []=>true
 | a :: r => !hasW r a && distinct r
def nO2 (l:List ByteArray):Bool:=distinct l && l.all nO
def sO (s:Sch):Bool:=(decide (1≤s.dims.length) && decide (s.dims.length≤6)) && decide (s.mets.length≤4) && decide (1≤s.grain) && decide (s.grain≤1000000000) && nO2 (s.dims ++ s.mets)
def placeW (ok:Bool) (l:List ByteArray) (x:ByteArray):Nat×Bool:=if ok && hasW l x then (idxW l x,true) else (0,false)
def dimW (s:Sch) (x:ByteArray):Nat×Bool:=placeW (sO s) s.dims x
inductive Fil
 | mk (kind:Int) (name:ByteArray) (words:List ByteArray) (frm to:Int) (l:List Fil)
namespace Fil
def kind:Fil→Int | mk k _ _ _ _ _=>k
def name:Fil→ByteArray | mk _ n _ _ _ _=>n
def words:Fil→List ByteArray | mk _ _ w _ _ _=>w
def frm:Fil→Int | mk _ _ _ a _ _=>a
def to:Fil→Int | mk _ _ _ _ b _=>b
def l:Fil→List Fil | mk _ _ _ _ _ l=>l
mutual
def deep:Fil→Nat | mk _ _ _ _ _ l=>1 + deepL l
def deepL:List Fil→Nat | []=>0 | f :: r=>max (deep f) (deepL r)
end
mutual
def pre (d:Nat):Fil→List (Nat×Fil) | mk k n w a b l=>(d,mk k n w a b l) :: preL (d + 1) l
def preL (d:Nat):List Fil→List (Nat×Fil) | []=>[] | f :: r=>pre d f ++ preL d r
end
def form (k:Int):Option (Bool×Bool×(Nat×Nat)×(Nat×Nat)):=
 if k=1 then some (false,false,(0,0),(0,0))
 else if k=2 then some (true,false,(1,8),(0,0))
 else if k=3 then some (true,false,(0,0),(0,0))
 else if k=4 then some (true,false,(1,1),(0,0))
 else if k=5 then some (true,false,(2,2),(0,0))
 else if k=6 then some (false,true,(0,0),(0,0))
 else if k=7 then some (false,false,(0,0),(1,1))
 else if k=8 then some (false,false,(0,0),(2,8))
 else if k=9 then some (false,false,(0,0),(2,8))
 else none
def inW (n:Nat) (p:Nat×Nat):Bool:=decide (p.1≤n) && decide (n≤p.2)
def own (s:Sch) (f:Fil):Bool:=
 match form f.kind with
 | none=>false
 | some (hn,hs,ws,ls)=>((dimW s f.name).2 == hn) && ((dimW s f.name).2 || f.name.size == 0) && (hs || (decide (f.frm=0) && decide (f.to=0))) && inW f.words.length ws && inW f.l.length ls && !f.words.any (fun x=>decide (100 < x.size))
def spanOk (a b:Int):Bool:=decide (0≤a) && decide (a≤b) && decide (b≤1000000000001)
def gO2 (g:Int):Bool:=decide (1≤g) && decide (g≤1000000000)
def sF2 (a b g:Int):Bool:=spanOk a b && gO2 g && decide (a % g=0) && (decide (b=1000000000001) || decide (b % g=0))
def spanHas (a b t:Int):Bool:=spanOk a b && decide (a≤t) && decide (t < b)
def badGrain (s:Sch) (f:Fil):Bool:=decide (f.kind=6) && !sF2 f.frm f.to s.grain
def isWord (f:Fil) (w:ByteArray):Bool:=
 if f.kind=4 then (f.words.getD 0 ByteArray.empty).data.toList.isPrefixOf w.data.toList
 else if f.kind=5 then !bl w (f.words.getD 0 ByteArray.empty) && !bl (f.words.getD 1 ByteArray.empty) w
 else hasW f.words w
def holdsDim (s:Sch) (dims:List Val) (f:Fil):Bool:=
 let v:=dims.getD (dimW s f.name).1 ⟨ByteArray.empty,false⟩
 if v.null || decide (f.kind=3) then v.null && decide (f.kind=3) else isWord f v.s
def holdsW (s:Sch) (t:Int) (dims:List Val) (f:Fil) (hs:List Bool):Bool:=
 if f.kind=7 then !hs.getD 0 false
 else if f.kind=8 then hs.all id
 else if f.kind=9 then hs.any id
 else if f.kind=6 then spanHas f.frm f.to t
 else if f.kind=1 then true
 else holdsDim s dims f
mutual
def holds (s:Sch) (t:Int) (dims:List Val):Fil→Bool | mk k n w a b l=>holdsW s t dims (mk k n w a b l) (holdsL s t dims l)
def holdsL (s:Sch) (t:Int) (dims:List Val):List Fil→List Bool | []=>[] | f :: r=>holds s t dims f :: holdsL s t dims r
end
theorem deep_eq (f:Fil):f.deep=1 + deepL f.l:=by cases f;simp [deep,l]
theorem deep_mem {f:Fil}:∀ {q:List Fil},f ∈ q→f.deep≤deepL q
 | [],h=>by cases h
 | a :: r,h=>by
   unfold deepL
   rcases List.mem_cons.1 h with rfl | h
   ·omega
   ·have:=deep_mem h;omega
theorem ind {p:Fil→Prop} (h:∀ f,(∀ x ∈ f.l,p x)→p f) (f:Fil):p f:=by
 have:∀ n f,f.deep≤n→p f:=by
  intro n
  induction n with
  | zero=>intro f hf;rw [deep_eq] at hf;omega
  | succ n ih=>intro f hf;exact h f fun x hx=>ih x (by have:=deep_mem hx;rw [deep_eq] at hf;omega)
 exact this _ f (Nat.le_refl _)
end Fil
end Tess
namespace Go.Proofs.YtjdccifdkjnknaaGreatDoor
open Go.RowKit Go.Sort
theorem iS2:(Tryz.prog.info? 9).map (fun i=>(i.zero,i.size,i.bytes))=some (some (.string ByteArray.empty),1,16):=by kernel_rfl
def nV (m _n:Nat) (l:List ByteArray) (k:Nat):List Value:=((l.take k).map (cutN m)).map .string
def nN (m n:Nat) (l:List ByteArray):List ByteArray:=(l.take n).map (cutN m)
theorem ns3 (m n:Nat) (l:List ByteArray) (k:Nat) (h:k < l.length) (x:ByteArray) (hx:cutN m l[k]=x):nV m n l k ++ [.string x]=nV m n l (k + 1):=by
 unfold nV
 rw [List.take_succ_eq_append_getElem h,← hx,List.map_append,List.map_append];rfl
theorem ne2 (m n:Nat) (l:List ByteArray) (k:Nat) (h:¬ (k < l.length∧k < n)) (h1:k≤l.length) (h2:k≤n):nV m n l k=(nN m n l).map .string:=by
 unfold nN nV
 by_cases e:k=n
 ·rw [e]
 ·rw [List.take_of_length_le (by omega),List.take_of_length_le (by omega)]
theorem ns2 (m n:Nat) (l:List ByteArray) (h:m≤9223372036854775807):∀ x ∈ nN m n l,x.size≤maxLen:=by
 intro x hx
 obtain ⟨y,_,rfl⟩:=List.mem_map.1 hx
 have:=cNs3 m y
 unfold maxLen;omega
def cutSch (s:Tess.Sch):Tess.Sch:=⟨nN 30 10 s.dims,nN 30 10 s.mets,s.grain⟩
def SA (p:Nat→Prop) (w:World) (v:Value) (s:Tess.Sch):Prop:=
 ∃ vd vm,v = .agg #[vd,vm,.int .i64 s.grain]∧SlP p w vd (s.dims.map .string)∧SlP p w vm (s.mets.map .string)∧(∀ x ∈ s.dims,x.size≤maxLen)∧(∀ x ∈ s.mets,x.size≤maxLen)
theorem SA.ag {p:Nat→Prop} {w w':World} {v:Value} {s:Tess.Sch} (h:SA p w v s) (hg:Ag p w w'):SA p w' v s:=
 let ⟨vd,vm,h1,h2,h3,h4,h5⟩:=h;⟨vd,vm,h1,h2.ag hg,h3.ag hg,h4,h5⟩
theorem SA.weak {p q:Nat→Prop} {w:World} {v:Value} {s:Tess.Sch} (h:SA p w v s) (hpq:∀ b,p b→q b):SA q w v s:=
 let ⟨vd,vm,h1,h2,h3,h4,h5⟩:=h;⟨vd,vm,h1,h2.weak hpq,h3.weak hpq,h4,h5⟩
structure Cs (B:Nat) (vd vm:Value) (g:Int) (od om:Value) (w W:World):Prop where
 k1:W.heap[B]? = some (.cells #[vd,vm,.int .i64 g] 24 (0,0))
 k2:W.heap[B + 1]? = some (.cells #[.slice none 0 0,.slice none 0 0,.int .i64 0] 24 (0,0))
 k3:W.heap[B + 2]? = some (.cells #[od,om,.int .i64 0] 24 (0,0))
 below:Below w.heap.size w W
 size:w.heap.size=B
section
variable {B:Nat} {vd vm od om od':Value} {g:Int} {w W W':World}
theorem Cs.later (h:Cs B vd vm g od om w W) (hb:Below W.heap.size W W') (hs:B + 2 < W.heap.size):Cs B vd vm g od om w W':=
 ⟨(hb.block _ (by omega)).trans h.k1,(hb.block _ (by omega)).trans h.k2,(hb.block _ (by omega)).trans h.k3,Bt h.below hb,h.size⟩
theorem Cs.grown (h:Cs B vd vm g od om w W) {o:Option Nat} (hg:W.grownBy W' o) (ho:∀ k,o=some k→B + 3≤k) (hs:B + 2 < W.heap.size):Cs B vd vm g od om w W':=
 ⟨(hg.block _ (by omega) (fun e=>by have:=ho _ e.symm;omega)).trans h.k1,(hg.block _ (by omega) (fun e=>by have:=ho _ e.symm;omega)).trans h.k2,(hg.block _ (by omega) (fun e=>by have:=ho _ e.symm;omega)).trans h.k3,
   h.below.grown hg h.below.size (fun k e=>by have:=ho k e;have:=h.size;omega),h.size⟩
theorem Cs.set0 (h:Cs B vd vm g od om w W) (od':Value):Cs B vd vm g od' om w (W.setCell ⟨B + 2,0,none⟩ od'):=
 ⟨(heap_setCell_other _ _ _ _ (by show _≠B + 2;omega)).trans h.k1,(heap_setCell_other _ _ _ _ (by show _≠B + 2;omega)).trans h.k2,heap_setCell_same _ _ _ _ _ _ h.k3,h.below.setCell (by show _≤B + 2;have:=h.size;omega) _,h.size⟩
theorem Cs.set1 (h:Cs B vd vm g od om w W) (om':Value):Cs B vd vm g od om' w (W.setCell ⟨B + 2,1,none⟩ om'):=
 ⟨(heap_setCell_other _ _ _ _ (by show _≠B + 2;omega)).trans h.k1,(heap_setCell_other _ _ _ _ (by show _≠B + 2;omega)).trans h.k2,heap_setCell_same _ _ _ _ _ _ h.k3,h.below.setCell (by show _≤B + 2;have:=h.size;omega) _,h.size⟩
end
set_option maxRecDepth 100000 in
set_option maxHeartbeats 2000000 in
theorem cutSch_any (v:Value) (s:Tess.Sch) (w:World) (p:Nat→Prop) (hv:SA p w v s) :
  Calls Tryz.prog 8 #[v] w fun e w' => ∃ v',e = .returned v'∧SA (fun b=>w.heap.size≤b) w' v' (cutSch s)∧Below w.heap.size w w':=by
 obtain ⟨vd,vm,rfl,hd,hm,Ar,Ao⟩:=hv
 obtain ⟨ds,ms,g⟩:=s
 simp only at hd hm Ar Ao
 obtain ⟨ad,Af,rfl,Bu,Ba⟩:=so2 hd.1
 obtain ⟨am,Ae,rfl,Bp,A6⟩:=so2 hm.1
 have Bf:=Hd Ba
 have Bh:=Hd A6
 have Bg:=Hd Ar
 have Bd:=Hd Ao
 clear Ba A6 hd hm Ar Ao
 obtain ⟨i0,hi,A3,A5,Bb⟩:=info_parts iS2
 go_enter Tryz.func8,Tryz.ntmps8
 go_wp2
 obtain ⟨W0,Am⟩:∃ W0,((w.alloc (.cells #[.slice ad ds.length Af,.slice am ms.length Ae,.int .i64 g] 24)).alloc (.cells #[.slice none 0 0,.slice none 0 0,.int .i64 0] 24)).alloc (.cells #[.slice none 0 0,.slice none 0 0,.int .i64 0] 24)=W0:=⟨_,rfl⟩
 have At:Cs w.heap.size (.slice ad ds.length Af) (.slice am ms.length Ae) g (.slice none 0 0) (.slice none 0 0) w W0:=by
  rw [← Am]
  obtain ⟨a1,a2,a3,a4,a5⟩:=laid3 w (.cells #[.slice ad ds.length Af,.slice am ms.length Ae,.int .i64 g] 24) (.cells #[.slice none 0 0,.slice none 0 0,.int .i64 0] 24) (.cells #[.slice none 0 0,.slice none 0 0,.int .i64 0] 24)
  exact ⟨a1,a2,a3,a5,rfl⟩
 have A9:W0.heap.size=w.heap.size + 3:=by rw [← Am];simp
 rw [Am]
 clear Am
 obtain ⟨B,A0⟩:∃ B,w.heap.size=B:=⟨_,rfl⟩
 have Ak:=Hd A0
 rw [A0] at At A9 ⊢
 clear A0
 go_loopw [4] (fun i wr => ∃ (k:Nat) (od:Value),k≤ds.length∧k≤10∧i = .int .i64 k∧Cs B (.slice ad ds.length Af) (.slice am ms.length Ae) g od (.slice none 0 0) w wr∧wr.ownsRow (B + 3) 9 1 od k (nV 30 10 ds k)∧B + 3≤wr.heap.size) (fun i _=>10 - (intOf i).toNat)
 case atStart=>exact ⟨0,_,Nat.zero_le _,Nat.zero_le _,rfl,At,by simpa [nV] using World.ownsRow_nil W0 (B + 3) 9 1,by omega⟩
 case round=>
  obtain ⟨k,od,hk,Ah,rfl,hC,Ad,Bl⟩:=hrel
  have HC:=Hd hC
  have HO:=Hd Ad
  clear hC Ad At A9
  have c1:=cell_of_row wr B 0 _ _ _ HC.out.k1
  have c3:=cell_of_row wr (B + 1 + 1) 0 _ _ _ HC.out.k3
  have z3:=frozen_of_row wr (B + 1 + 1) 0 _ _ HC.out.k3
  simp only [List.getElem?_toArray,List.getElem?_cons_zero] at c1 c3
  have s1:B < wr.heap.size:=by omega
  have s3:B + 1 + 1 < wr.heap.size:=by omega
  by_cases hlt:k < ds.length∧k < 10
  ·obtain ⟨h1,h2⟩:=hlt
   obtain ⟨b,Al,rfl,hb,Ac⟩:=Bf.out k h1
   have Bj:wr.cell? ⟨b,Al + k,none⟩=some (.string ds[k]):=(HC.out.below.cell (p:=⟨b,Al + k,none⟩) (Ak.out ▸ hb)).trans Ac
   have Bs:ds[k].size≤9223372036854775807:=Bg.out _ (List.getElem_mem h1)
   have Bn:b < wr.heap.size:=Nat.lt_of_lt_of_le hb HC.out.below.size
   clear Ac hb
   go_wp2
   obtain ⟨x,hx⟩:∃ x,x=cutN 30 ds[k]:=⟨_,rfl⟩
   have HX:=Hd hx
   clear hx
   rcases (show ((30:Int) < (ds[k].size:Int)∧(¬ (ds[k].size:Int)≤30∧(30:Int)≤(ds[k].size:Int)))∨(¬ (30:Int) < (ds[k].size:Int)∧(ds[k].size:Int)≤30) by omega) with ⟨Au,Aq⟩ | ⟨Au,Aq⟩
   all_goals
    refine Flow.wrf 16 (Flow.sp3 [.inl ?_,.inl ?_,.inl ?_,.inl ?_,.inl ?_,.inl ?_,.inl ?_,.inl ?_,.inl ?_,.inl ?_,.inl ?_,.inl ?_,.inl ?_,.inl ?_,.inl ?_,.inr (nO3 (.string x))]) (by kernel_rfl) (by kernel_rfl) ?_ ?_
    rotate_left 15
    ·refine Flow.sm2 ?_
     repeat (first | exact Flow.ln2 | refine Flow.li2 ?_ | refine Flow.li3 (nOm2 _) ?_)
    all_goals try simp only [List.take_succ_cons,List.take_zero,List.drop_succ_cons,List.drop_zero]
    iterate 15 (refine Flow.tvK rfl (fun K hK=>⟨fun w hw hG => ?_,?_⟩);(have Bo:=Flow.bc4 hw;clear hG hw;unfold Flow.Runs Flow.yields;go_simp;try rfl);go_simp;refine hK _ ?_;clear hK K)
    (refine Flow.tvK2 rfl (fun K hK=>⟨fun w hw hG => ?_,?_⟩);(clear hG hw;unfold Flow.Runs Flow.yields;go_simp;refine ⟨(Below.refl _ _).alloc (Nat.le_refl _) _,?_⟩;rw [HX.out]);rotate_left;intro vz;go_simp;refine hK _ _ ?_;clear hK K;rotate_left)
    ·first | exact nOm _ _ _ | (rw [cNs _ _ (by omega)];exact nOm _ _ _)
    refine Flow.tn2 fun w2 hw2 hG => ?_
    obtain ⟨gn,rfl,Bi,Ap⟩:=(show nO3 (.string x) vz w2 by simpa [Flow.upd] using hG 15)
    clear hG
    have Aj:=Hd (ob2 HO.out hw2)
    have HE:=Hd (ns3 30 10 ds k h1 x HX.out.symm)
    have Av:=Hd (HC.out.later hw2 (by omega))
    have Ax:=hw2.size
    go_wp2_with (at_builtin;refine wpList_append_own _ rfl _ _ 22 rfl (B + 3) 9 i0 (.string ByteArray.empty) 1 16 Tryz.underlying22 hi A3 A5 Bb rfl (by decide) _ _ _ rfl Aj.out ⟨gn,0,none⟩ 1 1 [.string x] rfl rfl ?_ ?_ ?_ ?_ ?_ ?_)
    ·intro j u hj;rcases j with _ | j <;> simp at hj;subst hj;simpa [Addr.add] using Ap
    ·simp [Value.oneCell']
    ·unfold maxLen;omega
    ·omega
    ·omega
    intro v' w3 Ab Aa _
    obtain ⟨gg,cp,rfl,_⟩:=oc2 Ab (by omega)
    have Ai:=Hd (Av.out.grown Aa (fun j e=>(Aj.out.lt j e).1) (by omega))
    have Aw:=Hd (jo Ab HE.out)
    have Az:=Aa.size
    clear Ab Aa
    have z3:=frozen_of_row w3 (B + 1 + 1) 0 _ _ Ai.out.k3
    have c3:=cell_of_row w3 (B + 1 + 1) 0 _ _ _ Ai.out.k3
    simp only [List.getElem?_toArray,List.getElem?_cons_zero] at c3
    go_wp2
    go_roundw
    case rel=>exact ⟨k + 1,_,by omega,by omega,by go_num,Ai.out.set0 _,ownsRow_setCell_below Aw.out (by show B + 1 + 1 < _;omega) _,by simp [World.setCell];omega⟩
    case measure=>simp [intOf];omega
  ·have HE:=Hd (ne2 30 10 ds k (by omega) hk Ah)
   have As:=Hd ((SlP.owned (HE.out ▸ HO.out)).lt)
   obtain ⟨N1,Ay⟩:∃ N1,N1=wr.heap.size:=⟨_,rfl⟩
   rw [← Ay] at As
   have A7:=Hd Ay
   clear Ay
   obtain ⟨wo,rfl⟩:∃ wo:World,wo=wr:=⟨_,rfl⟩
   have A2:=Hd HC.out
   clear HO HE HC
   rcases (show (¬ (k:Int) < (ds.length:Int))∨((k:Int) < (ds.length:Int)∧¬ (k:Int) < 10) by omega) with An | ⟨Be,An⟩
   all_goals
    clear hlt
    go_wp2
    go_loopw [5] (fun i wq => ∃ (k:Nat) (om:Value),k≤ms.length∧k≤10∧i = .int .i64 k∧Cs B (.slice ad ds.length Af) (.slice am ms.length Ae) g od om w wq∧wq.ownsRow N1 9 1 om k (nV 30 10 ms k)∧SlP (fun b=>B + 3≤b∧b < N1) wq od ((nN 30 10 ds).map .string)∧N1≤wq.heap.size) (fun i _=>10 - (intOf i).toNat)
    case atStart=>exact ⟨0,_,Nat.zero_le _,Nat.zero_le _,rfl,A2.out,by simpa [nV] using World.ownsRow_nil wo N1 9 1,As.out,by rw [A7.out];exact Nat.le_refl _⟩
    case round=>
     have Bt:B + 3≤N1:=by rw [A7.out];exact Bl
     clear As A2 An c1 c3 z3 s1 s3
     obtain ⟨k,om,hk,Ah,rfl,hC,Ad,hP,Bk⟩:=hrel
     have HC:=Hd hC
     have HO:=Hd Ad
     have HP:=Hd hP
     clear hC Ad hP
     have c1:=cell_of_row wr B 1 _ _ _ HC.out.k1
     have c3:=cell_of_row wr (B + 1 + 1) 1 _ _ _ HC.out.k3
     have z3:=frozen_of_row wr (B + 1 + 1) 1 _ _ HC.out.k3
     simp only [List.getElem?_toArray,List.getElem?_cons_succ,List.getElem?_cons_zero] at c1 c3
     have s1:B < wr.heap.size:=by omega
     have s3:B + 1 + 1 < wr.heap.size:=by omega
     by_cases hlt:k < ms.length∧k < 10
     ·obtain ⟨h1,h2⟩:=hlt
      obtain ⟨b,Al,rfl,hb,Ac⟩:=Bh.out k h1
      have Bj:wr.cell? ⟨b,Al + k,none⟩=some (.string ms[k]):=(HC.out.below.cell (p:=⟨b,Al + k,none⟩) (Ak.out ▸ hb)).trans Ac
      have Br:ms[k].size≤9223372036854775807:=Bd.out _ (List.getElem_mem h1)
      have Bn:b < wr.heap.size:=Nat.lt_of_lt_of_le hb HC.out.below.size
      clear Ac hb
      go_wp2
      obtain ⟨x,hx⟩:∃ x,x=cutN 30 ms[k]:=⟨_,rfl⟩
      have HX:=Hd hx
      clear hx
      rcases (show ((30:Int) < (ms[k].size:Int)∧(¬ (ms[k].size:Int)≤30∧(30:Int)≤(ms[k].size:Int)))∨(¬ (30:Int) < (ms[k].size:Int)∧(ms[k].size:Int)≤30) by omega) with ⟨Au,Aq⟩ | ⟨Au,Aq⟩
      all_goals
       refine Flow.wrf 16 (Flow.sp3 [.inl ?_,.inl ?_,.inl ?_,.inl ?_,.inl ?_,.inl ?_,.inl ?_,.inl ?_,.inl ?_,.inl ?_,.inl ?_,.inl ?_,.inl ?_,.inl ?_,.inl ?_,.inr (nO3 (.string x))]) (by kernel_rfl) (by kernel_rfl) ?_ ?_
       rotate_left 15
       ·refine Flow.sm2 ?_
        repeat (first | exact Flow.ln2 | refine Flow.li2 ?_ | refine Flow.li3 (nOm2 _) ?_)
       all_goals try simp only [List.take_succ_cons,List.take_zero,List.drop_succ_cons,List.drop_zero]
       iterate 15 (refine Flow.tvK rfl (fun K hK=>⟨fun w hw hG => ?_,?_⟩);(have Bo:=Flow.bc4 hw;clear hG hw;unfold Flow.Runs Flow.yields;go_simp;try rfl);go_simp;refine hK _ ?_;clear hK K)
       (refine Flow.tvK2 rfl (fun K hK=>⟨fun w hw hG => ?_,?_⟩);(clear hG hw;unfold Flow.Runs Flow.yields;go_simp;refine ⟨(Below.refl _ _).alloc (Nat.le_refl _) _,?_⟩;rw [HX.out]);rotate_left;intro vz;go_simp;refine hK _ _ ?_;clear hK K;rotate_left)
       ·first | exact nOm _ _ _ | (rw [cNs _ _ (by omega)];exact nOm _ _ _)
       refine Flow.tn2 fun w2 hw2 hG => ?_
       obtain ⟨gn,rfl,Bi,Ap⟩:=(show nO3 (.string x) vz w2 by simpa [Flow.upd] using hG 15)
       clear hG
       have Aj:=Hd (ob2 HO.out hw2)
       have HE:=Hd (ns3 30 10 ms k h1 x HX.out.symm)
       have Av:=Hd (HC.out.later hw2 (by omega))
       have Ax:=hw2.size
       go_wp2_with (at_builtin;refine wpList_append_own _ rfl _ _ 22 rfl N1 9 i0 (.string ByteArray.empty) 1 16 Tryz.underlying22 hi A3 A5 Bb rfl (by decide) _ _ _ rfl Aj.out ⟨gn,0,none⟩ 1 1 [.string x] rfl rfl ?_ ?_ ?_ ?_ ?_ ?_)
       ·intro j u hj;rcases j with _ | j <;> simp at hj;subst hj;simpa [Addr.add] using Ap
       ·simp [Value.oneCell']
       ·unfold maxLen;omega
       ·omega
       ·omega
       intro v' w3 Ab Aa _
       obtain ⟨gg,cp,rfl,_⟩:=oc2 Ab (by omega)
       have Ai:=Hd (Av.out.grown Aa (fun j e=>by have:=(Aj.out.lt j e).1;omega) (by omega))
       have Aw:=Hd (jo Ab HE.out)
       have Az:=Aa.size
       have Bm:=Hd ((HP.out.ag (Ag.new _ hw2)).ag (Ag.grown Aa (fun j e=>by have:=(Aj.out.lt j e).1;rintro ⟨_,h⟩;omega)))
       clear Ab Aa
       have z3:=frozen_of_row w3 (B + 1 + 1) 1 _ _ Ai.out.k3
       have c3:=cell_of_row w3 (B + 1 + 1) 1 _ _ _ Ai.out.k3
       simp only [List.getElem?_toArray,List.getElem?_cons_succ,List.getElem?_cons_zero] at c3
       go_wp2
       go_roundw
       case rel=>exact ⟨k + 1,_,by omega,by omega,by go_num,Ai.out.set1 _,ownsRow_setCell_below Aw.out (by show B + 1 + 1 < _;omega) _,Bm.out.ag (Ag.set _ _ _ (by rintro ⟨h,_⟩;have:B + 3≤B + 1 + 1:=h;omega)),by simp [World.setCell];omega⟩
       case measure=>simp [intOf];omega
     ·have HE:=Hd (ne2 30 10 ms k (by omega) hk Ah)
      have HQ:=Hd ((SlP.owned (HE.out ▸ HO.out)).weak (q:=fun b=>B + 3≤b) (fun b hb=>by have:N1≤b:=hb;omega))
      obtain ⟨ao,no,co,rfl⟩:=HP.out.shape
      obtain ⟨A8,Bc,A1,rfl⟩:=HQ.out.shape
      have c2:=cell_of_row wr B 2 _ _ _ HC.out.k1
      have d0:=cell_of_row wr (B + 1 + 1) 0 _ _ _ HC.out.k3
      have d2:=cell_of_row wr (B + 1 + 1) 2 _ _ _ HC.out.k3
      have z2:=frozen_of_row wr (B + 1 + 1) 2 _ _ HC.out.k3
      have y0:=frozen_of_row wr (B + 1) 0 _ _ HC.out.k2
      have y1:=frozen_of_row wr (B + 1) 1 _ _ HC.out.k2
      have y2:=frozen_of_row wr (B + 1) 2 _ _ HC.out.k2
      have e0:=cell_of_row wr (B + 1) 0 _ _ _ HC.out.k2
      have e1:=cell_of_row wr (B + 1) 1 _ _ _ HC.out.k2
      have e2:=cell_of_row wr (B + 1) 2 _ _ _ HC.out.k2
      simp only [List.getElem?_toArray,List.getElem?_cons_succ,List.getElem?_cons_zero] at c2 d0 d2 e0 e1 e2
      rcases (show (¬ (k:Int) < (ms.length:Int))∨((k:Int) < (ms.length:Int)∧¬ (k:Int) < 10) by omega) with An | ⟨Be,An⟩
      all_goals
       clear hlt
       go_wp2
       have A4:∀ q:Nat→Prop,¬ q (B + 1 + 1)→¬ q (B + 1)→Ag q wr ((((wr.setCell ⟨B + 1 + 1,2,none⟩ (.int .i64 g)).setCell ⟨B + 1,0,none⟩ (.slice ao no co)).setCell ⟨B + 1,1,none⟩ (.slice A8 Bc A1)).setCell ⟨B + 1,2,none⟩ (.int .i64 g)):=
        fun q h2 h1=>(((Ag.set q _ _ h2).trans (Ag.set q _ _ h1)).trans (Ag.set q _ _ h1)).trans (Ag.set q _ _ h1)
       refine bodyPost_ret (v:=.agg #[.slice ao no co,.slice A8 Bc A1,.int .i64 g]) (by simp [results,Tryz.results8,go_sem,e0,e1,e2]) rfl ⟨_,rfl,⟨_,_,rfl,?_,?_,?_,?_⟩,?_⟩
       ·exact ((HP.out.ag (A4 _ (by omega) (by omega))).weak fun b hb=>by have:=Ak.out;omega)
       ·exact ((HQ.out.ag (A4 _ (by omega) (by omega))).weak fun b hb=>by have:=Ak.out;omega)
       ·exact ns2 30 10 ds (by omega)
       ·exact ns2 30 10 ms (by omega)
       ·have Bq:=Ak.out
        exact (((HC.out.below.setCell (by show _≤B + 1 + 1;omega) _).setCell (by show _≤B + 1;omega) _).setCell (by show _≤B + 1;omega) _).setCell (by show _≤B + 1;omega) _
end Go.Proofs.YtjdccifdkjnknaaGreatDoor
namespace Tess
open Go
def nT2 (s:ByteArray) (k:Nat):Prop:=∀ j (h:j < s.size),j < k→(if j=0 then iL s[j] else iR s[j])=true
theorem nameTo_succ {s:ByteArray} {k:Nat} (hk:k < s.size) (h:nT2 s k) (hc:(if k=0 then iL s[k] else iR s[k])=true):nT2 s (k + 1):=by
 intro j hj Aa
 by_cases e:j < k
 ·exact h j hj e
 ·obtain rfl:j=k:=by omega
  exact hc
theorem nLi (l:List UInt8):nameL l=true↔0 < l.length∧∀ j (h:j < l.length),(if j=0 then iL l[j] else iR l[j])=true:=by
 cases l with
 | nil=>simp [nameL]
 | cons c r=>
   simp only [nameL,Bool.and_eq_true,List.all_eq_true,List.length_cons]
   constructor
   ·rintro ⟨h1,h2⟩
    refine ⟨by omega,fun j hj => ?_⟩
    cases j with
    | zero=>simpa using h1
    | succ j=>simpa using h2 _ (List.getElem_mem (by omega))
   ·rintro ⟨_,h⟩
    refine ⟨by simpa using h 0 (by omega),fun x hx => ?_⟩
    obtain ⟨j,hj,rfl⟩:=List.getElem_of_mem hx
    have:=h (j + 1) (by omega)
    rwa [if_neg (by omega),List.getElem_cons_succ] at this
theorem bget (s:ByteArray) (j:Nat) (h:j < s.size):s.data.toList[j]'(by simpa using h)=s[j]:=by simp;rfl
theorem okc_iff (s:ByteArray) (k:Nat) (hk:k < s.size) (c:Nat) (hc:c=s[k].toNat) :
  (if k=0 then iL s[k] else iR s[k])=true↔(97≤c∧c≤122)∨(0 < k∧(c=95∨(48≤c∧c≤57))):=by
 unfold iR iL
 rw [← hc]
 by_cases h:k=0
 ·simp [h]
 ·rw [if_neg h]
  simp only [Bool.or_eq_true,Bool.and_eq_true,decide_eq_true_eq,beq_iff_eq]
  omega
theorem okc_not (s:ByteArray) (k:Nat) (hk:k < s.size) (c:Nat) (hc:c=s[k].toNat) (h:¬ ((97≤c∧c≤122)∨(0 < k∧(c=95∨(48≤c∧c≤57))))) :
  (if k=0 then iL s[k] else iR s[k])=false:=Bool.eq_false_iff.2 fun e=>h ((okc_iff s k hk c hc).1 e)
theorem nameOk_end (s:ByteArray) (h:nT2 s s.size):nO s=(decide (0 < s.size) && decide (s.size≤20)):=by
 have hl:s.data.toList.length=s.size:=by simp
 have e:nameL s.data.toList=decide (0 < s.size):=by
  rw [Bool.eq_iff_iff,nLi,decide_eq_true_iff]
  constructor
  ·exact fun h=>by omega
  ·exact fun h0=>⟨by omega,fun j hj=>by rw [bget s j (by omega)];exact h j (by omega) (by omega)⟩
 unfold nO
 rw [e,Bool.and_comm]
theorem nameOk_not (s:ByteArray) (k:Nat) (hk:k < s.size) (h:(if k=0 then iL s[k] else iR s[k])=false):nO s=false:=by
 unfold nO
 have e:nameL s.data.toList=false:=by
  rw [Bool.eq_false_iff]
  intro hn
  have:=(nLi _).1 hn |>.2 k (by simpa using hk)
  rw [bget s k hk,h] at this
  cases this
 rw [e,Bool.and_false]
end Tess
namespace Go.Proofs.YtjdccifdkjnknaaGreatDoor
open Go.RowKit Go.Sort
theorem ib (w:World) (s:ByteArray) (k:Nat):Below w.heap.size w (w.iter s k):=(Below.refl _ _).alloc (Nat.le_refl _) _
theorem rb2 {a b:Bool} (h:a=b):Ending.returned (.bool a) = .returned (.bool b):=by rw [h]
set_option maxRecDepth 100000 in
theorem isName_zero (w:World) :
  Calls Tryz.prog 107 #[.string ByteArray.empty] w fun e w'=>e = .returned (.bool false)∧Below w.heap.size w w':=by
 have Aa:=@run_range_string Tryz.prog w 9 ByteArray.empty Tryz.underlying9
 have Ab:=fun ty=>run_next_end (P:=Tryz.prog) w ByteArray.empty 0 ty (by decide)
 go_enter Tryz.func107,Tryz.ntmps107
 go_wp2
 refine wp_scope_straight ?_
 go_wp2
 refine wp_label ?_
 go_wp2
 refine wp_loop_rounds 1 ?_
 rw [rounds_succ]
 go_wp2
 try rw [Exit.noGoto_ret]
 go_ret
 exact ⟨rfl,ib _ _ _⟩
set_option maxRecDepth 100000 in
set_option maxHeartbeats 2000000 in
theorem isName_some (s:ByteArray) (w:World) (hs:s.size≤maxLen) (hpos:0 < s.size) :
  Calls Tryz.prog 107 #[.string s] w fun e w'=>e = .returned (.bool (Tess.nO s))∧Below w.heap.size w w':=by
 unfold maxLen at hs
 have Al:=@run_range_string Tryz.prog w 9 s Tryz.underlying9
 have he:s.toList.isEmpty=false:=by
  rw [Tess.tl,List.isEmpty_eq_false_iff]
  intro h
  have:s.data.toList.length=0:=by rw [h];rfl
  have h2:s.data.toList.length=s.size:=by simp
  omega
 have Ao:s.toList.isEmpty=false:=he
 obtain ⟨Ad,Aj⟩:∃ Ad,decide ((s.size:Int)≤20)=Ad:=⟨_,rfl⟩
 have HX:RowKit.Hid (Ad=(decide (0 < s.size) && decide (s.size≤20))):=Hd (by
  rw [← Aj,decide_eq_true hpos,Bool.true_and];exact decide_eq_decide.2 (by omega))
 go_enter Tryz.func107,Tryz.ntmps107
 go_wp2
 all_goals
  refine wp_scope_straight ?_
  go_wp2
  refine wp_label ?_
  go_wp2
  clear Aj
  go_loopw [3] (fun b wr => ∃ k:Nat,k≤s.size∧b = .bool Ad∧wr=w.iter s k∧Tess.nT2 s k) (fun _ wr=>s.size - wr.iterPos w.heap.size)
  case atStart=>exact ⟨0,Nat.zero_le _,rfl,rfl,fun j _ h=>absurd h (by omega)⟩
  case round=>
   obtain ⟨k,hk,rfl,rfl,hN⟩:=hrel
   have HN:=Hd hN
   clear hN
   by_cases hlt:k < s.size
   ·obtain ⟨c,hc⟩:∃ c:Nat,c=s[k].toNat:=⟨_,rfl⟩
    have Aa:c < 256:=by rw [hc];exact UInt8.toNat_lt _
    have Am:RowKit.Hid (∀ (_:(97≤c∧c≤122)∨(0 < k∧(c=95∨(48≤c∧c≤57)))),Tess.nT2 s (k + 1)):=Hd fun h=>Tess.nameTo_succ hlt HN.out ((Tess.okc_iff s k hlt c hc).2 h)
    have Ac:RowKit.Hid (∀ (_:¬ ((97≤c∧c≤122)∨(0 < k∧(c=95∨(48≤c∧c≤57))))),Tess.nO s=false):=Hd fun h=>Tess.nameOk_not s k hlt (Tess.okc_not s k hlt c hc h)
    by_cases h128:c < 128
    ·have Ag:=fun ty=>run_next_ascii (P:=Tryz.prog) w s k ty hlt (by omega)
     rw [← hc] at Ag
     clear hc
     rcases (show ((97:Int)≤c∧(c:Int)≤122)∨((k:Int) < 1∧(c:Int) < 97)∨((k:Int) < 1∧(122:Int) < c)∨((0:Int) < k∧(c:Int)≤95∧(95:Int)≤c)∨((0:Int) < k∧(48:Int)≤c∧(c:Int)≤57)∨((0:Int) < k∧(c:Int) < 48)∨((0:Int) < k∧(57:Int) < c∧(c:Int) < 95)∨((0:Int) < k∧(95:Int) < c∧(c:Int) < 97)∨((0:Int) < k∧(122:Int) < c) by omega) with ⟨h1,h2⟩ | ⟨h1,h2⟩ | ⟨h1,h2⟩ | ⟨h1,h2,h3⟩ | ⟨h1,h2,h3⟩ | ⟨h1,h2⟩ | ⟨h1,h2,h3⟩ | ⟨h1,h2,h3⟩ | ⟨h1,h2⟩
     all_goals
      clear Al h128 Aa
      first | have Af:decide ((97:Int)≤c)=true:=decide_eq_true (by omega) | have Af:decide ((97:Int)≤c)=false:=decide_eq_false (by omega) | skip
      first | have Ab:decide ((c:Int)≤122)=true:=decide_eq_true (by omega) | have Ab:decide ((c:Int)≤122)=false:=decide_eq_false (by omega) | skip
      first | have Ah:decide ((c:Int) < 48)=true:=decide_eq_true (by omega) | have Ah:decide ((c:Int) < 48)=false:=decide_eq_false (by omega) | skip
      first | have Ae:decide ((57:Int) < c)=true:=decide_eq_true (by omega) | have Ae:decide ((57:Int) < c)=false:=decide_eq_false (by omega) | skip
      first | have Ai:((c:Int) != 95)=true:=bne_iff_ne.2 (by omega) | have Ai:((c:Int) != 95)=false:=bne_eq_false_iff_eq.2 (by omega) | skip
      first | have h0:((k:Int) == 0)=true:=beq_iff_eq.2 (by omega) | have h0:((k:Int) == 0)=false:=beq_eq_false_iff_ne.2 (by omega) | skip
      go_wp2
      first
       | exact ⟨⟨k + 1,by omega,rfl,rfl,Am.out (by omega)⟩,by simp only [World.iterPos_iter];omega⟩
       | (try rw [Exit.noGoto_ret]
          go_ret
          exact ⟨rb2 (Ac.out (by omega)).symm,ib _ _ _⟩)
    ·have Ag:=fun ty=>run_next_any (P:=Tryz.prog) w s k ty hlt
     have Ak:=decode_high s k hlt (by omega)
     have An:=decode_le s k
     have Ac:=Hd (Ac.out (by omega))
     generalize Utf8.decode s k=dc at *
     obtain ⟨r,n⟩:=dc
     simp only at Ak An
     obtain ⟨r1,r2⟩:=Ak
     have r3:(122:Int) < r:=by omega
     have r4:((r:Int) != 95)=true:=by rw [bne_iff_ne];omega
     clear hc Am
     rcases (show (k:Int) < 1∨(0:Int) < k by omega) with h1 | h1
     all_goals
      clear Al h128 Aa
      first | have Af:decide ((97:Int)≤r)=true:=decide_eq_true (by omega) | have Af:decide ((97:Int)≤r)=false:=decide_eq_false (by omega) | skip
      first | have Ab:decide ((r:Int)≤122)=true:=decide_eq_true (by omega) | have Ab:decide ((r:Int)≤122)=false:=decide_eq_false (by omega) | skip
      first | have Ah:decide ((r:Int) < 48)=true:=decide_eq_true (by omega) | have Ah:decide ((r:Int) < 48)=false:=decide_eq_false (by omega) | skip
      first | have Ae:decide ((57:Int) < r)=true:=decide_eq_true (by omega) | have Ae:decide ((57:Int) < r)=false:=decide_eq_false (by omega) | skip
      first | have Ai:((r:Int) != 95)=true:=bne_iff_ne.2 (by omega) | have Ai:((r:Int) != 95)=false:=bne_eq_false_iff_eq.2 (by omega) | skip
      first | have h0:((k:Int) == 0)=true:=beq_iff_eq.2 (by omega) | have h0:((k:Int) == 0)=false:=beq_eq_false_iff_ne.2 (by omega) | skip
      go_wp2
      try rw [Exit.noGoto_ret]
      go_ret
      exact ⟨rb2 Ac.out.symm,ib _ _ _⟩
   ·have Ag:=fun ty=>run_next_end (P:=Tryz.prog) w s k ty hlt
    obtain rfl:k=s.size:=by omega
    have HE:=Hd (Tess.nameOk_end s HN.out)
    go_wp2
    try rw [Exit.noGoto_ret]
    go_ret
    exact ⟨rb2 (by rw [HE.out,HX.out]),ib _ _ _⟩
theorem isName_any (s:ByteArray) (w:World) (hs:s.size≤maxLen) :
  Calls Tryz.prog 107 #[.string s] w fun e w'=>e = .returned (.bool (Tess.nO s))∧Below w.heap.size w w':=by
 rcases Nat.eq_zero_or_pos s.size with h | h
 ·have e:s=ByteArray.empty:=ByteArray.ext (Array.eq_empty_of_size_eq_zero h)
  subst e
  exact isName_zero w
 ·exact isName_some s w hs h
end Go.Proofs.YtjdccifdkjnknaaGreatDoor
namespace Go.Proofs.YtjdccifdkjnknaaGreatDoor
open Go.RowKit Go.Sort
set_option maxRecDepth 100000 in
set_option maxHeartbeats 1000000 in
theorem grow_any (n:Nat) (w:World) (h0:0 < n) (hn:n≤1000) :
  Calls Tryz.prog 108 #[.slice none 0 0,.int .i64 n] w fun e w' => ∃ cap,e = .returned (.slice (some ⟨w.heap.size,0,none⟩) 0 cap)∧w'.ownsRow w.heap.size 9 1 (.slice (some ⟨w.heap.size,0,none⟩) 0 cap) 0 []∧Below w.heap.size w w'∧w'.heap.size=w.heap.size + 1:=by
 obtain ⟨i0,hi,Af,Ag,Ad⟩:=info_parts iS2
 have Ab:(Builtin.firstCells i0.size 0 (.slice none 0 0)).run Tryz.prog w.drew = .ok ([]:List Value).toArray w.drew:=run_firstCells_none w.drew i0.size 0 0 0
 have Ac:∀ ty,(Builtin.append_ #[22,3] ty #[.slice none 0 0,.int .i64 (n:Nat)]).run Tryz.prog w=_:=fun ty=>
  Lib.run_append_grow_zeros w 22 3 ty 9 i0 _ .i64 .i64 Tryz.underlying22 Tryz.underlying3 hi Af none 0 0 [] Ab n h0 (by omega) (by omega) (by omega) (by rw [Ad];omega)
   (by have:=growslice_fits (need:=0 + n) (old:=0) (bytes:=i0.bytes) (by omega) (by rw [Ad];omega);simpa using this)
 have Ae:=grownCap_ge w (0 + n) 0 9
 have Aa:=grownCap_le_maxLen w (0 + n) 0 9 (by unfold maxLen;omega)
 rw [Nat.zero_add] at Ac Ae Aa
 obtain ⟨G,hG⟩:∃ G,G=grownCap w n 0 9:=⟨_,rfl⟩
 rw [← hG] at Ac Ae Aa
 have hm:=Aa
 unfold maxLen at hm
 clear hG Ab
 have n1:¬ (n:Int) < 0:=by omega
 have n2:(0:Int) < n:=by omega
 go_enter Tryz.func108,Tryz.ntmps108
 go_wp2_with (at_builtin;refine Lib.wpList_append_run _ rfl _ _ _ _ rfl _ _ rfl rfl _ _ (Ac _) ?_)
 go_ret
 refine ⟨G,rfl,⟨rfl,.inr ⟨w.heap.size,G,_,rfl,Nat.le_refl _,heap_alloc_new w.drew _,Nat.zero_le _,Aa,?_,by simp⟩⟩,(Below.refl _ _).drew.alloc (Nat.le_refl _) _,by simp⟩
 simp [size_zeroCells];omega
end Go.Proofs.YtjdccifdkjnknaaGreatDoor
namespace Tess
open Go
theorem di2 (l:List ByteArray):distinct l=true↔l.Nodup:=by
 induction l with
 | nil=>simp [distinct]
 | cons a r ih=>simp [distinct,ih,List.nodup_cons,hWn]
theorem nOi (l:List ByteArray):nO2 l=true↔l.Nodup∧∀ x ∈ l,nO x=true:=by
 simp [nO2,di2]
end Tess
namespace Go.Maps
variable {H:Type}
theorem aKf (u z:DataW H) (k:Lit):∀ (acc:List Lit) (m:DataW H),k ∉ acc→(acc.foldl (fun m x=>m.put x u) m).atKey k z=m.atKey k z
 | [],m,_=>rfl
 | x :: r,m,h=>by
   rw [List.foldl_cons,aKf u z k r _ (fun e=>h (List.mem_cons_of_mem _ e)),atKey_put_other (show k≠x from fun e=>h (by rw [e];exact List.mem_cons_self))]
theorem aKf2 (u z:DataW H) (k:Lit):∀ (acc:List Lit) (m:DataW H),IsMap m→WideAt.IsKeyLit k→k ∈ acc→(acc.foldl (fun m x=>m.put x u) m).atKey k z=u
 | [],m,_,_,h=>by cases h
 | x :: r,m,hm,hk,h=>by
   rw [List.foldl_cons]
   by_cases e:k ∈ r
   ·exact aKf2 u z k r _ (hm.put x u) hk e
   ·rcases List.mem_cons.1 h with rfl | h
    ·rw [aKf u z k r _ e,atKey_put_same hm hk]
    ·exact absurd h e
end Go.Maps
namespace Go
theorem pEb {H:Type} {P:Program} {e:TypeId} (he:P.underlying e=some .bool) {v:Value} {z:DataW H×List MemPlace} (h:plainElem P e v=some z):∃ c,v = .bool c∧z=(.lit (.bool c),[]):=by
 unfold plainElem at h
 rw [he] at h
 cases v <;> simp at h
 subst h
 exact ⟨_,rfl,rfl⟩
end Go
namespace Go.Proofs.YtjdccifdkjnknaaGreatDoor
open Go.RowKit Go.Sort Go.Maps Go.WideMaps
theorem lawStr:Keyed Tryz.prog 9:=string_keyed Tryz.underlying9
theorem zeroBool (w:World):(zeroValue 4).run Tryz.prog w = .ok (.bool false) w:=by kernel_rfl
def skey (s:ByteArray):Lit:=.string s.data.toList
theorem skey_inj {x y:ByteArray} (h:skey x=skey y):x=y:=by
 unfold skey at h
 exact ByteArray.ext (Array.toList_inj.1 (by simpa using h))
def SA3 (w:World) (b:Nat) (l:List ByteArray) (k:Nat):Prop:=w.ownsMap Tryz.prog 9 (plainElem (H:=Unit) Tryz.prog 4) b k (setOf (.lit (.bool true)) ((l.take k).map skey))
theorem SA3.look {w:World} {b:Nat} {l:List ByteArray} {k:Nat} (h:SA3 w b l k) (x:ByteArray) (hx:x.size≤maxLen) :
  (Instr.lookup 154 (.map (some b)) (.string x) false).run Tryz.prog w = .ok (.bool (Tess.hasW (l.take k) x)) w:=by
 obtain ⟨v,ps,Ab,hv⟩:=World.ownsMap.lookup h lawStr Tryz.underlying154 (zeroBool w) (plainElem_bool Tryz.underlying4 false) (keyOf_string_mk Tryz.underlying9 hx)
 obtain ⟨c,rfl,hc⟩:=pEb Tryz.underlying4 hv
 rw [Ab]
 have Aa:(setOf (H:=Unit) (.lit (.bool true)) ((l.take k).map skey)).atKey (skey x) (.lit (.bool false)) = .lit (.bool c):=(Prod.ext_iff.1 hc).1
 cases hh:Tess.hasW (l.take k) x
 ·rw [Tess.hWn] at hh
  unfold setOf at Aa
  rw [aKf _ _ _ _ _ (fun e=>by obtain ⟨y,hy,e⟩:=List.mem_map.1 e;exact hh (skey_inj e ▸ hy))] at Aa
  have:(DataW.map (H:=Unit) []).atKey (skey x) (.lit (.bool false)) = .lit (.bool false):=rfl
  rw [this] at Aa
  cases Aa;rfl
 ·rw [Tess.hWi] at hh
  unfold setOf at Aa
  rw [aKf2 _ _ _ _ _ isMap_empty (by unfold skey WideAt.IsKeyLit;trivial) (List.mem_map.2 ⟨x,hh,rfl⟩)] at Aa
  cases Aa;rfl
set_option maxRecDepth 100000 in
set_option maxHeartbeats 1000000 in
theorem aNa (v:Value) (l:List ByteArray) (w:World) (hv:SlOf w v (l.map .string)) (hs:∀ x ∈ l,x.size≤maxLen) :
  Calls Tryz.prog 55 #[v] w fun e w'=>e = .returned (.bool (Tess.nO2 l))∧Below w.heap.size w w':=by
 obtain ⟨a,Au,rfl,hl,hc⟩:=so2 hv
 have HC:=Hd hc
 have HS:=Hd hs
 clear hc hv hs
 have Ap:=@run_makeMap Tryz.prog
 go_enter Tryz.func55,Tryz.ntmps55
 go_wp2
 go_loopw [9] (fun i wr => ∃ k:Nat,k≤l.length∧i = .int .i64 k∧SA3 wr w.heap.size l k∧(l.take k).Nodup∧(∀ x ∈ l.take k,Tess.nO x=true)∧Below w.heap.size w wr) (fun i _=>l.length - (intOf i).toNat)
 case atStart=>exact ⟨0,Nat.zero_le _,rfl,World.ownsMap_made _ _ _ _,by simp,by simp,(Below.refl _ _).alloc (Nat.le_refl _) _⟩
 case round=>
  obtain ⟨k,hk,rfl,hm,Ah,Ag,hB⟩:=hrel
  have HM:=Hd hm
  have Ak:=Hd Ah
  have Al:=Hd Ag
  have HB:=Hd hB
  clear hm Ah Ag hB Ap
  by_cases hlt:k < l.length
  ·obtain ⟨b,Am,rfl,hb,Ai⟩:=HC.out k hlt
   have Af:wr.cell? ⟨b,Am + k,none⟩=some (.string l[k]):=(HB.out.cell (p:=⟨b,Am + k,none⟩) hb).trans Ai
   have As:(k:Int) < (l.length:Int):=by omega
   obtain ⟨y,hy⟩:∃ y,y=l[k]:=⟨_,rfl⟩
   rw [← hy] at Af
   have Ab:y.size≤maxLen:=by rw [hy];exact HS.out _ (List.getElem_mem hlt)
   have Ao:=Hd Ab
   have Aa:=SA3.look HM.out y Ab
   have An:=Hd (fun w=>isName_any y w Ab)
   have HT:=Hd (List.take_succ_eq_append_getElem hlt)
   have HY:=Hd hy
   clear hy Ai Ab
   cases hhas:Tess.hasW (l.take k) y
   ·cases hnm:Tess.nO y
    ·rw [hhas] at Aa
     go_wp2_with (go_at_call 107;refine (An.out _).mono ?_;rintro e w2 ⟨rfl,Ad⟩;rw [hnm];have Ae:=Hd (Bt HB.out Ad);clear Ad)
     go_ret
     refine ⟨rb2 ?_,Ae.out⟩
     rw [eq_comm,Bool.eq_false_iff,ne_eq,Tess.nOi]
     rintro ⟨_,h⟩
     have:=h y (by rw [HY.out];exact List.getElem_mem hlt)
     rw [hnm] at this;cases this
    ·rw [hhas] at Aa
     go_wp2_with (first
      | (go_at_call 107;refine (An.out _).mono ?_;rintro e w2 ⟨rfl,Ad⟩;rw [hnm];have Aq:=Hd (World.ownsMap.kept HM.out (Below.gN Ad) (by simp));have Ae:=Hd (Bt HB.out Ad);clear Ad Aa)
      | (at_mapUpdate;refine wpList_mapUpdate_own _ rfl _ _ _ 154 rfl 9 4 lawStr Tryz.underlying154 _ w.heap.size k _ rfl Aq.out (by unfold maxLen;omega) _ _ _ rfl rfl (keyOf_string_mk Tryz.underlying9 Ao.out) _ [] (plainElem_bool Tryz.underlying4 true) ?_;intro w3 Ac Aj;have Ar:=Hd Ac;have At:=Hd (Ae.out.grown Aj Ae.out.size (fun j e=>by cases e;exact Nat.le_refl _));clear Ac Aj))
     go_roundw
     case rel=>
      refine ⟨k + 1,by omega,by go_num,?_,?_,?_,At.out⟩
      ·unfold SA3
       rw [HT.out,List.map_append,List.map_singleton,setOf_snoc,← HY.out]
       exact Ar.out
      ·rw [HT.out,List.nodup_append]
       refine ⟨Ak.out,by simp,fun z hz z' hz' e => ?_⟩
       rw [List.mem_singleton] at hz'
       rw [Tess.hWn] at hhas
       exact hhas (by rw [HY.out,← hz',← e];exact hz)
      ·intro z hz
       rw [HT.out,List.mem_append,List.mem_singleton] at hz
       rcases hz with hz | rfl
       ·exact Al.out z hz
       ·rw [← HY.out];exact hnm
     case measure=>simp [intOf];omega
   ·rw [hhas] at Aa
    go_wp2_with fail
    go_ret
    refine ⟨rb2 ?_,HB.out⟩
    rw [eq_comm,Bool.eq_false_iff,ne_eq,Tess.nOi]
    rintro ⟨h,_⟩
    rw [Tess.hWi] at hhas
    have h1:(l.take (k + 1)).Nodup:=List.Sublist.nodup (List.take_sublist _ _) h
    rw [HT.out,List.nodup_append] at h1
    exact h1.2.2 y hhas y (by rw [HY.out];simp) rfl
  ·have As:¬ (k:Int) < (l.length:Int):=by omega
   have e:l.take k=l:=List.take_of_length_le (by omega)
   have HE:=Hd e
   clear e
   go_wp2
   go_ret
   exact ⟨rb2 ((Tess.nOi l).2 ⟨HE.out ▸ Ak.out,HE.out ▸ Al.out⟩).symm,HB.out⟩
end Go.Proofs.YtjdccifdkjnknaaGreatDoor
namespace Go.Proofs.YtjdccifdkjnknaaGreatDoor
open Go.RowKit Go.Sort
set_option maxRecDepth 100000 in
set_option maxHeartbeats 2000000 in
theorem concat_any (b:Nat) (vd vm:Value) (ds ms:List ByteArray) (w:World) (hd:SlOf w vd (ds.map .string)) (hm:SlOf w vm (ms.map .string)) (hnil:NilOk vm) (h1:1≤ds.length) (h2:ds.length≤6) (h3:ms.length≤4)
  (c0:w.cell? ⟨b,0,none⟩=some vd) (c1:w.cell? ⟨b,1,none⟩=some vm) :
  Calls Tryz.prog 56 #[.slice (some ⟨b,0,none⟩) 2 2] w fun e w' => ∃ v',e = .returned v'∧SlOf w' v' ((ds ++ ms).map .string)∧Below w.heap.size w w':=by
 obtain ⟨_,ad,Aq,rfl,Ap⟩:=hd
 obtain ⟨_,am,Aj,rfl,Ag⟩:=hm
 simp only [List.length_map] at Ap Ag c0 c1
 obtain ⟨db,Ac,rfl,Bd,At⟩:=Ap (by omega)
 have A3:=Hd At
 have Ax:=Hd Ag
 clear Ap At Ag
 obtain ⟨nd,Am⟩:∃ nd,ds.length=nd:=⟨_,rfl⟩
 obtain ⟨nm,An⟩:∃ nm,ms.length=nm:=⟨_,rfl⟩
 rw [Am] at h1 h2 c0
 rw [An] at h3 c1
 have Be:=Hd Am
 have As:=Hd An
 clear Am An
 have e1:((nd:Int) + (nm:Int))=((nd + nm:Nat):Int):=by omega
 have Ak:=World.block_lt_of_cell? w _ c0
 simp only at Ak
 obtain ⟨i0,hi,Av,Aw,Ay⟩:=info_parts iS2
 have HG:=Hd (grow_any (nd + nm) w (by omega) (by omega))
 have A7:=Hd e1
 clear e1
 go_enter Tryz.func56,Tryz.ntmps56
 go_wp2_with fail
 refine wp_loop_rounds 3 ?_
 rw [rounds_succ]
 go_wp2_with fail
 rw [rounds_succ]
 go_wp2_with fail
 rw [rounds_succ]
 go_wp2_with (go_at_call 108;rw [A7.out];refine HG.out.mono ?_;rintro e w1 ⟨G,rfl,Ai,Au,Az⟩;have HO:=Hd Ai;have Af:=Hd Au;have Bi:=Hd Az;clear Ai Au Az)
 have A6:=(Af.out.cell (p:=⟨b,0,none⟩) Ak).trans c0
 have A5:=(Af.out.cell (p:=⟨b,1,none⟩) Ak).trans c1
 refine wp_loop_rounds 3 ?_
 rw [rounds_succ]
 go_wp2_with (at_builtin;refine wpList_append_own _ rfl _ _ 22 rfl w.heap.size 9 i0 (.string ByteArray.empty) 1 16 Tryz.underlying22 hi Av Aw Ay rfl (by decide) _ 0 [] rfl HO.out ⟨db,Ac,none⟩ nd Aq (ds.map .string) rfl ?_ ?_ ?_ ?_ ?_ ?_ ?_)
 ·rw [List.length_map,Be.out,Nat.mul_one]
 ·intro j u hj
  rw [List.getElem?_map] at hj
  obtain ⟨x,hx,rfl⟩:=Option.map_eq_some_iff.1 hj
  obtain ⟨Ao,rfl⟩:=List.getElem?_eq_some_iff.1 hx
  have:=A3.out j Ao
  rw [show (⟨db,Ac,none⟩:Addr).add j=⟨db,Ac + j,none⟩ by unfold Addr.add;split <;> simp_all]
  rw [Af.out.cell (p:=⟨db,Ac + j,none⟩) Bd]
  simpa using this
 ·intro u hu;obtain ⟨x,_,rfl⟩:=List.mem_map.1 hu;rfl
 ·unfold maxLen;omega
 ·omega
 ·exact Af.out.size
 intro v2 w2 Aa A1 _
 obtain ⟨g2,Bh,rfl,_⟩:=oc2 Aa (by omega)
 have Al:=Hd Aa
 have Ar:=Af.out.grown A1 Af.out.size (fun j e=>(HO.out.lt j e).1)
 have Ae:=Hd Ar
 have Bg:=(Ar.cell (p:=⟨b,1,none⟩) Ak).trans c1
 clear Aa A1 Ar A6 A5
 go_wp2
 rw [rounds_succ]
 have Bc:=Ae.out.size
 cases am with
 | none=>
   have Ba:Aj=0:=hnil _ _ rfl
   subst Ba
   have h0:nm=0:=by
    rcases Nat.eq_zero_or_pos nm with h | h
    ·exact h
    ·obtain ⟨_,_,e,_⟩:=Ax.out (by rw [As.out];exact h)
     cases e
   subst h0
   have he:ms=[]:=List.eq_nil_of_length_eq_zero As.out
   go_wp2_with (at_builtin;refine wpList_append_own_none rfl _ _ 22 rfl w.heap.size 9 i0 1 Tryz.underlying22 hi _ _ _ rfl Al.out rfl ?_)
   rw [rounds_succ]
   go_wp2
   go_ret
   refine ⟨_,rfl,?_,Ae.out⟩
   rw [he,List.append_nil]
   simpa using SlOf.owned Al.out
 | some ma=>
   obtain ⟨mb,Ab,A0⟩:=ma
   have Ag:∀ j u,(ms.map Value.string)[j]? = some u→w2.cell? ((⟨mb,Ab,A0⟩:Addr).add j)=some u:=by
    intro j u hj
    obtain ⟨Ao,rfl⟩:=List.getElem?_eq_some_iff.1 hj
    have A8:j < ms.length:=by simpa using Ao
    obtain ⟨b',A9,e,A4,Ah⟩:=Ax.out (by omega)
    cases e
    rw [show (⟨mb,Ab,none⟩:Addr).add j=⟨mb,Ab + j,none⟩ by unfold Addr.add;split <;> simp_all]
    rw [Ae.out.cell (p:=⟨mb,Ab + j,none⟩) A4]
    exact Ah j A8
   have HX:=Hd Ag
   clear Ag
   go_wp2_with (at_builtin;refine wpList_append_own _ rfl _ _ 22 rfl w.heap.size 9 i0 (.string ByteArray.empty) 1 16 Tryz.underlying22 hi Av Aw Ay rfl (by decide) _ _ _ rfl Al.out ⟨mb,Ab,A0⟩ nm Aj (ms.map .string) rfl ?_ HX.out ?_ ?_ ?_ ?_ ?_)
   ·rw [List.length_map,As.out,Nat.mul_one]
   ·intro u hu;obtain ⟨x,_,rfl⟩:=List.mem_map.1 hu;rfl
   ·unfold maxLen;omega
   ·omega
   ·exact Ae.out.size
   intro v3 w3 Ad A2 _
   have Bb:=Hd Ad
   have Bf:=Hd (Ae.out.grown A2 Ae.out.size (fun j e=>(Al.out.lt j e).1))
   clear Ad A2
   go_wp2
   rw [rounds_succ]
   go_wp2
   go_ret
   refine ⟨_,rfl,?_,Bf.out⟩
   rw [List.map_append]
   simpa using SlOf.owned Bb.out
theorem swithin_any (n a b:Nat) (w:World):Calls Tryz.prog 54 #[.int .i64 n,.int .i64 a,.int .i64 b] w fun e w'=>e = .returned (.bool (Tess.Fil.inW n (a,b)))∧w=w':=by
 unfold Tess.Fil.inW
 by_cases h1:a≤n
 ·have Ab:(a:Int)≤(n:Int):=by omega
  have Aa:decide ((a:Int)≤(n:Int))=true:=decide_eq_true Ab
  obtain ⟨r,hr⟩:∃ r,decide (n≤b)=r:=⟨_,rfl⟩
  have Ac:decide ((n:Int)≤(b:Int))=r:=by rw [← hr];exact decide_eq_decide.2 (by omega)
  rw [decide_eq_true h1,hr]
  go_enter Tryz.func54,Tryz.ntmps54
  go_wp2
  go_ret
  exact ⟨rfl,rfl⟩
 ·have Aa:decide ((a:Int)≤(n:Int))=false:=decide_eq_false (by omega)
  rw [decide_eq_false h1,Bool.false_and]
  go_enter Tryz.func54,Tryz.ntmps54
  go_wp2
  go_ret
  exact ⟨rfl,rfl⟩
theorem sl3 {p:Nat→Prop} {w:World} {v:Value} {l:List ByteArray} (h:SlP p w v (l.map .string)):∃ a cap,v = .slice a l.length cap∧l.length≤9223372036854775807:=by
 obtain ⟨a,cap,hv,hl,_⟩:=so2 h.1
 exact ⟨a,cap,hv,hl⟩
end Go.Proofs.YtjdccifdkjnknaaGreatDoor
