/- What a cell and another one come to, in place: the program's add, walked. -/
import Derived.Test.YtjdccifdkjnknaaGreatDoorAC18
import Derived.Test.YtjdccifdkjnknaaGreatDoorAC03
namespace Go.Proofs.YtjdccifdkjnknaaGreatDoor
open Go.RowKit Go.Sort
open Tess (CK Pay)
structure Adds (B:Nat) (M:Nat) (S:Nat→Prop) (t n:Int) (vd vs vm vx:Value) (us um ux:Value) (s1 m1 x1 s2 m2 x2:List Int) (W:World):Prop where
 box:W.heap[B]? = some (.cells #[.int .i64 t,vd,.int .i64 n,vs,vm,vx] 80 (0,0))
 ls:RA 2 wF (fun _=>True) W vs s1
 lm:RA 1 intF (fun _=>True) W vm m1
 lx:RA 1 intF (fun _=>True) W vx x1
 fs:Fr W vs
 fm:Fr W vm
 fx:Fr W vx
 ks:RA 2 wF (fun b => ¬ S b) W us s2
 km:RA 1 intF (fun b => ¬ S b) W um m2
 kx:RA 1 intF (fun b => ¬ S b) W ux x2
theorem Adds.below {B M:Nat} {S:Nat→Prop} {t n:Int} {vd vs vm vx us um ux:Value} {s1 m1 x1 s2 m2 x2:List Int} {W W':World} (h:Adds B M S t n vd vs vm vx us um ux s1 m1 x1 s2 m2 x2 W) (hb:Below W.heap.size W W'):Adds B M S t n vd vs vm vx us um ux s1 m1 x1 s2 m2 x2 W':=
 ⟨(hb.block _ (Array.getElem?_eq_some_iff.1 h.box).1).trans h.box,h.ls.ag (Ag.new _ hb),h.lm.ag (Ag.new _ hb),h.lx.ag (Ag.new _ hb),h.fs.below hb,h.fm.below hb,h.fx.below hb,h.ks.ag (Ag.new _ hb),h.km.ag (Ag.new _ hb),h.kx.ag (Ag.new _ hb)⟩
structure Wr (B:Nat) (vs vm vx:Value) (S:Nat→Prop):Prop where
 b:S B
 s:∀ b,blkN vs=some b→S b∧b≠B
 m:∀ b,blkN vm=some b→S b∧b≠B
 x:∀ b,blkN vx=some b→S b∧b≠B
 sm:∀ b,blkN vs=some b→blkN vm≠some b
 sx:∀ b,blkN vs=some b→blkN vx≠some b
 mx:∀ b,blkN vm=some b→blkN vx≠some b
theorem RA.keep {α:Type} {k:Nat} {f:α→List Value} {p:Nat→Prop} {W W':World} {v:Value} {l:List α} (h:RA k f p W v l) (hsz:W.heap.size≤W'.heap.size) (hs:∀ b,blkN v=some b→W'.heap[b]? = W.heap[b]?):RA k f p W' v l:=by
 obtain ⟨a,c,rfl,h1,h2,h3,h4⟩:=h
 refine ⟨a,c,rfl,h1,h2,h3,fun hl => ?_⟩
 obtain ⟨b,Aa,rfl,hb,hp,hc⟩:=h4 hl
 exact ⟨b,Aa,rfl,Nat.lt_of_lt_of_le hb hsz,hp,fun j hj i hi=>(World.cell?_of_block (hs b (bNs hl))).trans (hc j hj i hi)⟩
section
variable {B M:Nat} {S:Nat→Prop} {t n:Int} {vd vs vm vx us um ux:Value} {s1 m1 x1 s2 m2 x2:List Int} {W:World}
theorem sCs (W:World) (a:Addr) (v:Value):(W.setCell a v).heap.size=W.heap.size:=by simp [World.setCell]
theorem Adds.setN (h:Adds B M S t n vd vs vm vx us um ux s1 m1 x1 s2 m2 x2 W) (hw:Wr B vs vm vx S) (n':Int):Adds B M S t n' vd vs vm vx us um ux s1 m1 x1 s2 m2 x2 (W.setCell ⟨B,2,none⟩ (.int .i64 n')):=by
 have ho:∀ b,b≠B→(W.setCell ⟨B,2,none⟩ (.int .i64 n')).heap[b]? = W.heap[b]? := fun b hb=>heap_setCell_other _ _ _ _ hb
 have hz:W.heap.size≤(W.setCell ⟨B,2,none⟩ (.int .i64 n')).heap.size:=by rw [sCs];exact Nat.le_refl _
 exact ⟨heap_setCell_same _ _ 2 _ _ _ h.box,h.ls.keep hz fun b hb=>ho b (hw.s b hb).2,h.lm.keep hz fun b hb=>ho b (hw.m b hb).2,h.lx.keep hz fun b hb=>ho b (hw.x b hb).2,
  h.fs.same fun b hb=>ho b (hw.s b hb).2,h.fm.same fun b hb=>ho b (hw.m b hb).2,h.fx.same fun b hb=>ho b (hw.x b hb).2,
  h.ks.ag ⟨hz,fun b _ hb=>ho b fun e=>hb (e ▸ hw.b)⟩,h.km.ag ⟨hz,fun b _ hb=>ho b fun e=>hb (e ▸ hw.b)⟩,h.kx.ag ⟨hz,fun b _ hb=>ho b fun e=>hb (e ▸ hw.b)⟩⟩
theorem Adds.setS {b off c:Nat} (h:Adds B M S t n vd (.slice (some ⟨b,off,none⟩) M c) vm vx us um ux s1 m1 x1 s2 m2 x2 W) (hw:Wr B (.slice (some ⟨b,off,none⟩) M c) vm vx S) (hl:s1.length=M) {k:Nat} (hk:k < s1.length) (x:Int) :
  Adds B M S t n vd (.slice (some ⟨b,off,none⟩) M c) vm vx us um ux (s1.set k x) m1 x1 s2 m2 x2 ((W.setCell ⟨b,off + k * 2,none⟩ (.int .i64 (wHi x))).setCell ⟨b,off + k * 2 + 1,none⟩ (.int .u64 (wLo x))):=by
 subst hl
 have hb:=bNs (b:=b) (off:=off) (c:=c) (show 0 < s1.length by omega)
 have ho:∀ g,g≠b→((W.setCell ⟨b,off + k * 2,none⟩ (.int .i64 (wHi x))).setCell ⟨b,off + k * 2 + 1,none⟩ (.int .u64 (wLo x))).heap[g]? = W.heap[g]? := fun g hg=>(heap_setCell_other _ _ _ _ hg).trans (heap_setCell_other _ _ _ _ hg)
 have hz:W.heap.size≤((W.setCell ⟨b,off + k * 2,none⟩ (.int .i64 (wHi x))).setCell ⟨b,off + k * 2 + 1,none⟩ (.int .u64 (wLo x))).heap.size:=by rw [sCs,sCs];exact Nat.le_refl _
 obtain ⟨q1,q2⟩:=h.ls.set2 h.fs hk x
 have hs:=(hw.s b hb).1
 exact ⟨(ho B fun e=>(hw.s b hb).2 e.symm).trans h.box,q1,h.lm.keep hz fun g hg=>ho g fun e=>hw.sm b hb (e ▸ hg),h.lx.keep hz fun g hg=>ho g fun e=>hw.sx b hb (e ▸ hg),
  q2,h.fm.same fun g hg=>ho g fun e=>hw.sm b hb (e ▸ hg),h.fx.same fun g hg=>ho g fun e=>hw.sx b hb (e ▸ hg),
  h.ks.ag ⟨hz,fun g _ hg=>ho g fun e=>hg (e ▸ hs)⟩,h.km.ag ⟨hz,fun g _ hg=>ho g fun e=>hg (e ▸ hs)⟩,h.kx.ag ⟨hz,fun g _ hg=>ho g fun e=>hg (e ▸ hs)⟩⟩
theorem Adds.setM {b off c:Nat} (h:Adds B M S t n vd vs (.slice (some ⟨b,off,none⟩) M c) vx us um ux s1 m1 x1 s2 m2 x2 W) (hw:Wr B vs (.slice (some ⟨b,off,none⟩) M c) vx S) (hl:m1.length=M) {k:Nat} (hk:k < m1.length) (x:Int) :
  Adds B M S t n vd vs (.slice (some ⟨b,off,none⟩) M c) vx us um ux s1 (m1.set k x) x1 s2 m2 x2 (W.setCell ⟨b,off + k,none⟩ (.int .i64 x)):=by
 subst hl
 have hb:=bNs (b:=b) (off:=off) (c:=c) (show 0 < m1.length by omega)
 have ho:∀ g,g≠b→(W.setCell ⟨b,off + k,none⟩ (.int .i64 x)).heap[g]? = W.heap[g]? := fun g hg=>heap_setCell_other _ _ _ _ hg
 have hz:W.heap.size≤(W.setCell ⟨b,off + k,none⟩ (.int .i64 x)).heap.size:=by rw [sCs];exact Nat.le_refl _
 obtain ⟨q1,q2⟩:=h.lm.set1 h.fm hk x
 have hs:=(hw.m b hb).1
 exact ⟨(ho B fun e=>(hw.m b hb).2 e.symm).trans h.box,h.ls.keep hz fun g hg=>ho g fun e=>hw.sm g hg (e ▸ hb),q1,h.lx.keep hz fun g hg=>ho g fun e=>hw.mx b hb (e ▸ hg),
  h.fs.same fun g hg=>ho g fun e=>hw.sm g hg (e ▸ hb),q2,h.fx.same fun g hg=>ho g fun e=>hw.mx b hb (e ▸ hg),
  h.ks.ag ⟨hz,fun g _ hg=>ho g fun e=>hg (e ▸ hs)⟩,h.km.ag ⟨hz,fun g _ hg=>ho g fun e=>hg (e ▸ hs)⟩,h.kx.ag ⟨hz,fun g _ hg=>ho g fun e=>hg (e ▸ hs)⟩⟩
theorem Adds.setX {b off c:Nat} (h:Adds B M S t n vd vs vm (.slice (some ⟨b,off,none⟩) M c) us um ux s1 m1 x1 s2 m2 x2 W) (hw:Wr B vs vm (.slice (some ⟨b,off,none⟩) M c) S) (hl:x1.length=M) {k:Nat} (hk:k < x1.length) (x:Int) :
  Adds B M S t n vd vs vm (.slice (some ⟨b,off,none⟩) M c) us um ux s1 m1 (x1.set k x) s2 m2 x2 (W.setCell ⟨b,off + k,none⟩ (.int .i64 x)):=by
 subst hl
 have hb:=bNs (b:=b) (off:=off) (c:=c) (show 0 < x1.length by omega)
 have ho:∀ g,g≠b→(W.setCell ⟨b,off + k,none⟩ (.int .i64 x)).heap[g]? = W.heap[g]? := fun g hg=>heap_setCell_other _ _ _ _ hg
 have hz:W.heap.size≤(W.setCell ⟨b,off + k,none⟩ (.int .i64 x)).heap.size:=by rw [sCs];exact Nat.le_refl _
 obtain ⟨q1,q2⟩:=h.lx.set1 h.fx hk x
 have hs:=(hw.x b hb).1
 exact ⟨(ho B fun e=>(hw.x b hb).2 e.symm).trans h.box,h.ls.keep hz fun g hg=>ho g fun e=>hw.sx g hg (e ▸ hb),h.lm.keep hz fun g hg=>ho g fun e=>hw.mx g hg (e ▸ hb),q1,
  h.fs.same fun g hg=>ho g fun e=>hw.sx g hg (e ▸ hb),h.fm.same fun g hg=>ho g fun e=>hw.mx g hg (e ▸ hb),q2,
  h.ks.ag ⟨hz,fun g _ hg=>ho g fun e=>hg (e ▸ hs)⟩,h.km.ag ⟨hz,fun g _ hg=>ho g fun e=>hg (e ▸ hs)⟩,h.kx.ag ⟨hz,fun g _ hg=>ho g fun e=>hg (e ▸ hs)⟩⟩
end
def two (g h:Nat) (Z Y Z' Y':Obj):FlowR.Rel where
 r w w':=w'.os=w.os∧w'.tape=w.tape∧w'.output=w.output∧w.heap.size≤w'.heap.size∧(∀ k,k < w.heap.size→k≠g→k≠h→w'.heap[k]? = w.heap[k]?) ∧
   (w'.heap[g]? = w.heap[g]? ∨ (w.heap[g]? = some Z∧w'.heap[g]? = some Y))∧(w'.heap[h]? = w.heap[h]? ∨ (w.heap[h]? = some Z'∧w'.heap[h]? = some Y'))
 rf w:=⟨rfl,rfl,rfl,Nat.le_refl _,fun _ _ _ _=>rfl,.inl rfl,.inl rfl⟩
 tr:=by
  rintro a b c ⟨h1,h2,h3,h4,h5,h6,h7⟩ ⟨k1,k2,k3,k4,k5,k6,k7⟩
  refine ⟨k1.trans h1,k2.trans h2,k3.trans h3,Nat.le_trans h4 k4,fun k hk hg hh=>(k5 k (Nat.lt_of_lt_of_le hk h4) hg hh).trans (h5 k hk hg hh),?_,?_⟩
  ·rcases h6 with e1 | ⟨e1,e1'⟩ <;> rcases k6 with e2 | ⟨e2,e2'⟩
   ·exact .inl (e2.trans e1)
   ·exact .inr ⟨e1 ▸ e2,e2'⟩
   ·exact .inr ⟨e1,e2.trans e1'⟩
   ·exact .inr ⟨e1,e2'⟩
  ·rcases h7 with e1 | ⟨e1,e1'⟩ <;> rcases k7 with e2 | ⟨e2,e2'⟩
   ·exact .inl (e2.trans e1)
   ·exact .inr ⟨e1 ▸ e2,e2'⟩
   ·exact .inr ⟨e1,e2.trans e1'⟩
   ·exact .inr ⟨e1,e2'⟩
 drew w:=⟨rfl,rfl,rfl,Nat.le_refl _,fun _ _ _ _=>rfl,.inl rfl,.inl rfl⟩
theorem ta5 {g h:Nat} {Z Y Z' Y':Obj} {w w':World} (hr:(two g h Z Y Z' Y').r w w') {b o:Nat} (hb:b < w.heap.size) (hg:b≠g) (hh:b≠h):w'.cell? ⟨b,o,none⟩=w.cell? ⟨b,o,none⟩:=
 World.cell?_of_block (a:=⟨b,o,none⟩) (hr.2.2.2.2.1 b hb hg hh)
def tu (g:Nat) (Y:Obj) (_:Value) (w:World):Prop:=w.heap[g]? = some Y
theorem tm2 {g h:Nat} {Z Y Z' Y':Obj}:FlowR.Spec.mono (two g h Z Y Z' Y') (.inr (tu g Y)):=by
 rintro v a b hp hr
 rcases hr.2.2.2.2.2.1 with e | ⟨_,e⟩
 ·exact e.trans hp
 ·exact e
theorem tm3 {g h:Nat} {Z Y Z' Y':Obj}:FlowR.Spec.mono (two g h Z Y Z' Y') (.inr (tu h Y')):=by
 rintro v a b hp hr
 rcases hr.2.2.2.2.2.2 with e | ⟨_,e⟩
 ·exact e.trans hp
 ·exact e
def orV (u v:Value) (x:Value) (_:World):Prop:=x=u∨x=v
theorem orV_mono {R:FlowR.Rel} (u v:Value):FlowR.Spec.mono R (.inr (orV u v)):=fun _ _ _ h _=>h
theorem st3 (cur:Array Value) (i:Nat) (x:Value):(cur.setIfInBounds i x).setIfInBounds i x=cur.setIfInBounds i x:=by simp
theorem two_set1 {g h o:Nat} {c2 cur:Array Value} {T:TypeId} {Z' Y':Obj} {x:Value} {w0 w:World} (hw:(two g h (.cells cur T (0,0)) (.cells (cur.setIfInBounds o x) T (0,0)) Z' Y').r w0 w) (h0:w0.heap[g]? = some (.cells cur T (0,0))) (hc:w.heap[g]? = some (.cells c2 T (0,0))) (ht:c2.setIfInBounds o x=cur.setIfInBounds o x) (hgh:h≠g) :
  (two g h (.cells cur T (0,0)) (.cells (cur.setIfInBounds o x) T (0,0)) Z' Y').r w (w.setCell ⟨g,o,none⟩ x)∧(w.setCell ⟨g,o,none⟩ x).heap[g]? = some (.cells (cur.setIfInBounds o x) T (0,0)):=by
 have hs:=heap_setCell_same w g o c2 T x hc
 rw [ht] at hs
 refine ⟨⟨rfl,rfl,rfl,by rw [sCs];exact Nat.le_refl _,fun k _ hk _=>heap_setCell_other _ _ _ _ hk,?_,.inl (heap_setCell_other _ _ _ _ hgh)⟩,hs⟩
 rcases hw.2.2.2.2.2.1 with e | ⟨_,e⟩
 ·exact .inr ⟨e.trans h0,hs⟩
 ·exact .inl (hs.trans e.symm)
theorem two_set2 {g h o:Nat} {c2 cur:Array Value} {T:TypeId} {Z' Y':Obj} {x:Value} {w0 w:World} (hw:(two h g Z' Y' (.cells cur T (0,0)) (.cells (cur.setIfInBounds o x) T (0,0))).r w0 w) (h0:w0.heap[g]? = some (.cells cur T (0,0))) (hc:w.heap[g]? = some (.cells c2 T (0,0))) (ht:c2.setIfInBounds o x=cur.setIfInBounds o x) (hgh:h≠g) :
  (two h g Z' Y' (.cells cur T (0,0)) (.cells (cur.setIfInBounds o x) T (0,0))).r w (w.setCell ⟨g,o,none⟩ x)∧(w.setCell ⟨g,o,none⟩ x).heap[g]? = some (.cells (cur.setIfInBounds o x) T (0,0)):=by
 have hs:=heap_setCell_same w g o c2 T x hc
 rw [ht] at hs
 refine ⟨⟨rfl,rfl,rfl,by rw [sCs];exact Nat.le_refl _,fun k _ _ hk=>heap_setCell_other _ _ _ _ hk,.inl (heap_setCell_other _ _ _ _ hgh),?_⟩,hs⟩
 rcases hw.2.2.2.2.2.2 with e | ⟨_,e⟩
 ·exact .inr ⟨e.trans h0,hs⟩
 ·exact .inl (hs.trans e.symm)
theorem two_end {g h o o':Nat} {cur cur':Array Value} {T T':TypeId} {x x':Value} {w w':World} {Y Y':Obj} (eY:Y = .cells (cur.setIfInBounds o x) T (0,0)) (eY':Y' = .cells (cur'.setIfInBounds o' x') T' (0,0))
  (hr:(two g h (.cells cur T (0,0)) Y (.cells cur' T' (0,0)) Y').r w w') (h0:w.heap[g]? = some (.cells cur T (0,0))) (h0':w.heap[h]? = some (.cells cur' T' (0,0))) (hgh:h≠g) (t1:w'.heap[g]? = some Y) (t2:w'.heap[h]? = some Y') :
  Below ((w.setCell ⟨g,o,none⟩ x).setCell ⟨h,o',none⟩ x').heap.size ((w.setCell ⟨g,o,none⟩ x).setCell ⟨h,o',none⟩ x') w':=by
 subst eY eY'
 refine ⟨hr.1,hr.2.1,hr.2.2.1,by rw [sCs,sCs];exact hr.2.2.2.1,fun k hk => ?_⟩
 rw [sCs,sCs] at hk
 by_cases e1:k=h
 ·subst e1
  exact t2.trans (heap_setCell_same _ _ _ _ _ _ ((heap_setCell_other _ _ _ _ hgh).trans h0')).symm
 ·refine Eq.trans ?_ (heap_setCell_other _ _ _ _ e1).symm
  by_cases e2:k=g
  ·subst e2
   exact t1.trans (heap_setCell_same _ _ _ _ _ _ h0).symm
  ·exact (hr.2.2.2.2.1 k hk e2 e1).trans (heap_setCell_other _ _ _ _ e2).symm
def isV (u:Value) (v:Value) (_:World):Prop:=v=u
theorem iVm (u:Value):Flow.Spec.mono (.inr (isV u)):=fun _ _ _ h _=>h
theorem RA.num1 {p:Nat→Prop} {w:World} {a:Option Addr} {n c:Nat} {l:List Int} (h:RA 1 intF p w (.slice a n c) l) {k:Nat} (hk:k < l.length):∃ b off,a=some ⟨b,off,none⟩∧b < w.heap.size∧w.cell? ⟨b,off + k,none⟩=some (.int .i64 l[k]):=by
 obtain ⟨a',c',hv,_,_,hc⟩:=h.sM rfl
 cases hv
 obtain ⟨b,off,ha,hb,_,Aa⟩:=hc k hk
 exact ⟨b,off,ha,hb,by have:=Aa 0 (by omega);rw [Nat.mul_one,Nat.add_zero] at this;exact this⟩
theorem RA.num2 {p:Nat→Prop} {w:World} {a:Option Addr} {n c:Nat} {l:List Int} (h:RA 2 wF p w (.slice a n c) l) {k:Nat} (hk:k < l.length):∃ b off,a=some ⟨b,off,none⟩∧b < w.heap.size∧w.cell? ⟨b,off + k * 2,none⟩=some (.int .i64 (wHi l[k]))∧w.cell? ⟨b,off + k * 2 + 1,none⟩=some (.int .u64 (wLo l[k])):=by
 obtain ⟨a',c',hv,_,_,hc⟩:=h.sM rfl
 cases hv
 obtain ⟨b,off,ha,hb,_,Aa⟩:=hc k hk
 exact ⟨b,off,ha,hb,Aa 0 (by omega),Aa 1 (by omega)⟩
set_option maxRecDepth 100000 in
set_option maxHeartbeats 8000000 in
theorem add_any (B M:Nat) (S:Nat→Prop) (t n t2 n2:Int) (vd vs vm vx us um ux:Value) (s1 m1 x1 s2 m2 x2:List Int) (da ea:Option Addr) (dn dc en ec:Nat) (w:World)
  (h:Adds B M S t n vd vs vm vx us um ux s1 m1 x1 s2 m2 x2 w) (hw:Wr B vs vm vx S) (hvd:vd = .slice da dn dc)
  (l1:s1.length=M) (l2:m1.length=M) (l3:x1.length=M) (l4:s2.length=M) (l5:m2.length=M) (l6:x2.length=M)
  (hr:I64 (n + n2)) (hwr:∀ j (h1:j < s1.length) (h2:j < s2.length),WOk (s1[j] + s2[j])) :
  Calls Tryz.prog 64 #[.pointer (some ⟨B,0,none⟩),.agg #[.int .i64 t2,.slice ea en ec,.int .i64 n2,us,um,ux]] w
   fun e w'=>e = .returned (.tuple #[])∧Adds B M S t (n + n2) vd vs vm vx us um ux (List.zipWith (· + ·) s1 s2) (List.zipWith min m1 m2) (List.zipWith max x1 x2) s2 m2 x2 w'∧Tch S w w':=by
 subst hvd
 have HH:=Hd h
 have Ae:=Hd hw
 have B5:=Hd hwr
 obtain ⟨a3,c3,rfl,_,hM,_⟩:=h.ls.sM l1
 obtain ⟨a4,c4,rfl,_,_,_⟩:=h.lm.sM l2
 obtain ⟨a5,c5,rfl,_,_,_⟩:=h.lx.sM l3
 obtain ⟨b3,d3,rfl,_,_,_⟩:=h.ks.sM l4
 obtain ⟨b4,d4,rfl,_,_,_⟩:=h.km.sM l5
 obtain ⟨b5,d5,rfl,_,_,_⟩:=h.kx.sM l6
 have Ci:IntKind.i64.wrap (n + n2)=n + n2:=by unfold I64 at hr;rw [IntKind.wrap_i64];omega
 clear hwr hr
 obtain ⟨W0,Bh⟩:∃ W0,w.alloc (.cells #[.int .i64 t2,.slice ea en ec,.int .i64 n2,.slice b3 M d3,.slice b4 M d4,.slice b5 M d5] 56)=W0:=⟨_,rfl⟩
 obtain ⟨k0,kS,kB⟩:=la2 w (.cells #[.int .i64 t2,.slice ea en ec,.int .i64 n2,.slice b3 M d3,.slice b4 M d4,.slice b5 M d5] 56)
 rw [Bh] at k0 kS kB
 have A4:=Hd (h.below kB)
 have Bz:B < w.heap.size:=(Array.getElem?_eq_some_iff.1 h.box).1
 obtain ⟨⟨y0,y1,y2,y3,y4,y5⟩,z0,z1,z2,z3,z4,z5⟩:=can6 A4.out.box
 obtain ⟨⟨u0,u1,u2,u3,u4,u5⟩,_⟩:=can6 k0
 have B1:=Hd (fun b (hb:blkN (.slice a3 M c3)=some b)=>let ⟨_,_,e⟩:=h.fs b hb;(Array.getElem?_eq_some_iff.1 e).1)
 have Bl:=Hd (fun b (hb:blkN (.slice a4 M c4)=some b)=>let ⟨_,_,e⟩:=h.fm b hb;(Array.getElem?_eq_some_iff.1 e).1)
 have Bn:=Hd (fun b (hb:blkN (.slice a5 M c5)=some b)=>let ⟨_,_,e⟩:=h.fx b hb;(Array.getElem?_eq_some_iff.1 e).1)
 clear h
 go_enter Tryz.func64,Tryz.ntmps64
 go_wp2_with (fail)
 refine Flow.wrf 8 (Flow.sp3 [.inl ?_,.inl ?_,.inl ?_,.inl ?_,.inl ?_,.inl ?_,.inl ?_,.inl ?_]) (by kernel_rfl) (by kernel_rfl) ?_ ?_
 rotate_left 8
 ·refine Flow.sm2 ?_
  repeat (first | exact Flow.ln2 | refine Flow.li2 ?_)
 all_goals try simp only [List.take_succ_cons,List.take_zero,List.drop_succ_cons,List.drop_zero]
 iterate 8 (refine Flow.tvK rfl (fun K hK=>⟨fun w hw hG => ?_,?_⟩);(have Ch:=Flow.bc4 hw;clear hG hw;unfold Flow.Runs Flow.yields;go_simp;try rfl);go_simp;refine hK _ ?_;clear hK K)
 refine Flow.tn2 fun w2 hw2 hG => ?_
 clear hG
 have Ay:=Hd (A4.out.below hw2)
 have k2:=(hw2.block _ (by omega)).trans k0
 have Be:=Hd (show Tch S w w2 from Tch.new (Bt kB hw2))
 have Cc:w.heap.size < w2.heap.size:=by have:=hw2.size;omega
 clear k0 kS kB hw2 y0 y1 y2 y3 y4 y5 z0 z1 z2 z3 z4 z5 u0 u1 u2 u3 u4 u5 A4 Bh HH
 obtain ⟨⟨y0,y1,y2,y3,y4,y5⟩,z0,z1,z2,z3,z4,z5⟩:=can6 Ay.out.box
 have Cb:B < w2.heap.size:=by omega
 have K2:=Hd k2
 go_wp2_with (fail)
 have B0:=Hd (Ay.out.setN Ae.out (n + n2))
 have B6:=Hd (Be.out.trans (Tch.set w2 ⟨B,2,none⟩ (.int .i64 (n + n2)) Ae.out.b))
 have K3:=Hd ((heap_setCell_other w2 ⟨B,2,none⟩ w.heap.size (.int .i64 (n + n2)) (by show w.heap.size≠B;omega)).trans K2.out)
 clear y0 y1 y2 y3 y4 y5 z0 z1 z2 z3 z4 z5 k2 Ay Be K2 Cc Cb
 go_loopw [22] (fun i wr => ∃ k:Nat,k≤M∧i = .int .i64 k∧Adds B M S t (n + n2) (.slice da dn dc) (.slice a3 M c3) (.slice a4 M c4) (.slice a5 M c5) (.slice b3 M d3) (.slice b4 M d4) (.slice b5 M d5) (mix (· + ·) k s1 s2) (mix min k m1 m2) (mix max k x1 x2) s2 m2 x2 wr∧wr.heap[w.heap.size]? = some (.cells #[.int .i64 t2,.slice ea en ec,.int .i64 n2,.slice b3 M d3,.slice b4 M d4,.slice b5 M d5] 56 (0,0))∧Tch S w wr) (fun i _=>M - (intOf i).toNat)
 case atStart=>exact ⟨0,Nat.zero_le _,rfl,B0.out,K3.out,B6.out⟩
 case round=>
  obtain ⟨k,hk,rfl,hA,hK,hT⟩:=hrel
  have HA:=Hd hA
  have HK:=Hd hK
  have HT:=Hd hT
  clear hA hK hT
  by_cases hlt:k < M
  ·have By:(k:Int) < (M:Int):=by omega
   have Ak:k < s1.length:=by omega
   have As:k < m1.length:=by omega
   have Aq:k < x1.length:=by omega
   have A1:k < s2.length:=by omega
   have Bm:k < m2.length:=by omega
   have Bi:k < x2.length:=by omega
   obtain ⟨gs,os,rfl,A8,p0,p1⟩:=HA.out.ls.num2 (k:=k) (by rw [ml2];exact Ak)
   obtain ⟨hs,qs,rfl,Cj,r0,r1⟩:=HA.out.ks.num2 A1
   rw [mix_at _ k s1 s2 Ak] at p0 p1
   obtain ⟨⟨y0,y1,y2,y3,y4,y5⟩,_⟩:=can6 HA.out.box
   obtain ⟨⟨u0,u1,u2,u3,u4,u5⟩,_⟩:=can6 HK.out
   have Ab:B < wr.heap.size:=(Array.getElem?_eq_some_iff.1 HA.out.box).1
   have Af:w.heap.size < wr.heap.size:=(Array.getElem?_eq_some_iff.1 HK.out).1
   have B4:=Hd (wAa s1[k] s2[k] (B5.out k Ak A1))
   have Bw:=Hd (ms4 (· + ·) k s1 s2 Ak A1)
   have B7:=Hd (ms4 min k m1 m2 As Bm)
   have Cd:=Hd (ms4 max k x1 x2 Aq Bi)
   generalize s1[k]=e1 at *
   generalize s2[k]=e2 at *
   go_wp2_with (fail)
   refine Flow.wrf 20 (Flow.sp3 [.inl ?_,.inl ?_,.inl ?_,.inl ?_,.inl ?_,.inl ?_,.inl ?_,.inl ?_,.inl ?_,.inl ?_,.inl ?_,.inl ?_,.inl ?_,.inl ?_,.inl ?_,.inl ?_,.inl ?_,.inl ?_,.inl ?_,.inr (isV (.agg #[.int .i64 (wHi (e1 + e2)),.int .u64 (wLo (e1 + e2))]))]) (by kernel_rfl) (by kernel_rfl) ?_ ?_
   rotate_left 19
   ·refine Flow.sm2 ?_
    repeat (first | exact Flow.ln2 | refine Flow.li2 ?_ | refine Flow.li3 (iVm _) ?_)
   all_goals try simp only [List.take_succ_cons,List.take_zero,List.drop_succ_cons,List.drop_zero]
   iterate 19 (refine Flow.tvK rfl (fun K hK=>⟨fun w hw hG => ?_,?_⟩);(have Ch:=Flow.bc4 hw;clear hG hw;unfold Flow.Runs Flow.yields;go_simp;try rfl);go_simp;refine hK _ ?_;clear hK K)
   (refine Flow.tvK2 rfl (fun K hK=>⟨fun w hw hG => ?_,?_⟩);(clear hG hw;unfold Flow.Runs Flow.yields;go_simp;refine (B4.out _).mono ?_;rintro e w3 ⟨rfl,Cg⟩;exact ⟨_,rfl,Cg,rfl⟩);intro vz;go_simp;refine hK _ _ ?_;clear hK K)
   refine Flow.tn2 fun w5 hw5 hG => ?_
   obtain rfl:=(show vz = .agg #[.int .i64 (wHi (e1 + e2)),.int .u64 (wLo (e1 + e2))] by simpa [Flow.upd,isV] using hG 19)
   clear hG
   have Aa:0 < M:=by omega
   have A0:=Hd (HA.out.below hw5)
   have Br:=Hd ((hw5.block _ Af).trans HK.out)
   have Bv:=Hd (HT.out.trans (Tch.new hw5))
   have B8:w5.cell? ⟨gs,os + k * 2,none⟩=_:=(hw5.cell (p:=⟨gs,os + k * 2,none⟩) A8).trans p0
   have Bx:w5.cell? ⟨gs,os + k * 2 + 1,none⟩=_:=(hw5.cell (p:=⟨gs,os + k * 2 + 1,none⟩) A8).trans p1
   have Ax:gs < w5.heap.size:=Nat.lt_of_lt_of_le A8 hw5.size
   obtain ⟨Ai,T,Ac⟩:=A0.out.fs gs (bNs Aa)
   have f0:=frozen_of_row w5 gs (os + k * 2) _ _ Ac
   have f1:=frozen_of_row w5 gs (os + k * 2 + 1) _ _ Ac
   clear Ac hw5 HA HK HT y0 y1 y2 y3 y4 y5 u0 u1 u2 u3 u4 u5 p0 p1 r0 r1 Ab Af
   go_wp2_with (fail)
   have Ao:=A0.out.setS Ae.out (by rw [ml2];exact l1) (k:=k) (by rw [ml2];exact Ak) (e1 + e2)
   rw [show (mix (· + ·) k s1 s2).set k (e1 + e2)=mix (· + ·) (k + 1) s1 s2 from Bw.out.symm] at Ao
   have Bf:w.heap.size≠gs:=by have:=B1.out gs (bNs Aa);omega
   have An:=((heap_setCell_other (w5.setCell ⟨gs,os + k * 2,none⟩ (.int .i64 (wHi (e1 + e2)))) ⟨gs,os + k * 2 + 1,none⟩ w.heap.size (.int .u64 (wLo (e1 + e2))) Bf).trans (heap_setCell_other w5 ⟨gs,os + k * 2,none⟩ w.heap.size (.int .i64 (wHi (e1 + e2))) Bf)).trans Br.out
   have Bj:=(Bv.out.trans (Tch.set w5 ⟨gs,os + k * 2,none⟩ (.int .i64 (wHi (e1 + e2))) (Ae.out.s gs (bNs Aa)).1)).trans (Tch.set _ ⟨gs,os + k * 2 + 1,none⟩ (.int .u64 (wLo (e1 + e2))) (Ae.out.s gs (bNs Aa)).1)
   clear f0 f1 B8 Bx Ax
   generalize hW6:(w5.setCell ⟨gs,os + k * 2,none⟩ (.int .i64 (wHi (e1 + e2)))).setCell ⟨gs,os + k * 2 + 1,none⟩ (.int .u64 (wLo (e1 + e2)))=W6 at *
   clear hW6 A0 Br Bv
   have Ah:=Hd Ao
   have Bk:=Hd Bj
   have Bq:=Hd An
   obtain ⟨gm,om,rfl,Ck,p0⟩:=Ah.out.lm.num1 (k:=k) (by rw [ml2];exact As)
   obtain ⟨hm,qm,rfl,B9,p1⟩:=Ah.out.km.num1 Bm
   obtain ⟨gx,ox,rfl,Cl,r0⟩:=Ah.out.lx.num1 (k:=k) (by rw [ml2];exact Aq)
   obtain ⟨hx,qx,rfl,Cf,r1⟩:=Ah.out.kx.num1 Bi
   rw [mix_at _ k m1 m2 As] at p0
   rw [mix_at _ k x1 x2 Aq] at r0
   obtain ⟨⟨y0,y1,y2,y3,y4,y5⟩,_⟩:=can6 Ah.out.box
   obtain ⟨⟨u0,u1,u2,u3,u4,u5⟩,_⟩:=can6 An
   have Ab:B < W6.heap.size:=(Array.getElem?_eq_some_iff.1 Ao.box).1
   have Af:w.heap.size < W6.heap.size:=(Array.getElem?_eq_some_iff.1 An).1
   generalize m1[k]=e3 at *
   generalize m2[k]=e4 at *
   generalize x1[k]=e5 at *
   generalize x2[k]=e6 at *
   obtain ⟨Ai,T,Ac⟩:=Ah.out.fm gm (bNs Aa)
   obtain ⟨Ad,T',Ag⟩:=Ah.out.fx gx (bNs Aa)
   have Au:gx≠gm:=fun e=>Ae.out.mx gm (bNs Aa) (by rw [e];exact bNs Aa)
   have A9:B≠gm:=fun e=>(Ae.out.m gm (bNs Aa)).2 e.symm
   have Bd:B≠gx:=fun e=>(Ae.out.x gx (bNs Aa)).2 e.symm
   have Bc:w.heap.size≠gm:=by have:=Bl.out gm (bNs Aa);omega
   have Ba:w.heap.size≠gx:=by have:=Bn.out gx (bNs Aa);omega
   have A2:¬ S hm:=Ah.out.km.blk (bNs Aa)
   have A3:¬ S hx:=Ah.out.kx.blk (bNs Aa)
   have Bo:hm≠gm:=fun e=>A2 (e ▸ (Ae.out.m gm (bNs Aa)).1)
   have Bs:hm≠gx:=fun e=>A2 (e ▸ (Ae.out.x gx (bNs Aa)).1)
   have Al:hx≠gm:=fun e=>A3 (e ▸ (Ae.out.m gm (bNs Aa)).1)
   have Bp:hx≠gx:=fun e=>A3 (e ▸ (Ae.out.x gx (bNs Aa)).1)
   obtain ⟨Y1,Av⟩:∃ Y1,Y1=Obj.cells (Ai.setIfInBounds (om + k) (.int .i64 (min e3 e4))) T (0,0):=⟨_,rfl⟩
   obtain ⟨Y2,A6⟩:∃ Y2,Y2=Obj.cells (Ad.setIfInBounds (ox + k) (.int .i64 (max e5 e6))) T' (0,0):=⟨_,rfl⟩
   have Ap:=Hd Av
   have At:=Hd A6
   have A7:=Hd (show Ai[om + k]? = some (.int .i64 e3) by rw [← cell_of_row W6 gm (om + k) _ _ _ Ac];exact p0)
   have Aw:=Hd (show Ad[ox + k]? = some (.int .i64 e5) by rw [← cell_of_row W6 gx (ox + k) _ _ _ Ag];exact r0)
   have HY:=Hd (fun w' (hw:(two gm gx (.cells Ai T (0,0)) Y1 (.cells Ad T' (0,0)) Y2).r W6 w')=>And.intro ((ta5 hw Ab A9 Bd).trans y4) (And.intro ((ta5 hw Ab A9 Bd).trans y5) (And.intro ((ta5 hw Af Bc Ba).trans u4) (And.intro ((ta5 hw Af Bc Ba).trans u5) (And.intro ((ta5 hw B9 Bo Bs).trans p1) ((ta5 hw Cf Al Bp).trans r1))))))
   have HM:=Hd (fun w' (hw:(two gm gx (.cells Ai T (0,0)) Y1 (.cells Ad T' (0,0)) Y2).r W6 w')=>(show ∃ c2 x,w'.heap[gm]? = some (.cells c2 T (0,0))∧w'.cell? ⟨gm,om + k,none⟩=some (.int .i64 x)∧(x=e3∨x=min e3 e4)∧c2.setIfInBounds (om + k) (.int .i64 (min e3 e4))=Ai.setIfInBounds (om + k) (.int .i64 (min e3 e4)) from by
    rcases hw.2.2.2.2.2.1 with e | ⟨_,e⟩
    ·rw [Ac] at e
     exact ⟨Ai,e3,e,by rw [cell_of_row _ _ _ _ _ _ e];exact A7.out,.inl rfl,rfl⟩
    ·rw [Av] at e
     exact ⟨_,min e3 e4,e,by rw [cell_of_row _ _ _ _ _ _ e,Array.getElem?_setIfInBounds,if_pos rfl,if_pos (Array.getElem?_eq_some_iff.1 A7.out).1],.inr rfl,st3 _ _ _⟩))
   have HX:=Hd (fun w' (hw:(two gm gx (.cells Ai T (0,0)) Y1 (.cells Ad T' (0,0)) Y2).r W6 w')=>(show ∃ c2 x,w'.heap[gx]? = some (.cells c2 T' (0,0))∧w'.cell? ⟨gx,ox + k,none⟩=some (.int .i64 x)∧(x=e5∨x=max e5 e6)∧c2.setIfInBounds (ox + k) (.int .i64 (max e5 e6))=Ad.setIfInBounds (ox + k) (.int .i64 (max e5 e6)) from by
    rcases hw.2.2.2.2.2.2 with e | ⟨_,e⟩
    ·rw [Ag] at e
     exact ⟨Ad,e5,e,by rw [cell_of_row _ _ _ _ _ _ e];exact Aw.out,.inl rfl,rfl⟩
    ·rw [A6] at e
     exact ⟨_,max e5 e6,e,by rw [cell_of_row _ _ _ _ _ _ e,Array.getElem?_setIfInBounds,if_pos rfl,if_pos (Array.getElem?_eq_some_iff.1 Aw.out).1],.inr rfl,st3 _ _ _⟩))
   have Am:=Hd (And.intro Ac Ag)
   clear Ao Bj An Ac Ag y0 y1 y2 y3 y4 y5 u0 u1 u2 u3 u4 u5 p0 p1 r0 r1 A9 Bd Bc Ba A2 A3 Bo Bs Al Bp Av A6
   go_wp2_with (fail)
   refine FlowR.wrf2 (R:=two gm gx (.cells Ai T (0,0)) Y1 (.cells Ad T' (0,0)) Y2) (FlowR.sp3 44 (fun _ => .inl undef) (.inl ?_ :: .inl ?_ :: .inl ?_ :: .inl ?_ :: .inl ?_ :: .inl ?_ :: .inl ?_ :: .inl ?_ :: .inl ?_ :: .inl ?_ :: .inl ?_ :: .inl ?_ :: .inl ?_ :: .inl ?_ :: .inl ?_ :: .inl ?_ :: .inl ?_ :: .inl ?_ :: .inl ?_ :: .inr (orV (.int .i64 e3) (.int .i64 (min e3 e4))) :: .inl ?_ :: .inl ?_ :: .inl ?_ :: .inl ?_ :: .inl ?_ :: .inl (.int .i64 (min e3 e4)) :: .inl ?_ :: .inl ?_ :: .inl ?_ :: .inl ?_ :: .inl ?_ :: .inl ?_ :: .inl ?_ :: .inr (orV (.int .i64 e5) (.int .i64 (max e5 e6))) :: .inl ?_ :: .inl ?_ :: .inl ?_ :: .inl ?_ :: .inl ?_ :: .inl (.int .i64 (max e5 e6)) :: .inl ?_ :: .inr (tu gm Y1) :: .inl ?_ :: .inr (tu gx Y2) :: [])) (fun _=>0) (FlowR.so5 (by kernel_rfl)) (by kernel_rfl) (by kernel_rfl) ?_ ?_
   rotate_left 38
   ·refine FlowR.sm2 (fun x=>FlowR.mi _) ?_
    repeat (first | exact FlowR.ln2 | refine FlowR.li2 ?_ | refine FlowR.li3 (orV_mono _ _) ?_ | refine FlowR.li3 tm2 ?_ | refine FlowR.li3 tm3 ?_)
   iterate 19 (refine FlowR.tvK rfl (fun K hK=>⟨fun w hw hG => ?_,?_⟩);(obtain ⟨t1,t2,t3,t4,t5,t6⟩:=HY.out w hw;clear hG hw;unfold FlowR.Runs FlowR.yields;go_simp;try rfl);go_simp;refine hK _ ?_;clear hK K)
   (refine FlowR.tvK2 rfl (fun K hK=>⟨fun w hw hG => ?_,?_⟩);(obtain ⟨c2,x,_,t0,t1,_⟩:=HM.out w hw;clear hG hw;unfold FlowR.Runs FlowR.yields;go_simp;exact t1.imp (fun e=>by rw [e]) (fun e=>by rw [e]));intro vm;go_simp;refine hK _ _ ?_;clear hK K)
   iterate 5 (refine FlowR.tvK rfl (fun K hK=>⟨fun w hw hG => ?_,?_⟩);(obtain ⟨t1,t2,t3,t4,t5,t6⟩:=HY.out w hw;clear hG hw;unfold FlowR.Runs FlowR.yields;go_simp;try rfl);go_simp;refine hK _ ?_;clear hK K)
   (refine FlowR.tvK rfl (fun K hK=>⟨fun w hw hG => ?_,?_⟩);(have Bb:=(show orV (.int .i64 e3) (.int .i64 (min e3 e4)) vm w by simpa [FlowR.upd] using hG 19 (by kernel_rfl));clear hG hw;have A5:min (min e3 e4) e4=min e3 e4:=(by omega);(rcases Bb with rfl | rfl <;> (unfold FlowR.Runs FlowR.yields;go_simp;try rfl)));go_simp;refine hK _ ?_;clear hK K)
   iterate 7 (refine FlowR.tvK rfl (fun K hK=>⟨fun w hw hG => ?_,?_⟩);(obtain ⟨t1,t2,t3,t4,t5,t6⟩:=HY.out w hw;clear hG hw;unfold FlowR.Runs FlowR.yields;go_simp;try rfl);go_simp;refine hK _ ?_;clear hK K)
   (refine FlowR.tvK2 rfl (fun K hK=>⟨fun w hw hG => ?_,?_⟩);(obtain ⟨c2,x,_,t0,t1,_⟩:=HX.out w hw;clear hG hw;unfold FlowR.Runs FlowR.yields;go_simp;exact t1.imp (fun e=>by rw [e]) (fun e=>by rw [e]));intro vx;go_simp;refine hK _ _ ?_;clear hK K)
   iterate 5 (refine FlowR.tvK rfl (fun K hK=>⟨fun w hw hG => ?_,?_⟩);(obtain ⟨t1,t2,t3,t4,t5,t6⟩:=HY.out w hw;clear hG hw;unfold FlowR.Runs FlowR.yields;go_simp;try rfl);go_simp;refine hK _ ?_;clear hK K)
   (refine FlowR.tvK rfl (fun K hK=>⟨fun w hw hG => ?_,?_⟩);(have Bb:=(show orV (.int .i64 e5) (.int .i64 (max e5 e6)) vx w by simpa [FlowR.upd] using hG 33 (by kernel_rfl));clear hG hw;have A5:max (max e5 e6) e6=max e5 e6:=(by omega);(rcases Bb with rfl | rfl <;> (unfold FlowR.Runs FlowR.yields;go_simp;try rfl)));go_simp;refine hK _ ?_;clear hK K)
   iterate 1 (refine FlowR.tvK rfl (fun K hK=>⟨fun w hw hG => ?_,?_⟩);(obtain ⟨t1,t2,t3,t4,t5,t6⟩:=HY.out w hw;clear hG hw;unfold FlowR.Runs FlowR.yields;go_simp;try rfl);go_simp;refine hK _ ?_;clear hK K)
   (refine FlowR.tvK2 rfl (fun K hK=>⟨fun w hw hG => ?_,?_⟩);(obtain ⟨c2,x,h0,t0,_,t2⟩:=HM.out w hw;have hf:=frozen_of_row w gm (om + k) _ _ h0;have B3:=(Array.getElem?_eq_some_iff.1 h0).1;have Aj:=two_set1 (by rw [Ap.out] at hw;exact hw) Am.out.1 h0 t2 Au;rw [← Ap.out] at Aj;clear hG hw;unfold FlowR.Runs FlowR.yields;go_simp;first | exact Aj | exact Aj.2);intro vs;go_simp;refine hK _ _ ?_;clear hK K)
   iterate 1 (refine FlowR.tvK rfl (fun K hK=>⟨fun w hw hG => ?_,?_⟩);(obtain ⟨t1,t2,t3,t4,t5,t6⟩:=HY.out w hw;clear hG hw;unfold FlowR.Runs FlowR.yields;go_simp;try rfl);go_simp;refine hK _ ?_;clear hK K)
   (refine FlowR.tvK2 rfl (fun K hK=>⟨fun w hw hG => ?_,?_⟩);(obtain ⟨c2,x,h0,t0,_,t2⟩:=HX.out w hw;have hf:=frozen_of_row w gx (ox + k) _ _ h0;have B3:=(Array.getElem?_eq_some_iff.1 h0).1;have Aj:=two_set2 (by rw [At.out] at hw;exact hw) Am.out.2 h0 t2 Au.symm;rw [← At.out] at Aj;clear hG hw;unfold FlowR.Runs FlowR.yields;go_simp;first | exact Aj | exact Aj.2);intro vt;go_simp;refine hK _ _ ?_;clear hK K)
   refine FlowR.tn2 fun w8 hw8 hG => ?_
   have Ar:=two_end Ap.out At.out hw8 Am.out.1 Am.out.2 Au (show tu gm Y1 vs w8 by simpa [FlowR.upd] using hG 41) (show tu gx Y2 vt w8 by simpa [FlowR.upd] using hG 43)
   clear hG hw8
   have Az:=(Ah.out.setM Ae.out (by rw [ml2];exact l2) (k:=k) (by rw [ml2];exact As) (min e3 e4)).setX Ae.out (by rw [ml2];exact l3) (k:=k) (by rw [ml2];exact Aq) (max e5 e6)
   rw [show (mix min k m1 m2).set k (min e3 e4)=mix min (k + 1) m1 m2 from B7.out.symm,show (mix max k x1 x2).set k (max e5 e6)=mix max (k + 1) x1 x2 from Cd.out.symm] at Az
   have Bu:=((Bk.out.trans (Tch.set W6 ⟨gm,om + k,none⟩ (.int .i64 (min e3 e4)) (Ae.out.m gm (bNs Aa)).1)).trans (Tch.set _ ⟨gx,ox + k,none⟩ (.int .i64 (max e5 e6)) (Ae.out.x gx (bNs Aa)).1)).trans (Tch.new Ar)
   have Bg:=(Ar.block w.heap.size (by rw [sCs,sCs];exact Af)).trans (((heap_setCell_other (W6.setCell ⟨gm,om + k,none⟩ (.int .i64 (min e3 e4))) ⟨gx,ox + k,none⟩ w.heap.size (.int .i64 (max e5 e6)) (by show w.heap.size≠gx;have:=Bn.out gx (bNs Aa);omega)).trans (heap_setCell_other W6 ⟨gm,om + k,none⟩ w.heap.size (.int .i64 (min e3 e4)) (by show w.heap.size≠gm;have:=Bl.out gm (bNs Aa);omega))).trans Bq.out)
   have Ca:=Hd (Az.below Ar)
   have B2:=Hd Bu
   have Ce:=Hd Bg
   clear Az Bu Bg Ar Ah Bk Bq Am HM HX HY Ap At A7 Aw Ab Af
   go_wp2
   go_roundw
   case rel=>exact ⟨k + 1,by omega,by go_num,Ca.out,Ce.out,B2.out⟩
   case measure=>simp [intOf];omega
  ·obtain rfl:k=M:=by omega
   have By:¬ (k:Int) < (k:Int):=by omega
   rw [show mix (· + ·) k s1 s2=List.zipWith (· + ·) s1 s2 by rw [← l1];exact ma3 _ _ _ (by omega),show mix min k m1 m2=List.zipWith min m1 m2 by rw [← l2];exact ma3 _ _ _ (by omega),show mix max k x1 x2=List.zipWith max x1 x2 by rw [← l3];exact ma3 _ _ _ (by omega)] at HA
   go_wp2
   go_end0
   exact ⟨rfl,HA.out,HT.out⟩
end Go.Proofs.YtjdccifdkjnknaaGreatDoor
