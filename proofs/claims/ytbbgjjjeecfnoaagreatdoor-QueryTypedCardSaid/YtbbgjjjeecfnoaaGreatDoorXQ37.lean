/- A text's tokens, collected: walked. -/
import Derived.Test.YtbbgjjjeecfnoaaGreatDoorXQ33
import Derived.Test.YtbbgjjjeecfnoaaGreatDoorXFB
import Derived.Test.YtbbgjjjeecfnoaaGreatDoorXPD
import Derived.Maps.OwnIn
namespace Go.Proofs.YtbbgjjjeecfnoaaGreatDoor
open Go.RowKit Go.Sort
open Tess (Tok)
attribute [local go_sem] Oper.semAt_some
structure Cl (w:World) (ov:Value) (ts:List Tok) (W:World):Prop where
 kO:W.heap[w.heap.size]? = some (.cells #[ov] 125 (0,0))
 own:W.ownsRow (w.heap.size + 1) 128 5 ov ts.length (ts.flatMap tkF)
 nil:ts=[]→ov = .slice none 0 0
 below:Below w.heap.size w W
section
variable {w W W':World} {ov ov':Value} {ts ts':List Tok}
theorem Cl.size (h:Cl w ov ts W):w.heap.size + 1≤W.heap.size:=(Array.getElem?_eq_some_iff.1 h.kO).1
theorem Cl.later (h:Cl w ov ts W) (hb:Below W.heap.size W W'):Cl w ov ts W':=⟨(hb.block _ h.size).trans h.kO,owns_below h.own hb,h.nil,Bt h.below hb⟩
theorem Cl.but {l:Nat} (h:Cl w ov ts W) (hs:Rf.SameBut l W W') (hl:w.heap.size + 1≤l) {o:Obj} (ho:W.heap[l]? = some o) (hc:o.isCells=false):Cl w ov ts W':=
 ⟨(hs.block _ (by omega)).trans h.kO,hs.owns h.own ho hc,h.nil,h.below.trans (hs.below (by omega))⟩
theorem Cl.append (h:Cl w ov ts W) (hg:W.grownBy W' ov.ownBlock) (hown:W'.ownsRow (w.heap.size + 1) 128 5 ov' ts'.length (ts'.flatMap tkF)) (hn:ts'≠[]):Cl w ov' ts' (W'.setCell ⟨w.heap.size,0,none⟩ ov'):=by
 have hs:=h.size
 have hb:Below w.heap.size w W':=h.below.grown hg (by omega) (fun k e=>by have:=(h.own.lt k e).1;omega)
 have hk:W'.heap[w.heap.size]? = W.heap[w.heap.size]? := hg.block _ (by omega) (fun e=>by have:=(h.own.lt _ e.symm).1;omega)
 exact ⟨heap_setCell_same _ _ _ _ _ _ (hk.trans h.kO),ownsRow_setCell_below hown (by show w.heap.size < _;omega) _,fun e=>absurd e hn,hb.setCell (Nat.le_refl _) _⟩
theorem Cl.block3 {o:Obj} (h:Cl w ov ts W) (hg:(W.alloc o).grownBy W' ov.ownBlock):W'.heap[w.heap.size]? = some (.cells #[ov] 125 (0,0)):=by
 have hs:=h.size
 exact (hg.block _ (by simp;omega) (fun e=>by have:=(h.own.lt _ e.symm).1;omega)).trans ((Below.heap_alloc _ _ _ (by omega)).trans h.kO)
end
theorem cells5_new (x0 x1 x2 x3 x4:Value) (w:World) (t:TypeId):∀ j u,[x0,x1,x2,x3,x4][j]? = some u→(w.alloc (.cells #[x0,x1,x2,x3,x4] t)).cell? ((⟨w.heap.size,0,none⟩:Addr).add j)=some u:=by
 intro j u hj
 rcases j with _ | _ | _ | _ | _ | j <;> simp at hj <;> subst hj <;> simp only [Addr.add] <;> exact cell_of_row _ _ _ _ _ _ (heap_alloc_new _ _)
theorem tkF_len (t:Tok):(tkF t).length=5:=rfl
theorem take_snoc (ts:List Tok) (k:Nat) (h:k < ts.length):(ts.take k).flatMap tkF ++ tkF ts[k]=(ts.take (k + 1)).flatMap tkF:=by
 rw [List.take_succ_eq_append_getElem h,List.flatMap_append]
 simp
theorem tokens_any (s:ByteArray) (w:World):Calls Tryz.prog 58 #[.string s] w fun e w'=>e = .returned (.func (.func 132) #[] #[.pointer (some ⟨w.heap.size,0,none⟩)])∧w'=w.alloc (.cells #[.string s] 9):=by
 go_enter Tryz.func58,Tryz.ntmps58
 go_wp2
 go_ret
 exact ⟨rfl,rfl⟩
theorem grownBy_put (W:World) (l:Nat) (o:Obj):W.grownBy (W.putObj l o) (some l):=⟨rfl,rfl,rfl,by simp,fun k _ hk=>World.putObj_heap_other (fun e=>hk (by rw [e]))⟩
theorem ownsRow_ne_q {W:World} {base:Nat} {e:TypeId} {size:Nat} {v:Value} {k:Nat} {xs:List Value} (h:W.ownsRow base e size v k xs) {j:Nat} {o:Obj} (hj:W.heap[j]? = some o) (hno:∀ cur,o ≠ .cells cur e (0,0)) :
  v.ownBlock=none∨v.ownBlock≠some j:=by
 rcases h.2 with ⟨rfl,_⟩ | ⟨g,cap,cur,rfl,_,hgb,_⟩
 ·exact .inl rfl
 ·refine .inr fun e' => ?_
  have:g=j:=by simpa [Value.ownBlock] using e'
  subst this;rw [hgb] at hj;cases hj;exact hno cur rfl
def Rc (w:World) (ts:List Tok) (rec:Loop) (k:Nat) (W:World):Prop:=
 ∃ ov,Cl w ov (ts.take k) W∧W.heap[w.heap.size + 1]? = some (.deferred (some []))∧W.heap[w.heap.size + 2]? = some (.loop rec)
set_option maxRecDepth 100000 in
set_option maxHeartbeats 8000000 in
theorem appendSeq_any (s:ByteArray) (hs:s.size≤1000000) (sb:Nat) (w:World) (hV:Vz w) (h1:w.cell? ⟨sb,0,none⟩=some (.string s)) :
  Calls Tryz.prog 131 #[.slice none 0 0,.func (.func 132) #[] #[.pointer (some ⟨sb,0,none⟩)]] w fun e w' => ∃ v,e = .returned v∧RowsAt 5 tkF (fun b=>w.heap.size≤b) w' v (Tok.toks s)∧Below w.heap.size w w':=by
 have HCT:=Lib.hid (tokens_iter s hs sb (fun b=>b < w.heap.size) w h1 (World.block_lt_of_cell? w _ h1))
 have HV:=Lib.hid hV
 have hlen:(Tok.toks s).length≤1000001:=by have:=Tok.toks_len s;omega
 obtain ⟨i0,hi,hz0,hz1,hz2⟩:=info_parts infoTok
 clear h1 hV
 generalize Tok.toks s=ts at *
 refine (callsIn_wide (n:=5)).1 ?_
 refine callsIn_of_wp_marks Tryz.func131 rfl trivial ?_ rfl
 simp only [Tryz.ntmps131,List.size_toArray,List.length_cons,List.length_nil,Nat.reduceAdd,Nat.reduceSub,Array.replicate_succ,Array.replicate_zero,List.push_toArray,List.append_toArray,List.nil_append,List.cons_append]
 obtain ⟨W0,hW0⟩:∃ W0,w.alloc (.cells #[.slice none 0 0] 125)=W0:=⟨_,rfl⟩
 obtain ⟨l1,l2,l3⟩:=laid1 w (.cells #[.slice none 0 0] 125)
 rw [hW0] at l1 l2 l3
 have HC0:RowKit.Hid (Cl w (.slice none 0 0) [] W0):=Lib.hid ⟨l1,⟨rfl,.inl ⟨rfl,rfl⟩⟩,fun _=>rfl,l3⟩
 have HS0:=Lib.hid l2
 clear l1 l2 l3
 gi_wp2
 refine Rf.range_wide (gf:=132) (lb:=#[.pointer (some ⟨sb,0,none⟩)]) rfl (enters_of Tryz.func132 (by kernel_rfl) rfl) ?_
 intro fn W2 hL hD hB2 hS2
 obtain ⟨N,hN⟩:∃ N,N=w.heap.size:=⟨_,rfl⟩
 rw [HS0.out] at hL hD hS2 ⊢
 obtain ⟨rec,hrec,hL⟩:∃ rec:Loop,rec=_∧W2.heap[w.heap.size + 1 + 1]? = some (.loop rec):=⟨_,rfl,hL⟩
 have HREC:=Lib.hid hrec
 have hst:rec.state = .ready∧rec.params.size=1∧rec.pending=none:=by rw [hrec];exact ⟨rfl,rfl,rfl⟩
 clear hrec
 obtain ⟨hst,hps,hpe⟩:=hst
 have hI0:Rc w ts rec 0 W2:=⟨_,by simpa using HC0.out.later hB2,hD,hL⟩
 clear hB2 hS2 hW0 HC0 HS0
 refine callsIn_wide.2 ((HCT.out (w.heap.size + 1 + 1) rec.fn (fun v=>(rec.params.zip #[v]).foldl (fun tmps (t,a)=>tmps.setIfInBounds t a) rec.tmps) rec.assign rec.body (Rc w ts rec) ?_ ?_ ?_ ?_ W2 hI0).mono ?_)
 ·rintro k W W' ⟨ov,h1,h2,h3⟩ hb
  exact ⟨ov,h1.later hb,(hb.block _ (Array.getElem?_eq_some_iff.1 h2).1).trans h2,(hb.block _ (Array.getElem?_eq_some_iff.1 h3).1).trans h3⟩
 ·rintro k W ⟨ov,h1,h2,h3⟩
  exact ⟨Ag.below _ h1.below fun b _ hb=>hb,HV.out.below h1.below⟩
 ·rintro k W ⟨ov,h1,h2,h3⟩ z
  exact run_yield h3 (by rw [hps];rfl)
 ·rintro k W1 W hk ⟨ov,h1,h2,h3⟩ hb
  have HS:=Lib.hid (h1.later hb)
  have HD:=Lib.hid ((hb.block _ (Array.getElem?_eq_some_iff.1 h2).1).trans h2)
  have HL:=Lib.hid ((hb.block _ (Array.getElem?_eq_some_iff.1 h3).1).trans h3)
  have HOL:=Lib.hid (fun g (e:ov.ownBlock=some g)=>(h1.own.lt g e).2)
  have hW1:w.heap.size + 1 + 1 < W1.heap.size:=(Array.getElem?_eq_some_iff.1 h3).1
  have hlk:(ts.take k).length=k:=by simp;omega
  have HSN:=Lib.hid (take_snoc ts k hk)
  have hb2:=hb.size
  clear h1 h2 h3 hb
  rw [show ts[k]=⟨ts[k].kind,ts[k].pos,ts[k].size,ts[k].text,ts[k].n⟩ from rfl,tkV_mk]
  rw [show ts[k]=⟨ts[k].kind,ts[k].pos,ts[k].size,ts[k].text,ts[k].n⟩ from rfl] at HSN
  generalize ts[k].kind=K at *
  generalize ts[k].pos=P at *
  generalize ts[k].size=Z at *
  generalize ts[k].text=X at *
  generalize ts[k].n=M at *
  have hRc:RowKit.Hid (∀ W',Rc w ts rec (k + 1) W'↔∃ ov,Cl w ov (ts.take (k + 1)) W'∧W'.heap[w.heap.size + 1]? = some (.deferred (some []))∧W'.heap[w.heap.size + 2]? = some (.loop rec)):=Lib.hid fun W'=>Iff.rfl
  generalize Rc w ts rec (k + 1)=RC at *
  have hlk1:(ts.take (k + 1)).length=k + 1:=by simp;omega
  have hk2:k≤1000001:=by omega
  generalize ts.take (k + 1)=tk1 at *
  generalize ts.take k=tk at *
  clear hk
  refine Rf.round_wide (r:=rec) ?_
  have hrr:=HREC.out
  subst hrr
  dsimp only
  gi_wp2_with (rw [Oper.semAt_eq _ _ _ (fun c h=>by cases h)];go_simp;try go_bits)
  obtain ⟨W5,hW5⟩:∃ W5,W.alloc (.cells #[.int .i64 K,.int .i64 P,.int .i64 Z,.string X,.int .i64 M] 128)=W5:=⟨_,rfl⟩
  obtain ⟨m1,m2,m3⟩:=laid1 W (.cells #[.int .i64 K,.int .i64 P,.int .i64 Z,.string X,.int .i64 M] 128)
  rw [hW5] at m1 m2 m3 ⊢
  clear hW5
  refine ⟨(m3.block _ (by omega)).trans HL.out,fun W9 hs9 hl9 => ?_⟩
  have hl5:=(m3.block (w.heap.size + 1 + 1) (by omega)).trans HL.out
  have HS9:=Lib.hid ((HS.out.later m3).but hs9 (by omega) hl5 rfl)
  have HD9:=Lib.hid ((hs9.block (w.heap.size + 1) (by omega)).trans ((m3.block _ (by omega)).trans HD.out))
  have HL9:=Lib.hid hl9
  have HBK:=Lib.hid (show ∀ b,b < W.heap.size→b≠w.heap.size + 1 + 1→W9.heap[b]? = W.heap[b]? from fun b hb hne=>(hs9.block b hne).trans (m3.block b hb))
  have HS9S:=Lib.hid (show W9.heap.size=W.heap.size + 1 by rw [hs9.size,m2])
  have k1:=(hs9.block W.heap.size (by omega)).trans m1
  obtain ⟨⟨j0,j1,j2,j3,j4⟩,_⟩:=can5 k1
  have c0:=cell_of_row _ _ 0 _ _ _ HS9.out.kO
  have z0:=frozen_of_row _ _ 0 _ _ HS9.out.kO
  simp only [List.getElem?_toArray,List.getElem?_cons_zero] at c0
  have HNE:=Lib.hid (And.intro (ownsRow_ne_q HS9.out.own hl9 (fun cur e=>by cases e)) (ownsRow_ne_q HS9.out.own HD9.out (fun cur e=>by cases e)))
  clear hs9 hl9 k1 m1 m2 m3 hl5
  gi_wp2_with (first
   | (gi_at_builtin;refine wpListIn_append_own_at (w:=W9.alloc (.cells #[.int .i64 K,.int .i64 P,.int .i64 Z,.string X,.int .i64 M] 128)) rfl _ _ 125 rfl (w.heap.size + 1) 128 i0 (.agg #[.int .i64 0,.int .i64 0,.int .i64 0,.string ⟨#[]⟩,.int .i64 0]) 5 48 Tryz.underlying125 hi hz0 hz1 hz2 rfl (by decide) _ _ _ rfl (HS9.out.own.alloc _) ⟨W9.heap.size,0,none⟩ 1 1 [.int .i64 K,.int .i64 P,.int .i64 Z,.string X,.int .i64 M] rfl rfl (cells5_new _ _ _ _ _ _ _) (by simp [Value.oneCell']) (by unfold maxLen;omega) (by omega) (by have hh:=HS9S.out;simp;omega) ?_;intro v' w3 hown' hg3 _ hloc;have hk3:=HS9.out.block3 hg3;have c3:=cell_of_row _ _ 0 _ _ _ hk3;have z3:=frozen_of_row _ _ 0 _ _ hk3;simp only [List.getElem?_toArray,List.getElem?_cons_zero] at c3;obtain ⟨gg,cp,rfl,_⟩:=owns_cell_any hown' (by omega);go_frame)
   | (rw [Oper.semAt_eq _ _ _ (fun c h=>by cases h)];go_simp;try go_bits))
  have hg3:World.grownBy (W9.alloc (.cells #[.int .i64 K,.int .i64 P,.int .i64 Z,.string X,.int .i64 M] 128)) w3 ov.ownBlock:=hg3
  have ht1:tk1≠[]:=fun e=>by rw [e] at hlk1;simp at hlk1
  have HS10:=Lib.hid ((HS9.out.later ((Below.refl _ _).alloc (Nat.le_refl _) _)).append hg3 (ts':=tk1) (by rw [hlk1,← HSN.out,← hlk];exact hown') ht1)
  have hblk:∀ j,j < W9.heap.size→ov.ownBlock≠some j→j≠w.heap.size→(w3.setCell ⟨w.heap.size,0,none⟩ (.slice (some ⟨gg,0,none⟩) (tk.length + 1) cp)).heap[j]? = W9.heap[j]? := fun j hj hne hj0=>
   (heap_setCell_other _ _ _ _ (by show j≠w.heap.size;exact hj0)).trans ((hg3.block j (by simp;omega) (fun e=>hne e.symm)).trans (Below.heap_alloc _ _ _ hj))
  have hne1:ov.ownBlock≠some (w.heap.size + 1 + 1):=by rcases HNE.out.1 with h | h <;> (try rw [h]) <;> first | exact h | simp
  have hne2:ov.ownBlock≠some (w.heap.size + 1):=by rcases HNE.out.2 with h | h <;> (try rw [h]) <;> first | exact h | simp
  have hW9:=HS9S.out
  have hL10:=(hblk (w.heap.size + 1 + 1) (by omega) hne1 (by omega)).trans HL9.out
  have hD10:=(hblk (w.heap.size + 1) (by omega) hne2 (by omega)).trans HD9.out
  have HBB:=Lib.hid (fun b (h1:W1.heap.size≤b) (h2:b < W.heap.size)=>(hblk b (by omega) (fun e=>by have:=HOL.out b e;omega) (by omega)).trans (HBK.out b h2 (by omega)))
  rw [hlk] at HS10 hL10 hD10 HBB ⊢
  refine ⟨hL10,fun W11 hs11 hl11=>⟨rfl,(hRc.out W11).2 ⟨_,HS10.out.but hs11 (by omega) hL10 rfl,(hs11.block (w.heap.size + 1) (by omega)).trans hD10,hl11⟩,fun b h1 h2=>(hs11.block b (by omega)).trans (HBB.out b h1 h2)⟩⟩
 ·rintro e W8 ⟨⟨vv,rfl⟩,ov,h1,h2,h3⟩
  rw [List.take_of_length_le (Nat.le_refl _)] at h1
  refine ⟨⟨_,rfl⟩,rec,h3,by rw [hst];decide,?_⟩
  intro W9 hW9
  rw [hpe]
  dsimp only
  have HS9:=Lib.hid (h1.but hW9 (by omega) h3 rfl)
  have hK9:=(hW9.block (w.heap.size + 1) (by omega)).trans h2
  have c0:=cell_of_row _ _ 0 _ _ _ HS9.out.kO
  simp only [List.getElem?_toArray,List.getElem?_cons_zero] at c0
  have hne0:=ownsRow_ne_q HS9.out.own hK9 (fun cur e=>by cases e)
  have HR:=Lib.hid (show RowsAt 5 tkF (fun b=>w.heap.size≤b) (W9.putObj (w.heap.size + 1) (.deferred none)) ov ts from
   (rows_owned (f:=tkF) (k:=5) (fun x _=>tkF_len x) (HS9.out.own.kept (grownBy_put W9 (w.heap.size + 1) (.deferred none)) hne0) (by unfold maxLen;omega) h1.nil).weak fun b hb=>by have:w.heap.size + 1≤b:=hb;omega)
  have HB9:=Lib.hid (HS9.out.below.grown (grownBy_put W9 (w.heap.size + 1) (.deferred none)) (by have:=HS9.out.size;omega) (fun j e=>by cases e;omega))
  clear h1 h2 h3 hW9 hne0
  gi_wp2
  refine ⟨by simp,.inl ⟨_,_,rfl,run_takeDeferred hK9,?_⟩⟩
  refine ⟨_,results_tmp rfl _ _ _,?_⟩
  try dsimp only [Array.getD_eq_getD_getElem?,List.getElem?_toArray]
  try simp only [Array.getD_eq_getD_getElem?,List.getElem?_toArray,List.getElem?_cons_succ,List.getElem?_cons_zero,Option.getD_some]
  exact ⟨_,rfl,HR.out,HB9.out⟩
theorem collect_any (s:ByteArray) (hs:s.size≤1000000) (sb:Nat) (w:World) (hV:Vz w) (h1:w.cell? ⟨sb,0,none⟩=some (.string s)) :
  Calls Tryz.prog 57 #[.func (.func 132) #[] #[.pointer (some ⟨sb,0,none⟩)]] w fun e w' => ∃ v,e = .returned v∧RowsAt 5 tkF (fun b=>w.heap.size≤b) w' v (Tok.toks s)∧Below w.heap.size w w':=by
 have HA:=Lib.hid (appendSeq_any s hs sb w hV h1)
 clear hV h1
 go_enter Tryz.func57,Tryz.ntmps57
 go_wp2_with (go_at_call 131;refine HA.out.mono ?_;rintro e w2 ⟨v,rfl,hR,hB⟩;have HR:=Lib.hid hR;have HB:=Lib.hid hB;clear hR hB)
 go_ret
 exact ⟨_,rfl,HR.out,HB.out⟩
end Go.Proofs.YtbbgjjjeecfnoaaGreatDoor
