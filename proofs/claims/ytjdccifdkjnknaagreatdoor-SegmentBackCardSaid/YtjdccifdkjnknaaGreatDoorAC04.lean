/- Joined by mergeK.py: HS, H2s, K9p, F32a, K7p, FlX, K24p, FlRT -/
import Derived.Test.YtjdccifdkjnknaaGreatDoorAC03
import Derived.Lib.Bytealg
import Derived.Test.YtjdccifdkjnknaaGreatDoorAC01
namespace Go.Proofs.YtjdccifdkjnknaaGreatDoor
open Go.RowKit Go.Sort
open Tess (Fil Que)
theorem flatK {α:Type} {k:Nat} {f:α→List Value} (l:List α) (h:∀ x ∈ l,(f x).length=k):∀ (j i:Nat) (hj:j < l.length),i < k→(l.flatMap f)[j * k + i]? = (f l[j])[i]? := by
 induction l with
 | nil=>intro j i hj;simp at hj
 | cons u r ih=>
   intro j i hj hi
   rw [List.flatMap_cons]
   cases j with
   | zero=>
     rw [List.getElem?_append_left (by rw [h u (List.mem_cons_self)];omega)]
     simp
   | succ j=>
     have e:(j + 1) * k + i=k + (j * k + i):=by rw [Nat.succ_mul];omega
     rw [e,List.getElem?_append_right (by rw [h u (List.mem_cons_self)];omega),h u (List.mem_cons_self),Nat.add_sub_cancel_left]
     exact ih (fun x hx=>h x (List.mem_cons_of_mem _ hx)) j i (by simpa using hj) hi
theorem ro3 {α:Type} {k:Nat} {f:α→List Value} {w:World} {base:Nat} {t:TypeId} {v:Value} {l:List α} (hf:∀ x ∈ l,(f x).length=k) (h:w.ownsRow base t k v l.length (l.flatMap f)) (hl:l.length≤maxLen) (hn:l=[]→v = .slice none 0 0):RA k f (fun b=>base≤b) w v l:=by
 rcases Nat.eq_zero_or_pos l.length with h0 | h0
 ·have:l=[]:=List.length_eq_zero_iff.1 h0
  subst this
  rw [hn rfl]
  exact RA.nil _ _ _ _
 ·obtain ⟨g,Ac,hv,hb,hg,Aa,_,hc⟩:=oca h h0
  refine ⟨_,_,hv,hl,Aa,(fun e=>by cases e),fun _=>⟨g,0,rfl,hg,hb,fun j hj i hi => ?_⟩⟩
  have Ab:j * k + i < l.length * k:=by
   have:=Nat.mul_le_mul_right k (show j + 1≤l.length from hj)
   rw [Nat.succ_mul] at this;omega
  rw [Nat.zero_add,hc _ Ab]
  exact flatK l hf j i hj hi
structure Setl (N:Nat) (p:Nat→Prop) (W:World) (lv:Value) (us:List Value) (ls:List (List ByteArray)):Prop where
 own:W.ownsRow N 22 1 lv us.length us
 len:us.length=ls.length
 at_:∀ j (h:j < ls.length) (h':j < us.length),SlP p W us[j] (ls[j].map .string)
theorem Setl.below {N:Nat} {q:Nat→Prop} {W W':World} {lv:Value} {us:List Value} {ls:List (List ByteArray)} (h:Setl N q W lv us ls) (hb:Below W.heap.size W W'):Setl N q W' lv us ls:=
 ⟨ob2 h.own hb,h.len,fun j hj hj'=>(h.at_ j hj hj').ag (Ag.new _ hb)⟩
theorem Setl.set {N:Nat} {q:Nat→Prop} {W:World} {lv:Value} {us:List Value} {ls:List (List ByteArray)} (h:Setl N q W lv us ls) {g i:Nat} (hg:g < N) (hq:∀ b,q b→N≤b) (u:Value):Setl N q (W.setCell ⟨g,i,none⟩ u) lv us ls:=
 ⟨ownsRow_setCell_below h.own (by show g < N;exact hg) _,h.len,fun j hj hj'=>(h.at_ j hj hj').ag (Ag.set q W u (fun e=>by have:=hq _ e;simp only at this;omega))⟩
theorem Setl.more {N:Nat} {W W':World} {lv lv':Value} {us:List Value} {ls:List (List ByteArray)} {x:Value} {l:List ByteArray} {L:Nat}
  (h:Setl N (fun b=>N≤b∧lv.ownBlock≠some b) W lv us ls) (hx:SlP (fun b=>L≤b) W x (l.map .string)) (hL:∀ g,lv.ownBlock=some g→g < L) (hNL:N≤L)
  (hown:W'.ownsRow N 22 1 lv' (us.length + 1) (us ++ [x])) (hg:W.grownBy W' lv.ownBlock) (hloc:lv'.ownBlock=lv.ownBlock∨lv'.ownBlock=some W.heap.size) :
  Setl N (fun b=>N≤b∧lv'.ownBlock≠some b) W' lv' (us ++ [x]) (ls ++ [l]):=by
 have Ac:Ag (fun b=>lv.ownBlock≠some b) W W':=Ag.grown hg fun g e=>by rw [e];simp
 have Ab:∀ {v cs},SlP (fun b=>N≤b∧lv.ownBlock≠some b) W v cs→SlP (fun b=>N≤b∧lv'.ownBlock≠some b) W' v cs:=fun h=>
  ((h.lt).ag (Ac.weak fun b hb=>hb.1.2)).weak fun b hb=>⟨hb.1.1,by
    rcases hloc with e | e
    ·rw [e];exact hb.1.2
    ·rw [e];intro e2;have:=Option.some.inj e2;have:=hb.2;omega⟩
 refine ⟨by simpa using hown,by simp [h.len],fun j hj hj' => ?_⟩
 by_cases hjl:j < us.length
 ·have Aa:j < ls.length:=by have:=h.len;omega
  rw [List.getElem_append_left hjl,List.getElem_append_left Aa]
  exact Ab (h.at_ j Aa hjl)
 ·have e1:j=us.length:=by simp at hj';omega
  have e2:j=ls.length:=by have:=h.len;omega
  rw [List.getElem_append_right (by omega),List.getElem_append_right (by omega)]
  simp only [e1,h.len,Nat.sub_self,List.getElem_cons_zero]
  exact Ab (hx.weak fun b hb=>⟨by have:L≤b:=hb;omega,fun e=>by have:=hL b e;have:L≤b:=hb;omega⟩)
theorem Setl.listed {N:Nat} {p q:Nat→Prop} {W:World} {lv:Value} {us:List Value} {ls:List (List ByteArray)} (h:Setl N p W lv us ls) (hpq:∀ b,p b→q b) (hN:∀ b,N≤b→q b) (hs:∀ l ∈ ls,∀ x ∈ l,x.size≤maxLen) (hl:ls.length≤maxLen) (hn:ls=[]→lv = .slice none 0 0):SA2 q W lv ls:=by
 have Aa:=h.len
 rcases Nat.eq_zero_or_pos us.length with h0 | h0
 ·have Ab:ls=[]:=List.eq_nil_of_length_eq_zero (by omega)
  rw [hn Ab,Ab]
  exact SA2.nil _ _
 ·obtain ⟨g,Af,hv,hb,Ad,Ae,hm,hc⟩:=oca h.own h0
  refine ⟨_,Af,by rw [hv,Aa],by omega,by omega,(fun e=>by cases e),fun _=>⟨g,0,rfl,Ad,hN g hb,fun j hj => ?_⟩⟩
  have Ac:j < us.length:=by omega
  exact ⟨us[j],by rw [Nat.zero_add,hc j (by omega)];simp [Ac],(h.at_ j hj Ac).weak hpq,fun x hx=>hs _ (List.getElem_mem hj) x hx⟩
end Go.Proofs.YtjdccifdkjnknaaGreatDoor
namespace Go.Proofs.YtjdccifdkjnknaaGreatDoor
open Go.RowKit Go.Sort
section
variable {p:Nat→Prop} {w:World} {v:Value}
theorem SA2.shape {l:List (List ByteArray)} (h:SA2 p w v l):∃ a cap,v = .slice a l.length cap:=let ⟨a,cap,hv,_⟩:=h;⟨a,cap,hv⟩
theorem RA.shape {α:Type} {k:Nat} {f:α→List Value} {l:List α} (h:RA k f p w v l):∃ a cap,v = .slice a l.length cap:=let ⟨a,cap,hv,_⟩:=h;⟨a,cap,hv⟩
theorem RA.len {α:Type} {k:Nat} {f:α→List Value} {l:List α} (h:RA k f p w v l):l.length≤9223372036854775807:=by obtain ⟨_,_,_,h,_⟩:=h;unfold maxLen at h;omega
theorem SA2.len {l:List (List ByteArray)} (h:SA2 p w v l):l.length≤9223372036854775807:=by obtain ⟨_,_,_,h,_⟩:=h;unfold maxLen at h;omega
end
end Go.Proofs.YtjdccifdkjnknaaGreatDoor
namespace Tess
open Go Kl
open Go.Lib (compareBytes)
theorem cmpB:∀ (a b:List UInt8),(compareBytes a b < 0↔a < b)∧(compareBytes a b=0↔a=b)∧(0 < compareBytes a b↔b < a)
 | [],[]=>by simp [compareBytes]
 | [],_ :: _=>by simp [compareBytes]
 | _ :: _,[]=>by simp [compareBytes]
 | a :: l,b :: m=>by
   have ih:=cmpB l m
   rw [compareBytes]
   split
   ·rename_i h
    refine ⟨⟨fun _=>List.cons_lt_cons_iff.2 (.inl h),(fun _=>by decide)⟩,⟨(fun e=>by cases e),fun e => ?_⟩,⟨(fun e=>by cases e),fun e => ?_⟩⟩
    ·cases e;exact absurd h (UInt8.lt_irrefl _)
    ·rcases List.cons_lt_cons_iff.1 e with h' | ⟨h',_⟩
     ·exact absurd (UInt8.lt_trans h h') (UInt8.lt_irrefl _)
     ·subst h';exact absurd h (UInt8.lt_irrefl _)
   split
   ·rename_i h0 h
    refine ⟨⟨(fun e=>by cases e),fun e => ?_⟩,⟨(fun e=>by cases e),fun e => ?_⟩,⟨fun _=>List.cons_lt_cons_iff.2 (.inl h),fun _=>by decide⟩⟩
    ·rcases List.cons_lt_cons_iff.1 e with h' | ⟨h',_⟩
     ·exact absurd h' h0
     ·subst h';exact absurd h (UInt8.lt_irrefl _)
    ·cases e;exact absurd h (UInt8.lt_irrefl _)
   ·rename_i h0 h1
    have e:a=b:=by
     rw [UInt8.lt_iff_toNat_lt] at h0 h1
     exact UInt8.toNat_inj.1 (by omega)
    subst e
    refine ⟨ih.1.trans ⟨fun h=>List.cons_lt_cons_iff.2 (.inr ⟨rfl,h⟩),fun h => ?_⟩,ih.2.1.trans ⟨fun h=>by rw [h],fun h=>by cases h;rfl⟩,ih.2.2.trans ⟨fun h=>List.cons_lt_cons_iff.2 (.inr ⟨rfl,h⟩),fun h => ?_⟩⟩
    ·rcases List.cons_lt_cons_iff.1 h with h' | ⟨_,h'⟩
     ·exact absurd h' (UInt8.lt_irrefl _)
     ·exact h'
    ·rcases List.cons_lt_cons_iff.1 h with h' | ⟨_,h'⟩
     ·exact absurd h' (UInt8.lt_irrefl _)
     ·exact h'
def cmpV (a b:Val):Int:=if a.null && b.null then 0 else if a.null then -1 else if b.null then 1 else compareBytes a.s.data.toList b.s.data.toList
theorem cmpV_c (a b:Val):(cmpV a b < 0↔vLt a.c b.c=true)∧(cmpV a b=0↔a.c=b.c)∧(0 < cmpV a b↔vLt b.c a.c=true):=by
 obtain ⟨x,m⟩:=a
 obtain ⟨y,n⟩:=b
 cases m <;> cases n
 ·have h:=cmpB x.data.toList y.data.toList
  simp only [cmpV,Val.c,Bool.and_self,Bool.false_eq_true,if_false,vLt,blT,decide_eq_true_eq,Option.some.injEq,ByteArray.toList_eq]
  refine ⟨h.1,h.2.1.trans ⟨fun e=>ByteArray.ext (Array.toList_inj.1 e),fun e=>by rw [e]⟩,h.2.2⟩
 ·simp [cmpV,Val.c,vLt]
 ·simp [cmpV,Val.c,vLt]
 ·simp [cmpV,Val.c,vLt]
def cV3:List Val→List Val→Int
 | [],[]=>0
 | [],_ :: _ => -1
 | _ :: _,[]=>1
 | a :: l,b :: m=>if cmpV a b=0 then cV3 l m else cmpV a b
theorem cmpVL_lt:∀ (l m:List Val),decide (cV3 l m < 0)=lex vLt (l.map Val.c) (m.map Val.c)
 | [],[]=>rfl
 | [],_ :: _=>rfl
 | _ :: _,[]=>rfl
 | a :: l,b :: m=>by
   obtain ⟨h1,h2,h3⟩:=cmpV_c a b
   rw [cV3,List.map_cons,List.map_cons,lex]
   split
   ·rename_i h
    rw [h2.1 h,v_sto.irr,cmpVL_lt l m];simp
   ·rename_i h
    rcases Int.lt_or_gt_of_ne h with h' | h'
    ·rw [h1.1 h',decide_eq_true h'];simp
    ·have:vLt a.c b.c=false:=by
      cases hv:vLt a.c b.c
      ·rfl
      ·have:=h1.2 hv;omega
     rw [this,h3.1 h',decide_eq_false (by omega)];simp
theorem cmpVL_drop {l m:List Val} {k:Nat} (h1:k < l.length) (h2:k < m.length):cV3 (l.drop k) (m.drop k)=if cmpV l[k] m[k]=0 then cV3 (l.drop (k + 1)) (m.drop (k + 1)) else cmpV l[k] m[k]:=by
 rw [List.drop_eq_getElem_cons h1,List.drop_eq_getElem_cons h2,cV3]
end Tess
namespace Go.Proofs.YtjdccifdkjnknaaGreatDoor
open Go.RowKit Go.Sort
theorem can3 {W:World} {B:Nat} {t:TypeId} {x0 x1 x2:Value} (h:W.heap[B]? = some (.cells #[x0,x1,x2] t (0,0))) :
  (W.cell? ⟨B,0,none⟩=some x0∧W.cell? ⟨B,1,none⟩=some x1∧W.cell? ⟨B,2,none⟩=some x2)∧W.frozen? ⟨B,0,none⟩=false∧W.frozen? ⟨B,1,none⟩=false∧W.frozen? ⟨B,2,none⟩=false:=
 ⟨⟨cell_of_row _ _ 0 _ _ _ h,cell_of_row _ _ 1 _ _ _ h,cell_of_row _ _ 2 _ _ _ h⟩,frozen_of_row _ _ 0 _ _ h,frozen_of_row _ _ 1 _ _ h,frozen_of_row _ _ 2 _ _ h⟩
theorem can6 {W:World} {B:Nat} {t:TypeId} {x0 x1 x2 x3 x4 x5:Value} (h:W.heap[B]? = some (.cells #[x0,x1,x2,x3,x4,x5] t (0,0))) :
  (W.cell? ⟨B,0,none⟩=some x0∧W.cell? ⟨B,1,none⟩=some x1∧W.cell? ⟨B,2,none⟩=some x2∧W.cell? ⟨B,3,none⟩=some x3∧W.cell? ⟨B,4,none⟩=some x4∧W.cell? ⟨B,5,none⟩=some x5) ∧
   W.frozen? ⟨B,0,none⟩=false∧W.frozen? ⟨B,1,none⟩=false∧W.frozen? ⟨B,2,none⟩=false∧W.frozen? ⟨B,3,none⟩=false∧W.frozen? ⟨B,4,none⟩=false∧W.frozen? ⟨B,5,none⟩=false:=
 ⟨⟨cell_of_row _ _ 0 _ _ _ h,cell_of_row _ _ 1 _ _ _ h,cell_of_row _ _ 2 _ _ _ h,cell_of_row _ _ 3 _ _ _ h,cell_of_row _ _ 4 _ _ _ h,cell_of_row _ _ 5 _ _ _ h⟩,frozen_of_row _ _ 0 _ _ h,frozen_of_row _ _ 1 _ _ h,frozen_of_row _ _ 2 _ _ h,frozen_of_row _ _ 3 _ _ h,frozen_of_row _ _ 4 _ _ h,frozen_of_row _ _ 5 _ _ h⟩
end Go.Proofs.YtjdccifdkjnknaaGreatDoor
namespace Tess
open Go Kl
namespace Kl
section
variable {K P:Type} {lt:K→K→Bool} {add:P→P→P}
theorem ih4 {x:K×P}:∀ {L:List (K×P)} {k:Nat},k≤L.length→(∀ j (h:j < L.length),j < k→lt L[j].1 x.1=true)→(∀ h:k < L.length,lt L[k].1 x.1=false∧lt x.1 L[k].1=true)→ins lt add x L=L.take k ++ x :: L.drop k
 | [],k,hk,_,_=>by
   have:k=0:=by simpa using hk
   subst this;rfl
 | y :: L,0,_,_,ha=>by
   have h:=ha (by simp)
   simp only [List.getElem_cons_zero] at h
   rw [ins,if_neg (by rw [h.1];decide),if_pos h.2];rfl
 | y :: L,k + 1,hk,hb,ha=>by
   have h:=hb 0 (by simp) (by omega)
   simp only [List.getElem_cons_zero] at h
   rw [ins,if_pos h,ih4 (k:=k) (by simpa using hk) (fun j hj hjk=>hb (j + 1) (by simpa using hj) (by omega)) (fun h=>ha (by simpa using h))]
   rfl
theorem ins_at {x:K×P}:∀ {L:List (K×P)} {k:Nat} (hk:k < L.length),(∀ j (h:j < L.length),j < k→lt L[j].1 x.1=true)→lt L[k].1 x.1=false→lt x.1 L[k].1=false→ins lt add x L=L.set k (L[k].1,add L[k].2 x.2)
 | [],k,hk,_,_,_=>by simp at hk
 | y :: L,0,_,_,h1,h2=>by
   simp only [List.getElem_cons_zero] at h1 h2
   rw [ins,if_neg (by rw [h1];decide),if_neg (by rw [h2];decide)];rfl
 | y :: L,k + 1,hk,hb,h1,h2=>by
   have h:=hb 0 (by simp) (by omega)
   simp only [List.getElem_cons_zero] at h
   simp only [List.getElem_cons_succ] at h1 h2
   rw [ins,if_pos h,ins_at (k:=k) (by simpa using hk) (fun j hj hjk=>hb (j + 1) (by simpa using hj) (by omega)) h1 h2]
   rfl
end
end Kl
end Tess
namespace Go.FlX
open Go Go.RowKit
open Go.Flow (yields ym2 woy dep nd2)
abbrev Spec:=Option (Value ⊕ (Value→Nat→Nat→World→Prop))
def Spec.holds:Spec→Value→Nat→Nat→World→Prop
 | some (.inl u),v,_,_,_=>v=u
 | some (.inr V),v,s,e,w=>V v s e w
 | none,_,_,_,_=>True
def Spec.ok (P:Program) (w0:World) (s:Spec) (o:Oper) (a:Act) (v:Value):Prop:=match s with
 | some (.inl u)=>v=u
 | some (.inr _)=>True
 | none => ∀ u,(execOp a.eval o).run P w0 = .ok (.value u) w0→v=u
abbrev Ctx:=Nat→Nat→Nat→World→Prop
def Mono (p:Nat→Nat→World→Prop):Prop:=∀ s e w w',p s e w→Below w.heap.size w w'→p s e w'
def Spec.mono (s:Spec):Prop:=∀ v,Mono (s.holds v)
theorem mi (u:Value):Spec.mono (some (.inl u)):=fun _ _ _ _ _ h _=>h
theorem mono_none:Spec.mono none:=fun _ _ _ _ _ h _=>h
section
variable {P:Program} {ops:Array Oper}
def Runs (P:Program) (ops:Array Oper) (w0:World) (o:Oper) (s:Spec) (a:Act) (w:World):Prop:=
 if Region.wanted o (yielded ops a.tmps) then yields P o a.eval w (fun v w'=>Below w.heap.size w w'∧s.ok P w0 o a v∧s.holds v w.heap.size w'.heap.size w') else s.ok P w0 o a undef∧s.holds undef w.heap.size w.heap.size w
def Ru (P:Program) (ops:Array Oper) (w0:World) (o:Oper) (s:Spec) (a:Act) (Γ:Ctx):Prop:=
 ∀ w,Below w0.heap.size w0 w→(∀ j,dep o j=true→∃ b e,Γ j b e w)→Runs P ops w0 o s a w
def upd (Γ:Ctx) (i:Nat) (p:Nat→Nat→World→Prop):Ctx:=fun j=>if j=i then p else Γ j
theorem upd_ne {Γ:Ctx} {i j:Nat} {p:Nat→Nat→World→Prop} (h:j≠i):upd Γ i p j=Γ j:=by simp [upd,h]
theorem upd_same {Γ:Ctx} {i:Nat} {p:Nat→Nat→World→Prop}:upd Γ i p i=p:=by simp [upd]
theorem uc2 {Γ:Ctx} {i j:Nat} {p q:Nat→Nat→World→Prop} (h:j≠i):upd (upd Γ i p) j q=upd (upd Γ j q) i p:=by
 funext k;unfold upd
 by_cases h1:k=j
 ·subst h1;simp [h]
 ·simp [h1]
def fOp (P:Program) (ops:Array Oper) (S:Nat→Spec) (w0:World) (i:Nat) (K:Act→Ctx→Prop) (a:Act) (Γ:Ctx):Prop:=
 match ops[i]? with
 | none=>K a Γ
 | some o=>(∃ v,(S i).ok P w0 o a v)∧Ru P ops w0 o (S i) a Γ∧∀ v,(S i).ok P w0 o a v→K (a.put o.dst v) (upd Γ i ((S i).holds v))
theorem os6 {w0:World} {s:Spec} {o:Oper} {a a':Act} {v:Value} (he:execOp a'.eval o=execOp a.eval o):s.ok P w0 o a' v↔s.ok P w0 o a v:=by
 unfold Spec.ok
 cases s with
 | none=>simp only [he]
 | some x=>cases x <;> exact Iff.rfl
theorem Ru.of_same {w0:World} {o:Oper} {s:Spec} {a a':Act} {Γ Γ':Ctx} (h:Ru P ops w0 o s a Γ) (he:execOp a'.eval o=execOp a.eval o)
  (hw:Region.wanted o (yielded ops a'.tmps)=Region.wanted o (yielded ops a.tmps)) (hg:∀ j,dep o j=true→Γ' j=Γ j):Ru P ops w0 o s a' Γ':=by
 intro w hB hG
 have:=h w hB (fun j hj=>by rw [← hg j hj];exact hG j hj)
 unfold Runs yields at *
 simp only [os6 he]
 rw [he,hw]
 exact this
def Tree (P:Program) (ops:Array Oper) (S:Nat→Spec) (w0:World) (E:Act→Ctx→Prop):List Oper→Nat→Act→Ctx→Prop
 | [],_,a,Γ=>E a Γ
 | o :: rest,i,a,Γ=>(∃ v,(S i).ok P w0 o a v)∧Ru P ops w0 o (S i) a Γ∧∀ v,(S i).ok P w0 o a v→Tree P ops S w0 E rest (i + 1) (a.put o.dst v) (upd Γ i ((S i).holds v))
def aF (P:Program) (ops:Array Oper) (S:Nat→Spec) (w0:World) (n:Nat) (L:Array Bool→Act→Ctx→Prop):Nat→Array Bool→Act→Ctx→Prop
 | 0,listed,a,Γ=>L listed a Γ
 | f + 1,listed,a,Γ=>Region.ready .any ops listed≠[]∧∀ i ∈ Region.ready .any ops listed,i < n∧fOp P ops S w0 i (aF P ops S w0 n L f (listed.setIfInBounds i true)) a Γ
structure Told (w0:World) (Γ:Ctx) (I:Nat→Nat×Nat) (w:World):Prop where
 holds:∀ j,Γ j (I j).1 (I j).2 w
 le:∀ j,w0.heap.size≤(I j).1∧(I j).1≤(I j).2∧(I j).2≤w.heap.size
 apart:∀ j k,j≠k→(I j).2≤(I k).1∨(I k).2≤(I j).1
theorem Told.step {S:Nat→Spec} {w0 w w':World} {Γ:Ctx} {I:Nat→Nat×Nat} (h:Told w0 Γ I w) (hM:∀ j,Mono (Γ j)) (hB:Below w0.heap.size w0 w) (i:Nat) (v:Value) (hb:Below w.heap.size w w')
  (hv:(S i).holds v w.heap.size w'.heap.size w'):Told w0 (upd Γ i ((S i).holds v)) (fun j=>if j=i then (w.heap.size,w'.heap.size) else I j) w':=by
 refine ⟨fun j => ?_,fun j => ?_,fun j k hjk => ?_⟩
 ·by_cases e:j=i
  ·subst e;rw [upd_same,if_pos rfl];exact hv
  ·rw [upd_ne e,if_neg e];exact hM j _ _ _ _ (h.holds j) hb
 ·by_cases e:j=i
  ·rw [if_pos e];exact ⟨hB.size,hb.size,Nat.le_refl _⟩
  ·rw [if_neg e];exact ⟨(h.le j).1,(h.le j).2.1,Nat.le_trans (h.le j).2.2 hb.size⟩
 ·by_cases e:j=i
  ·have ek:k≠i:=fun e2=>hjk (e.trans e2.symm)
   rw [if_pos e,if_neg ek];exact .inr (h.le k).2.2
  ·rw [if_neg e]
   by_cases ek:k=i
   ·rw [if_pos ek];exact .inl (h.le j).2.2
   ·rw [if_neg ek];exact h.apart j k hjk
theorem mono_upd {S:Nat→Spec} (hS:∀ i,(S i).mono) {Γ:Ctx} (hM:∀ j,Mono (Γ j)) (i:Nat) (v:Value):∀ j,Mono (upd Γ i ((S i).holds v) j):=fun j=>by
 by_cases e:j=i
 ·subst e;rw [upd_same];exact hS j v
 ·rw [upd_ne e];exact hM j
theorem wAo {S:Nat→Spec} {w0:World} (hS:∀ i,(S i).mono) {n g:Nat} {L:Array Bool→Act→Ctx→Prop} {Q:Exit→Act→World→Prop}
  (hL:∀ listed a Γ w I,L listed a Γ→Below w0.heap.size w0 w→Told w0 Γ I w→wpAny P .any ops Q g listed a w):∀ (f:Nat) (listed:Array Bool) (a:Act) (Γ:Ctx) (w:World) (I:Nat→Nat×Nat),
  aF P ops S w0 n L f listed a Γ→Below w0.heap.size w0 w→Told w0 Γ I w→(∀ j,Mono (Γ j))→wpAny P .any ops Q (f + g) listed a w
 | 0,_,_,_,_,_,h,hB,hG,_=>by rw [Nat.zero_add];exact hL _ _ _ _ _ h hB hG
 | f + 1,listed,a,Γ,w,I,h,hB,hG,hM=>by
   rw [show f + 1 + g=(f + g) + 1 by omega]
   refine ⟨fun h0=>absurd h0 h.1,fun i hi => ?_⟩
   have h1:=(h.2 i hi).2
   unfold fOp at h1
   unfold wpOp
   split
   ·rename_i ho
    simp only [ho] at h1
    exact wAo hS hL f _ _ _ _ _ h1 hB hG hM
   ·rename_i o ho
    simp only [ho] at h1
    have h2:=h1.2.1 w hB (fun j _=>⟨_,_,hG.holds j⟩)
    unfold Runs at h2
    split
    ·rename_i hw
     simp only [hw,if_true] at h2
     refine .inl (woy (ym2 ?_ h2))
     intro v w' ⟨hb,ho,hv⟩
     exact wAo hS hL f _ _ _ _ _ (h1.2.2 v ho) (hB.trans (hb.mono hB.size)) (hG.step hM hB i v hb hv) (mono_upd hS hM i v)
    ·rename_i hw
     simp only [hw] at h2
     exact wAo hS hL f _ _ _ _ _ (h1.2.2 undef h2.1) hB (hG.step hM hB i undef (Below.refl _ _) h2.2) (mono_upd hS hM i undef)
theorem aFf {S:Nat→Spec} {w0:World} {n i:Nat} {oi:Oper} {L:Array Bool→Act→Ctx→Prop} (hi:ops[i]? = some oi) (hsel:∀ (j:Nat) (o:Oper) cs b,ops[j]? = some o→o.op ≠ .select cs b)
  (hs:Region.sinkB .any ops n=true) (hc:Region.chainB .any ops n=true) (hn:n < ops.size) (hin:i < n)
  (hdone:∀ listed a Γ,L listed a Γ→∀ j ∈ Region.ready .any ops listed,n≤j) :
  ∀ (f:Nat) (listed:Array Bool) (a:Act) (Γ:Ctx),HeadInv .any ops n listed →
    (∀ j oj,ops[j]? = some oj→j≠i→listed.getD j true=false→(∀ e ∈ oj.after,Region.binds .any e=true→e.on≠i)→oi.apart ops oj=true) →
    i ∈ Region.ready .any ops listed→(∃ v,(S i).ok P w0 oi a v)→Ru P ops w0 oi (S i) a Γ →
    (∀ v,(S i).ok P w0 oi a v→aF P ops S w0 n L f (listed.setIfInBounds i true) (a.put oi.dst v) (upd Γ i ((S i).holds v)))→aF P ops S w0 n L (f + 1) listed a Γ:=by
 intro f
 induction f with
 | zero=>
   intro listed a Γ Ai _ hr Am hy H
   obtain ⟨v0,Ab⟩:=Am
   have Ac:=(mem_ready.1 hr).1
   refine ⟨fun h=>(by rw [h] at hr;cases hr),fun j hj => ?_⟩
   have Ak:j < n:=by
    rcases Nat.lt_or_ge j n with h | h
    ·exact h
    ·exact absurd hj (tail_waits hs hc hn Ai _ i rfl hin Ac j h)
   refine ⟨Ak,?_⟩
   by_cases hji:j=i
   ·subst hji
    unfold fOp;simp only [hi];exact ⟨⟨v0,Ab⟩,hy,H⟩
   ·have:=hdone _ _ _ (H v0 Ab) j (ready_mono hj hji)
    omega
 | succ f ih=>
   intro listed a Γ Ai Aa hr Am hy H
   obtain ⟨v0,Ab⟩:=Am
   have Ac:=(mem_ready.1 hr).1
   refine ⟨fun h=>(by rw [h] at hr;cases hr),fun j hj => ?_⟩
   have Ak:j < n:=by
    rcases Nat.lt_or_ge j n with h | h
    ·exact h
    ·exact absurd hj (tail_waits hs hc hn Ai _ i rfl hin Ac j h)
   refine ⟨Ak,?_⟩
   by_cases hji:j=i
   ·subst hji
    unfold fOp;simp only [hi];exact ⟨⟨v0,Ab⟩,hy,H⟩
   ·obtain ⟨Ae,oj,Aj,Al⟩:=mem_ready.1 hj
    have An:∀ k,listed.getD k true=false→listed.getD k false=true→False:=fun k h1 h0=>by rw [getD_both h1] at h0;cases h0
    have Ag:∀ e ∈ oj.after,Region.binds .any e=true→e.on≠i:=fun e he hb heq=>An i Ac (by rw [← heq];exact Al e he hb)
    have Ah:∀ e ∈ oi.after,Region.binds .any e=true→e.on≠j:=fun e he hb heq=>by
     obtain ⟨_,o',Ao,Af⟩:=mem_ready.1 hr
     rw [hi] at Ao;cases Ao
     exact An j Ae (by rw [← heq];exact Af e he hb)
    have Ap:=Aa j oj Aj hji Ae Ag
    obtain ⟨h1,h2,h3⟩:=Oper.apart_spec Ap
    have Ad:∀ k ok,ops[k]? = some ok→k≠i→(listed.setIfInBounds j true).getD k true=false →
      (∀ e ∈ ok.after,Region.binds .any e=true→e.on≠i)→oi.apart ops ok=true:=fun k ok hk hki Ac hno=>by
     refine Aa k ok hk hki ?_ hno
     by_cases hjk:j=k
     ·subst hjk;exact Ae
     ·rw [getD_set_ne true hjk] at Ac;exact Ac
    have Hj:∀ v,(S i).ok P w0 oi a v→(∃ u,(S j).ok P w0 oj (a.put oi.dst v) u)∧Ru P ops w0 oj (S j) (a.put oi.dst v) (upd Γ i ((S i).holds v))∧∀ u,(S j).ok P w0 oj (a.put oi.dst v) u →
      aF P ops S w0 n L f ((listed.setIfInBounds i true).setIfInBounds j true) ((a.put oi.dst v).put oj.dst u) (upd (upd Γ i ((S i).holds v)) j ((S j).holds u)):=fun v hv=>by
     have:=((H v hv).2 j (ready_mono hj hji)).2
     unfold fOp at this
     simpa only [Aj] using this
    unfold fOp
    simp only [Aj]
    have ej:=fun v=>execOp_put oj (fun cs b=>hsel j oj cs b Aj) a oi.dst v h1
    have ei:=fun u=>execOp_put oi (fun cs b=>hsel i oi cs b hi) a oj.dst u h3
    refine ⟨(Hj v0 Ab).1.imp fun u hu=>(os6 (ej v0)).1 hu,(Hj v0 Ab).2.1.of_same (ej v0).symm (wanted_put oj a oi.dst v0 h1).symm (fun k hk => ?_),fun u hu => ?_⟩
    ·exact (upd_ne (nd2 Ag hk)).symm
    ·refine ih (listed.setIfInBounds j true) _ _ (Ai.set hj Ak) Ad (ready_mono hr (Ne.symm hji)) ⟨v0,(os6 (ei u)).2 Ab⟩ ?_ (fun v hv => ?_)
     ·exact hy.of_same (execOp_put oi (fun cs b=>hsel i oi cs b hi) a oj.dst u h3) (wanted_put oi a oj.dst u h3) (fun k hk=>upd_ne (nd2 Ah hk))
     ·have Aq:=(os6 (ei u)).1 hv
      have:=(Hj v Aq).2.2 u ((os6 (ej v)).2 hu)
      rw [Array.setIfInBounds_comm _ _ hji,← Act.put_comm a v u h2,← uc2 hji]
      exact this
theorem aFl {S:Nat→Spec} {w0:World} {n g:Nat} {Lq:Act→Ctx→Prop} (hsel:Region.noSelect ops=true) (hs:Region.sinkB .any ops n=true) (hc:Region.chainB .any ops n=true) (hn:n < ops.size) :
  ∀ (l:List Oper) (k:Nat) (listed:Array Bool) (a:Act) (Γ:Ctx),(∀ j,j < l.length→l[j]? = ops[k + j]?)→k + l.length=n→HeadInv .any ops n listed →
  Region.lexHead .any ops g l.length k listed=true→Tree P ops S w0 Lq l k a Γ →
  aF P ops S w0 n (fun listed' a' Γ'=>Region.seqB .any ops g n listed'=true∧Lq a' Γ') l.length listed a Γ
 | [],k,listed,a,Γ,_,hk,_,hB,h=>by
   have:k=n:=by simpa using hk
   subst this
   exact ⟨by simpa [Region.lexHead] using hB,h⟩
 | o :: l,k,listed,a,Γ,hl,hk,inv,hB,h=>by
   have h0:ops[k]? = some o:=by simpa using (hl 0 (by simp)).symm
   simp only [List.length_cons,Region.lexHead,Bool.and_eq_true] at hB
   obtain ⟨⟨hr,hf⟩,Ac⟩:=hB
   have Aa:k < n:=by simp only [List.length_cons] at hk;omega
   have Ab:k ∈ Region.ready .any ops listed:=by simpa using hr
   exact aFf h0 (Region.noSelect_spec hsel) hs hc hn Aa (fun listed' a' Γ' hL=>seqB_ready hL.1) l.length listed a Γ inv (Region.free_spec h0 hf) Ab h.1 h.2.1
    (fun v hv=>aFl hsel hs hc hn l (k + 1) _ _ _ (fun j hj=>by have:=hl (j + 1) (by simp;omega);simpa [Nat.add_assoc,Nat.add_comm 1 j] using this) (by simp only [List.length_cons] at hk;omega) (inv.set Ab Aa) Ac (h.2.2 v hv))
theorem wrf {id:Nat} {Q:Exit→Act→World→Prop} {a:Act} {w:World} {l:List Oper} (n:Nat) (S:Nat→Spec) (hm:P.follows .mixedOrders=true) (hB:Region.lexTailB .any l.toArray n=true) (hS:∀ i,(S i).mono)
  (h:Tree P l.toArray S w (fun a' Γ => ∀ w',Below w.heap.size w w'→(∃ I,Told w Γ I w')→wpList P l.toArray Q (l.drop n) a' w') (l.take n) 0 a (fun _ _ _ _=>True)):(Code.region id l.toArray true).wp P Q a w:=by
 simp only [Region.lexTailB,Bool.and_eq_true,decide_eq_true_eq] at hB
 obtain ⟨⟨⟨⟨Ab,hn⟩,hs⟩,hc⟩,Ad⟩:=hB
 have Ag:n < l.length:=by simpa using hn
 have Aa:(l.take n).length=n:=by simp;omega
 have Ae:(l.drop n).length=l.toArray.size - n:=by simp
 have Ac:HeadInv .any l.toArray n (Array.replicate l.toArray.size false):=
  ⟨by simp,fun j oj _ hl=>(by rw [getD_replicate_false] at hl;cases hl),fun t _ ht=>getD_in (by simpa using ht) (getD_replicate_false _ _)⟩
 have H:=aFl (g:=l.toArray.size - n) Ab hs hc hn (l.take n) 0 _ a (fun _ _ _ _=>True) (fun j hj=>by
  have Af:j < n:=by rw [Aa] at hj;exact hj
  simp [Af]) (by simpa using Aa) Ac (by rw [Aa];exact Ad) h
 refine wp_region_any hm ?_
 have:=wAo (Q:=Q) (g:=l.toArray.size - n) hS (fun listed a' Γ' w' I hL hb hG=>by
  have:=wpAny_of_seq (md:=.any) (Q':=Q) (l.drop n) n listed a' w' (fun j=>by simp [List.getElem?_drop]) (by rw [Ae];exact hL.1) (hL.2 w' hb ⟨I,hG⟩)
  rwa [Ae] at this) _ _ _ _ { w with drawn:=w.drawn + 1 } (fun _=>(w.heap.size,w.heap.size)) H ((Below.refl _ _).drew) ⟨fun _=>trivial,fun _=>⟨Nat.le_refl _,Nat.le_refl _,Nat.le_refl _⟩,fun _ _ _ => .inl (Nat.le_refl _)⟩ (fun _ _ _ _ _ _ _=>trivial)
 rw [Aa,show n + (l.toArray.size - n)=l.toArray.size by omega] at this
 exact this
theorem tn2 {S:Nat→Spec} {w0:World} {E:Act→Ctx→Prop} {i:Nat} {a:Act} {Γ:Ctx} (h:E a Γ):Tree P ops S w0 E [] i a Γ:=h
def sp3 (l:List Spec):Nat→Spec:=fun i=>l.getD i none
theorem sm2 {l:List Spec} (h:∀ s ∈ l,Spec.mono s):∀ i,(sp3 l i).mono:=fun i=>by
 unfold sp3
 rcases Nat.lt_or_ge i l.length with h' | h'
 ·rw [List.getD_eq_getElem?_getD,List.getElem?_eq_getElem h'];exact h _ (List.getElem_mem h')
 ·rw [List.getD_eq_getElem?_getD,List.getElem?_eq_none h'];exact mono_none
def RV (P:Program) (ops:Array Oper) (o:Oper) (u:Value) (a:Act) (w:World):Prop:=
 if Region.wanted o (yielded ops a.tmps) then yields P o a.eval w (fun v w'=>Below w.heap.size w w'∧v=u) else undef=u
def RR2 (P:Program) (ops:Array Oper) (o:Oper) (V:Value→Nat→Nat→World→Prop) (a:Act) (w:World):Prop:=
 if Region.wanted o (yielded ops a.tmps) then yields P o a.eval w (fun v w'=>Below w.heap.size w w'∧V v w.heap.size w'.heap.size w') else V undef w.heap.size w.heap.size w
theorem tvK {S:Nat→Spec} {w0:World} {E:Act→Ctx→Prop} {o:Oper} {rest:List Oper} {i:Nat} {a:Act} {Γ:Ctx} {u:Value} (hs:S i=some (.inl u))
  (h:∀ K:Act→Prop,(∀ a',Tree P ops S w0 E rest (i + 1) a' (upd Γ i (fun _ _ _=>True))→K a')→(∀ w,Below w0.heap.size w0 w→(∀ j,dep o j=true→∃ b e,Γ j b e w)→RV P ops o u a w)∧K (a.put o.dst u)):Tree P ops S w0 E (o :: rest) i a Γ:=by
 refine ⟨by rw [hs];exact ⟨u,rfl⟩,?_,fun v hv => ?_⟩
 ·intro w hB hG
  have:=(h (fun _=>True) (fun _ _=>trivial)).1 w hB hG
  rw [hs]
  unfold RV at this
  unfold Runs
  split
  ·rename_i hw;simp only [hw,if_true] at this
   exact ym2 (fun v w' h=>⟨h.1,h.2,h.2⟩) this
  ·rename_i hw;simp only [hw] at this
   exact ⟨this,this⟩
 ·rw [hs] at hv ⊢
  have Aa:v=u:=hv
  subst Aa
  have e:Spec.holds (some (.inl v)) v=fun _ _ _=>True:=by funext a b c;simp [Spec.holds]
  rw [e]
  exact (h (fun a'=>Tree P ops S w0 E rest (i + 1) a' (upd Γ i (fun _ _ _=>True))) (fun _ h=>h)).2
theorem tvK2 {S:Nat→Spec} {w0:World} {E:Act→Ctx→Prop} {o:Oper} {rest:List Oper} {i:Nat} {a:Act} {Γ:Ctx} {V:Value→Nat→Nat→World→Prop} (hs:S i=some (.inr V))
  (h:∀ K:Act→(Nat→Nat→World→Prop)→Prop,(∀ a' v,Tree P ops S w0 E rest (i + 1) a' (upd Γ i (V v))→K a' (V v))→(∀ w,Below w0.heap.size w0 w→(∀ j,dep o j=true→∃ b e,Γ j b e w)→RR2 P ops o V a w)∧∀ v,K (a.put o.dst v) (V v)):Tree P ops S w0 E (o :: rest) i a Γ:=by
 refine ⟨by rw [hs];exact ⟨undef,trivial⟩,?_,fun v _ => ?_⟩
 ·intro w hB hG
  have:=(h (fun _ _=>True) (fun _ _ _=>trivial)).1 w hB hG
  rw [hs]
  unfold RR2 at this
  unfold Runs
  split
  ·rename_i hw;simp only [hw,if_true] at this
   exact ym2 (fun v w' h=>⟨h.1,trivial,h.2⟩) this
  ·rename_i hw;simp only [hw] at this
   exact ⟨trivial,this⟩
 ·rw [hs]
  exact (h (fun a' p=>Tree P ops S w0 E rest (i + 1) a' (upd Γ i p)) (fun _ _ h=>h)).2 v
theorem ln2:∀ s ∈ ([]:List Spec),s.mono:=fun _ h=>by cases h
theorem li2 {u:Value} {l:List Spec} (h:∀ s ∈ l,s.mono):∀ s ∈ (some (.inl u) :: l:List Spec),s.mono:=fun s hs=>by
 rcases List.mem_cons.1 hs with rfl | hs
 ·exact mi u
 ·exact h s hs
theorem li3 {V:Value→Nat→Nat→World→Prop} {l:List Spec} (hV:Spec.mono (some (.inr V))) (h:∀ s ∈ l,s.mono):∀ s ∈ (some (.inr V) :: l:List Spec),s.mono:=fun s hs=>by
 rcases List.mem_cons.1 hs with rfl | hs
 ·exact hV
 ·exact h s hs
end
end Go.FlX
namespace Tess
open Go Kl
theorem fold_pay {M:Nat} {C:List (CK×Pay)} (h:∀ x ∈ C,PO M x.2):∀ y ∈ fold ckLt Pay.add C,PO M y.2∧y.2.n≤(C.map (·.2.n)).sum:=by
 have hp:=fold_all (lt:=ckLt) (R:=PO M) pOa h
 intro y hy
 refine ⟨hp y hy,?_⟩
 have e:sum Pay.add (fun _=>true) (fold ckLt Pay.add C)=sum Pay.add (fun _=>true) C:=sf3 cs3 pc5 _ _
 cases hs:sum Pay.add (fun _=>true) (fold ckLt Pay.add C) with
 | none=>rw [san hs] at hy;cases hy
 | some p=>
   have h1:=tn3 hs
   rw [hs] at e
   have h2:=tn3 e.symm
   rw [← h2,h1]
   exact (lls fun x hx=>(hp x hx).one).2 y hy
theorem take_sum {M:Nat} {C:List (CK×Pay)} (h:∀ x ∈ C,PO M x.2) {k:Nat} (hk:k < C.length):((C.take k).map (·.2.n)).sum + C[k].2.n≤(C.map (·.2.n)).sum:=by
 have e:(C.map (·.2.n)).sum=((C.take k).map (·.2.n)).sum + (C[k].2.n + ((C.drop (k + 1)).map (·.2.n)).sum):=by
  conv=>lhs;rw [← List.take_append_drop k C,List.drop_eq_getElem_cons hk]
  rw [List.map_append,List.sum_append_int,List.map_cons,List.sum_cons]
 have h0:0≤((C.drop (k + 1)).map (·.2.n)).sum:=by
  have:=(lls (l:=C.drop (k + 1)) fun x hx=>(h x (List.mem_of_mem_drop hx)).one).1
  omega
 omega
theorem ft2 {C:List (CK×Pay)} {k:Nat} (hk:k < C.length):fold ckLt Pay.add (C.take (k + 1))=ins ckLt Pay.add C[k] (fold ckLt Pay.add (C.take k)):=by
 unfold fold
 rw [List.take_succ_eq_append_getElem hk,List.foldl_append];rfl
theorem pay_w {M:Nat} {p:Pay} (h:PO M p) (hn:p.n≤1000000):∀ m < M,-170141183460469231731687303715884105728≤p.sums.getD m 0∧p.sums.getD m 0 < 170141183460469231731687303715884105728:=fun m hm=>by
 obtain ⟨h1,h2,h3⟩:=h.sum m hm
 obtain ⟨r1,r2,r3,r4⟩:=h.rng m hm
 have h0:=h.one
 have m1 : -9223372036854775808 * (p.n - 1)≤p.mins.getD m 0 * (p.n - 1):=Int.mul_le_mul_of_nonneg_right r1 (by omega)
 have m2:p.maxs.getD m 0 * (p.n - 1)≤9223372036854775807 * (p.n - 1):=Int.mul_le_mul_of_nonneg_right r4 (by omega)
 omega
theorem pay_sum {M:Nat} {a b:Pay} (ha:PO M a) (hb:PO M b) (hn:a.n + b.n≤1000000):∀ j (h1:j < a.sums.length) (h2:j < b.sums.length),-170141183460469231731687303715884105728≤a.sums[j] + b.sums[j]∧a.sums[j] + b.sums[j] < 170141183460469231731687303715884105728:=fun j h1 h2=>by
 have:=pay_w (pOa a b ha hb) hn j (by have:=ha.len.1;omega)
 have e:(a.add b).sums.getD j 0=a.sums[j] + b.sums[j]:=by
  have:=zgD (f:=(· + ·)) (l:=a.sums) (m:=b.sums) h1 h2
  simp only [List.getD_eq_getElem?_getD,List.getElem?_eq_getElem h1,List.getElem?_eq_getElem h2,Option.getD_some] at this
  rw [← this];simp [Pay.add,List.getD_eq_getElem?_getD]
 rw [e] at this
 exact this
end Tess
namespace Go.FlowR
open Go Go.RowKit
section
variable {R:Rel} {P:Program} {ops:Array Oper}
def aF (R:Rel) (P:Program) (ops:Array Oper) (S:Nat→Value→Spec) (σ:Nat→Nat) (w0:World) (n:Nat) (L:Array Bool→Act→(Nat→World→Prop)→Prop):Nat→Array Bool→Act→(Nat→World→Prop)→Prop
 | 0,listed,a,Γ=>L listed a Γ
 | f + 1,listed,a,Γ=>Region.ready .any ops listed≠[]∧∀ i ∈ Region.ready .any ops listed,i < n∧fOp R P ops S σ w0 i (aF R P ops S σ w0 n L f (listed.setIfInBounds i true)) a Γ
theorem wAo {S:Nat→Value→Spec} {σ:Nat→Nat} {w0:World} (hS:∀ i x,Spec.mono R (S i x)) {n g:Nat} {L:Array Bool→Act→(Nat→World→Prop)→Prop} {Q:Exit→Act→World→Prop}
  (hL:∀ listed a Γ w,L listed a Γ→R.r w0 w→(∀ j,Γ j w)→wpAny P .any ops Q g listed a w):∀ (f:Nat) (listed:Array Bool) (a:Act) (Γ:Nat→World→Prop) (w:World),
  aF R P ops S σ w0 n L f listed a Γ→R.r w0 w→(∀ j,Γ j w)→(∀ j,Mono R (Γ j))→wpAny P .any ops Q (f + g) listed a w
 | 0,_,_,_,_,h,hB,hG,_=>by rw [Nat.zero_add];exact hL _ _ _ _ h hB hG
 | f + 1,listed,a,Γ,w,h,hB,hG,hM=>by
   rw [show f + 1 + g=(f + g) + 1 by omega]
   refine ⟨fun h0=>absurd h0 h.1,fun i hi => ?_⟩
   have h1:=(h.2 i hi).2
   unfold fOp at h1
   unfold wpOp
   have hM':∀ v j,Mono R (upd Γ i ((sp S σ i a).holds v) j):=fun v j=>by
    by_cases e:j=i
    ·subst e;rw [upd_same];exact hS j _ v
    ·rw [upd_ne e];exact hM j
   have hG':∀ v w',R.r w w'→(sp S σ i a).holds v w'→∀ j,upd Γ i ((sp S σ i a).holds v) j w':=fun v w' hb hv j=>by
    by_cases e:j=i
    ·subst e;rw [upd_same];exact hv
    ·rw [upd_ne e];exact hM j _ _ (hG j) hb
   have hok:∀ v w',(sp S σ i a).holds v w'→(sp S σ i a).ok v:=fun v w' hv=>by
    cases hs:sp S σ i a with
    | inl u=>rw [hs] at hv;exact hv
    | inr V=>trivial
   split
   ·rename_i ho
    simp only [ho] at h1
    exact wAo hS hL f _ _ _ _ h1 hB hG hM
   ·rename_i o ho
    simp only [ho] at h1
    have h2:=h1.1 w hB (fun j _=>hG j)
    unfold Runs at h2
    split
    ·rename_i hw
     simp only [hw,if_true] at h2
     refine .inl (woy (ym2 ?_ h2))
     intro v w' ⟨hb,hv⟩
     exact wAo hS hL f _ _ _ _ (h1.2 v (hok v w' hv)) (R.tr hB hb) (hG' v w' hb hv) (hM' v)
    ·rename_i hw
     simp only [hw] at h2
     exact wAo hS hL f _ _ _ _ (h1.2 undef (hok _ _ h2)) hB (hG' _ _ (R.rf _) h2) (hM' _)
theorem aFf {S:Nat→Value→Spec} {σ:Nat→Nat} {w0:World} {n i:Nat} {oi:Oper} {L:Array Bool→Act→(Nat→World→Prop)→Prop} (hSp:SpOk ops S σ) (hi:ops[i]? = some oi) (hsel:∀ (j:Nat) (o:Oper) cs b,ops[j]? = some o→o.op ≠ .select cs b)
  (hs:Region.sinkB .any ops n=true) (hc:Region.chainB .any ops n=true) (hn:n < ops.size) (hin:i < n)
  (hdone:∀ listed a Γ,L listed a Γ→∀ j ∈ Region.ready .any ops listed,n≤j) :
  ∀ (f:Nat) (listed:Array Bool) (a:Act) (Γ:Nat→World→Prop),HeadInv .any ops n listed →
    (∀ j oj,ops[j]? = some oj→j≠i→listed.getD j true=false→(∀ e ∈ oj.after,Region.binds .any e=true→e.on≠i)→oi.apart ops oj=true) →
    i ∈ Region.ready .any ops listed→Ru R P ops w0 oi (sp S σ i a) a Γ →
    (∀ v,(sp S σ i a).ok v→aF R P ops S σ w0 n L f (listed.setIfInBounds i true) (a.put oi.dst v) (upd Γ i ((sp S σ i a).holds v)))→aF R P ops S σ w0 n L (f + 1) listed a Γ:=by
 have An:∀ a,∃ v,(sp S σ i a).ok v:=fun a=>by
  cases hs:sp S σ i a with
  | inl u=>exact ⟨u,rfl⟩
  | inr V=>exact ⟨undef,trivial⟩
 intro f
 induction f with
 | zero=>
   intro listed a Γ Ai _ hr hy H
   obtain ⟨v0,Ak⟩:=An a
   have Ab:=(mem_ready.1 hr).1
   refine ⟨fun h=>(by rw [h] at hr;cases hr),fun j hj => ?_⟩
   have Aj:j < n:=by
    rcases Nat.lt_or_ge j n with h | h
    ·exact h
    ·exact absurd hj (tail_waits hs hc hn Ai _ i rfl hin Ab j h)
   refine ⟨Aj,?_⟩
   by_cases hji:j=i
   ·subst hji
    unfold fOp;simp only [hi];exact ⟨hy,H⟩
   ·have:=hdone _ _ _ (H v0 Ak) j (ready_mono hj hji)
    omega
 | succ f ih=>
   intro listed a Γ Ai Aa hr hy H
   obtain ⟨v0,Ak⟩:=An a
   have Ab:=(mem_ready.1 hr).1
   refine ⟨fun h=>(by rw [h] at hr;cases hr),fun j hj => ?_⟩
   have Aj:j < n:=by
    rcases Nat.lt_or_ge j n with h | h
    ·exact h
    ·exact absurd hj (tail_waits hs hc hn Ai _ i rfl hin Ab j h)
   refine ⟨Aj,?_⟩
   by_cases hji:j=i
   ·subst hji
    unfold fOp;simp only [hi];exact ⟨hy,H⟩
   ·obtain ⟨Ad,oj,Af,Al⟩:=mem_ready.1 hj
    have Am:∀ k,listed.getD k true=false→listed.getD k false=true→False:=fun k h1 h0=>by rw [getD_both h1] at h0;cases h0
    have Ag:∀ e ∈ oj.after,Region.binds .any e=true→e.on≠i:=fun e he hb heq=>Am i Ab (by rw [← heq];exact Al e he hb)
    have Ah:∀ e ∈ oi.after,Region.binds .any e=true→e.on≠j:=fun e he hb heq=>by
     obtain ⟨_,o',Ao,Ae⟩:=mem_ready.1 hr
     rw [hi] at Ao;cases Ao
     exact Am j Ad (by rw [← heq];exact Ae e he hb)
    have Ap:=Aa j oj Af hji Ad Ag
    obtain ⟨h1,h2,h3⟩:=Oper.apart_spec Ap
    have Ac:∀ k ok,ops[k]? = some ok→k≠i→(listed.setIfInBounds j true).getD k true=false →
      (∀ e ∈ ok.after,Region.binds .any e=true→e.on≠i)→oi.apart ops ok=true:=fun k ok hk hki Ab hno=>by
     refine Aa k ok hk hki ?_ hno
     by_cases hjk:j=k
     ·subst hjk;exact Ad
     ·rw [getD_set_ne true hjk] at Ab;exact Ab
    have ej:∀ v,sp S σ j (a.put oi.dst v)=sp S σ j a:=fun v=>sp_put hSp Af a oi.dst v h1
    have ei:∀ u,sp S σ i (a.put oj.dst u)=sp S σ i a:=fun u=>sp_put hSp hi a oj.dst u h3
    have Hj:∀ v,(sp S σ i a).ok v→Ru R P ops w0 oj (sp S σ j a) (a.put oi.dst v) (upd Γ i ((sp S σ i a).holds v))∧∀ u,(sp S σ j a).ok u →
      aF R P ops S σ w0 n L f ((listed.setIfInBounds i true).setIfInBounds j true) ((a.put oi.dst v).put oj.dst u) (upd (upd Γ i ((sp S σ i a).holds v)) j ((sp S σ j a).holds u)):=fun v hv=>by
     have:=((H v hv).2 j (ready_mono hj hji)).2
     unfold fOp at this
     simpa only [Af,ej v] using this
    unfold fOp
    simp only [Af]
    refine ⟨(Hj v0 Ak).1.of_same (execOp_put oj (fun cs b=>hsel j oj cs b Af) a oi.dst v0 h1).symm (wanted_put oj a oi.dst v0 h1).symm (fun k hk => ?_),fun u hu => ?_⟩
    ·exact (upd_ne (nd2 Ag hk)).symm
    ·refine ih (listed.setIfInBounds j true) _ _ (Ai.set hj Aj) Ac (ready_mono hr (Ne.symm hji)) ?_ (fun v hv => ?_)
     ·rw [ei u]
      exact hy.of_same (execOp_put oi (fun cs b=>hsel i oi cs b hi) a oj.dst u h3) (wanted_put oi a oj.dst u h3) (fun k hk=>upd_ne (nd2 Ah hk))
     ·rw [ei u] at hv ⊢
      have:=(Hj v hv).2 u hu
      rw [Array.setIfInBounds_comm _ _ hji,← Act.put_comm a v u h2,← uc2 hji]
      exact this
theorem aFl {S:Nat→Value→Spec} {σ:Nat→Nat} {w0:World} {n g:Nat} {Lq:Act→(Nat→World→Prop)→Prop} (hSp:SpOk ops S σ) (hsel:Region.noSelect ops=true) (hs:Region.sinkB .any ops n=true) (hc:Region.chainB .any ops n=true) (hn:n < ops.size) :
  ∀ (l:List Oper) (k:Nat) (listed:Array Bool) (a:Act) (Γ:Nat→World→Prop),(∀ j,j < l.length→l[j]? = ops[k + j]?)→k + l.length=n→HeadInv .any ops n listed →
  Region.lexHead .any ops g l.length k listed=true→Tree R P ops S σ w0 Lq l k a Γ →
  aF R P ops S σ w0 n (fun listed' a' Γ'=>Region.seqB .any ops g n listed'=true∧Lq a' Γ') l.length listed a Γ
 | [],k,listed,a,Γ,_,hk,_,hB,h=>by
   have:k=n:=by simpa using hk
   subst this
   exact ⟨by simpa [Region.lexHead] using hB,h⟩
 | o :: l,k,listed,a,Γ,hl,hk,inv,hB,h=>by
   have h0:ops[k]? = some o:=by simpa using (hl 0 (by simp)).symm
   simp only [List.length_cons,Region.lexHead,Bool.and_eq_true] at hB
   obtain ⟨⟨hr,hf⟩,Ac⟩:=hB
   have Aa:k < n:=by simp only [List.length_cons] at hk;omega
   have Ab:k ∈ Region.ready .any ops listed:=by simpa using hr
   exact aFf hSp h0 (Region.noSelect_spec hsel) hs hc hn Aa (fun listed' a' Γ' hL=>seqB_ready hL.1) l.length listed a Γ inv (Region.free_spec h0 hf) Ab h.1
    (fun v hv=>aFl hSp hsel hs hc hn l (k + 1) _ _ _ (fun j hj=>by have:=hl (j + 1) (by simp;omega);simpa [Nat.add_assoc,Nat.add_comm 1 j] using this) (by simp only [List.length_cons] at hk;omega) (inv.set Ab Aa) Ac (h.2 v hv))
theorem wrf {id:Nat} {Q:Exit→Act→World→Prop} {a:Act} {w:World} {l:List Oper} (n:Nat) (S:Nat→Value→Spec) (σ:Nat→Nat) (hSp:SpOk l.toArray S σ) (hm:P.follows .mixedOrders=true) (hB:Region.lexTailB .any l.toArray n=true) (hS:∀ i x,Spec.mono R (S i x))
  (h:Tree R P l.toArray S σ w (fun a' Γ => ∀ w',R.r w w'→(∀ j,Γ j w')→wpList P l.toArray Q (l.drop n) a' w') (l.take n) 0 a (fun _ _=>True)):(Code.region id l.toArray true).wp P Q a w:=by
 simp only [Region.lexTailB,Bool.and_eq_true,decide_eq_true_eq] at hB
 obtain ⟨⟨⟨⟨Ab,hn⟩,hs⟩,hc⟩,Ad⟩:=hB
 have Ag:n < l.length:=by simpa using hn
 have Aa:(l.take n).length=n:=by simp;omega
 have Ae:(l.drop n).length=l.toArray.size - n:=by simp
 have Ac:HeadInv .any l.toArray n (Array.replicate l.toArray.size false):=
  ⟨by simp,fun j oj _ hl=>(by rw [getD_replicate_false] at hl;cases hl),fun t _ ht=>getD_in (by simpa using ht) (getD_replicate_false _ _)⟩
 have H:=aFl (g:=l.toArray.size - n) hSp Ab hs hc hn (l.take n) 0 _ a (fun _ _=>True) (fun j hj=>by
  have Af:j < n:=by rw [Aa] at hj;exact hj
  simp [Af]) (by simpa using Aa) Ac (by rw [Aa];exact Ad) h
 refine wp_region_any hm ?_
 have:=wAo (Q:=Q) (g:=l.toArray.size - n) hS (fun listed a' Γ' w' hL hb hG=>by
  have:=wpAny_of_seq (md:=.any) (Q':=Q) (l.drop n) n listed a' w' (fun j=>by simp [List.getElem?_drop]) (by rw [Ae];exact hL.1) (hL.2 w' hb hG)
  rwa [Ae] at this) _ _ _ _ { w with drawn:=w.drawn + 1 } H (R.drew _) (fun _=>trivial) (fun _ _ _ _ _=>trivial)
 rw [Aa,show n + (l.toArray.size - n)=l.toArray.size by omega] at this
 exact this
end
end Go.FlowR
