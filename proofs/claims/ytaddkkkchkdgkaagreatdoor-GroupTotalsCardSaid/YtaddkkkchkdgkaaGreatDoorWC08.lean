/- Joined by mergeK.py: HS, H2s, K11, K9p, F32a -/
import Derived.Test.YtaddkkkchkdgkaaGreatDoorWC07
import Derived.Test.YtaddkkkchkdgkaaGreatDoorWC03
import Derived.Lib.Bytealg
namespace Go.Proofs.YtaddkkkchkdgkaaGreatDoor
open Go.RowKit Go.Sort
open Tess (Fil Que)
theorem flatK {α:Type} {k:Nat} {f:α→List Value} (l:List α) (h:∀ x ∈ l,(f x).length=k):∀ (j i:Nat) (hj:j < l.length),i < k→(l.flatMap f)[j * k + i]? = (f l[j])[i]? := by
 induction l with
 | nil=>intro j i hj;simp at hj
 | cons u r ih=>
   intro j i hj hi
   rw [List.flatMap_cons]
   cases j with
   | zero=>
     rw [List.getElem?_append_left (by rw [h u (List.mem_cons_self)];omega)]
     simp
   | succ j=>
     have e:(j + 1) * k + i=k + (j * k + i):=by rw [Nat.succ_mul];omega
     rw [e,List.getElem?_append_right (by rw [h u (List.mem_cons_self)];omega),h u (List.mem_cons_self),Nat.add_sub_cancel_left]
     exact ih (fun x hx=>h x (List.mem_cons_of_mem _ hx)) j i (by simpa using hj) hi
theorem rows_owned {α:Type} {k:Nat} {f:α→List Value} {w:World} {base:Nat} {t:TypeId} {v:Value} {l:List α} (hf:∀ x ∈ l,(f x).length=k) (h:w.ownsRow base t k v l.length (l.flatMap f)) (hl:l.length≤maxLen) (hn:l=[]→v = .slice none 0 0):RowsAt k f (fun b=>base≤b) w v l:=by
 rcases Nat.eq_zero_or_pos l.length with h0 | h0
 ·have:l=[]:=List.length_eq_zero_iff.1 h0
  subst this
  rw [hn rfl]
  exact RowsAt.nil _ _ _ _
 ·obtain ⟨g,cap,hv,hb,hg,hcap,_,hc⟩:=owns_cell_any h h0
  refine ⟨_,_,hv,hl,hcap,(fun e=>by cases e),fun _=>⟨g,0,rfl,hg,hb,fun j hj i hi => ?_⟩⟩
  have hjk:j * k + i < l.length * k:=by
   have:=Nat.mul_le_mul_right k (show j + 1≤l.length from hj)
   rw [Nat.succ_mul] at this;omega
  rw [Nat.zero_add,hc _ hjk]
  exact flatK l hf j i hj hi
structure Setl (N:Nat) (p:Nat→Prop) (W:World) (lv:Value) (us:List Value) (ls:List (List ByteArray)):Prop where
 own:W.ownsRow N 22 1 lv us.length us
 len:us.length=ls.length
 at_:∀ j (h:j < ls.length) (h':j < us.length),SlP p W us[j] (ls[j].map .string)
theorem Setl.below {N:Nat} {q:Nat→Prop} {W W':World} {lv:Value} {us:List Value} {ls:List (List ByteArray)} (h:Setl N q W lv us ls) (hb:Below W.heap.size W W'):Setl N q W' lv us ls:=
 ⟨owns_below h.own hb,h.len,fun j hj hj'=>(h.at_ j hj hj').ag (Ag.new _ hb)⟩
theorem Setl.set {N:Nat} {q:Nat→Prop} {W:World} {lv:Value} {us:List Value} {ls:List (List ByteArray)} (h:Setl N q W lv us ls) {g i:Nat} (hg:g < N) (hq:∀ b,q b→N≤b) (u:Value):Setl N q (W.setCell ⟨g,i,none⟩ u) lv us ls:=
 ⟨ownsRow_setCell_below h.own (by show g < N;exact hg) _,h.len,fun j hj hj'=>(h.at_ j hj hj').ag (Ag.set q W u (fun e=>by have:=hq _ e;simp only at this;omega))⟩
theorem Setl.more {N:Nat} {W W':World} {lv lv':Value} {us:List Value} {ls:List (List ByteArray)} {x:Value} {l:List ByteArray} {L:Nat}
  (h:Setl N (fun b=>N≤b∧lv.ownBlock≠some b) W lv us ls) (hx:SlP (fun b=>L≤b) W x (l.map .string)) (hL:∀ g,lv.ownBlock=some g→g < L) (hNL:N≤L)
  (hown:W'.ownsRow N 22 1 lv' (us.length + 1) (us ++ [x])) (hg:W.grownBy W' lv.ownBlock) (hloc:lv'.ownBlock=lv.ownBlock∨lv'.ownBlock=some W.heap.size) :
  Setl N (fun b=>N≤b∧lv'.ownBlock≠some b) W' lv' (us ++ [x]) (ls ++ [l]):=by
 have hag:Ag (fun b=>lv.ownBlock≠some b) W W':=Ag.grown hg fun g e=>by rw [e];simp
 have key:∀ {v cs},SlP (fun b=>N≤b∧lv.ownBlock≠some b) W v cs→SlP (fun b=>N≤b∧lv'.ownBlock≠some b) W' v cs:=fun h=>
  ((h.lt).ag (hag.weak fun b hb=>hb.1.2)).weak fun b hb=>⟨hb.1.1,by
    rcases hloc with e | e
    ·rw [e];exact hb.1.2
    ·rw [e];intro e2;have:=Option.some.inj e2;have:=hb.2;omega⟩
 refine ⟨by simpa using hown,by simp [h.len],fun j hj hj' => ?_⟩
 by_cases hjl:j < us.length
 ·have hjl':j < ls.length:=by have:=h.len;omega
  rw [List.getElem_append_left hjl,List.getElem_append_left hjl']
  exact key (h.at_ j hjl' hjl)
 ·have e1:j=us.length:=by simp at hj';omega
  have e2:j=ls.length:=by have:=h.len;omega
  rw [List.getElem_append_right (by omega),List.getElem_append_right (by omega)]
  simp only [e1,h.len,Nat.sub_self,List.getElem_cons_zero]
  exact key (hx.weak fun b hb=>⟨by have:L≤b:=hb;omega,fun e=>by have:=hL b e;have:L≤b:=hb;omega⟩)
theorem Setl.listed {N:Nat} {p q:Nat→Prop} {W:World} {lv:Value} {us:List Value} {ls:List (List ByteArray)} (h:Setl N p W lv us ls) (hpq:∀ b,p b→q b) (hN:∀ b,N≤b→q b) (hs:∀ l ∈ ls,∀ x ∈ l,x.size≤maxLen) (hl:ls.length≤maxLen) (hn:ls=[]→lv = .slice none 0 0):SetsAt q W lv ls:=by
 have hlen:=h.len
 rcases Nat.eq_zero_or_pos us.length with h0 | h0
 ·have hf0:ls=[]:=List.eq_nil_of_length_eq_zero (by omega)
  rw [hn hf0,hf0]
  exact SetsAt.nil _ _
 ·obtain ⟨g,cap,hv,hb,hlt,hcap,hm,hc⟩:=owns_cell_any h.own h0
  refine ⟨_,cap,by rw [hv,hlen],by omega,by omega,(fun e=>by cases e),fun _=>⟨g,0,rfl,hlt,hN g hb,fun j hj => ?_⟩⟩
  have hj':j < us.length:=by omega
  exact ⟨us[j],by rw [Nat.zero_add,hc j (by omega)];simp [hj'],(h.at_ j hj hj').weak hpq,fun x hx=>hs _ (List.getElem_mem hj) x hx⟩
theorem infoAgg:(Tryz.prog.info? 76).map (fun i=>(i.zero,i.size,i.bytes))=some (some (.agg #[.int .i64 0,.string ⟨#[]⟩]),2,24):=by kernel_rfl
theorem infoSet:(Tryz.prog.info? 22).map (fun i=>(i.zero,i.size,i.bytes))=some (some (.slice none 0 0),1,24):=by kernel_rfl
end Go.Proofs.YtaddkkkchkdgkaaGreatDoor
namespace Go.Proofs.YtaddkkkchkdgkaaGreatDoor
open Go.RowKit Go.Sort
section
variable {p:Nat→Prop} {w:World} {v:Value}
theorem SetsAt.shape {l:List (List ByteArray)} (h:SetsAt p w v l):∃ a cap,v = .slice a l.length cap:=let ⟨a,cap,hv,_⟩:=h;⟨a,cap,hv⟩
theorem RowsAt.shape {α:Type} {k:Nat} {f:α→List Value} {l:List α} (h:RowsAt k f p w v l):∃ a cap,v = .slice a l.length cap:=let ⟨a,cap,hv,_⟩:=h;⟨a,cap,hv⟩
theorem RowsAt.len {α:Type} {k:Nat} {f:α→List Value} {l:List α} (h:RowsAt k f p w v l):l.length≤9223372036854775807:=by obtain ⟨_,_,_,h,_⟩:=h;unfold maxLen at h;omega
theorem SetsAt.len {l:List (List ByteArray)} (h:SetsAt p w v l):l.length≤9223372036854775807:=by obtain ⟨_,_,_,h,_⟩:=h;unfold maxLen at h;omega
end
end Go.Proofs.YtaddkkkchkdgkaaGreatDoor
namespace Go.Proofs.YtaddkkkchkdgkaaGreatDoor
open Go.RowKit Go.Sort
open Tess (CK Pay)
structure Nest {α:Type} (k:Nat) (R:(Nat→Prop)→World→List Value→α→Prop):Prop where
 ag:∀ {p:Nat→Prop} {w w':World} {cs:List Value} {x:α},R p w cs x→Ag p w w'→R p w' cs x
 weak:∀ {p q:Nat→Prop} {w:World} {cs:List Value} {x:α},R p w cs x→(∀ b,p b→q b)→R q w cs x
 lt:∀ {p:Nat→Prop} {w:World} {cs:List Value} {x:α},R p w cs x→R (fun b=>p b∧b < w.heap.size) w cs x
 len:∀ {p:Nat→Prop} {w:World} {cs:List Value} {x:α},R p w cs x→cs.length=k
 one:∀ {p:Nat→Prop} {w:World} {cs:List Value} {x:α},R p w cs x→∀ u ∈ cs,u.oneCell'=true
theorem ValsAt.lt {p:Nat→Prop} {w:World} {v:Value} {l:List Tess.Val} (h:ValsAt p w v l):ValsAt (fun b=>p b∧b < w.heap.size) w v l:=by
 obtain ⟨a,cap,hv,h1,h2,h3,h4⟩:=h
 refine ⟨a,cap,hv,h1,h2,h3,fun hl => ?_⟩
 obtain ⟨b,off,ha,hb,hp,hc⟩:=h4 hl
 exact ⟨b,off,ha,hb,⟨hp,hb⟩,hc⟩
theorem ValsAt.shape {p:Nat→Prop} {w:World} {v:Value} {l:List Tess.Val} (h:ValsAt p w v l):∃ a c,v = .slice a l.length c:=let ⟨a,c,e,_⟩:=h;⟨a,c,e⟩
theorem PayAt.lt {p:Nat→Prop} {w:World} {vs vm vx:Value} {x:Pay} (h:PayAt p w vs vm vx x):PayAt (fun b=>p b∧b < w.heap.size) w vs vm vx x:=⟨h.sums.lt,h.mins.lt,h.maxs.lt⟩
theorem cel_nest:Nest 6 CelAt where
 ag h hg:=h.ag hg
 weak h hpq:=h.weak hpq
 lt h:=let ⟨_,_,_,_,e,h1,h2⟩:=h;⟨_,_,_,_,e,h1.lt,h2.lt⟩
 len h:=h.len
 one h u hu:=by
  obtain ⟨vd,vs,vm,vx,rfl,h1,h2⟩:=h
  obtain ⟨_,_,rfl⟩:=h1.shape
  obtain ⟨_,_,rfl⟩:=h2.sums.shape
  obtain ⟨_,_,rfl⟩:=h2.mins.shape
  obtain ⟨_,_,rfl⟩:=h2.maxs.shape
  simp only [List.mem_cons,List.not_mem_nil,or_false] at hu
  rcases hu with rfl | rfl | rfl | rfl | rfl | rfl <;> rfl
theorem grp_nest:Nest 7 GrpAt where
 ag h hg:=h.ag hg
 weak h hpq:=h.weak hpq
 lt h:=let ⟨_,_,_,_,e,h1,h2⟩:=h;⟨_,_,_,_,e,h1.lt,h2.lt⟩
 len h:=by obtain ⟨_,_,_,_,rfl,_⟩:=h;rfl
 one h u hu:=by
  obtain ⟨vd,vs,vm,vx,rfl,h1,h2⟩:=h
  obtain ⟨_,_,rfl⟩:=h1.shape
  obtain ⟨_,_,rfl⟩:=h2.sums.shape
  obtain ⟨_,_,rfl⟩:=h2.mins.shape
  obtain ⟨_,_,rfl⟩:=h2.maxs.shape
  simp only [List.mem_cons,List.not_mem_nil,or_false] at hu
  rcases hu with rfl | rfl | rfl | rfl | rfl | rfl | rfl <;> rfl
structure OwnL {α:Type} (N k:Nat) (t:TypeId) (R:(Nat→Prop)→World→List Value→α→Prop) (p:Nat→Prop) (W:World) (lv:Value) (us:List (List Value)) (ls:List α):Prop where
 own:W.ownsRow N t k lv us.length us.flatten
 len:us.length=ls.length
 at_:∀ j (h:j < ls.length) (h':j < us.length),R (fun b=>p b∧lv.ownBlock≠some b) W us[j] ls[j]
section
variable {α:Type} {N k:Nat} {t:TypeId} {R:(Nat→Prop)→World→List Value→α→Prop} {p q:Nat→Prop} {W W':World} {lv lv':Value} {us:List (List Value)} {ls:List α}
theorem OwnL.nil (W:World):OwnL N k t R p W (.slice none 0 0) [] []:=⟨World.ownsRow_nil _ _ _ _,rfl,fun j h=>absurd h (Nat.not_lt_zero j)⟩
theorem OwnL.below (hN:Nest k R) (h:OwnL N k t R p W lv us ls) (hb:Below W.heap.size W W'):OwnL N k t R p W' lv us ls:=
 ⟨owns_below h.own hb,h.len,fun j hj hj'=>hN.ag (h.at_ j hj hj') (Ag.new _ hb)⟩
theorem OwnL.weak (hN:Nest k R) (h:OwnL N k t R p W lv us ls) (hpq:∀ b,p b→q b):OwnL N k t R q W lv us ls:=
 ⟨h.own,h.len,fun j hj hj'=>hN.weak (h.at_ j hj hj') fun b hb=>⟨hpq b hb.1,hb.2⟩⟩
theorem OwnL.set (hN:Nest k R) (h:OwnL N k t R p W lv us ls) {g i:Nat} (hg:g < N) (hq:¬ p g) (u:Value):OwnL N k t R p (W.setCell ⟨g,i,none⟩ u) lv us ls:=
 ⟨ownsRow_setCell_below h.own (by show g < N;exact hg) _,h.len,fun j hj hj'=>hN.ag (h.at_ j hj hj') (Ag.set _ W u fun e=>hq e.1)⟩
theorem OwnL.more (hN:Nest k R) (h:OwnL N k t R p W lv us ls) {x:List Value} {y:α} (hx:R (fun b=>p b∧lv.ownBlock≠some b) W x y)
  (hown:W'.ownsRow N t k lv' (us.length + 1) (us.flatten ++ x)) (hg:W.grownBy W' lv.ownBlock) (hloc:lv'.ownBlock=lv.ownBlock∨lv'.ownBlock=some W.heap.size):OwnL N k t R p W' lv' (us ++ [x]) (ls ++ [y]):=by
 have hag:Ag (fun b=>lv.ownBlock≠some b) W W':=Ag.grown hg fun g e=>by rw [e];simp
 have key:∀ {cs z},R (fun b=>p b∧lv.ownBlock≠some b) W cs z→R (fun b=>p b∧lv'.ownBlock≠some b) W' cs z:=fun h=>
  hN.weak (hN.ag (hN.lt h) (hag.weak fun b hb=>hb.1.2)) fun b hb=>⟨hb.1.1,by
   rcases hloc with e | e
   ·rw [e];exact hb.1.2
   ·rw [e];intro e2;have:=Option.some.inj e2;have:=hb.2;omega⟩
 refine ⟨by simpa using hown,by simp [h.len],fun j hj hj' => ?_⟩
 by_cases hjl:j < us.length
 ·have hjl':j < ls.length:=by have:=h.len;omega
  rw [List.getElem_append_left hjl,List.getElem_append_left hjl']
  exact key (h.at_ j hjl' hjl)
 ·have e1:j=us.length:=by simp at hj';omega
  have e2:j=ls.length:=by have:=h.len;omega
  rw [List.getElem_append_right (by omega),List.getElem_append_right (by omega)]
  simp only [e1,h.len,Nat.sub_self,List.getElem_cons_zero]
  exact key hx
theorem flatU {k:Nat} (us:List (List Value)) (h:∀ x ∈ us,x.length=k):∀ (j i:Nat) (hj:j < us.length),i < k→us.flatten[j * k + i]? = us[j][i]? := by
 have:=flatK (f:=fun x=>x) us h
 simpa [List.flatMap_id] using this
theorem OwnL.lens (hN:Nest k R) (h:OwnL N k t R p W lv us ls):∀ x ∈ us,x.length=k:=fun x hx=>by
 obtain ⟨j,hj,rfl⟩:=List.mem_iff_getElem.1 hx
 exact hN.len (h.at_ j (by have:=h.len;omega) hj)
theorem OwnL.ones (hN:Nest k R) (h:OwnL N k t R p W lv us ls):∀ u ∈ us.flatten,u.oneCell'=true:=fun u hu=>by
 obtain ⟨x,hx,hu⟩:=List.mem_flatten.1 hu
 obtain ⟨j,hj,rfl⟩:=List.mem_iff_getElem.1 hx
 exact hN.one (h.at_ j (by have:=h.len;omega) hj) u hu
theorem OwnL.listed (hN:Nest k R) (h:OwnL N k t R p W lv us ls) (hpq:∀ b,p b→q b) (hNq:∀ b,N≤b→q b) (hl:ls.length≤maxLen) (hn:ls=[]→lv = .slice none 0 0):ListAt k (R q) q W lv ls:=by
 have hlen:=h.len
 rcases Nat.eq_zero_or_pos us.length with h0 | h0
 ·have hf0:ls=[]:=List.eq_nil_of_length_eq_zero (by omega)
  rw [hn hf0,hf0]
  exact ListAt.nil _ _ _ _
 ·obtain ⟨g,cap,hv,hb,hlt,hcap,hm,hc⟩:=owns_cell_any h.own h0
  refine ⟨_,cap,by rw [hv,hlen],hl,by omega,(fun e=>by cases e),fun _=>⟨g,0,rfl,hlt,hNq g hb,fun j hj => ?_⟩⟩
  have hj':j < us.length:=by omega
  refine ⟨us[j],h.lens hN _ (List.getElem_mem hj'),hN.weak (h.at_ j hj hj') fun b hb=>hpq b hb.1,fun i hi => ?_⟩
  have hjk:j * k + i < us.length * k:=by
   have:=Nat.mul_le_mul_right k (show j + 1≤us.length from hj')
   rw [Nat.succ_mul] at this;omega
  rw [Nat.zero_add,hc _ hjk]
  exact flatU us (h.lens hN) j i hj' hi
end
end Go.Proofs.YtaddkkkchkdgkaaGreatDoor
namespace Tess
open Go Kl
open Go.Lib (compareBytes)
theorem cmpB:∀ (a b:List UInt8),(compareBytes a b < 0↔a < b)∧(compareBytes a b=0↔a=b)∧(0 < compareBytes a b↔b < a)
 | [],[]=>by simp [compareBytes]
 | [],_ :: _=>by simp [compareBytes]
 | _ :: _,[]=>by simp [compareBytes]
 | a :: l,b :: m=>by
   have ih:=cmpB l m
   rw [compareBytes]
   split
   ·rename_i h
    refine ⟨⟨fun _=>List.cons_lt_cons_iff.2 (.inl h),(fun _=>by decide)⟩,⟨(fun e=>by cases e),fun e => ?_⟩,⟨(fun e=>by cases e),fun e => ?_⟩⟩
    ·cases e;exact absurd h (UInt8.lt_irrefl _)
    ·rcases List.cons_lt_cons_iff.1 e with h' | ⟨h',_⟩
     ·exact absurd (UInt8.lt_trans h h') (UInt8.lt_irrefl _)
     ·subst h';exact absurd h (UInt8.lt_irrefl _)
   split
   ·rename_i h0 h
    refine ⟨⟨(fun e=>by cases e),fun e => ?_⟩,⟨(fun e=>by cases e),fun e => ?_⟩,⟨fun _=>List.cons_lt_cons_iff.2 (.inl h),fun _=>by decide⟩⟩
    ·rcases List.cons_lt_cons_iff.1 e with h' | ⟨h',_⟩
     ·exact absurd h' h0
     ·subst h';exact absurd h (UInt8.lt_irrefl _)
    ·cases e;exact absurd h (UInt8.lt_irrefl _)
   ·rename_i h0 h1
    have e:a=b:=by
     rw [UInt8.lt_iff_toNat_lt] at h0 h1
     exact UInt8.toNat_inj.1 (by omega)
    subst e
    refine ⟨ih.1.trans ⟨fun h=>List.cons_lt_cons_iff.2 (.inr ⟨rfl,h⟩),fun h => ?_⟩,ih.2.1.trans ⟨fun h=>by rw [h],fun h=>by cases h;rfl⟩,ih.2.2.trans ⟨fun h=>List.cons_lt_cons_iff.2 (.inr ⟨rfl,h⟩),fun h => ?_⟩⟩
    ·rcases List.cons_lt_cons_iff.1 h with h' | ⟨_,h'⟩
     ·exact absurd h' (UInt8.lt_irrefl _)
     ·exact h'
    ·rcases List.cons_lt_cons_iff.1 h with h' | ⟨_,h'⟩
     ·exact absurd h' (UInt8.lt_irrefl _)
     ·exact h'
def cmpV (a b:Val):Int:=if a.null && b.null then 0 else if a.null then -1 else if b.null then 1 else compareBytes a.s.data.toList b.s.data.toList
theorem cmpV_c (a b:Val):(cmpV a b < 0↔vLt a.c b.c=true)∧(cmpV a b=0↔a.c=b.c)∧(0 < cmpV a b↔vLt b.c a.c=true):=by
 obtain ⟨x,m⟩:=a
 obtain ⟨y,n⟩:=b
 cases m <;> cases n
 ·have h:=cmpB x.data.toList y.data.toList
  simp only [cmpV,Val.c,Bool.and_self,Bool.false_eq_true,if_false,vLt,blT,decide_eq_true_eq,Option.some.injEq,ByteArray.toList_eq]
  refine ⟨h.1,h.2.1.trans ⟨fun e=>ByteArray.ext (Array.toList_inj.1 e),fun e=>by rw [e]⟩,h.2.2⟩
 ·simp [cmpV,Val.c,vLt]
 ·simp [cmpV,Val.c,vLt]
 ·simp [cmpV,Val.c,vLt]
def cmpVL:List Val→List Val→Int
 | [],[]=>0
 | [],_ :: _ => -1
 | _ :: _,[]=>1
 | a :: l,b :: m=>if cmpV a b=0 then cmpVL l m else cmpV a b
theorem cmpVL_lt:∀ (l m:List Val),decide (cmpVL l m < 0)=lex vLt (l.map Val.c) (m.map Val.c)
 | [],[]=>rfl
 | [],_ :: _=>rfl
 | _ :: _,[]=>rfl
 | a :: l,b :: m=>by
   obtain ⟨h1,h2,h3⟩:=cmpV_c a b
   rw [cmpVL,List.map_cons,List.map_cons,lex]
   split
   ·rename_i h
    rw [h2.1 h,v_sto.irr,cmpVL_lt l m];simp
   ·rename_i h
    rcases Int.lt_or_gt_of_ne h with h' | h'
    ·rw [h1.1 h',decide_eq_true h'];simp
    ·have:vLt a.c b.c=false:=by
      cases hv:vLt a.c b.c
      ·rfl
      ·have:=h1.2 hv;omega
     rw [this,h3.1 h',decide_eq_false (by omega)];simp
theorem cmpVL_drop {l m:List Val} {k:Nat} (h1:k < l.length) (h2:k < m.length):cmpVL (l.drop k) (m.drop k)=if cmpV l[k] m[k]=0 then cmpVL (l.drop (k + 1)) (m.drop (k + 1)) else cmpV l[k] m[k]:=by
 rw [List.drop_eq_getElem_cons h1,List.drop_eq_getElem_cons h2,cmpVL]
end Tess
namespace Go.Proofs.YtaddkkkchkdgkaaGreatDoor
open Go.RowKit Go.Sort
theorem box3 {w W:World} {B:Nat} {t:TypeId} {x0 x1 x2:Value} (y0 y1 y2:Value) (h:W.heap[B]? = some (.cells #[x0,x1,x2] t (0,0))) (hb:Below w.heap.size w W) (hB:w.heap.size≤B) :
  ∃ W3,(((W.setCell ⟨B,0,none⟩ y0).setCell ⟨B,1,none⟩ y1).setCell ⟨B,2,none⟩ y2)=W3∧W3.heap[B]? = some (.cells #[y0,y1,y2] t (0,0))∧(∀ k,k≠B→W3.heap[k]? = W.heap[k]?)∧W3.heap.size=W.heap.size∧Below w.heap.size w W3:=
 ⟨_,rfl,heap_setCell_same _ _ _ _ _ _ (heap_setCell_same _ _ _ _ _ _ (heap_setCell_same _ _ _ _ _ _ h)),
   fun k hk=>((heap_setCell_other _ _ _ _ hk).trans (heap_setCell_other _ _ _ _ hk)).trans (heap_setCell_other _ _ _ _ hk),by simp [World.setCell],((hb.setCell hB _).setCell hB _).setCell hB _⟩
theorem can3 {W:World} {B:Nat} {t:TypeId} {x0 x1 x2:Value} (h:W.heap[B]? = some (.cells #[x0,x1,x2] t (0,0))) :
  (W.cell? ⟨B,0,none⟩=some x0∧W.cell? ⟨B,1,none⟩=some x1∧W.cell? ⟨B,2,none⟩=some x2)∧W.frozen? ⟨B,0,none⟩=false∧W.frozen? ⟨B,1,none⟩=false∧W.frozen? ⟨B,2,none⟩=false:=
 ⟨⟨cell_of_row _ _ 0 _ _ _ h,cell_of_row _ _ 1 _ _ _ h,cell_of_row _ _ 2 _ _ _ h⟩,frozen_of_row _ _ 0 _ _ h,frozen_of_row _ _ 1 _ _ h,frozen_of_row _ _ 2 _ _ h⟩
theorem can6 {W:World} {B:Nat} {t:TypeId} {x0 x1 x2 x3 x4 x5:Value} (h:W.heap[B]? = some (.cells #[x0,x1,x2,x3,x4,x5] t (0,0))) :
  (W.cell? ⟨B,0,none⟩=some x0∧W.cell? ⟨B,1,none⟩=some x1∧W.cell? ⟨B,2,none⟩=some x2∧W.cell? ⟨B,3,none⟩=some x3∧W.cell? ⟨B,4,none⟩=some x4∧W.cell? ⟨B,5,none⟩=some x5) ∧
   W.frozen? ⟨B,0,none⟩=false∧W.frozen? ⟨B,1,none⟩=false∧W.frozen? ⟨B,2,none⟩=false∧W.frozen? ⟨B,3,none⟩=false∧W.frozen? ⟨B,4,none⟩=false∧W.frozen? ⟨B,5,none⟩=false:=
 ⟨⟨cell_of_row _ _ 0 _ _ _ h,cell_of_row _ _ 1 _ _ _ h,cell_of_row _ _ 2 _ _ _ h,cell_of_row _ _ 3 _ _ _ h,cell_of_row _ _ 4 _ _ _ h,cell_of_row _ _ 5 _ _ _ h⟩,frozen_of_row _ _ 0 _ _ h,frozen_of_row _ _ 1 _ _ h,frozen_of_row _ _ 2 _ _ h,frozen_of_row _ _ 3 _ _ h,frozen_of_row _ _ 4 _ _ h,frozen_of_row _ _ 5 _ _ h⟩
end Go.Proofs.YtaddkkkchkdgkaaGreatDoor
