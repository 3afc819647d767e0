/- Joined by mergeK.py: F25, HR, K8, K1p, F31p, F36p, F41p, H2p, K2p, K10, HQ, HS, H2s, K11, K9p -/
import Derived.Test.YtaddkkkchkdgkaaGreatDoorCC05
import Derived.Test.YtaddkkkchkdgkaaGreatDoorCC01
import Derived.Test.YtaddkkkchkdgkaaGreatDoorRows
import Derived.Laws.Externs
import Derived.ProofKit
import Derived.Sort.Walk0
import Derived.Test.YtaddkkkchkdgkaaGreatDoorCC03
import Derived.Lib.Bytealg
namespace Go.Proofs.YtaddkkkchkdgkaaGreatDoor
open Go.RowKit Go.Sort
open Tess (Fil)
def VA (p:Nat→Prop) (w:World) (v:Value) (l:List Tess.Val):Prop:=
 ∃ a cap,v = .slice a l.length cap∧l.length≤maxLen∧(∀ x ∈ l,x.s.size≤maxLen)∧(a=none→cap=0) ∧
   (0 < l.length→∃ b off,a=some ⟨b,off,none⟩∧b < w.heap.size∧p b∧∀ j (h:j < l.length),w.cell? ⟨b,off + j * 2,none⟩=some (.string l[j].s)∧w.cell? ⟨b,off + j * 2 + 1,none⟩=some (.bool l[j].null))
theorem VA.ag {p:Nat→Prop} {w w':World} {v:Value} {l:List Tess.Val} (h:VA p w v l) (hg:Ag p w w'):VA p w' v l:=by
 obtain ⟨a,Aa,hv,h1,h2,h3,h4⟩:=h
 refine ⟨a,Aa,hv,h1,h2,h3,fun hl => ?_⟩
 obtain ⟨b,Ab,ha,hb,hp,hc⟩:=h4 hl
 refine ⟨b,Ab,ha,Nat.lt_of_lt_of_le hb hg.1,hp,fun j hj => ?_⟩
 exact ⟨(hg.cell hb hp).trans (hc j hj).1,(hg.cell hb hp).trans (hc j hj).2⟩
theorem VA.weak {p q:Nat→Prop} {w:World} {v:Value} {l:List Tess.Val} (h:VA p w v l) (hpq:∀ b,p b→q b):VA q w v l:=by
 obtain ⟨a,Aa,hv,h1,h2,h3,h4⟩:=h
 refine ⟨a,Aa,hv,h1,h2,h3,fun hl => ?_⟩
 obtain ⟨b,Ab,ha,hb,hp,hc⟩:=h4 hl
 exact ⟨b,Ab,ha,hb,hpq b hp,hc⟩
def Asks (B:Nat) (vs v:Value) (t:Int) (vd:Value) (r:Bool) (W:World):Prop:=
 ∀ W',Below B W W'→Calls Tryz.prog 142 #[vs,v,.int .i64 t,vd] W' fun e w'=>e = .returned (.bool r)∧Below W'.heap.size W' w'
theorem is_any (bs bt bd:Nat) (s0 s1 s2 c0 c1 c2 c3 c4 c5:Value) (t:Int) (da:Option Addr) (dn dc:Nat) (r:Bool) (W:World) (T1 T2 T3:TypeId)
  (hs:W.heap[bs]? = some (.cells #[s0,s1,s2] T1 (0,0))) (ht:W.heap[bt]? = some (.cells #[.int .i64 t] T2 (0,0))) (hd:W.heap[bd]? = some (.cells #[.slice da dn dc] T3 (0,0)))
  (H:Asks W.heap.size (.agg #[s0,s1,s2]) (.agg #[c0,c1,c2,c3,c4,c5]) t (.slice da dn dc) r W) :
  Calls Tryz.prog 184 #[.agg #[c0,c1,c2,c3,c4,c5],.pointer (some ⟨bs,0,none⟩),.pointer (some ⟨bt,0,none⟩),.pointer (some ⟨bd,0,none⟩)] W fun e w'=>e = .returned (.bool r)∧Below W.heap.size W w':=by
 have HH:=Hd H
 clear H
 obtain ⟨k1,k2,hB⟩:=la2 W (.cells #[c0,c1,c2,c3,c4,c5] 31)
 have HB:=Hd hB
 obtain ⟨x0,x1,x2⟩:=rc2 hB hs
 have y0:=(cob ((hB.block _ (Array.getElem?_eq_some_iff.1 ht).1).trans ht)).1
 have z0:=(cob ((hB.block _ (Array.getElem?_eq_some_iff.1 hd).1).trans hd)).1
 clear hB k1 k2 hs ht hd
 go_enter Tryz.func184,Tryz.ntmps184
 go_wp2_with (go_at_call 142;refine (HH.out _ HB.out).mono ?_;rintro e w2 ⟨rfl,Aa⟩;have Ab:=Hd Aa;clear Aa)
 go_ret
 exact ⟨rfl,Bt HB.out Ab.out⟩
theorem isNot_any (bi bs bt bd:Nat) (s0 s1 s2 c0 c1 c2 c3 c4 c5:Value) (t:Int) (da:Option Addr) (dn dc:Nat) (r:Bool) (W:World) (T1 T2 T3 T4:TypeId)
  (hi:W.heap[bi]? = some (.cells #[.func (.func 184) #[] #[.pointer (some ⟨bs,0,none⟩),.pointer (some ⟨bt,0,none⟩),.pointer (some ⟨bd,0,none⟩)]] T4 (0,0)))
  (hs:W.heap[bs]? = some (.cells #[s0,s1,s2] T1 (0,0))) (ht:W.heap[bt]? = some (.cells #[.int .i64 t] T2 (0,0))) (hd:W.heap[bd]? = some (.cells #[.slice da dn dc] T3 (0,0)))
  (H:Asks W.heap.size (.agg #[s0,s1,s2]) (.agg #[c0,c1,c2,c3,c4,c5]) t (.slice da dn dc) r W) :
  Calls Tryz.prog 185 #[.agg #[c0,c1,c2,c3,c4,c5],.pointer (some ⟨bi,0,none⟩)] W fun e w'=>e = .returned (.bool (!r))∧Below W.heap.size W w':=by
 obtain ⟨k1,k2,hB⟩:=la2 W (.cells #[c0,c1,c2,c3,c4,c5] 31)
 have HB:=Hd hB
 have y0:=(cob ((hB.block _ (Array.getElem?_eq_some_iff.1 hi).1).trans hi)).1
 have HI:=Hd (is_any bs bt bd s0 s1 s2 c0 c1 c2 c3 c4 c5 t da dn dc r _ T1 T2 T3 ((hB.block _ (Array.getElem?_eq_some_iff.1 hs).1).trans hs) ((hB.block _ (Array.getElem?_eq_some_iff.1 ht).1).trans ht) ((hB.block _ (Array.getElem?_eq_some_iff.1 hd).1).trans hd)
  (fun W' h=>H W' (Bt hB h)))
 clear hB k1 k2 hs ht hd H hi
 go_enter Tryz.func185,Tryz.ntmps185
 go_wp2_with (go_at_call 184;refine HI.out.mono ?_;rintro e w2 ⟨rfl,Aa⟩;have Ab:=Hd Aa;clear Aa)
 go_ret
 exact ⟨rfl,Bt HB.out Ab.out⟩
end Go.Proofs.YtaddkkkchkdgkaaGreatDoor
namespace Go.Proofs.YtaddkkkchkdgkaaGreatDoor
open Go.RowKit Go.Sort
def RA {α:Type} (k:Nat) (f:α→List Value) (p:Nat→Prop) (w:World) (v:Value) (l:List α):Prop:=
 ∃ a cap,v = .slice a l.length cap∧l.length≤maxLen∧l.length≤cap∧(a=none→cap=0) ∧
   (0 < l.length→∃ b off,a=some ⟨b,off,none⟩∧b < w.heap.size∧p b∧∀ j (h:j < l.length) i,i < k→w.cell? ⟨b,off + j * k + i,none⟩=(f l[j])[i]?)
section
variable {α:Type} {k:Nat} {f:α→List Value} {p q:Nat→Prop} {w w':World} {v:Value} {l:List α}
theorem RA.ag (h:RA k f p w v l) (hg:Ag p w w'):RA k f p w' v l:=by
 obtain ⟨a,Aa,hv,h1,h2,h3,h4⟩:=h
 refine ⟨a,Aa,hv,h1,h2,h3,fun hl => ?_⟩
 obtain ⟨b,Ab,ha,hb,hp,hc⟩:=h4 hl
 exact ⟨b,Ab,ha,Nat.lt_of_lt_of_le hb hg.1,hp,fun j hj i hi=>(hg.cell hb hp).trans (hc j hj i hi)⟩
theorem RA.weak (hpq:∀ b,p b→q b) (h:RA k f p w v l):RA k f q w v l:=by
 obtain ⟨a,Aa,hv,h1,h2,h3,h4⟩:=h
 refine ⟨a,Aa,hv,h1,h2,h3,fun hl => ?_⟩
 obtain ⟨b,Ab,ha,hb,hp,hc⟩:=h4 hl
 exact ⟨b,Ab,ha,hb,hpq b hp,hc⟩
theorem RA.lt (h:RA k f p w v l):RA k f (fun b=>p b∧b < w.heap.size) w v l:=by
 obtain ⟨a,Aa,hv,h1,h2,h3,h4⟩:=h
 refine ⟨a,Aa,hv,h1,h2,h3,fun hl => ?_⟩
 obtain ⟨b,Ab,ha,hb,hp,hc⟩:=h4 hl
 exact ⟨b,Ab,ha,hb,⟨hp,hb⟩,hc⟩
theorem RA.nil (k:Nat) (f:α→List Value) (p:Nat→Prop) (w:World):RA k f p w (.slice none 0 0) []:=⟨none,0,rfl,Nat.zero_le _,Nat.zero_le _,fun _=>rfl,fun h=>absurd h (Nat.lt_irrefl 0)⟩
theorem RA.take (h:RA k f p w v l) (n:Nat) (hn:n≤l.length):∃ a cap,v = .slice a l.length cap∧RA k f p w (.slice a n cap) (l.take n):=by
 obtain ⟨a,cap,hv,h1,h2,h3,h4⟩:=h
 have e:(l.take n).length=n:=by simp;omega
 refine ⟨a,cap,hv,a,cap,by rw [e],by rw [e];omega,by rw [e];omega,h3,fun hl => ?_⟩
 rw [e] at hl
 obtain ⟨b,Aa,ha,hb,hp,hc⟩:=h4 (by omega)
 refine ⟨b,Aa,ha,hb,hp,fun j hj i hi => ?_⟩
 rw [e] at hj
 rw [hc j (by omega) i hi];simp
end
end Go.Proofs.YtaddkkkchkdgkaaGreatDoor
namespace Go.Proofs.YtaddkkkchkdgkaaGreatDoor
open Go.RowKit Go.Sort
theorem can2 {W:World} {B:Nat} {t:TypeId} {x0 x1:Value} (h:W.heap[B]? = some (.cells #[x0,x1] t (0,0))) :
  (W.cell? ⟨B,0,none⟩=some x0∧W.cell? ⟨B,1,none⟩=some x1)∧W.frozen? ⟨B,0,none⟩=false∧W.frozen? ⟨B,1,none⟩=false:=
 ⟨⟨cell_of_row _ _ 0 _ _ _ h,cell_of_row _ _ 1 _ _ _ h⟩,frozen_of_row _ _ 0 _ _ h,frozen_of_row _ _ 1 _ _ h⟩
def wHi (n:Int):Int:=n / 18446744073709551616
def wLo (n:Int):Int:=n % 18446744073709551616
def wF (n:Int):List Value:=[.int .i64 (wHi n),.int .u64 (wLo n)]
def intF (n:Int):List Value:=[.int .i64 n]
def WOk (n:Int):Prop := -170141183460469231731687303715884105728≤n∧n < 170141183460469231731687303715884105728
def I64 (n:Int):Prop := -9223372036854775808≤n∧n≤9223372036854775807
theorem I64.w {n:Int} (h:I64 n):WOk n:=⟨by have:=h.1;omega,by have:=h.2;omega⟩
theorem wHi_i64 {n:Int} (h:I64 n):n / 9223372036854775808=wHi n:=by
 unfold I64 at h;unfold wHi
 rcases Int.lt_or_le n 0 with h0 | h0 <;> omega
theorem wu (n:Int):IntKind.u64.wrap n=n % 18446744073709551616:=by rw [IntKind.wrap_u64]
set_option maxRecDepth 100000 in
theorem wOf_eq (n:Int) (h:I64 n) (w:World):Calls Tryz.prog 26 #[.int .i64 n] w fun e w'=>e = .returned (.agg #[.int .i64 (wHi n),.int .u64 (wLo n)])∧Below w.heap.size w w':=by
 have HH:=Hd (wHi_i64 h)
 go_enter Tryz.func26,Tryz.ntmps26
 go_wp2
 have hB:=(la2 w (.cells #[.int .i64 (n / 9223372036854775808),.int .u64 (IntKind.u64.wrap n)] 60)).2.2
 have hl:=(la2 w (.cells #[.int .i64 (n / 9223372036854775808),.int .u64 (IntKind.u64.wrap n)] 60)).1
 have e0:=cell_of_row _ w.heap.size 0 _ _ _ hl
 have e1:=cell_of_row _ w.heap.size 1 _ _ _ hl
 refine bodyPost_ret (v:=.agg #[.int .i64 (n / 9223372036854775808),.int .u64 (IntKind.u64.wrap n)]) (by simp [results,Tryz.results26,go_sem]) rfl ⟨?_,hB⟩
 rw [HH.out,wu];rfl
theorem add64_run (x y c:Nat) (hc:c≤1) (w:World) :
  (callFunc 139 #[.int .u64 x,.int .u64 y,.int .u64 c]).run Tryz.prog w =
   .ok (.value (.tuple #[.int .u64 (((x + y + c) % 18446744073709551616:Nat):Int),.int .u64 (((x + y + c) / 18446744073709551616:Nat):Int)])) w:=by
 rw [run_callFunc_extern Tryz.func139 (by kernel_rfl) (by kernel_rfl) (by kernel_rfl) (e:=add64Entry) (by kernel_rfl),run_add64 x y c (by omega) (by omega) (by omega) (by omega)]
 simp only [Result.andThen]
 congr 5 <;> omega
set_option maxRecDepth 100000 in
theorem wAa (n m:Int) (hs:WOk (n + m)) (w:World):Calls Tryz.prog 97 #[.agg #[.int .i64 (wHi n),.int .u64 (wLo n)],.agg #[.int .i64 (wHi m),.int .u64 (wLo m)]] w fun e w'=>e = .returned (.agg #[.int .i64 (wHi (n + m)),.int .u64 (wLo (n + m))])∧Below w.heap.size w w':=by
 obtain ⟨l,hl⟩:∃ l:Nat,wLo n=l:=⟨(wLo n).toNat,by unfold wLo;omega⟩
 obtain ⟨l',Ab⟩:∃ l:Nat,wLo m=l:=⟨(wLo m).toNat,by unfold wLo;omega⟩
 obtain ⟨u,hu⟩:∃ u:Nat,IntKind.u64.wrap (wHi n)=u:=⟨(wHi n % 18446744073709551616).toNat,by rw [wu];omega⟩
 obtain ⟨u',Ae⟩:∃ u:Nat,IntKind.u64.wrap (wHi m)=u:=⟨(wHi m % 18446744073709551616).toNat,by rw [wu];omega⟩
 have Ad:=hu;have Aa:=Ae
 rw [wu] at Ad Aa
 obtain ⟨c,hc⟩:∃ c,(l + l' + 0) / 18446744073709551616=c:=⟨_,rfl⟩
 obtain ⟨x,hx⟩:∃ x,(l + l' + 0) % 18446744073709551616=x:=⟨_,rfl⟩
 obtain ⟨y,hy⟩:∃ y,(u + u' + c) % 18446744073709551616=y:=⟨_,rfl⟩
 have Ag:c≤1:=by unfold wLo at hl Ab;omega
 have A1:∀ w,(callFunc 139 #[.int .u64 l,.int .u64 l',.int .u64 0]).run Tryz.prog w = .ok (.value (.tuple #[.int .u64 x,.int .u64 c])) w:=fun w=>by
  have:=add64_run l l' 0 (by omega) w
  rwa [hc,hx] at this
 have A2:∀ w,(callFunc 139 #[.int .u64 u,.int .u64 u',.int .u64 c]).run Tryz.prog w = .ok (.value (.tuple #[.int .u64 y,.int .u64 _])) w:=fun w=>by
  have:=add64_run u u' c Ag w
  rwa [hy] at this
 have Ah:IntKind.i64.wrap (y:Int)=wHi (n + m):=by
  unfold wLo wHi WOk at *
  rw [IntKind.wrap_i64]
  omega
 have Ac:(x:Int)=wLo (n + m):=by
  unfold wLo at *
  omega
 rw [hl,Ab,← Ac]
 generalize wHi (n + m)=z at *
 clear hl Ab Ad Aa hx hy hc Ac hs
 generalize wHi n=h at *
 generalize wHi m=h' at *
 obtain ⟨W0,Af⟩:∃ W0,((w.alloc (.cells #[.int .i64 h,.int .u64 l] 60)).alloc (.cells #[.int .i64 h',.int .u64 l'] 60)).alloc (.cells #[.int .i64 0,.int .u64 0] 60)=W0:=⟨_,rfl⟩
 obtain ⟨k0,k1,k2,kS,kB⟩:=laid3 w (.cells #[.int .i64 h,.int .u64 l] 60) (.cells #[.int .i64 h',.int .u64 l'] 60) (.cells #[.int .i64 0,.int .u64 0] 60)
 rw [Af] at k0 k1 k2 kS kB
 rw [show w.heap.size + 2=w.heap.size + 1 + 1 by omega] at k2
 obtain ⟨⟨x0,x1⟩,_⟩:=can2 k0
 obtain ⟨⟨y0,y1⟩,_⟩:=can2 k1
 obtain ⟨_,z0,z1⟩:=can2 k2
 go_enter Tryz.func97,Tryz.ntmps97
 go_wp2
 have q1:=heap_setCell_same _ _ 1 _ _ (.int .u64 x) (heap_setCell_same _ _ 0 _ _ (.int .i64 z) k2)
 obtain ⟨⟨e0,e1⟩,_⟩:=can2 q1
 refine bodyPost_ret (v:=.agg #[.int .i64 z,.int .u64 x]) (by simp [results,Tryz.results97,go_sem,e0,e1]) rfl ⟨rfl,(kB.setCell (by show _≤w.heap.size + 1 + 1;omega) _).setCell (by show _≤w.heap.size + 1 + 1;omega) _⟩
end Go.Proofs.YtaddkkkchkdgkaaGreatDoor
namespace Tess.Kl
structure Sto {K:Type} (lt:K→K→Bool):Prop where
 irr:∀ a,lt a a=false
 trans:∀ {a b c},lt a b=true→lt b c=true→lt a c=true
 tri:∀ {a b},lt a b=false→lt b a=false→a=b
section lex
variable {α:Type} (lt:α→α→Bool)
def lex:List α→List α→Bool
 | _,[]=>false
 | [],_ :: _=>true
 | a :: l,b :: m=>lt a b || (!lt b a && lex l m)
theorem lex_sto {lt:α→α→Bool} (h:Sto lt):Sto (lex lt) where
 irr l:=by
  induction l with
  | nil=>rfl
  | cons a l ih=>simp [lex,h.irr,ih]
 trans {l m n}:=by
  induction l generalizing m n with
  | nil=>cases m <;> cases n <;> simp [lex]
  | cons a l ih=>
    cases m with
    | nil=>simp [lex]
    | cons b m=>
      cases n with
      | nil=>simp [lex]
      | cons c n=>
        simp only [lex,Bool.or_eq_true,Bool.and_eq_true,Bool.not_eq_true']
        rintro (h1 | ⟨h1,h2⟩) (h3 | ⟨h3,h4⟩)
        ·exact Or.inl (h.trans h1 h3)
        ·cases hbc:lt b c
         ·obtain rfl:=h.tri hbc h3;exact Or.inl h1
         ·exact Or.inl (h.trans h1 hbc)
        ·cases hab:lt a b
         ·obtain rfl:=h.tri hab h1;exact Or.inl h3
         ·exact Or.inl (h.trans hab h3)
        ·cases hab:lt a b
         ·obtain rfl:=h.tri hab h1
          exact Or.inr ⟨h3,ih h2 h4⟩
         ·cases hbc:lt b c
          ·obtain rfl:=h.tri hbc h3;exact Or.inl hab
          ·exact Or.inl (h.trans hab hbc)
 tri {l m}:=by
  induction l generalizing m with
  | nil=>cases m <;> simp [lex]
  | cons a l ih=>
    cases m with
    | nil=>simp [lex]
    | cons b m=>
      simp only [lex,Bool.or_eq_false_iff,Bool.and_eq_false_iff,Bool.not_eq_false']
      rintro ⟨h1,h2⟩ ⟨h3,h4⟩
      obtain rfl:=h.tri h1 h3
      rcases h2 with h2 | h2
      ·rw [h.irr] at h2;cases h2
      rcases h4 with h4 | h4
      ·rw [h.irr] at h4;cases h4
      rw [ih h2 h4]
def pair {β:Type} (lt':β→β→Bool) (x y:α×β):Bool:=lt x.1 y.1 || (!lt y.1 x.1 && lt' x.2 y.2)
theorem pair_sto {β:Type} {lt:α→α→Bool} {lt':β→β→Bool} (h:Sto lt) (h':Sto lt'):Sto (pair lt lt') where
 irr x:=by simp [pair,h.irr,h'.irr]
 trans {x y z}:=by
  obtain ⟨a,l⟩:=x;obtain ⟨b,m⟩:=y;obtain ⟨c,n⟩:=z
  simp only [pair,Bool.or_eq_true,Bool.and_eq_true,Bool.not_eq_true']
  rintro (h1 | ⟨h1,h2⟩) (h3 | ⟨h3,h4⟩)
  ·exact Or.inl (h.trans h1 h3)
  ·cases hbc:lt b c
   ·obtain rfl:=h.tri hbc h3;exact Or.inl h1
   ·exact Or.inl (h.trans h1 hbc)
  ·cases hab:lt a b
   ·obtain rfl:=h.tri hab h1;exact Or.inl h3
   ·exact Or.inl (h.trans hab h3)
  ·cases hab:lt a b
   ·obtain rfl:=h.tri hab h1
    exact Or.inr ⟨h3,h'.trans h2 h4⟩
   ·cases hbc:lt b c
    ·obtain rfl:=h.tri hbc h3;exact Or.inl hab
    ·exact Or.inl (h.trans hab hbc)
 tri {x y}:=by
  obtain ⟨a,l⟩:=x;obtain ⟨b,m⟩:=y
  simp only [pair,Bool.or_eq_false_iff,Bool.and_eq_false_iff,Bool.not_eq_false']
  rintro ⟨h1,h2⟩ ⟨h3,h4⟩
  obtain rfl:=h.tri h1 h3
  rcases h2 with h2 | h2
  ·rw [h.irr] at h2;cases h2
  rcases h4 with h4 | h4
  ·rw [h.irr] at h4;cases h4
  rw [h'.tri h2 h4]
end lex
section keyed
variable {K P:Type} {lt:K→K→Bool} {add:P→P→P}
def ins (lt:K→K→Bool) (add:P→P→P) (x:K×P):List (K×P)→List (K×P)
 | []=>[x]
 | y :: r=>if lt y.1 x.1 then y :: ins lt add x r else if lt x.1 y.1 then x :: y :: r else (y.1,add y.2 x.2) :: r
def fold (lt:K→K→Bool) (add:P→P→P) (l:List (K×P)):List (K×P):=l.foldl (fun m x=>ins lt add x m) []
def oadd (add:P→P→P):Option P→Option P→Option P
 | none,b=>b
 | a,none=>a
 | some a,some b=>some (add a b)
def sum (add:P→P→P) (c:K→Bool):List (K×P)→Option P
 | []=>none
 | x :: r=>oadd add (if c x.1 then some x.2 else none) (sum add c r)
structure Com (add:P→P→P):Prop where
 comm:∀ a b,add a b=add b a
 assoc:∀ a b c,add (add a b) c=add a (add b c)
def Asc (lt:K→K→Bool) (l:List (K×P)):Prop:=l.Pairwise fun a b=>lt a.1 b.1=true
theorem on2 (a:Option P):oadd add a none=a:=by cases a <;> rfl
theorem no2 (a:Option P):oadd add none a=a:=by cases a <;> rfl
theorem oc3 (h:Com add) (a b:Option P):oadd add a b=oadd add b a:=by
 cases a <;> cases b <;> simp [oadd,h.comm]
theorem oa2 (h:Com add) (a b c:Option P):oadd add (oadd add a b) c=oadd add a (oadd add b c):=by
 cases a <;> cases b <;> cases c <;> simp [oadd,h.assoc]
theorem sum_append (h:Com add) (c:K→Bool) (l m:List (K×P)):sum add c (l ++ m)=oadd add (sum add c l) (sum add c m):=by
 induction l with
 | nil=>rw [List.nil_append,sum,no2]
 | cons x l ih=>rw [List.cons_append,sum,sum,ih,oa2 h]
theorem sum_perm (h:Com add) (c:K→Bool) {l m:List (K×P)} (hp:l.Perm m):sum add c l=sum add c m:=by
 induction hp with
 | nil=>rfl
 | cons x _ ih=>rw [sum,sum,ih]
 | swap x y l=>simp only [sum];rw [← oa2 h,← oa2 h,oc3 h (if c y.1 then some y.2 else none)]
 | trans _ _ i1 i2=>rw [i1,i2]
theorem sum_congr {c d:K→Bool} {l:List (K×P)} (h:∀ x ∈ l,c x.1=d x.1):sum add c l=sum add d l:=by
 induction l with
 | nil=>rfl
 | cons x l ih=>rw [sum,sum,h x (by simp),ih fun y hy=>h y (by simp [hy])]
theorem sn2 {c:K→Bool} {l:List (K×P)} (h:∀ x ∈ l,c x.1=false):sum add c l=none:=by
 induction l with
 | nil=>rfl
 | cons x l ih=>rw [sum,h x (by simp),ih fun y hy=>h y (by simp [hy])];rfl
theorem sum_some {c:K→Bool} {l:List (K×P)} {x:K×P} (hx:x ∈ l) (hc:c x.1=true):sum add c l≠none:=by
 induction l with
 | nil=>cases hx
 | cons y l ih=>
   rw [sum]
   rcases List.mem_cons.1 hx with rfl | h
   ·rw [hc,if_pos rfl];cases sum add c l <;> simp [oadd]
   ·have:=ih h
    cases hs:sum add c l
    ·exact absurd hs this
    ·cases (if c y.1 then some y.2 else none) <;> simp [oadd]
theorem sum_ins (hk:Sto lt) (h:Com add) (c:K→Bool) (x:K×P) (l:List (K×P)):sum add c (ins lt add x l)=oadd add (sum add c l) (if c x.1 then some x.2 else none):=by
 induction l with
 | nil=>simp only [ins,sum,on2,no2]
 | cons y l ih=>
   rw [ins]
   split
   ·rw [sum,sum,ih,oa2 h]
   split
   ·rw [sum,oc3 h]
   ·rename_i h1 h2
    obtain e:y.1=x.1:=hk.tri (by simpa using h1) (by simpa using h2)
    rw [sum,sum,← e,oa2 h,oc3 h (sum add c l),← oa2 h]
    cases c y.1 <;> rfl
theorem sum_foldl (hk:Sto lt) (h:Com add) (c:K→Bool) (l m:List (K×P)):sum add c (l.foldl (fun m x=>ins lt add x m) m)=oadd add (sum add c m) (sum add c l):=by
 induction l generalizing m with
 | nil=>rw [List.foldl_nil,sum,on2]
 | cons x l ih=>rw [List.foldl_cons,ih,sum_ins hk h,oa2 h];rfl
theorem sf2 (hk:Sto lt) (h:Com add) (c:K→Bool) (l:List (K×P)):sum add c (fold lt add l)=sum add c l:=by
 rw [fold,sum_foldl hk h,sum,no2]
theorem mem_ins {x y:K×P} {l:List (K×P)} (h:y ∈ ins lt add x l):y.1=x.1∨∃ z ∈ l,z.1=y.1:=by
 induction l with
 | nil=>simp only [ins,List.mem_singleton] at h;exact Or.inl (by rw [h])
 | cons z l ih=>
   rw [ins] at h
   split at h
   ·rcases List.mem_cons.1 h with rfl | h
    ·exact Or.inr ⟨_,by simp,rfl⟩
    ·rcases ih h with h | ⟨u,hu,e⟩
     ·exact Or.inl h
     ·exact Or.inr ⟨u,by simp [hu],e⟩
   split at h
   ·rcases List.mem_cons.1 h with rfl | h
    ·exact Or.inl rfl
    ·exact Or.inr ⟨y,h,rfl⟩
   ·rcases List.mem_cons.1 h with rfl | h
    ·exact Or.inr ⟨z,by simp,rfl⟩
    ·exact Or.inr ⟨y,by simp [h],rfl⟩
theorem ins_asc (hk:Sto lt) (x:K×P) {l:List (K×P)} (h:Asc lt l):Asc lt (ins lt add x l):=by
 induction l with
 | nil=>exact List.pairwise_singleton _ _
 | cons y l ih=>
   obtain ⟨h1,h2⟩:=List.pairwise_cons.1 h
   rw [ins]
   split
   ·rename_i hyx
    refine List.pairwise_cons.2 ⟨fun z hz => ?_,ih h2⟩
    rcases mem_ins hz with e | ⟨u,hu,e⟩
    ·rw [e];exact hyx
    ·rw [← e];exact h1 u hu
   split
   ·rename_i hxy
    refine List.pairwise_cons.2 ⟨fun z hz => ?_,h⟩
    rcases List.mem_cons.1 hz with rfl | hz
    ·exact hxy
    ·exact hk.trans hxy (h1 z hz)
   ·exact List.pairwise_cons.2 ⟨h1,h2⟩
theorem foldl_asc (hk:Sto lt) (l:List (K×P)) {m:List (K×P)} (h:Asc lt m):Asc lt (l.foldl (fun m x=>ins lt add x m) m):=by
 induction l generalizing m with
 | nil=>exact h
 | cons x l ih=>exact ih (ins_asc hk x h)
theorem fa8 (hk:Sto lt) (l:List (K×P)):Asc lt (fold lt add l):=foldl_asc hk l List.Pairwise.nil
def at' (lt:K→K→Bool) (k:K) (x:K):Bool := !lt x k && !lt k x
theorem ai (hk:Sto lt) {k x:K}:at' lt k x=true↔x=k:=by
 unfold at'
 constructor
 ·intro h
  simp only [Bool.and_eq_true,Bool.not_eq_true'] at h
  exact hk.tri h.1 h.2
 ·rintro rfl
  simp [hk.irr]
theorem sa4 (hk:Sto lt) {x:K×P} {l:List (K×P)} (h:Asc lt (x :: l)):sum add (at' lt x.1) (x :: l)=some x.2:=by
 obtain ⟨h1,_⟩:=List.pairwise_cons.1 h
 rw [sum,sn2 (c:=at' lt x.1) (l:=l),(ai hk).2 rfl]
 ·rfl
 ·intro y hy
  have:=h1 y hy
  cases he:at' lt x.1 y.1
  ·rfl
  ·rw [(ai hk).1 he,hk.irr] at this;cases this
theorem ext (hk:Sto lt) {l m:List (K×P)} (hl:Asc lt l) (hm:Asc lt m) (h:∀ k,sum add (at' lt k) l=sum add (at' lt k) m):l=m:=by
 induction l generalizing m with
 | nil=>
   cases m with
   | nil=>rfl
   | cons y m=>have:=h y.1;rw [sa4 hk hm] at this;cases this
 | cons x l ih=>
   cases m with
   | nil=>have:=h x.1;rw [sa4 hk hl] at this;cases this
   | cons y m=>
     obtain ⟨a1,a2⟩:=List.pairwise_cons.1 hl
     obtain ⟨b1,b2⟩:=List.pairwise_cons.1 hm
     have Ac:x.1=y.1:=by
      have hx:=h x.1
      have hy:=h y.1
      rw [sa4 hk hl] at hx
      rw [sa4 hk hm] at hy
      cases e1:lt x.1 y.1
      ·cases e2:lt y.1 x.1
       ·exact hk.tri e1 e2
       ·exfalso
        have:sum add (at' lt y.1) (x :: l)=none:=sn2 fun z hz=>by
         cases he:at' lt y.1 z.1
         ·rfl
         ·have:=(ai hk).1 he
          rcases List.mem_cons.1 hz with rfl | hz
          ·rw [this,hk.irr] at e2;cases e2
          ·have h3:=hk.trans e2 (a1 z hz);rw [this,hk.irr] at h3;cases h3
        rw [this] at hy;cases hy
      ·exfalso
       have:sum add (at' lt x.1) (y :: m)=none:=sn2 fun z hz=>by
        cases he:at' lt x.1 z.1
        ·rfl
        ·have:=(ai hk).1 he
         rcases List.mem_cons.1 hz with rfl | hz
         ·rw [this,hk.irr] at e1;cases e1
         ·have h3:=hk.trans e1 (b1 z hz);rw [this,hk.irr] at h3;cases h3
       rw [this] at hx;cases hx
     have Ab:x.2=y.2:=by
      have hx:=h x.1
      rw [sa4 hk hl,Ac,sa4 hk hm] at hx
      exact Option.some.inj hx
     have Ad:x=y:=Prod.ext Ac Ab
     subst Ad
     congr 1
     refine ih a2 b2 fun k => ?_
     have Aa:=h k
     rw [sum,sum] at Aa
     cases hc:at' lt k x.1
     ·rw [hc] at Aa
      simpa [no2] using Aa
     ·have e:=(ai hk).1 hc
      rw [sn2 (l:=l),sn2 (l:=m)]
      ·intro z hz
       cases he:at' lt k z.1
       ·rfl
       ·have h3:=b1 z hz;rw [(ai hk).1 he,e,hk.irr] at h3;cases h3
      ·intro z hz
       cases he:at' lt k z.1
       ·rfl
       ·have h3:=a1 z hz;rw [(ai hk).1 he,e,hk.irr] at h3;cases h3
end keyed
section regroup
variable {K L P:Type} {lt:K→K→Bool} {lt':L→L→Bool} {add:P→P→P}
def re (g:K→Option L) (l:List (K×P)):List (L×P):=l.filterMap fun x=>(g x.1).map fun k=>(k,x.2)
theorem sum_re (g:K→Option L) (c:L→Bool) (l:List (K×P)):sum add c (re g l)=sum add (fun k=>match g k with | some k'=>c k' | none=>false) l:=by
 induction l with
 | nil=>rfl
 | cons x l ih=>
   unfold re at *
   rw [List.filterMap_cons]
   cases hg:g x.1 with
   | none=>simp only [Option.map_none,hg,sum,ih];rw [if_neg (by simp),no2]
   | some _=>simp only [Option.map_some,hg,sum,ih]
end regroup
end Tess.Kl
namespace Tess
open Go
def vO (v:Val):Bool:=(v.null && decide (v.s=ByteArray.empty)) || (!v.null && decide (v.s.size≤100))
def rowFits (s:Sch) (t:Int) (l:List Val) (n:Nat):Bool:=sO2 s && decide (0≤t) && decide (t≤1000000000000) && decide (l.length=s.dims.length) && decide (n=s.mets.length) && l.all vO
end Tess
namespace Tess
open Go
def metW (s:Sch) (x:ByteArray):Nat×Bool:=pW (sO2 s) s.mets x
def co2 (a b:Int):Bool:=Fil.gO2 a && Fil.gO2 b && decide (b % a=0)
def within (n a b:Int):Bool:=decide (a≤n) && decide (n≤b)
structure Agg where
 kind:Int
 met:ByteArray
structure Cond where
 pos:Int
 op:Int
 n:Int
structure Key where
 agg:Bool
 pos:Int
 desc:Bool
structure Que where
 aggs:List Agg
 names:List ByteArray
 mode:Int
 sets:List (List ByteArray)
 every:Int
 fil:Fil
 conds:List Cond
 keys:List Key
 limit:Int
namespace Que
def iT (s:Sch) (a:Agg):Bool:=if a.kind=1 then decide (a.met=ByteArray.empty) else (metW s a.met).2 && decide (1 < a.kind) && decide (a.kind≤5)
def nameAt (all:List ByteArray) (x:ByteArray):Int:=if hasW all x then (idxW all x:Nat) else -1
def iO2 (all:List ByteArray) (last:Int):List ByteArray→Bool
 | []=>true
 | x :: r=>if nameAt all x≤last then false else iO2 all (nameAt all x) r
def iO (l all:List ByteArray):Bool:=iO2 all (-1) l
def sO4 (q:Que):Bool:=
 within q.aggs.length 1 6 && decide (q.names.length≤6) && within q.mode 1 4 && within q.sets.length (if q.mode=4 then 1 else 0) (if q.mode=4 then 8 else 0) && decide (q.conds.length≤4) && decide (q.keys.length≤4) && within q.limit 0 1000
def cO (n:Nat) (c:Cond):Bool:=within c.pos 0 ((n:Int) - 1) && within c.op 1 6
def keyOk (na nb:Nat) (k:Key):Bool:=if k.agg then within k.pos 0 ((na:Int) - 1) else within k.pos 0 ((nb:Int) - 1)
def isOf (s:Sch) (q:Que):Bool:=
 sO4 q && q.aggs.all (iT s) && iO q.names q.names && q.names.all (fun x=>(dimW s x).2) && q.sets.all (fun l=>iO l q.names) && q.conds.all (cO q.aggs.length) && q.keys.all (keyOk q.aggs.length q.names.length)
def check (s:Sch) (q:Que):Nat:=if sO2 s then (if isOf s q then (if decide (q.every≠0) && !co2 s.grain q.every then 110 else Fil.cE2 s q.fil) else 152) else 100
def sF2 (l:List ByteArray):Nat→List ByteArray→Nat
 | _,[]=>0
 | i,x :: r=>(if hasW l x then 0 else 2 ^ i) + sF2 l (i + 1) r
def setOf (names l:List ByteArray):Nat:=sF2 l 0 names
def sO (q:Que):List Nat:=
 if q.mode=1 then [0]
 else if q.mode=2 then List.range (2 ^ q.names.length)
 else if q.mode=3 then (List.range (q.names.length + 1)).map fun k=>2 ^ q.names.length - 2 ^ (q.names.length - k)
 else q.sets.map (setOf q.names)
end Que
end Tess
namespace Tess
open Go Kl
abbrev DV:=Option ByteArray
def Val.c (v:Val):DV:=if v.null then none else some v.s
def valOf:DV→Val
 | none=>⟨ByteArray.empty,true⟩
 | some b=>⟨b,false⟩
theorem c_valOf (x:DV):(valOf x).c=x:=by cases x <;> rfl
theorem valOf_c {v:Val} (h:vO v=true):valOf v.c=v:=by
 obtain ⟨s,b⟩:=v
 cases b
 ·rfl
 ·simp only [vO,Bool.true_and,Bool.not_true,Bool.false_and,Bool.or_false,decide_eq_true_eq] at h
  subst h;rfl
theorem valOf_cs {l:List Val} (h:l.all vO=true):(l.map Val.c).map valOf=l:=by
 rw [List.map_map]
 refine (List.map_congr_left fun v hv => ?_).trans (List.map_id l)
 exact valOf_c (List.all_eq_true.1 h v hv)
theorem blT (a b:ByteArray):bl a b=decide (a.toList < b.toList):=Go.Proofs.bytesLess_eq _ _
def vLt:DV→DV→Bool
 | _,none=>false
 | none,some _=>true
 | some a,some b=>bl a b
theorem v_sto:Sto vLt where
 irr a:=by
  cases a with
  | none=>rfl
  | some a=>rw [vLt,blT];exact decide_eq_false (List.lt_irrefl _)
 trans {a b c}:=by
  cases a <;> cases b <;> cases c <;> simp only [vLt,Bool.false_eq_true,false_implies,implies_true]
  rw [blT,blT,blT]
  intro h h'
  exact decide_eq_true (List.lt_trans (of_decide_eq_true h) (of_decide_eq_true h'))
 tri {a b}:=by
  cases a <;> cases b <;> simp only [vLt,Bool.true_eq_false,false_implies,implies_true]
  rw [blT,blT]
  intro h h'
  have:=List.le_antisymm (List.not_lt.1 (of_decide_eq_false h')) (List.not_lt.1 (of_decide_eq_false h))
  rw [ByteArray.toList_eq,ByteArray.toList_eq] at this
  rw [ByteArray.ext (Array.toList_inj.1 this)]
def iLt (a b:Int):Bool:=decide (a < b)
theorem i_sto:Sto iLt where
 irr a:=by simp [iLt]
 trans {a b c}:=by simp only [iLt,decide_eq_true_eq];omega
 tri {a b}:=by simp only [iLt,decide_eq_false_iff_not];omega
abbrev CK:=Int×List DV
def ckLt:CK→CK→Bool:=pair iLt (lex vLt)
theorem cs3:Sto ckLt:=pair_sto i_sto (lex_sto v_sto)
structure Pay where
 n:Int
 sums:List Int
 mins:List Int
 maxs:List Int
def Pay.add (a b:Pay):Pay:=⟨a.n + b.n,List.zipWith (· + ·) a.sums b.sums,List.zipWith min a.mins b.mins,List.zipWith max a.maxs b.maxs⟩
theorem zip_comm {f:Int→Int→Int} (h:∀ a b,f a b=f b a) (l m:List Int):List.zipWith f l m=List.zipWith f m l:=by
 induction l generalizing m with
 | nil=>simp
 | cons a l ih=>cases m with
   | nil=>simp
   | cons b m=>simp [h a b,ih]
theorem za2 {f:Int→Int→Int} (h:∀ a b c,f (f a b) c=f a (f b c)) (l m n:List Int):List.zipWith f (List.zipWith f l m) n=List.zipWith f l (List.zipWith f m n):=by
 induction l generalizing m n with
 | nil=>simp
 | cons a l ih=>cases m with
   | nil=>simp
   | cons b m=>cases n with
     | nil=>simp
     | cons c n=>simp [h a b c,ih]
theorem pc2:Com Pay.add where
 comm a b:=by
  obtain ⟨a1,a2,a3,a4⟩:=a;obtain ⟨b1,b2,b3,b4⟩:=b
  simp only [Pay.add,Pay.mk.injEq]
  exact ⟨Int.add_comm _ _,zip_comm Int.add_comm _ _,zip_comm Int.min_comm _ _,zip_comm Int.max_comm _ _⟩
 assoc a b c:=by
  obtain ⟨a1,a2,a3,a4⟩:=a;obtain ⟨b1,b2,b3,b4⟩:=b;obtain ⟨c1,c2,c3,c4⟩:=c
  simp only [Pay.add,Pay.mk.injEq]
  exact ⟨Int.add_assoc _ _ _,za2 Int.add_assoc _ _ _,za2 (fun a b c=>by omega) _ _ _,za2 (fun a b c=>by omega) _ _ _⟩
structure Row where
 t:Int
 l:List Val
 ns:List Int
def Row.ok (s:Sch) (r:Row):Bool:=rowFits s r.t r.l r.ns.length
def Row.kp (g:Int) (r:Row):CK×Pay:=((r.t - r.t % g,r.l.map Val.c),⟨1,r.ns,r.ns,r.ns⟩)
def rP (g:Int) (rows:List Row):List (CK×Pay):=fold ckLt Pay.add (rows.map (Row.kp g))
def cutE (e t:Int):Int:=if 0 < e then t - t % e else 0
def kF2 (s:Sch) (set:Nat) (d:List DV):Nat→List ByteArray→List DV
 | _,[]=>[]
 | i,x :: r=>(if set / 2 ^ i % 2=0 then d.getD (dimW s x).1 none else none) :: kF2 s set d (i + 1) r
def gOf (s:Sch) (q:Que) (set:Nat) (k:CK):Option CK:=if Fil.holds s k.1 (k.2.map valOf) q.fil then some (cutE q.every k.1,kF2 s set k.2 0 q.names) else none
def gP (s:Sch) (q:Que) (set:Nat) (cells:List (CK×Pay)):List (CK×Pay):=fold ckLt Pay.add (re (gOf s q set) cells)
section
variable (s:Sch) (q:Que) (set:Nat) (g:Int)
theorem sg2 (c:CK→Bool) (l:List (CK×Pay)):sum Pay.add c (gP s q set l)=sum Pay.add c (re (gOf s q set) l):=sf2 cs3 pc2 _ _
end
theorem cc2 {s:Sch} {q:Que} (hc:Que.check s q=0):sO2 s=true∧Que.isOf s q=true∧(q.every=0∨co2 s.grain q.every=true)∧Fil.cE2 s q.fil=0:=by
 unfold Que.check at hc
 split at hc
 ·rename_i h1
  split at hc
  ·rename_i h2
   split at hc
   ·cases hc
   ·rename_i h3
    refine ⟨h1,h2,?_,hc⟩
    by_cases h0:q.every=0
    ·exact Or.inl h0
    ·simp only [h0,ne_eq,not_false_eq_true,decide_true,Bool.true_and,Bool.not_eq_true',Bool.not_eq_false] at h3
     exact Or.inr h3
  ·cases hc
 ·cases hc
theorem ok_parts {s:Sch} {r:Row} (h:Row.ok s r=true):sO2 s=true∧(0≤r.t∧r.t≤1000000000000)∧r.l.length=s.dims.length∧r.ns.length=s.mets.length∧r.l.all vO=true:=by
 simp only [Row.ok,rowFits,Bool.and_eq_true,decide_eq_true_eq] at h
 exact ⟨h.1.1.1.1.1,⟨h.1.1.1.1.2,h.1.1.1.2⟩,h.1.1.2,h.1.2,h.2⟩
end Tess
namespace Go.Proofs.YtaddkkkchkdgkaaGreatDoor
open Go.RowKit Go.Sort
open Tess (CK Pay)
theorem addr_add (b off n:Nat):(⟨b,off,none⟩:Addr).add n=⟨b,off + n,none⟩:=by unfold Addr.add;split <;> simp_all
def LA {α:Type} (k:Nat) (R:World→List Value→α→Prop) (p:Nat→Prop) (w:World) (v:Value) (l:List α):Prop:=
 ∃ a cap,v = .slice a l.length cap∧l.length≤maxLen∧l.length≤cap∧(a=none→cap=0) ∧
   (0 < l.length→∃ b off,a=some ⟨b,off,none⟩∧b < w.heap.size∧p b∧∀ j (h:j < l.length),∃ cs,cs.length=k∧R w cs l[j]∧∀ i,i < k→w.cell? ⟨b,off + j * k + i,none⟩=cs[i]?)
section
variable {α:Type} {k:Nat} {R S:World→List Value→α→Prop} {p q:Nat→Prop} {w w':World} {v:Value} {l:List α}
theorem LA.ag (h:LA k R p w v l) (hg:Ag p w w') (hR:∀ cs x,x ∈ l→R w cs x→R w' cs x):LA k R p w' v l:=by
 obtain ⟨a,Aa,hv,h1,h2,h3,h4⟩:=h
 refine ⟨a,Aa,hv,h1,h2,h3,fun hl => ?_⟩
 obtain ⟨b,Ab,ha,hb,hp,hc⟩:=h4 hl
 refine ⟨b,Ab,ha,Nat.lt_of_lt_of_le hb hg.1,hp,fun j hj => ?_⟩
 obtain ⟨cs,e1,e2,e3⟩:=hc j hj
 exact ⟨cs,e1,hR _ _ (List.getElem_mem hj) e2,fun i hi=>(hg.cell hb hp).trans (e3 i hi)⟩
theorem LA.weak (h:LA k R p w v l) (hpq:∀ b,p b→q b) (hR:∀ cs x,x ∈ l→R w cs x→S w cs x):LA k S q w v l:=by
 obtain ⟨a,Aa,hv,h1,h2,h3,h4⟩:=h
 refine ⟨a,Aa,hv,h1,h2,h3,fun hl => ?_⟩
 obtain ⟨b,Ab,ha,hb,hp,hc⟩:=h4 hl
 refine ⟨b,Ab,ha,hb,hpq b hp,fun j hj => ?_⟩
 obtain ⟨cs,e1,e2,e3⟩:=hc j hj
 exact ⟨cs,e1,hR _ _ (List.getElem_mem hj) e2,e3⟩
theorem LA.nil (k:Nat) (R:World→List Value→α→Prop) (p:Nat→Prop) (w:World):LA k R p w (.slice none 0 0) []:=⟨none,0,rfl,Nat.zero_le _,Nat.zero_le _,fun _=>rfl,fun h=>absurd h (Nat.lt_irrefl 0)⟩
theorem LA.open (h:LA k R p w v l):∃ a cap,v = .slice a l.length cap∧l.length≤cap∧l.length≤maxLen∧(a=none→cap=0)∧∀ j (hj:j < l.length),∃ b off,a=some ⟨b,off,none⟩∧b < w.heap.size∧p b∧∃ cs,cs.length=k∧R w cs l[j]∧∀ i,i < k→w.cell? ⟨b,off + j * k + i,none⟩=cs[i]? := by
 obtain ⟨a,cap,hv,h1,h2,h3,h4⟩:=h
 refine ⟨a,cap,hv,h2,h1,h3,fun j hj => ?_⟩
 obtain ⟨b,off,ha,hb,hp,hc⟩:=h4 (by omega)
 exact ⟨b,off,ha,hb,hp,hc j hj⟩
theorem LA.slice (h:LA k R p w v l) (i j:Nat) (hij:i≤j) (hj:j≤l.length):∃ a cap,v = .slice a l.length cap∧l.length≤cap∧l.length≤maxLen∧LA k R p w (.slice (if cap=i then a else a.map (·.add (i * k))) (j - i) (cap - i)) ((l.take j).drop i):=by
 obtain ⟨a,cap,hv,h1,h2,h3,h4⟩:=h
 have e:((l.take j).drop i).length=j - i:=by simp;omega
 refine ⟨a,cap,hv,h2,h1,_,cap - i,by rw [e],by rw [e];omega,by rw [e];omega,fun hz => ?_,fun hl => ?_⟩
 ·split at hz
  ·omega
  ·cases a with
   | none=>have:=h3 rfl;omega
   | some x=>cases hz
 ·rw [e] at hl
  obtain ⟨b,Aa,ha,hb,hp,hc⟩:=h4 (by omega)
  rw [if_neg (by omega),ha]
  refine ⟨b,Aa + i * k,by rw [Option.map_some,addr_add],hb,hp,fun m hm => ?_⟩
  rw [e] at hm
  obtain ⟨cs,e1,e2,e3⟩:=hc (i + m) (by omega)
  refine ⟨cs,e1,by simpa using e2,fun n hn => ?_⟩
  rw [← e3 n hn,Nat.add_mul]
  congr 2
  omega
end
structure PayAt (p:Nat→Prop) (w:World) (vs vm vx:Value) (x:Pay):Prop where
 sums:RA 2 wF p w vs x.sums
 mins:RA 1 intF p w vm x.mins
 maxs:RA 1 intF p w vx x.maxs
def CA2 (p:Nat→Prop) (w:World) (cs:List Value) (x:CK×Pay):Prop:=∃ vd vs vm vx,cs=[.int .i64 x.1.1,vd,.int .i64 x.2.n,vs,vm,vx]∧VA p w vd (x.1.2.map Tess.valOf)∧PayAt p w vs vm vx x.2
def GA2 (p:Nat→Prop) (w:World) (cs:List Value) (x:Int×CK×Pay):Prop:=∃ vd vs vm vx,cs=[.int .i64 x.1,.int .i64 x.2.1.1,vd,.int .i64 x.2.2.n,vs,vm,vx]∧VA p w vd (x.2.1.2.map Tess.valOf)∧PayAt p w vs vm vx x.2.2
section
variable {p q:Nat→Prop} {w w':World} {v vs vm vx:Value} {cs:List Value} {x:Pay} {c:CK×Pay} {g:Int×CK×Pay}
theorem PayAt.ag (h:PayAt p w vs vm vx x) (hg:Ag p w w'):PayAt p w' vs vm vx x:=⟨h.sums.ag hg,h.mins.ag hg,h.maxs.ag hg⟩
theorem PayAt.weak (h:PayAt p w vs vm vx x) (hpq:∀ b,p b→q b):PayAt q w vs vm vx x:=⟨h.sums.weak hpq,h.mins.weak hpq,h.maxs.weak hpq⟩
theorem CA2.ag (h:CA2 p w cs c) (hg:Ag p w w'):CA2 p w' cs c:=let ⟨_,_,_,_,e,h1,h2⟩:=h;⟨_,_,_,_,e,h1.ag hg,h2.ag hg⟩
theorem CA2.weak (h:CA2 p w cs c) (hpq:∀ b,p b→q b):CA2 q w cs c:=let ⟨_,_,_,_,e,h1,h2⟩:=h;⟨_,_,_,_,e,h1.weak hpq,h2.weak hpq⟩
theorem CA2.len (h:CA2 p w cs c):cs.length=6:=by obtain ⟨_,_,_,_,rfl,_⟩:=h;rfl
theorem GA2.ag (h:GA2 p w cs g) (hg:Ag p w w'):GA2 p w' cs g:=let ⟨_,_,_,_,e,h1,h2⟩:=h;⟨_,_,_,_,e,h1.ag hg,h2.ag hg⟩
theorem GA2.weak (h:GA2 p w cs g) (hpq:∀ b,p b→q b):GA2 q w cs g:=let ⟨_,_,_,_,e,h1,h2⟩:=h;⟨_,_,_,_,e,h1.weak hpq,h2.weak hpq⟩
def CA3 (p:Nat→Prop):World→Value→List (CK×Pay)→Prop:=LA 6 (CA2 p) p
def GA3 (p:Nat→Prop):World→Value→List (Int×CK×Pay)→Prop:=LA 7 (GA2 p) p
theorem CA3.ag {l:List (CK×Pay)} (h:CA3 p w v l) (hg:Ag p w w'):CA3 p w' v l:=LA.ag h hg fun _ _ _ h=>h.ag hg
theorem CA3.weak {l:List (CK×Pay)} (h:CA3 p w v l) (hpq:∀ b,p b→q b):CA3 q w v l:=LA.weak h hpq fun _ _ _ h=>h.weak hpq
theorem GA3.ag {l:List (Int×CK×Pay)} (h:GA3 p w v l) (hg:Ag p w w'):GA3 p w' v l:=LA.ag h hg fun _ _ _ h=>h.ag hg
theorem GA3.weak {l:List (Int×CK×Pay)} (h:GA3 p w v l) (hpq:∀ b,p b→q b):GA3 q w v l:=LA.weak h hpq fun _ _ _ h=>h.weak hpq
end
end Go.Proofs.YtaddkkkchkdgkaaGreatDoor
namespace Go.Proofs.YtaddkkkchkdgkaaGreatDoor
open Go.RowKit Go.Sort
open Tess (Fil Que)
def aggF (a:Tess.Agg):List Value:=[.int .i64 a.kind,.string a.met]
def condF (c:Tess.Cond):List Value:=[.int .i64 c.pos,.int .i64 c.op,.int .i64 c.n]
def keyF (k:Tess.Key):List Value:=[.bool k.agg,.int .i64 k.pos,.bool k.desc]
def SA2 (p:Nat→Prop) (w:World) (v:Value) (l:List (List ByteArray)):Prop:=
 ∃ a cap,v = .slice a l.length cap∧l.length≤maxLen∧l.length≤cap∧(a=none→cap=0) ∧
   (0 < l.length→∃ b off,a=some ⟨b,off,none⟩∧b < w.heap.size∧p b∧∀ j (h:j < l.length),∃ c,w.cell? ⟨b,off + j,none⟩=some c∧SlP p w c (l[j].map .string)∧∀ x ∈ l[j],x.size≤maxLen)
section
variable {p q:Nat→Prop} {w w':World} {v:Value} {l:List (List ByteArray)}
theorem SA2.ag (h:SA2 p w v l) (hg:Ag p w w'):SA2 p w' v l:=by
 obtain ⟨a,Aa,hv,h1,h2,h3,h4⟩:=h
 refine ⟨a,Aa,hv,h1,h2,h3,fun hl => ?_⟩
 obtain ⟨b,Ab,ha,hb,hp,hc⟩:=h4 hl
 refine ⟨b,Ab,ha,Nat.lt_of_lt_of_le hb hg.1,hp,fun j hj => ?_⟩
 obtain ⟨c,e1,e2,e3⟩:=hc j hj
 exact ⟨c,(hg.cell hb hp).trans e1,e2.ag hg,e3⟩
theorem SA2.weak (hpq:∀ b,p b→q b) (h:SA2 p w v l):SA2 q w v l:=by
 obtain ⟨a,Aa,hv,h1,h2,h3,h4⟩:=h
 refine ⟨a,Aa,hv,h1,h2,h3,fun hl => ?_⟩
 obtain ⟨b,Ab,ha,hb,hp,hc⟩:=h4 hl
 refine ⟨b,Ab,ha,hb,hpq b hp,fun j hj => ?_⟩
 obtain ⟨c,e1,e2,e3⟩:=hc j hj
 exact ⟨c,e1,e2.weak hpq,e3⟩
theorem SA2.nil (p:Nat→Prop) (w:World):SA2 p w (.slice none 0 0) []:=⟨none,0,rfl,Nat.zero_le _,Nat.zero_le _,fun _=>rfl,fun h=>absurd h (Nat.lt_irrefl 0)⟩
end
structure QA (p:Nat→Prop) (n:Nat) (w:World) (v:Value) (q:Que) (va vb vs f0 f1 f2 f3 f4 f5 vh vo:Value):Prop where
 e:v = .agg #[va,vb,.int .i64 q.mode,vs,.int .i64 q.every,f0,f1,f2,f3,f4,f5,vh,vo,.int .i64 q.limit]
 aggs:RA 2 aggF p w va q.aggs
 mets:∀ x ∈ q.aggs,x.met.size≤maxLen
 names:SlP p w vb (q.names.map .string)
 small:∀ x ∈ q.names,x.size≤maxLen
 sets:SA2 p w vs q.sets
 fil:FA2 p n w (.agg #[f0,f1,f2,f3,f4,f5]) q.fil
 conds:RA 3 condF p w vh q.conds
 keys:RA 3 keyF p w vo q.keys
section
variable {p q:Nat→Prop} {n:Nat} {w w':World} {v:Value} {x:Que} {va vb vs f0 f1 f2 f3 f4 f5 vh vo:Value}
theorem QA.ag (h:QA p n w v x va vb vs f0 f1 f2 f3 f4 f5 vh vo) (hg:Ag p w w'):QA p n w' v x va vb vs f0 f1 f2 f3 f4 f5 vh vo:=
 ⟨h.e,h.aggs.ag hg,h.mets,h.names.ag hg,h.small,h.sets.ag hg,h.fil.ag hg,h.conds.ag hg,h.keys.ag hg⟩
theorem QA.weak (hpq:∀ b,p b→q b) (h:QA p n w v x va vb vs f0 f1 f2 f3 f4 f5 vh vo):QA q n w v x va vb vs f0 f1 f2 f3 f4 f5 vh vo:=
 ⟨h.e,h.aggs.weak hpq,h.mets,h.names.weak hpq,h.small,h.sets.weak hpq,h.fil.weak hpq,h.conds.weak hpq,h.keys.weak hpq⟩
end
section
variable {W:World} {B:Nat} {t:TypeId} {x0 x1 x2 x3 x4 x5 x6 x7 x8 x9 xa xb xc xd:Value}
theorem ca2 (h:W.heap[B]? = some (.cells #[x0,x1,x2,x3,x4,x5,x6,x7,x8,x9,xa,xb,xc,xd] t (0,0))) :
  (W.cell? ⟨B,0,none⟩=some x0∧W.cell? ⟨B,1,none⟩=some x1∧W.cell? ⟨B,2,none⟩=some x2∧W.cell? ⟨B,3,none⟩=some x3∧W.cell? ⟨B,4,none⟩=some x4∧W.cell? ⟨B,5,none⟩=some x5∧W.cell? ⟨B,6,none⟩=some x6∧W.cell? ⟨B,7,none⟩=some x7∧W.cell? ⟨B,8,none⟩=some x8∧W.cell? ⟨B,9,none⟩=some x9∧W.cell? ⟨B,10,none⟩=some xa∧W.cell? ⟨B,11,none⟩=some xb∧W.cell? ⟨B,12,none⟩=some xc∧W.cell? ⟨B,13,none⟩=some xd) ∧
   ∀ i,i < 14→W.frozen? ⟨B,i,none⟩=false:=
 ⟨⟨cell_of_row _ _ 0 _ _ _ h,cell_of_row _ _ 1 _ _ _ h,cell_of_row _ _ 2 _ _ _ h,cell_of_row _ _ 3 _ _ _ h,cell_of_row _ _ 4 _ _ _ h,cell_of_row _ _ 5 _ _ _ h,cell_of_row _ _ 6 _ _ _ h,cell_of_row _ _ 7 _ _ _ h,cell_of_row _ _ 8 _ _ _ h,cell_of_row _ _ 9 _ _ _ h,cell_of_row _ _ 10 _ _ _ h,cell_of_row _ _ 11 _ _ _ h,cell_of_row _ _ 12 _ _ _ h,cell_of_row _ _ 13 _ _ _ h⟩,fun i _=>frozen_of_row _ _ i _ _ h⟩
end
end Go.Proofs.YtaddkkkchkdgkaaGreatDoor
namespace Go.Proofs.YtaddkkkchkdgkaaGreatDoor
open Go.RowKit Go.Sort
open Tess (Fil Que)
theorem flatK {α:Type} {k:Nat} {f:α→List Value} (l:List α) (h:∀ x ∈ l,(f x).length=k):∀ (j i:Nat) (hj:j < l.length),i < k→(l.flatMap f)[j * k + i]? = (f l[j])[i]? := by
 induction l with
 | nil=>intro j i hj;simp at hj
 | cons u r ih=>
   intro j i hj hi
   rw [List.flatMap_cons]
   cases j with
   | zero=>
     rw [List.getElem?_append_left (by rw [h u (List.mem_cons_self)];omega)]
     simp
   | succ j=>
     have e:(j + 1) * k + i=k + (j * k + i):=by rw [Nat.succ_mul];omega
     rw [e,List.getElem?_append_right (by rw [h u (List.mem_cons_self)];omega),h u (List.mem_cons_self),Nat.add_sub_cancel_left]
     exact ih (fun x hx=>h x (List.mem_cons_of_mem _ hx)) j i (by simpa using hj) hi
theorem ro2 {α:Type} {k:Nat} {f:α→List Value} {w:World} {base:Nat} {t:TypeId} {v:Value} {l:List α} (hf:∀ x ∈ l,(f x).length=k) (h:w.ownsRow base t k v l.length (l.flatMap f)) (hl:l.length≤maxLen) (hn:l=[]→v = .slice none 0 0):RA k f (fun b=>base≤b) w v l:=by
 rcases Nat.eq_zero_or_pos l.length with h0 | h0
 ·have:l=[]:=List.length_eq_zero_iff.1 h0
  subst this
  rw [hn rfl]
  exact RA.nil _ _ _ _
 ·obtain ⟨g,Ac,hv,hb,hg,Aa,_,hc⟩:=oca h h0
  refine ⟨_,_,hv,hl,Aa,(fun e=>by cases e),fun _=>⟨g,0,rfl,hg,hb,fun j hj i hi => ?_⟩⟩
  have Ab:j * k + i < l.length * k:=by
   have:=Nat.mul_le_mul_right k (show j + 1≤l.length from hj)
   rw [Nat.succ_mul] at this;omega
  rw [Nat.zero_add,hc _ Ab]
  exact flatK l hf j i hj hi
structure Setl (N:Nat) (p:Nat→Prop) (W:World) (lv:Value) (us:List Value) (ls:List (List ByteArray)):Prop where
 own:W.ownsRow N 22 1 lv us.length us
 len:us.length=ls.length
 at_:∀ j (h:j < ls.length) (h':j < us.length),SlP p W us[j] (ls[j].map .string)
theorem Setl.below {N:Nat} {q:Nat→Prop} {W W':World} {lv:Value} {us:List Value} {ls:List (List ByteArray)} (h:Setl N q W lv us ls) (hb:Below W.heap.size W W'):Setl N q W' lv us ls:=
 ⟨ob2 h.own hb,h.len,fun j hj hj'=>(h.at_ j hj hj').ag (Ag.new _ hb)⟩
theorem Setl.set {N:Nat} {q:Nat→Prop} {W:World} {lv:Value} {us:List Value} {ls:List (List ByteArray)} (h:Setl N q W lv us ls) {g i:Nat} (hg:g < N) (hq:∀ b,q b→N≤b) (u:Value):Setl N q (W.setCell ⟨g,i,none⟩ u) lv us ls:=
 ⟨ownsRow_setCell_below h.own (by show g < N;exact hg) _,h.len,fun j hj hj'=>(h.at_ j hj hj').ag (Ag.set q W u (fun e=>by have:=hq _ e;simp only at this;omega))⟩
theorem Setl.more {N:Nat} {W W':World} {lv lv':Value} {us:List Value} {ls:List (List ByteArray)} {x:Value} {l:List ByteArray} {L:Nat}
  (h:Setl N (fun b=>N≤b∧lv.ownBlock≠some b) W lv us ls) (hx:SlP (fun b=>L≤b) W x (l.map .string)) (hL:∀ g,lv.ownBlock=some g→g < L) (hNL:N≤L)
  (hown:W'.ownsRow N 22 1 lv' (us.length + 1) (us ++ [x])) (hg:W.grownBy W' lv.ownBlock) (hloc:lv'.ownBlock=lv.ownBlock∨lv'.ownBlock=some W.heap.size) :
  Setl N (fun b=>N≤b∧lv'.ownBlock≠some b) W' lv' (us ++ [x]) (ls ++ [l]):=by
 have Ac:Ag (fun b=>lv.ownBlock≠some b) W W':=Ag.grown hg fun g e=>by rw [e];simp
 have Ab:∀ {v cs},SlP (fun b=>N≤b∧lv.ownBlock≠some b) W v cs→SlP (fun b=>N≤b∧lv'.ownBlock≠some b) W' v cs:=fun h=>
  ((h.lt).ag (Ac.weak fun b hb=>hb.1.2)).weak fun b hb=>⟨hb.1.1,by
    rcases hloc with e | e
    ·rw [e];exact hb.1.2
    ·rw [e];intro e2;have:=Option.some.inj e2;have:=hb.2;omega⟩
 refine ⟨by simpa using hown,by simp [h.len],fun j hj hj' => ?_⟩
 by_cases hjl:j < us.length
 ·have Aa:j < ls.length:=by have:=h.len;omega
  rw [List.getElem_append_left hjl,List.getElem_append_left Aa]
  exact Ab (h.at_ j Aa hjl)
 ·have e1:j=us.length:=by simp at hj';omega
  have e2:j=ls.length:=by have:=h.len;omega
  rw [List.getElem_append_right (by omega),List.getElem_append_right (by omega)]
  simp only [e1,h.len,Nat.sub_self,List.getElem_cons_zero]
  exact Ab (hx.weak fun b hb=>⟨by have:L≤b:=hb;omega,fun e=>by have:=hL b e;have:L≤b:=hb;omega⟩)
theorem Setl.listed {N:Nat} {p q:Nat→Prop} {W:World} {lv:Value} {us:List Value} {ls:List (List ByteArray)} (h:Setl N p W lv us ls) (hpq:∀ b,p b→q b) (hN:∀ b,N≤b→q b) (hs:∀ l ∈ ls,∀ x ∈ l,x.size≤maxLen) (hl:ls.length≤maxLen) (hn:ls=[]→lv = .slice none 0 0):SA2 q W lv ls:=by
 have Aa:=h.len
 rcases Nat.eq_zero_or_pos us.length with h0 | h0
 ·have Ac:ls=[]:=List.eq_nil_of_length_eq_zero (by omega)
  rw [hn Ac,Ac]
  exact SA2.nil _ _
 ·obtain ⟨g,Ad,hv,hb,Af,Ae,hm,hc⟩:=oca h.own h0
  refine ⟨_,Ad,by rw [hv,Aa],by omega,by omega,(fun e=>by cases e),fun _=>⟨g,0,rfl,Af,hN g hb,fun j hj => ?_⟩⟩
  have Ab:j < us.length:=by omega
  exact ⟨us[j],by rw [Nat.zero_add,hc j (by omega)];simp [Ab],(h.at_ j hj Ab).weak hpq,fun x hx=>hs _ (List.getElem_mem hj) x hx⟩
theorem infoAgg:(Tryz.prog.info? 76).map (fun i=>(i.zero,i.size,i.bytes))=some (some (.agg #[.int .i64 0,.string ⟨#[]⟩]),2,24):=by kernel_rfl
theorem infoSet:(Tryz.prog.info? 22).map (fun i=>(i.zero,i.size,i.bytes))=some (some (.slice none 0 0),1,24):=by kernel_rfl
end Go.Proofs.YtaddkkkchkdgkaaGreatDoor
namespace Go.Proofs.YtaddkkkchkdgkaaGreatDoor
open Go.RowKit Go.Sort
section
variable {p:Nat→Prop} {w:World} {v:Value}
theorem SA2.shape {l:List (List ByteArray)} (h:SA2 p w v l):∃ a cap,v = .slice a l.length cap:=let ⟨a,cap,hv,_⟩:=h;⟨a,cap,hv⟩
theorem RA.shape {α:Type} {k:Nat} {f:α→List Value} {l:List α} (h:RA k f p w v l):∃ a cap,v = .slice a l.length cap:=let ⟨a,cap,hv,_⟩:=h;⟨a,cap,hv⟩
theorem RA.len {α:Type} {k:Nat} {f:α→List Value} {l:List α} (h:RA k f p w v l):l.length≤9223372036854775807:=by obtain ⟨_,_,_,h,_⟩:=h;unfold maxLen at h;omega
theorem SA2.len {l:List (List ByteArray)} (h:SA2 p w v l):l.length≤9223372036854775807:=by obtain ⟨_,_,_,h,_⟩:=h;unfold maxLen at h;omega
end
end Go.Proofs.YtaddkkkchkdgkaaGreatDoor
namespace Go.Proofs.YtaddkkkchkdgkaaGreatDoor
open Go.RowKit Go.Sort
open Tess (CK Pay)
structure Nest {α:Type} (k:Nat) (R:(Nat→Prop)→World→List Value→α→Prop):Prop where
 ag:∀ {p:Nat→Prop} {w w':World} {cs:List Value} {x:α},R p w cs x→Ag p w w'→R p w' cs x
 weak:∀ {p q:Nat→Prop} {w:World} {cs:List Value} {x:α},R p w cs x→(∀ b,p b→q b)→R q w cs x
 lt:∀ {p:Nat→Prop} {w:World} {cs:List Value} {x:α},R p w cs x→R (fun b=>p b∧b < w.heap.size) w cs x
 len:∀ {p:Nat→Prop} {w:World} {cs:List Value} {x:α},R p w cs x→cs.length=k
 one:∀ {p:Nat→Prop} {w:World} {cs:List Value} {x:α},R p w cs x→∀ u ∈ cs,u.oneCell'=true
theorem VA.lt {p:Nat→Prop} {w:World} {v:Value} {l:List Tess.Val} (h:VA p w v l):VA (fun b=>p b∧b < w.heap.size) w v l:=by
 obtain ⟨a,Aa,hv,h1,h2,h3,h4⟩:=h
 refine ⟨a,Aa,hv,h1,h2,h3,fun hl => ?_⟩
 obtain ⟨b,Ab,ha,hb,hp,hc⟩:=h4 hl
 exact ⟨b,Ab,ha,hb,⟨hp,hb⟩,hc⟩
theorem VA.shape {p:Nat→Prop} {w:World} {v:Value} {l:List Tess.Val} (h:VA p w v l):∃ a c,v = .slice a l.length c:=let ⟨a,c,e,_⟩:=h;⟨a,c,e⟩
theorem PayAt.lt {p:Nat→Prop} {w:World} {vs vm vx:Value} {x:Pay} (h:PayAt p w vs vm vx x):PayAt (fun b=>p b∧b < w.heap.size) w vs vm vx x:=⟨h.sums.lt,h.mins.lt,h.maxs.lt⟩
theorem cn2:Nest 6 CA2 where
 ag h hg:=h.ag hg
 weak h hpq:=h.weak hpq
 lt h:=let ⟨_,_,_,_,e,h1,h2⟩:=h;⟨_,_,_,_,e,h1.lt,h2.lt⟩
 len h:=h.len
 one h u hu:=by
  obtain ⟨vd,vs,vm,vx,rfl,h1,h2⟩:=h
  obtain ⟨_,_,rfl⟩:=h1.shape
  obtain ⟨_,_,rfl⟩:=h2.sums.shape
  obtain ⟨_,_,rfl⟩:=h2.mins.shape
  obtain ⟨_,_,rfl⟩:=h2.maxs.shape
  simp only [List.mem_cons,List.not_mem_nil,or_false] at hu
  rcases hu with rfl | rfl | rfl | rfl | rfl | rfl <;> rfl
theorem gn2:Nest 7 GA2 where
 ag h hg:=h.ag hg
 weak h hpq:=h.weak hpq
 lt h:=let ⟨_,_,_,_,e,h1,h2⟩:=h;⟨_,_,_,_,e,h1.lt,h2.lt⟩
 len h:=by obtain ⟨_,_,_,_,rfl,_⟩:=h;rfl
 one h u hu:=by
  obtain ⟨vd,vs,vm,vx,rfl,h1,h2⟩:=h
  obtain ⟨_,_,rfl⟩:=h1.shape
  obtain ⟨_,_,rfl⟩:=h2.sums.shape
  obtain ⟨_,_,rfl⟩:=h2.mins.shape
  obtain ⟨_,_,rfl⟩:=h2.maxs.shape
  simp only [List.mem_cons,List.not_mem_nil,or_false] at hu
  rcases hu with rfl | rfl | rfl | rfl | rfl | rfl | rfl <;> rfl
structure OwnL {α:Type} (N k:Nat) (t:TypeId) (R:(Nat→Prop)→World→List Value→α→Prop) (p:Nat→Prop) (W:World) (lv:Value) (us:List (List Value)) (ls:List α):Prop where
 own:W.ownsRow N t k lv us.length us.flatten
 len:us.length=ls.length
 at_:∀ j (h:j < ls.length) (h':j < us.length),R (fun b=>p b∧lv.ownBlock≠some b) W us[j] ls[j]
section
variable {α:Type} {N k:Nat} {t:TypeId} {R:(Nat→Prop)→World→List Value→α→Prop} {p q:Nat→Prop} {W W':World} {lv lv':Value} {us:List (List Value)} {ls:List α}
theorem OwnL.nil (W:World):OwnL N k t R p W (.slice none 0 0) [] []:=⟨World.ownsRow_nil _ _ _ _,rfl,fun j h=>absurd h (Nat.not_lt_zero j)⟩
theorem OwnL.below (hN:Nest k R) (h:OwnL N k t R p W lv us ls) (hb:Below W.heap.size W W'):OwnL N k t R p W' lv us ls:=
 ⟨ob2 h.own hb,h.len,fun j hj hj'=>hN.ag (h.at_ j hj hj') (Ag.new _ hb)⟩
theorem OwnL.weak (hN:Nest k R) (h:OwnL N k t R p W lv us ls) (hpq:∀ b,p b→q b):OwnL N k t R q W lv us ls:=
 ⟨h.own,h.len,fun j hj hj'=>hN.weak (h.at_ j hj hj') fun b hb=>⟨hpq b hb.1,hb.2⟩⟩
theorem OwnL.set (hN:Nest k R) (h:OwnL N k t R p W lv us ls) {g i:Nat} (hg:g < N) (hq:¬ p g) (u:Value):OwnL N k t R p (W.setCell ⟨g,i,none⟩ u) lv us ls:=
 ⟨ownsRow_setCell_below h.own (by show g < N;exact hg) _,h.len,fun j hj hj'=>hN.ag (h.at_ j hj hj') (Ag.set _ W u fun e=>hq e.1)⟩
theorem OwnL.more (hN:Nest k R) (h:OwnL N k t R p W lv us ls) {x:List Value} {y:α} (hx:R (fun b=>p b∧lv.ownBlock≠some b) W x y)
  (hown:W'.ownsRow N t k lv' (us.length + 1) (us.flatten ++ x)) (hg:W.grownBy W' lv.ownBlock) (hloc:lv'.ownBlock=lv.ownBlock∨lv'.ownBlock=some W.heap.size):OwnL N k t R p W' lv' (us ++ [x]) (ls ++ [y]):=by
 have Ac:Ag (fun b=>lv.ownBlock≠some b) W W':=Ag.grown hg fun g e=>by rw [e];simp
 have Ab:∀ {cs z},R (fun b=>p b∧lv.ownBlock≠some b) W cs z→R (fun b=>p b∧lv'.ownBlock≠some b) W' cs z:=fun h=>
  hN.weak (hN.ag (hN.lt h) (Ac.weak fun b hb=>hb.1.2)) fun b hb=>⟨hb.1.1,by
   rcases hloc with e | e
   ·rw [e];exact hb.1.2
   ·rw [e];intro e2;have:=Option.some.inj e2;have:=hb.2;omega⟩
 refine ⟨by simpa using hown,by simp [h.len],fun j hj hj' => ?_⟩
 by_cases hjl:j < us.length
 ·have Aa:j < ls.length:=by have:=h.len;omega
  rw [List.getElem_append_left hjl,List.getElem_append_left Aa]
  exact Ab (h.at_ j Aa hjl)
 ·have e1:j=us.length:=by simp at hj';omega
  have e2:j=ls.length:=by have:=h.len;omega
  rw [List.getElem_append_right (by omega),List.getElem_append_right (by omega)]
  simp only [e1,h.len,Nat.sub_self,List.getElem_cons_zero]
  exact Ab hx
theorem flatU {k:Nat} (us:List (List Value)) (h:∀ x ∈ us,x.length=k):∀ (j i:Nat) (hj:j < us.length),i < k→us.flatten[j * k + i]? = us[j][i]? := by
 have:=flatK (f:=fun x=>x) us h
 simpa [List.flatMap_id] using this
theorem OwnL.lens (hN:Nest k R) (h:OwnL N k t R p W lv us ls):∀ x ∈ us,x.length=k:=fun x hx=>by
 obtain ⟨j,hj,rfl⟩:=List.mem_iff_getElem.1 hx
 exact hN.len (h.at_ j (by have:=h.len;omega) hj)
theorem OwnL.ones (hN:Nest k R) (h:OwnL N k t R p W lv us ls):∀ u ∈ us.flatten,u.oneCell'=true:=fun u hu=>by
 obtain ⟨x,hx,hu⟩:=List.mem_flatten.1 hu
 obtain ⟨j,hj,rfl⟩:=List.mem_iff_getElem.1 hx
 exact hN.one (h.at_ j (by have:=h.len;omega) hj) u hu
theorem OwnL.listed (hN:Nest k R) (h:OwnL N k t R p W lv us ls) (hpq:∀ b,p b→q b) (hNq:∀ b,N≤b→q b) (hl:ls.length≤maxLen) (hn:ls=[]→lv = .slice none 0 0):LA k (R q) q W lv ls:=by
 have Ab:=h.len
 rcases Nat.eq_zero_or_pos us.length with h0 | h0
 ·have Ac:ls=[]:=List.eq_nil_of_length_eq_zero (by omega)
  rw [hn Ac,Ac]
  exact LA.nil _ _ _ _
 ·obtain ⟨g,Ad,hv,hb,Af,Ae,hm,hc⟩:=oca h.own h0
  refine ⟨_,Ad,by rw [hv,Ab],hl,by omega,(fun e=>by cases e),fun _=>⟨g,0,rfl,Af,hNq g hb,fun j hj => ?_⟩⟩
  have Aa:j < us.length:=by omega
  refine ⟨us[j],h.lens hN _ (List.getElem_mem Aa),hN.weak (h.at_ j hj Aa) fun b hb=>hpq b hb.1,fun i hi => ?_⟩
  have Ag:j * k + i < us.length * k:=by
   have:=Nat.mul_le_mul_right k (show j + 1≤us.length from Aa)
   rw [Nat.succ_mul] at this;omega
  rw [Nat.zero_add,hc _ Ag]
  exact flatU us (h.lens hN) j i Aa hi
end
end Go.Proofs.YtaddkkkchkdgkaaGreatDoor
namespace Tess
open Go Kl
open Go.Lib (compareBytes)
theorem cmpB:∀ (a b:List UInt8),(compareBytes a b < 0↔a < b)∧(compareBytes a b=0↔a=b)∧(0 < compareBytes a b↔b < a)
 | [],[]=>by simp [compareBytes]
 | [],_ :: _=>by simp [compareBytes]
 | _ :: _,[]=>by simp [compareBytes]
 | a :: l,b :: m=>by
   have ih:=cmpB l m
   rw [compareBytes]
   split
   ·rename_i h
    refine ⟨⟨fun _=>List.cons_lt_cons_iff.2 (.inl h),(fun _=>by decide)⟩,⟨(fun e=>by cases e),fun e => ?_⟩,⟨(fun e=>by cases e),fun e => ?_⟩⟩
    ·cases e;exact absurd h (UInt8.lt_irrefl _)
    ·rcases List.cons_lt_cons_iff.1 e with h' | ⟨h',_⟩
     ·exact absurd (UInt8.lt_trans h h') (UInt8.lt_irrefl _)
     ·subst h';exact absurd h (UInt8.lt_irrefl _)
   split
   ·rename_i h0 h
    refine ⟨⟨(fun e=>by cases e),fun e => ?_⟩,⟨(fun e=>by cases e),fun e => ?_⟩,⟨fun _=>List.cons_lt_cons_iff.2 (.inl h),fun _=>by decide⟩⟩
    ·rcases List.cons_lt_cons_iff.1 e with h' | ⟨h',_⟩
     ·exact absurd h' h0
     ·subst h';exact absurd h (UInt8.lt_irrefl _)
    ·cases e;exact absurd h (UInt8.lt_irrefl _)
   ·rename_i h0 h1
    have e:a=b:=by
     rw [UInt8.lt_iff_toNat_lt] at h0 h1
     exact UInt8.toNat_inj.1 (by omega)
    subst e
    refine ⟨ih.1.trans ⟨fun h=>List.cons_lt_cons_iff.2 (.inr ⟨rfl,h⟩),fun h => ?_⟩,ih.2.1.trans ⟨fun h=>by rw [h],fun h=>by cases h;rfl⟩,ih.2.2.trans ⟨fun h=>List.cons_lt_cons_iff.2 (.inr ⟨rfl,h⟩),fun h => ?_⟩⟩
    ·rcases List.cons_lt_cons_iff.1 h with h' | ⟨_,h'⟩
     ·exact absurd h' (UInt8.lt_irrefl _)
     ·exact h'
    ·rcases List.cons_lt_cons_iff.1 h with h' | ⟨_,h'⟩
     ·exact absurd h' (UInt8.lt_irrefl _)
     ·exact h'
def cmpV (a b:Val):Int:=if a.null && b.null then 0 else if a.null then -1 else if b.null then 1 else compareBytes a.s.data.toList b.s.data.toList
theorem cmpV_c (a b:Val):(cmpV a b < 0↔vLt a.c b.c=true)∧(cmpV a b=0↔a.c=b.c)∧(0 < cmpV a b↔vLt b.c a.c=true):=by
 obtain ⟨x,m⟩:=a
 obtain ⟨y,n⟩:=b
 cases m <;> cases n
 ·have h:=cmpB x.data.toList y.data.toList
  simp only [cmpV,Val.c,Bool.and_self,Bool.false_eq_true,if_false,vLt,blT,decide_eq_true_eq,Option.some.injEq,ByteArray.toList_eq]
  refine ⟨h.1,h.2.1.trans ⟨fun e=>ByteArray.ext (Array.toList_inj.1 e),fun e=>by rw [e]⟩,h.2.2⟩
 ·simp [cmpV,Val.c,vLt]
 ·simp [cmpV,Val.c,vLt]
 ·simp [cmpV,Val.c,vLt]
def cV3:List Val→List Val→Int
 | [],[]=>0
 | [],_ :: _ => -1
 | _ :: _,[]=>1
 | a :: l,b :: m=>if cmpV a b=0 then cV3 l m else cmpV a b
theorem cmpVL_lt:∀ (l m:List Val),decide (cV3 l m < 0)=lex vLt (l.map Val.c) (m.map Val.c)
 | [],[]=>rfl
 | [],_ :: _=>rfl
 | _ :: _,[]=>rfl
 | a :: l,b :: m=>by
   obtain ⟨h1,h2,h3⟩:=cmpV_c a b
   rw [cV3,List.map_cons,List.map_cons,lex]
   split
   ·rename_i h
    rw [h2.1 h,v_sto.irr,cmpVL_lt l m];simp
   ·rename_i h
    rcases Int.lt_or_gt_of_ne h with h' | h'
    ·rw [h1.1 h',decide_eq_true h'];simp
    ·have:vLt a.c b.c=false:=by
      cases hv:vLt a.c b.c
      ·rfl
      ·have:=h1.2 hv;omega
     rw [this,h3.1 h',decide_eq_false (by omega)];simp
theorem cmpVL_drop {l m:List Val} {k:Nat} (h1:k < l.length) (h2:k < m.length):cV3 (l.drop k) (m.drop k)=if cmpV l[k] m[k]=0 then cV3 (l.drop (k + 1)) (m.drop (k + 1)) else cmpV l[k] m[k]:=by
 rw [List.drop_eq_getElem_cons h1,List.drop_eq_getElem_cons h2,cV3]
end Tess
