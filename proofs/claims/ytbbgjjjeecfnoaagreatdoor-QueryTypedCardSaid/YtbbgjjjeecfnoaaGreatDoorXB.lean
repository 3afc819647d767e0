/- Laws of single operations over any program, and bits of 32 places in the walk's own forms. -/
import Derived.WalkKit
import Derived.WalkSpells
import Derived.WalkLawsBesides
import Derived.Laws.BitsAll
import Derived.Laws.BytesArg
import Derived.Laws.Rows
import Derived.Laws.Tables
import Derived.Scope
import Derived.ScopeJumps
import Derived.WalkMore
import Derived.Laws.IdiomStrings
import Derived.Deep.RegionLaw
import Derived.StillTailTactics
import Derived.SliceStrings
import Derived.WideShapes
import Derived.Lib.Hide
import Derived.Lib.QuietBelow
import Derived.BigQuiet
import Derived.Deep.QuietTactic
namespace Go
open Go.RowKit
section
variable {P:Program} {w:World} {ops:Array Oper} {rest:List Oper} {o:Oper} {a:Act} {Q:Exit→Act→World→Prop}
theorem wpList_wanted (hw:Region.wanted o (yielded ops a.tmps)=true) (h:∀ K:Act→World→Prop,(∀ a w,wpList P ops Q rest a w→K a w)→o.wp P a w K Q):wpList P ops Q (o :: rest) a w:=
 wpList_step fun K hK=>by simp only [hw,if_true];exact h K hK
theorem wpList_bytes_string (src dst e:TypeId) (x:Operand) (ho:o.op = .convert src dst x) (hs:P.underlying src=some (.slice e)) (he:P.underlying e=some (.int .u8)) (hd:P.underlying dst=some .string)
  (b off len cap:Nat) (hx:a.eval x = .slice (some ⟨b,off,none⟩) len cap) (xs:List Int) (hlen:xs.length=len)
  (hcell:∀ i,i < len→w.cell? ⟨b,off + i,none⟩=some (.int .u8 (xs.getD i 0)))
  (h:wpList P ops Q rest (a.put o.dst (.string (strOfNums xs))) w) (hgd:Region.wanted o (yielded ops a.tmps)=true:=by first | (simp only [Region.wanted];done) | (simp [Region.wanted,yielded];done)):wpList P ops Q (o :: rest) a w:=by
 refine wpList_wanted hgd fun K hK => ?_
 unfold Oper.wp execOp
 simp only [ho,hx,Sem.run_bind,run_convert_bytes_arg w src e hs he b off len cap xs hlen hcell dst hd,Result.andThen_ok,Sem.run_pure]
 exact hK _ _ h
end
theorem getD_at {α:Type} {l:List α} {k:Nat} (d:α) (h:k < l.length):l.getD k d=l[k]:=by simp [h]
theorem owns_cell {w:World} {base:Nat} {e:TypeId} {v:Value} {n:Nat} {xs:List Value} (h:w.ownsRow base e 1 v n xs) (hn:0 < n) :
  ∃ g cap,v = .slice (some ⟨g,0,none⟩) n cap∧base≤g∧g < w.heap.size∧n≤cap∧∀ j,j < n→w.cell? ⟨g,0 + j,none⟩=xs[j]? ∧ w.frozen? ⟨g,0 + j,none⟩=false:=by
 obtain ⟨hl,h⟩:=h
 rcases h with ⟨_,h0⟩ | ⟨g,cap,cur,hv,hb,hg,hcap,_,hs,ht⟩
 ·omega
 ·refine ⟨g,cap,hv,hb,(Array.getElem?_eq_some_iff.1 hg).1,hcap,fun j hj=>⟨?_,frozen_of_row _ _ _ _ _ hg⟩⟩
  rw [cell_of_row _ _ _ _ _ _ hg,← ht,Nat.mul_one,List.getElem?_take,if_pos hj,Nat.zero_add,Array.getElem?_toList]
def u8v (b:UInt8):Value:=.int .u8 (b.toNat:Int)
theorem strOfNums_u8 (bs:List UInt8):strOfNums (bs.map fun b=>(b.toNat:Int))=⟨bs.toArray⟩:=by
 simp only [strOfNums,List.map_map]
 congr 2
 conv=>rhs;rw [← List.map_id bs]
 apply List.map_congr_left
 intro b _
 simp
section
variable {P:Program} {w:World} {ops:Array Oper} {rest:List Oper} {o:Oper} {a:Act} {Q:Exit→Act→World→Prop}
theorem wpList_bytes_string_own (src dst e:TypeId) (x:Operand) (ho:o.op = .convert src dst x) (hs:P.underlying src=some (.slice e)) (he:P.underlying e=some (.int .u8)) (hd:P.underlying dst=some .string)
  (v:Value) (n base:Nat) (hx:a.eval x=v) (bs:List UInt8) (hown:w.ownsRow base e 1 v n (bs.map u8v))
  (h:wpList P ops Q rest (a.put o.dst (.string ⟨bs.toArray⟩)) w) (hgd:Region.wanted o (yielded ops a.tmps)=true:=by first | (simp only [Region.wanted];done) | (simp [Region.wanted,yielded];done)):wpList P ops Q (o :: rest) a w:=by
 have hlen:bs.length=n:=by have:=hown.1;simpa using this
 rcases Nat.eq_zero_or_pos n with h0 | h0
 ·subst h0
  have hb:bs=[]:=List.eq_nil_of_length_eq_zero hlen
  subst hb
  obtain ⟨_,⟨hv,_⟩ | ⟨g,cap,cur,hv,_,hg,_⟩⟩:=hown
  ·refine wpList_wanted hgd fun K hK => ?_
   unfold Oper.wp execOp
   rw [hv] at hx
   simp only [ho,hx,Sem.run_bind,run_convert_bytes_nil w src e hs he 0 0 dst hd,Result.andThen_ok,Sem.run_pure]
   exact hK _ _ h
  ·refine wpList_bytes_string src dst e x ho hs he hd g 0 0 cap (by rw [hx,hv]) [] rfl (fun i hi=>by omega) h hgd
 ·obtain ⟨g,cap,hv,_,_,_,hg⟩:=owns_cell hown h0
  refine wpList_bytes_string (hgd:=hgd) src dst e x ho hs he hd g 0 n cap (by rw [hx,hv]) (bs.map fun b=>(b.toNat:Int)) (by simpa using hlen) (fun i hi => ?_) (by rw [strOfNums_u8];exact h)
  rw [(hg i hi).1,getD_at _ (by simp;omega)]
  simp [u8v,hlen,hi]
end
def Exit.fwd (l:Nat) (J:Act→World→Prop) (Q:Exit→Act→World→Prop):Exit→Act→World→Prop
 | .goto l',a,w=>l'=l∧J a w
 | e,a,w=>Q e a w
section
variable {P:Program} {w:World} {a:Act} {Q:Exit→Act→World→Prop} {J:Act→World→Prop} {l:Nat}
@[go_sem] theorem Exit.fwd_normal:Exit.fwd l J Q .normal a w=Q .normal a w:=rfl
@[go_sem] theorem Exit.fwd_exit (id:Nat):Exit.fwd l J Q (.exit id) a w=Q (.exit id) a w:=rfl
@[go_sem] theorem Exit.fwd_ret:Exit.fwd l J Q .ret a w=Q .ret a w:=rfl
@[go_sem] theorem Exit.fwd_panic (ch:List PanicEntry):Exit.fwd l J Q (.panic ch) a w=Q (.panic ch) a w:=rfl
end
theorem Bt {w a b:World} (h:Below w.heap.size w a) (k:Below a.heap.size a b):Below w.heap.size w b:=h.trans (k.mono h.size)
section
variable {P:Program} {w:World} {ops:Array Oper} {rest:List Oper} {o:Oper} {a:Act} {Q:Exit→Act→World→Prop}
end
section
variable {P:Program} {w:World} {ops:Array Oper} {rest:List Oper} {o:Oper} {a:Act} {Q:Exit→Act→World→Prop}
end
section
variable {P:Program} {w:World} {ops:Array Oper} {rest:List Oper} {a:Act} {Q:Exit→Act→World→Prop}
theorem at_conv (src dst:Nat) {x:Operand} {d:Option Tmp} {t:TypeId} {p:String} {es:Array Edge} {g:Option (Nat×Bool)} (h:wpList P ops Q ({ dst:=d,op:=.convert src dst x,type:=t,pos:=p,after:=es,guard:=g } :: rest) a w) :
  wpList P ops Q ({ dst:=d,op:=.convert src dst x,type:=t,pos:=p,after:=es,guard:=g } :: rest) a w:=h
end
section
variable {P:Program} {ops:Array Oper} {o:Oper} {a:Act} {w:World} {K:Act→World→Prop} {Q:Exit→Act→World→Prop} {E:Prop}
end
def SlOf (w:World) (v:Value) (cs:List Value):Prop:=
 cs.length≤maxLen∧∃ a cap,v = .slice a cs.length cap∧(0 < cs.length→∃ b off,a=some ⟨b,off,none⟩∧b < w.heap.size∧∀ j,(h:j < cs.length)→w.cell? ⟨b,off + j,none⟩=some cs[j])
theorem SlOf.below {w w':World} {v:Value} {cs:List Value} (h:SlOf w v cs) (hb:Below w.heap.size w w'):SlOf w' v cs:=by
 obtain ⟨h0,a,cap,hv,hc⟩:=h
 refine ⟨h0,a,cap,hv,fun hp => ?_⟩
 obtain ⟨b,off,ha,hlt,hcell⟩:=hc hp
 exact ⟨b,off,ha,Nat.lt_of_lt_of_le hlt hb.size,fun j hj=>(hb.cell (p:=⟨b,off + j,none⟩) hlt).trans (hcell j hj)⟩
theorem SlOf.owned {w:World} {base:Nat} {e:TypeId} {v:Value} {n:Nat} {xs:List Value} (h:w.ownsRow base e 1 v n xs):SlOf w v xs:=by
 have hl:xs.length=n:=by have:=h.1;omega
 rcases Nat.eq_zero_or_pos n with h0 | h0
 ·subst h0
  have hx:xs=[]:=List.eq_nil_of_length_eq_zero hl
  subst hx
  obtain ⟨_,⟨hv,_⟩ | ⟨g,cap,cur,hv,_⟩⟩:=h
  ·exact ⟨Nat.zero_le _,none,0,hv,fun hp=>absurd hp (by simp)⟩
  ·exact ⟨Nat.zero_le _,some ⟨g,0,none⟩,cap,hv,fun hp=>absurd hp (by simp)⟩
 ·obtain ⟨g,cap,hv,_,hlt,hcap,hc⟩:=owns_cell h h0
  have hm:n≤maxLen:=by
   obtain ⟨_,⟨_,h1⟩ | ⟨_,_,_,hv',_,_,h1,h2,_⟩⟩:=h
   ·omega
   ·exact Nat.le_trans h1 h2
  subst hl
  exact ⟨hm,some ⟨g,0,none⟩,cap,hv,fun _=>⟨g,0,rfl,hlt,fun j hj=>by rw [(hc j hj).1,List.getElem?_eq_getElem hj]⟩⟩
theorem SlOf.nil (w:World):SlOf w (.slice none 0 0) []:=⟨Nat.zero_le _,none,0,rfl,fun hp=>absurd hp (by simp)⟩
section
variable {P:Program} {w:World} {H:Type} {enc:TypeId×Value→H}
end
theorem sls_open {w:World} {v:Value} {ss:List ByteArray} (h:SlOf w v (ss.map .string)):∃ a cap,v = .slice a ss.length cap∧ss.length≤9223372036854775807 ∧
  ∀ k,(hk:k < ss.length)→∃ b off,a=some ⟨b,off,none⟩∧b < w.heap.size∧w.cell? ⟨b,off + k,none⟩=some (.string ss[k]):=by
 obtain ⟨h0,a,cap,hv,hc⟩:=h
 simp only [List.length_map] at h0 hv hc
 refine ⟨a,cap,hv,by unfold maxLen at h0;omega,fun k hk => ?_⟩
 obtain ⟨b,off,ha,hb,hcell⟩:=hc (by omega)
 exact ⟨b,off,ha,hb,by rw [hcell k hk];simp⟩
theorem joinl_owned {w:World} {base:Nat} {e:TypeId} {v:Value} {n:Nat} {xs ys:List Value} (h:w.ownsRow base e 1 v n xs) (e2:xs=ys):w.ownsRow base e 1 v n ys:=e2 ▸ h
theorem Below.grownNone {w w':World} (hb:Below w.heap.size w w'):w.grownBy w' none:=⟨hb.os,hb.tape,hb.output,hb.size,fun k hk _=>hb.block k hk⟩
theorem owns_below {w w':World} {base:Nat} {e:TypeId} {size:Nat} {v:Value} {n:Nat} {xs:List Value} (h:w.ownsRow base e size v n xs) (hb:Below w.heap.size w w'):w'.ownsRow base e size v n xs:=by
 refine h.kept (Below.grownNone hb) ?_
 cases hv:v.ownBlock with
 | none=>exact .inl rfl
 | some k=>exact .inr (by simp)
theorem str_inj {x y:ByteArray} (h:x.toList=y.toList):x=y:=by
 rw [ByteArray.toList_eq,ByteArray.toList_eq] at h
 exact ByteArray.ext (Array.toList_inj.1 h)
theorem str_ne {x y:ByteArray} (h:(!x.toList == y.toList)=true):x≠y:=by
 intro e;subst e;simp at h
theorem str_eq' {x y:ByteArray} (h:(x.toList == y.toList)=true):x=y:=str_inj (by simpa using h)
end Go
