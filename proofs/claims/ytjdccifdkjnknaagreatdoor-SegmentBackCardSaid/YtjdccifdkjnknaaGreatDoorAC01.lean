/- Joined by mergeK.py: B, D2p, D2, D3, D4, D5, D6, D7, D8, D9, Rf, Fl -/
import Derived.WalkKit
import Derived.WalkSpells
import Derived.WalkLawsBesides
import Derived.Laws.BitsAll
import Derived.Laws.BytesArg
import Derived.Laws.Rows
import Derived.Laws.Tables
import Derived.Scope
import Derived.ScopeJumps
import Derived.WalkMore
import Derived.Laws.IdiomStrings
import Derived.Deep.RegionLaw
import Derived.StillTailTactics
import Derived.SliceStrings
import Derived.WideShapes
import Derived.Lib.Hide
import Derived.Lib.QuietBelow
import Derived.BigQuiet
import Derived.Deep.QuietTactic
import Derived.Test.YtjdccifdkjnknaaGreatDoorRows
import Derived.WalkSmall
import Derived.RangeFuncRecord
import Derived.RangeFuncIn
import Derived.RangeFuncLeaves
import Derived.RangeFuncCalls
import Derived.Below
import Derived.Still
import Derived.StillTail
namespace Go.Proofs
theorem Hd {p:Prop} (h:p):RowKit.Hid p:=Lib.hid h
end Go.Proofs
namespace Go
open Go.RowKit
section
variable {P:Program} {w:World} {ops:Array Oper} {rest:List Oper} {o:Oper} {a:Act} {Q:Exit→Act→World→Prop}
theorem wLw (hw:Region.wanted o (yielded ops a.tmps)=true) (h:∀ K:Act→World→Prop,(∀ a w,wpList P ops Q rest a w→K a w)→o.wp P a w K Q):wpList P ops Q (o :: rest) a w:=
 wpList_step fun K hK=>by simp only [hw,if_true];exact h K hK
theorem wLa (t:TypeId) (ho:o.op = .alloc t) (z:Value) (hz:∀ w:World,(zeroValue t).run P w = .ok z w)
  (cs:Array Value) (hcs:z.cells=cs)
  (h:wpList P ops Q rest (a.put o.dst (.pointer (some ⟨w.heap.size,0,none⟩))) (w.alloc (.cells cs t))) (hgd:Region.wanted o (yielded ops a.tmps)=true:=by first | (simp only [Region.wanted];done) | (simp [Region.wanted,yielded];done)):wpList P ops Q (o :: rest) a w:=by
 refine wLw hgd fun K hK => ?_
 unfold Oper.wp execOp
 subst hcs
 simp only [ho,Instr.alloc,Sem.run_bind,hz,Result.andThen_ok,newVar,newRow,run_newObj,Sem.run_pure]
 exact hK _ _ h
theorem wLb2 (src dst e:TypeId) (x:Operand) (ho:o.op = .convert src dst x) (hs:P.underlying src=some (.slice e)) (he:P.underlying e=some (.int .u8)) (hd:P.underlying dst=some .string)
  (b off len cap:Nat) (hx:a.eval x = .slice (some ⟨b,off,none⟩) len cap) (xs:List Int) (hlen:xs.length=len)
  (hcell:∀ i,i < len→w.cell? ⟨b,off + i,none⟩=some (.int .u8 (xs.getD i 0)))
  (h:wpList P ops Q rest (a.put o.dst (.string (strOfNums xs))) w) (hgd:Region.wanted o (yielded ops a.tmps)=true:=by first | (simp only [Region.wanted];done) | (simp [Region.wanted,yielded];done)):wpList P ops Q (o :: rest) a w:=by
 refine wLw hgd fun K hK => ?_
 unfold Oper.wp execOp
 simp only [ho,hx,Sem.run_bind,run_convert_bytes_arg w src e hs he b off len cap xs hlen hcell dst hd,Result.andThen_ok,Sem.run_pure]
 exact hK _ _ h
end
theorem xo2 (a:Nat) (ha:a < 4294967296):bits .xor .u32 (a:Int) 4294967295=((a ^^^ 4294967295:Nat):Int):=u32_xor_nat a 4294967295 ha (by omega)
theorem xor32_poly (a:Nat) (ha:a < 4294967296):bits .xor .u32 (a:Int) 3988292384=((a ^^^ 3988292384:Nat):Int):=u32_xor_nat a 3988292384 ha (by omega)
theorem xh (a:Nat) (ha:a < 4294967296):bits .xor .u32 ((a:Int) / 2) 3988292384=((a / 2 ^^^ 3988292384:Nat):Int):=xor32_poly (a / 2) (by omega)
theorem BsR {B:Nat} {a w:World} (h:Below B a w) {g:Nat} (hp:B≤g) (cs:Array Value):Below B a (w.setRow g cs):=
 h.trans ⟨rfl,rfl,rfl,by simp,fun k hk=>setRow_other _ _ _ _ (by omega)⟩
theorem step32 (n:Nat) (h:n < 4294967296):bits .xor .u32 ((n:Int) / 2) (bits .and .u32 3988292384 (-bits .and .u32 (n:Int) 1 % 4294967296))=(if n % 2=1 then (((n / 2) ^^^ 3988292384:Nat):Int) else ((n / 2:Nat):Int)):=by
 have h1:bits .and .u32 (n:Int) 1=((n % 2:Nat):Int):=by
  have:=u32_and_nat n 1 h (by omega)
  rw [Nat.and_one_is_mod] at this
  exact this
 rw [h1]
 by_cases e:n % 2=1
 ·rw [if_pos e,e]
  have h2:bits .and .u32 3988292384 (-((1:Nat):Int) % 4294967296)=3988292384:=by
   have:=u32_and_nat 3988292384 4294967295 (by omega) (by omega)
   exact this
  rw [h2];exact xh n h
 ·have e0:n % 2=0:=by omega
  rw [if_neg e,e0]
  have h2:bits .and .u32 3988292384 (-((0:Nat):Int) % 4294967296)=0:=by
   have:=u32_and_nat 3988292384 0 (by omega) (by omega)
   rw [Nat.and_zero] at this
   exact this
  rw [h2]
  have:=u32_xor_nat (n / 2) 0 (by omega) (by omega)
  rw [Nat.xor_zero] at this
  exact this
theorem or32_256 (c b:Nat) (hc:c < 16777216) (hb:b < 256):bits .or .u32 ((c:Int) * 256) (b:Int)=((c * 256 + b:Nat):Int):=by
 have h:=u32_or_nat (c * 256) b (by omega) (by omega)
 have h2:c * 256 ||| b=c * 256 + b:=by
  have:=Nat.two_pow_add_eq_or_of_lt (i:=8) (b:=b) (by omega) c
  rw [Nat.mul_comm c 256];exact this.symm
 rw [h2] at h
 exact h
theorem or32_at (c b p i:Nat) (hp:p=2 ^ i) (hl:b < 4294967296) (hc:c * p < 4294967296) (hb:b < p):bits .or .u32 ((c * p:Nat):Int) (b:Int)=((c * p + b:Nat):Int):=by
 subst hp
 have h:=u32_or_nat (c * 2 ^ i) b hc hl
 have h2:c * 2 ^ i ||| b=c * 2 ^ i + b:=by
  have:=Nat.two_pow_add_eq_or_of_lt (i:=i) (b:=b) hb c
  rw [Nat.mul_comm c (2 ^ i)];exact this.symm
 rw [h2] at h
 exact h
theorem or4 (a b c d:Nat) (ha:a < 256) (hb:b < 256) (hc:c < 256) (hd:d < 256) :
  bits .or .u32 (bits .or .u32 (bits .or .u32 ((a:Int) * 16777216) ((b:Int) * 65536)) ((c:Int) * 256)) (d:Int)=((((a * 256 + b) * 256 + c) * 256 + d:Nat):Int):=by
 have e1:bits .or .u32 ((a:Int) * 16777216) ((b:Int) * 65536)=((a * 16777216 + b * 65536:Nat):Int):=or32_at a (b * 65536) 16777216 24 rfl (by omega) (by omega) (by omega)
 have e2:bits .or .u32 ((a * 16777216 + b * 65536:Nat):Int) ((c:Int) * 256)=((a * 16777216 + b * 65536 + c * 256:Nat):Int):=by
  have:=or32_at (a * 256 + b) (c * 256) 65536 16 rfl (by omega) (by omega) (by omega)
  rw [show (a * 256 + b) * 65536=a * 16777216 + b * 65536 from by omega] at this
  exact this
 have e3:bits .or .u32 ((a * 16777216 + b * 65536 + c * 256:Nat):Int) (d:Int)=((a * 16777216 + b * 65536 + c * 256 + d:Nat):Int):=by
  have:=or32_at (a * 65536 + b * 256 + c) d 256 8 rfl (by omega) (by omega) (by omega)
  rw [show (a * 65536 + b * 256 + c) * 256=a * 16777216 + b * 65536 + c * 256 from by omega] at this
  exact this
 rw [e1,e2,e3,show ((a * 256 + b) * 256 + c) * 256 + d=a * 16777216 + b * 65536 + c * 256 + d from by omega]
theorem getD_at {α:Type} {l:List α} {k:Nat} (d:α) (h:k < l.length):l.getD k d=l[k]:=by simp [h]
theorem oc2 {w:World} {base:Nat} {e:TypeId} {v:Value} {n:Nat} {xs:List Value} (h:w.ownsRow base e 1 v n xs) (hn:0 < n) :
  ∃ g cap,v = .slice (some ⟨g,0,none⟩) n cap∧base≤g∧g < w.heap.size∧n≤cap∧∀ j,j < n→w.cell? ⟨g,0 + j,none⟩=xs[j]? ∧ w.frozen? ⟨g,0 + j,none⟩=false:=by
 obtain ⟨hl,h⟩:=h
 rcases h with ⟨_,h0⟩ | ⟨g,cap,Ab,hv,hb,hg,Aa,_,hs,ht⟩
 ·omega
 ·refine ⟨g,cap,hv,hb,(Array.getElem?_eq_some_iff.1 hg).1,Aa,fun j hj=>⟨?_,frozen_of_row _ _ _ _ _ hg⟩⟩
  rw [cell_of_row _ _ _ _ _ _ hg,← ht,Nat.mul_one,List.getElem?_take,if_pos hj,Nat.zero_add,Array.getElem?_toList]
def u8v (b:UInt8):Value:=.int .u8 (b.toNat:Int)
theorem u8v_one (l:List UInt8):∀ u ∈ l.map u8v,u.oneCell'=true:=by
 intro u hu;obtain ⟨b,_,rfl⟩:=List.mem_map.1 hu;rfl
theorem sON (bs:List UInt8):strOfNums (bs.map fun b=>(b.toNat:Int))=⟨bs.toArray⟩:=by
 simp only [strOfNums,List.map_map]
 congr 2
 conv=>rhs;rw [← List.map_id bs]
 apply List.map_congr_left
 intro b _
 simp
section
variable {P:Program} {w:World} {ops:Array Oper} {rest:List Oper} {o:Oper} {a:Act} {Q:Exit→Act→World→Prop}
theorem wLb (src dst e:TypeId) (x:Operand) (ho:o.op = .convert src dst x) (hs:P.underlying src=some (.slice e)) (he:P.underlying e=some (.int .u8)) (hd:P.underlying dst=some .string)
  (v:Value) (n base:Nat) (hx:a.eval x=v) (bs:List UInt8) (hown:w.ownsRow base e 1 v n (bs.map u8v))
  (h:wpList P ops Q rest (a.put o.dst (.string ⟨bs.toArray⟩)) w) (hgd:Region.wanted o (yielded ops a.tmps)=true:=by first | (simp only [Region.wanted];done) | (simp [Region.wanted,yielded];done)):wpList P ops Q (o :: rest) a w:=by
 have Aa:bs.length=n:=by have:=hown.1;simpa using this
 rcases Nat.eq_zero_or_pos n with h0 | h0
 ·subst h0
  have hb:bs=[]:=List.eq_nil_of_length_eq_zero Aa
  subst hb
  obtain ⟨_,⟨hv,_⟩ | ⟨g,Ab,Ac,hv,_,hg,_⟩⟩:=hown
  ·refine wLw hgd fun K hK => ?_
   unfold Oper.wp execOp
   rw [hv] at hx
   simp only [ho,hx,Sem.run_bind,run_convert_bytes_nil w src e hs he 0 0 dst hd,Result.andThen_ok,Sem.run_pure]
   exact hK _ _ h
  ·refine wLb2 src dst e x ho hs he hd g 0 0 Ab (by rw [hx,hv]) [] rfl (fun i hi=>by omega) h hgd
 ·obtain ⟨g,Ab,hv,_,_,_,hg⟩:=oc2 hown h0
  refine wLb2 (hgd:=hgd) src dst e x ho hs he hd g 0 n Ab (by rw [hx,hv]) (bs.map fun b=>(b.toNat:Int)) (by simpa using Aa) (fun i hi => ?_) (by rw [sON];exact h)
  rw [(hg i hi).1,getD_at _ (by simp;omega)]
  simp [u8v,Aa,hi]
end
def Exit.fwd (l:Nat) (J:Act→World→Prop) (Q:Exit→Act→World→Prop):Exit→Act→World→Prop
 | .goto l',a,w=>l'=l∧J a w
 | e,a,w=>Q e a w
section
variable {P:Program} {w:World} {a:Act} {Q:Exit→Act→World→Prop} {J:Act→World→Prop} {l:Nat}
@[go_sem] theorem Exit.fwd_normal:Exit.fwd l J Q .normal a w=Q .normal a w:=rfl
@[go_sem] theorem Exit.fwd_exit (id:Nat):Exit.fwd l J Q (.exit id) a w=Q (.exit id) a w:=rfl
@[go_sem] theorem Exit.fr2:Exit.fwd l J Q .ret a w=Q .ret a w:=rfl
@[go_sem] theorem Exit.fwd_panic (ch:List PanicEntry):Exit.fwd l J Q (.panic ch) a w=Q (.panic ch) a w:=rfl
theorem Exit.fg2 (h:J a w):Exit.fwd l J Q (.goto l) a w:=⟨rfl,h⟩
theorem Exit.tg2 {K:Act→World→Prop} (h:Q (.goto l) a w):Exit.then K Q (.goto l) a w:=h
theorem wsf {c rest:Code} (l:Nat) (hf:findLabel c l=some rest) (h:c.wp P (Exit.fwd l (rest.wp P (Exit.noGoto Q)) Q) a w):(Code.scope c).wp P Q a w:=by
 refine wp_scope_jumps l (rest.wp P (Exit.noGoto Q)) (fun _ _=>0) hf (wp_mono h ?_) ?_
 ·intro e a w hq;cases e <;> exact hq
 ·intro a w hJ
  refine wp_mono hJ ?_
  intro e a w hq
  cases e <;> first | exact hq | exact hq.elim
end
open Go.Sort in
theorem Calls.rs3 {P:Program} {f:FuncId} {args:Array Value} {w:World} {d:Nat} {os:Array Obj} {v:Value}
  (h:Calls P f args (grow (redrawn w d) os) fun e w'=>e = .returned v∧(grow (redrawn w d) os)=w'):Calls P f args (grow (redrawn w d) os) fun e w''=>e = .returned v∧∃ p:Regrown,w''=grow (redrawn w p.d) p.os:=
 h.mono fun _ _ ⟨he,hb⟩=>⟨he,⟨d,os⟩,hb.symm⟩
theorem Bt {w a b:World} (h:Below w.heap.size w a) (k:Below a.heap.size a b):Below w.heap.size w b:=h.trans (k.mono h.size)
section
variable {P:Program} {w:World} {ops:Array Oper} {rest:List Oper} {o:Oper} {a:Act} {Q:Exit→Act→World→Prop}
end
section
variable {P:Program} {w:World} {ops:Array Oper} {rest:List Oper} {o:Oper} {a:Act} {Q:Exit→Act→World→Prop}
theorem wpList_make_row (l c:Operand) (t:TypeId) (hop:o.op=Op.makeSlice t l c)
  (e:TypeId) (i:TypeInfo) (z:Value) (h1:P.underlying t=some (.slice e)) (h2:P.info? e=some i) (h3:i.zero=some z) (h4:i.size=1) (hz:z.cells=#[z])
  (kl kc:IntKind) (n:Nat) (hl:a.eval l = .int kl (n:Int)) (hc:a.eval c = .int kc (n:Int)) (b2:i.bytes * n≤281474976710656) (b3:n≤maxLen)
  (h:∀ w1:World,Below w.heap.size w w1→w.heap.size < w1.heap.size→w1.heap[w.heap.size]? = some (.cells (Array.replicate n z) e (0,0))→wpList P ops Q rest (a.put o.dst (.slice (some ⟨w.heap.size,0,none⟩) n n)) w1) (hgd:Region.wanted o (yielded ops a.tmps)=true:=by first | (simp only [Region.wanted];done) | (simp [Region.wanted,yielded];done)) :
  wpList P ops Q (o :: rest) a w:=by
 refine wLw hgd fun K hK => ?_
 obtain ⟨w',Aa,r1,r2⟩:=run_make_full (P:=P) w w.heap.size t e i z 1 h1 h2 h3 h4 kl kc n b2 b3 (Nat.le_refl _)
 unfold Oper.wp
 simp only [execOp,hop,hl,hc,Aa,Result.andThen,Sem.run_bind,Sem.run_pure]
 refine hK _ _ (h w' ((Below.refl _ _).grown r2 (Nat.le_refl _) (fun k e=>by cases e)) ?_ ?_)
 ·obtain ⟨_,⟨hv,_⟩ | ⟨g,Ac,Ab,hv,_,hg,_⟩⟩:=r1
  ·cases hv
  ·cases hv;exact (Array.getElem?_eq_some_iff.1 hg).1
 ·obtain ⟨_,⟨hv,_⟩ | ⟨g,Ac,Ab,hv,_,hg,_,_,hs,ht⟩⟩:=r1
  ·cases hv
  ·cases hv
   rw [hg,hz,toList_madeCells_one] at *
   rw [List.take_of_length_le (by simp [hs])] at ht
   have:Ab=Array.replicate n z:=by
    apply Array.toList_inj.1
    rw [ht];simp
   rw [this]
end
section
variable {P:Program} {w:World} {ops:Array Oper} {rest:List Oper} {a:Act} {Q:Exit→Act→World→Prop}
theorem ac2 (src dst:Nat) {x:Operand} {d:Option Tmp} {t:TypeId} {p:String} {es:Array Edge} {g:Option (Nat×Bool)} (h:wpList P ops Q ({ dst:=d,op:=.convert src dst x,type:=t,pos:=p,after:=es,guard:=g } :: rest) a w) :
  wpList P ops Q ({ dst:=d,op:=.convert src dst x,type:=t,pos:=p,after:=es,guard:=g } :: rest) a w:=h
end
section
variable {P:Program} {ops:Array Oper} {o:Oper} {a:Act} {w:World} {K:Act→World→Prop} {Q:Exit→Act→World→Prop} {E:Prop}
end
def SlOf (w:World) (v:Value) (cs:List Value):Prop:=
 cs.length≤maxLen∧∃ a cap,v = .slice a cs.length cap∧(0 < cs.length→∃ b off,a=some ⟨b,off,none⟩∧b < w.heap.size∧∀ j,(h:j < cs.length)→w.cell? ⟨b,off + j,none⟩=some cs[j])
theorem SlOf.below {w w':World} {v:Value} {cs:List Value} (h:SlOf w v cs) (hb:Below w.heap.size w w'):SlOf w' v cs:=by
 obtain ⟨h0,a,Ad,hv,hc⟩:=h
 refine ⟨h0,a,Ad,hv,fun hp => ?_⟩
 obtain ⟨b,Ac,ha,Ab,Aa⟩:=hc hp
 exact ⟨b,Ac,ha,Nat.lt_of_lt_of_le Ab hb.size,fun j hj=>(hb.cell (p:=⟨b,Ac + j,none⟩) Ab).trans (Aa j hj)⟩
theorem SlOf.owned {w:World} {base:Nat} {e:TypeId} {v:Value} {n:Nat} {xs:List Value} (h:w.ownsRow base e 1 v n xs):SlOf w v xs:=by
 have hl:xs.length=n:=by have:=h.1;omega
 rcases Nat.eq_zero_or_pos n with h0 | h0
 ·subst h0
  have hx:xs=[]:=List.eq_nil_of_length_eq_zero hl
  subst hx
  obtain ⟨_,⟨hv,_⟩ | ⟨g,Aa,Ae,hv,_⟩⟩:=h
  ·exact ⟨Nat.zero_le _,none,0,hv,fun hp=>absurd hp (by simp)⟩
  ·exact ⟨Nat.zero_le _,some ⟨g,0,none⟩,Aa,hv,fun hp=>absurd hp (by simp)⟩
 ·obtain ⟨g,Aa,hv,_,Ab,Ac,hc⟩:=oc2 h h0
  have hm:n≤maxLen:=by
   obtain ⟨_,⟨_,h1⟩ | ⟨_,_,_,Ad,_,_,h1,h2,_⟩⟩:=h
   ·omega
   ·exact Nat.le_trans h1 h2
  subst hl
  exact ⟨hm,some ⟨g,0,none⟩,Aa,hv,fun _=>⟨g,0,rfl,Ab,fun j hj=>by rw [(hc j hj).1,List.getElem?_eq_getElem hj]⟩⟩
theorem SlOf.nil (w:World):SlOf w (.slice none 0 0) []:=⟨Nat.zero_le _,none,0,rfl,fun hp=>absurd hp (by simp)⟩
section
variable {P:Program} {w:World} {H:Type} {enc:TypeId×Value→H}
end
theorem so2 {w:World} {v:Value} {ss:List ByteArray} (h:SlOf w v (ss.map .string)):∃ a cap,v = .slice a ss.length cap∧ss.length≤9223372036854775807 ∧
  ∀ k,(hk:k < ss.length)→∃ b off,a=some ⟨b,off,none⟩∧b < w.heap.size∧w.cell? ⟨b,off + k,none⟩=some (.string ss[k]):=by
 obtain ⟨h0,a,cap,hv,hc⟩:=h
 simp only [List.length_map] at h0 hv hc
 refine ⟨a,cap,hv,by unfold maxLen at h0;omega,fun k hk => ?_⟩
 obtain ⟨b,off,ha,hb,Aa⟩:=hc (by omega)
 exact ⟨b,off,ha,hb,by rw [Aa k hk];simp⟩
theorem jo {w:World} {base:Nat} {e:TypeId} {v:Value} {n:Nat} {xs ys:List Value} (h:w.ownsRow base e 1 v n xs) (e2:xs=ys):w.ownsRow base e 1 v n ys:=e2 ▸ h
theorem Below.gN {w w':World} (hb:Below w.heap.size w w'):w.grownBy w' none:=⟨hb.os,hb.tape,hb.output,hb.size,fun k hk _=>hb.block k hk⟩
theorem ol2 {w:World} {base base':Nat} {e:TypeId} {size:Nat} {v:Value} {m:Nat} {xs:List Value} (h:w.ownsRow base e size v m xs) (hb:base'≤base):w.ownsRow base' e size v m xs:=by
 obtain ⟨hl,h | ⟨g,Ab,Aa,h1,h2,r⟩⟩:=h
 ·exact ⟨hl,.inl h⟩
 ·exact ⟨hl,.inr ⟨g,Ab,Aa,h1,Nat.le_trans hb h2,r⟩⟩
theorem ob2 {w w':World} {base:Nat} {e:TypeId} {size:Nat} {v:Value} {n:Nat} {xs:List Value} (h:w.ownsRow base e size v n xs) (hb:Below w.heap.size w w'):w'.ownsRow base e size v n xs:=by
 refine h.kept (Below.gN hb) ?_
 cases hv:v.ownBlock with
 | none=>exact .inl rfl
 | some k=>exact .inr (by simp)
theorem str_inj {x y:ByteArray} (h:x.toList=y.toList):x=y:=by
 rw [ByteArray.toList_eq,ByteArray.toList_eq] at h
 exact ByteArray.ext (Array.toList_inj.1 h)
theorem str_eq' {x y:ByteArray} (h:(x.toList == y.toList)=true):x=y:=str_inj (by simpa using h)
end Go
namespace Tess
open Go
def bl (a b:ByteArray):Bool:=Op.bytesLess a.toList b.toList
theorem tl (a:ByteArray):a.toList=a.data.toList:=ByteArray.toList_eq a
theorem take_more (a b:ByteArray) (k:Nat) (h1:k < a.size) (h2:k < b.size) (ht:a.data.toList.take k=b.data.toList.take k) (he:a[k]=b[k]):a.data.toList.take (k + 1)=b.data.toList.take (k + 1):=by
 rw [List.take_succ_eq_append_getElem (by simpa using h1),List.take_succ_eq_append_getElem (by simpa using h2),ht]
 congr 2
end Tess
namespace Tess
def place (l:List ByteArray) (x:ByteArray):Nat:=l.findIdx fun y => !bl y x
theorem place_at (l:List ByteArray) (x:ByteArray) (n:Nat) (hn:n≤l.length) (h:∀ j (hj:j < l.length),j < n→bl l[j] x=true) (he:n=l.length∨∃ hn:n < l.length,bl l[n] x=false):place l x=n:=by
 unfold place
 rcases he with rfl | ⟨hn,he⟩
 ·rw [List.findIdx_eq_length];intro y hy
  obtain ⟨j,hj,rfl⟩:=List.getElem_of_mem hy
  simp [h j hj hj]
 ·rw [List.findIdx_eq hn]
  exact ⟨by simp [he],fun j hj=>by simp [h j (by omega) hj]⟩
theorem place_le (l:List ByteArray) (x:ByteArray):place l x≤l.length:=List.findIdx_le_length
end Tess
namespace Go.Proofs.YtjdccifdkjnknaaGreatDoor
open Go.RowKit Go.Sort
end Go.Proofs.YtjdccifdkjnknaaGreatDoor
namespace Tess
def w0:ByteArray:=⟨#[]⟩
def fits (l:List ByteArray) (i:Nat):Bool:=decide ((l.getD i w0).size≤100) && (i == 0 || bl (l.getD (i - 1) w0) (l.getD i w0))
def rightTo (l:List ByteArray) (k:Nat):Bool:=(List.range k).all (fits l)
def right (l:List ByteArray):Bool:=rightTo l l.length && decide (l.length≤1000)
theorem getD_lt (l:List ByteArray) (k:Nat) (h:k < l.length):l.getD k w0=l[k]:=by simp [List.getD,h]
end Tess
namespace Go.Proofs.YtjdccifdkjnknaaGreatDoor
open Go.RowKit Go.Sort
end Go.Proofs.YtjdccifdkjnknaaGreatDoor
namespace Tess
def findW (l:List ByteArray) (x:ByteArray):Nat×Bool:=if right l then (place l x,decide (place l x < l.length) && decide (l.getD (place l x) w0=x)) else (0,false)
end Tess
namespace Go.Proofs.YtjdccifdkjnknaaGreatDoor
open Go.RowKit Go.Sort
def FP (l:List ByteArray) (x:ByteArray) (w:World) (e:Ending) (w':World):Prop:=
 e = .returned (.tuple #[.int .i64 ((Tess.findW l x).1:Nat),.bool (Tess.findW l x).2])∧Below w.heap.size w w'
end Go.Proofs.YtjdccifdkjnknaaGreatDoor
namespace Tess
def nb (y z:ByteArray):Bool := !bl y z
def pre (p y:ByteArray):Bool:=decide (p.size≤y.size) && decide (y.extract 0 p.size=p)
end Tess
namespace Go.Proofs.YtjdccifdkjnknaaGreatDoor
open Go.RowKit Go.Sort
end Go.Proofs.YtjdccifdkjnknaaGreatDoor
namespace Tess
def diL (s:ByteArray):Bool:=decide (100 < s.size)
end Tess
namespace Go.Proofs.YtjdccifdkjnknaaGreatDoor
open Go.RowKit Go.Sort
theorem d_long_any (s:ByteArray) (w:World):Calls Tryz.prog 157 #[.string s] w fun e w'=>e = .returned (.bool (Tess.diL s))∧w=w':=by
 go_enter Tryz.func157,Tryz.ntmps157
 go_wp2
 go_ret
 exact ⟨by unfold Tess.diL;exact congrArg (fun b=>Ending.returned (Value.bool b)) (decide_eq_decide.2 (by omega)),rfl⟩
set_option maxHeartbeats 1000000 in
theorem dil (v:Value) (l:List ByteArray) (w:World) (hv:SlOf w v (l.map .string)) :
  Calls Tryz.prog 199 #[v,.func (.func 157) #[] #[]] w fun e w' => ∃ i:Int,e = .returned (.int .i64 i)∧decide (0≤i)=l.any Tess.diL∧Below w.heap.size w w':=by
 obtain ⟨a,Ag,rfl,Ae,hc⟩:=so2 hv
 have HC:=Hd hc
 clear hc hv
 go_enter Tryz.func199,Tryz.ntmps199
 go_wp2
 go_loopw [8] (fun i wr => ∃ k:Nat,k≤l.length∧i = .int .i64 k∧(∀ j (hj:j < l.length),j < k→Tess.diL l[j]=false)∧Below w.heap.size w wr) (fun i _=>l.length - (intOf i).toNat)
 case atStart=>exact ⟨0,Nat.zero_le _,rfl,fun j _ h=>absurd h (Nat.not_lt_zero _),Below.refl _ _⟩
 case round=>
  obtain ⟨k,hk,rfl,Ab,hB⟩:=hrel
  have HA:=Hd Ab
  have HB:=Hd hB
  clear Ab hB
  by_cases hlt:k < l.length
  ·obtain ⟨b,Ac,rfl,hb,Aa⟩:=HC.out k hlt
   have Ad:wr.cell? ⟨b,Ac + k,none⟩=some (.string l[k]):=(HB.out.cell (p:=⟨b,Ac + k,none⟩) hb).trans Aa
   have Af:(k:Int) < (l.length:Int):=by omega
   obtain ⟨y,hy⟩:∃ y,y=l[k]:=⟨_,rfl⟩
   rw [← hy] at Ad
   have HE:=Hd hy
   clear Aa hy
   go_wp2_with (go_at_call 157;refine (d_long_any y _).mono ?_;rintro e w2 ⟨rfl,rfl⟩;cases hyx:Tess.diL y)
   ·go_roundw
    case rel=>
     refine ⟨k + 1,by omega,by go_num,fun j hj hjk => ?_,HB.out⟩
     by_cases hjk':j < k
     ·exact HA.out j hj hjk'
     ·obtain rfl:j=k:=by omega
      rw [← HE.out];exact hyx
    case measure=>simp [intOf];omega
   ·go_ret
    refine ⟨(k:Int),rfl,?_,HB.out⟩
    rw [decide_eq_true (by omega),eq_comm,List.any_eq_true]
    exact ⟨l[k],List.getElem_mem hlt,by rw [← HE.out];exact hyx⟩
  ·have Af:¬ (k:Int) < (l.length:Int):=by omega
   go_wp2
   go_ret
   refine ⟨-1,rfl,?_,HB.out⟩
   rw [decide_eq_false (by omega),eq_comm,List.any_eq_false]
   intro y hy
   obtain ⟨j,hj,rfl⟩:=List.getElem_of_mem hy
   rw [HA.out j hj (by omega)];simp
theorem dcl (v:Value) (l:List ByteArray) (w:World) (hv:SlOf w v (l.map .string)) :
  Calls Tryz.prog 156 #[v,.func (.func 157) #[] #[]] w fun e w'=>e = .returned (.bool (l.any Tess.diL))∧Below w.heap.size w w':=by
 have HI:=Hd (dil v l w hv)
 obtain ⟨a,Ab,rfl,Aa,hc⟩:=so2 hv
 clear hc hv
 go_enter Tryz.func156,Tryz.ntmps156
 go_wp2_with (go_at_call 199;refine HI.out.mono ?_;rintro e w2 ⟨i,rfl,hi,hB⟩;have HH:=Hd hi;have HB:=Hd hB;clear hi hB)
 go_ret
 refine ⟨?_,HB.out⟩
 rw [← HH.out];rfl
end Go.Proofs.YtjdccifdkjnknaaGreatDoor
namespace Tess
def ord (l:List ByteArray) (i:Nat):Bool:=i == 0 || bl (l.getD (i - 1) w0) (l.getD i w0)
def chainTo (l:List ByteArray) (k:Nat):Bool:=(List.range k).all (ord l)
theorem cTs (l:List ByteArray) (k:Nat) (h:chainTo l k=true) (hf:ord l k=true):chainTo l (k + 1)=true:=by
 unfold chainTo at *
 rw [List.range_succ,List.all_append,h];simp [hf]
theorem cTn (l:List ByteArray) (k:Nat) (hk:k < l.length) (hf:ord l k=false):chainTo l l.length=false:=by
 unfold chainTo
 rw [List.all_eq_false]
 exact ⟨k,List.mem_range.2 hk,by simp [hf]⟩
theorem any_long (l:List ByteArray):(!l.any diL)=(List.range l.length).all fun i=>decide ((l.getD i w0).size≤100):=by
 rw [Bool.eq_iff_iff]
 simp only [Bool.not_eq_true',List.any_eq_false,List.all_eq_true,List.mem_range,diL,decide_eq_true_eq]
 constructor
 ·intro h i hi
  have:=h l[i] (List.getElem_mem hi)
  rw [getD_lt l i hi];omega
 ·intro h y hy
  obtain ⟨i,hi,rfl⟩:=List.getElem_of_mem hy
  have:=h i hi
  rw [getD_lt l i hi] at this;omega
theorem all_and {α:Type} (l:List α) (p q:α→Bool):(l.all fun x=>p x && q x)=(l.all p && l.all q):=by
 induction l with
 | nil=>rfl
 | cons a l ih=>simp only [List.all_cons,ih];cases p a <;> cases q a <;> simp
theorem rp2 (l:List ByteArray):right l=((decide (l.length≤1000) && !l.any diL) && chainTo l l.length):=by
 unfold right rightTo chainTo
 rw [any_long,show (fits l)=fun i=>decide ((l.getD i w0).size≤100) && ord l i from rfl,all_and]
 cases decide (l.length≤1000) <;> simp
theorem ce3 (l:List ByteArray) (k:Nat) (h:chainTo l k=true) (hk:k≤max 1 l.length) (hn:¬ k < l.length):chainTo l l.length=true:=by
 by_cases e:l.length=0
 ·rw [e];rfl
 ·have:k=l.length:=by omega
  rw [← this];exact h
end Tess
namespace Go.Proofs.YtjdccifdkjnknaaGreatDoor
open Go.RowKit Go.Sort
theorem dpa2 (a:Option Addr) (n cap:Nat) (w:World) :
  Calls Tryz.prog 160 #[.slice a n cap] w fun e w'=>e = .returned (.func (.func 201) #[] #[.pointer (some ⟨w.heap.size,0,none⟩)])∧w.alloc (.cells #[.slice a n cap] 22)=w':=by
 go_enter Tryz.func160,Tryz.ntmps160
 go_wp2
 go_ret
 exact ⟨rfl,rfl⟩
end Go.Proofs.YtjdccifdkjnknaaGreatDoor
namespace Go.Rf
open Go Go.RowKit
variable {P:Program} {n:Nat}
structure SB (l:Nat) (W W':World):Prop where
 os:W'.os=W.os
 tape:W'.tape=W.tape
 output:W'.output=W.output
 size:W'.heap.size=W.heap.size
 block:∀ k,k≠l→W'.heap[k]? = W.heap[k]?
theorem SB.put (W:World) (l:Nat) (o:Obj):SB l W (W.putObj l o):=⟨rfl,rfl,rfl,by simp,fun k hk=>World.putObj_heap_other hk⟩
theorem SB.below {l B:Nat} {W W':World} (h:SB l W W') (hl:B≤l):Below B W W':=⟨h.os,h.tape,h.output,Nat.le_of_eq h.size.symm,fun k hk=>h.block k (by omega)⟩
theorem SB.cell {l:Nat} {W W':World} (h:SB l W W') {a:Addr} (ha:a.block≠l):W'.cell? a=W.cell? a:=World.cell?_of_block (h.block _ ha)
theorem SB.frozen {l:Nat} {W W':World} (h:SB l W W') {a:Addr} (ha:a.block≠l):W'.frozen? a=W.frozen? a:=World.frozen?_of_block (h.block _ ha)
theorem SB.owns {l:Nat} {W W':World} (h:SB l W W') {base:Nat} {e:TypeId} {size:Nat} {v:Value} {m:Nat} {xs:List Value} {o:Obj} (ho:W.ownsRow base e size v m xs) (hl:W.heap[l]? = some o) (hc:o.isCells=false):W'.ownsRow base e size v m xs:=by
 obtain ⟨h1,h2⟩:=ho
 refine ⟨h1,?_⟩
 rcases h2 with h2 | ⟨g,Ab,Aa,hv,hb,hg,r⟩
 ·exact .inl h2
 ·refine .inr ⟨g,Ab,Aa,hv,hb,?_,r⟩
  rw [h.block g (fun e=>by subst e;rw [hl] at hg;cases hg;cases hc)];exact hg
theorem rw3 {g:Operand} {ps:Array Tmp} {assign body:Code} {Q:Exit→Act→World→Prop} {a:Act} {w:World} {gf:Nat} {lb:Array Value}
  (hg:a.eval g = .func (.func gf) #[] lb) (eg:∀ args w,(callFunc gf args).run P w = .ok (.enter gf args) w)
  (h:∀ (fn:Nat) (W1:World),W1.heap[w.heap.size + 1]? = some (.loop { state:=.ready,pending:=none,fn,tmps:=a.tmps,params:=ps,assign,body,defers:=w.heap.size })→W1.heap[w.heap.size]? = some (.deferred (some [])) →
    Below w.heap.size w W1→W1.heap.size=w.heap.size + 2 →
    CallsIn Fence.wide (n - 1) P gf (#[.func (.yield (w.heap.size + 1)) #[] #[]] ++ lb) W1 fun e W3=>(∃ v,e = .returned v)∧∃ r:Loop,W3.heap[w.heap.size + 1]? = some (.loop r)∧r.state ≠ .busy ∧
     ∀ W4,SB (w.heap.size + 1) W3 W4→match r.pending with
       | none=>Q .normal { a with defers:={ target:=.collected w.heap.size,args:=#[] } :: a.defers } W4
       | some c=>c.wpIn Fence.wide n P Q { a with defers:={ target:=.collected w.heap.size,args:=#[] } :: a.defers } W4) :
  (Code.rangeFunc g ps assign body).wpIn Fence.wide n P Q a w:=by
 refine wpIn_rangeFunc ?_
 intro fn _
 obtain ⟨W1,Aa⟩:∃ W1,(w.alloc (.deferred (some []))).alloc (.loop { state:=.ready,pending:=none,fn,tmps:=a.tmps,params:=ps,assign,body,defers:=w.heap.size })=W1:=⟨_,rfl⟩
 have Ad:W1.heap[w.heap.size + 1]? = some (.loop { state:=.ready,pending:=none,fn,tmps:=a.tmps,params:=ps,assign,body,defers:=w.heap.size }):=by
  rw [← Aa];have:=World.alloc_heap_new (w.alloc (.deferred (some []))) (.loop { state:=.ready,pending:=none,fn,tmps:=a.tmps,params:=ps,assign,body,defers:=w.heap.size });rwa [World.size_alloc] at this
 have Ae:W1.heap[w.heap.size]? = some (.deferred (some [])):=by
  rw [← Aa];exact (Below.heap_alloc _ _ _ (by simp)).trans (World.alloc_heap_new w _)
 have Ab:Below w.heap.size w W1:=by rw [← Aa];exact ((Below.refl _ w).alloc (Nat.le_refl _) _).alloc (by simp) _
 have Ac:W1.heap.size=w.heap.size + 2:=by rw [← Aa];simp
 have H:=h fn _ Ad Ae Ab Ac
 refine ⟨w.heap.size + 1,[{ target:=.collected w.heap.size,args:=#[] }],W1,{ target:=.fn (.func gf) lb,args:=#[.func (.yield (w.heap.size + 1)) #[] #[]] },W1,gf,
  #[.func (.yield (w.heap.size + 1)) #[] #[]] ++ lb,W1,?_,?_,?_,?_,(fun hd=>by cases hd),?_⟩
 ·rw [← Aa];exact run_enterLoop_outer _ _ _ _ _
 ·simp only [resolve,hg]
  simp [go_sem]
 ·intro f' _;trivial
 ·simp [invoke,go_sem,eg]
 ·refine H.mono ?_
  rintro e W3 ⟨⟨v,rfl⟩,r,hr,hb,hq⟩
  refine ⟨r.pending,_,run_endLoop hr hb,?_⟩
  have:=hq _ (SB.put W3 (w.heap.size + 1) (.loop { r with state:=.exhausted }))
  cases hp:r.pending with
  | none=>rw [hp] at this;exact this
  | some c=>rw [hp] at this;exact this
def roundQ (l:Nat) (r:Loop) (R:Ending→World→Prop):Exit→Act→World→Prop
 | .normal,_,W3=>W3.heap[l]? = some (.loop { r with state:=.busy })∧∀ W4,SB l W3 W4→W4.heap[l]? = some (.loop { r with state:=.ready,pending:=none })→R (.returned (.bool true)) W4
 | .ret,_,W3=>W3.heap[l]? = some (.loop { r with state:=.busy })∧∀ W4,SB l W3 W4→W4.heap[l]? = some (.loop { r with state:=.done,pending:=some .ret })→R (.returned (.bool false)) W4
 | .exit id,_,W3=>W3.heap[l]? = some (.loop { r with state:=.busy })∧∀ W4,SB l W3 W4→W4.heap[l]? = some (.loop { r with state:=.done,pending:=some (.exit id) })→R (.returned (.bool false)) W4
 | .goto t,_,W3=>W3.heap[l]? = some (.loop { r with state:=.busy })∧∀ W4,SB l W3 W4→W4.heap[l]? = some (.loop { r with state:=.done,pending:=some (.goto t) })→R (.returned (.bool false)) W4
 | .panic _,_,_=>False
 | .outgrown,_,_=>False
theorem rw2 {l:Nat} {f:FuncId} {tmps:Array Value} {assign body:Code} {W:World} {R:Ending→World→Prop} {r:Loop}
  (h:assign.wpIn (Fence.wide.inRound l) n P (Exit.then (fun a₁ W₁=>W₁.heap[l]? = some (.loop r)∧r.state = .ready∧∀ W₂,SB l W₁ W₂→W₂.heap[l]? = some (.loop { r with state:=.busy })→body.wpIn (Fence.wide.inRound l) n P (roundQ l r R) a₁ W₂) (fun _ _ _=>False))
    { tmps:=tmps,defers:=[] } W):RoundIn Fence.wide n P l f tmps assign body W R:=by
 refine roundIn_of_wpIn trivial (wpIn_mono h ?_)
 intro e a₁ W₁ hq
 cases e with
 | normal=>
   obtain ⟨hl,hr,hb⟩:=hq
   refine ⟨_,run_beginRound hl hr,?_⟩
   have Aa:l < W₁.heap.size:=(Array.getElem?_eq_some_iff.1 hl).1
   refine wpIn_mono (hb _ (SB.put _ _ _) (World.putObj_heap_same Aa)) ?_
   have fin:∀ (jump:Option Code) (W3:World),W3.heap[l]? = some (.loop { r with state:=.busy })→∃ W4,(Instr.endRound l jump).run P W3 = .ok (.bool jump.isNone) W4∧SB l W3 W4 ∧
     W4.heap[l]? = some (.loop { r with state:=if jump.isNone then .ready else .done,pending:=jump }):=fun jump W3 h3=>
    ⟨_,run_endRound jump h3,SB.put _ _ _,World.putObj_heap_same (Array.getElem?_eq_some_iff.1 h3).1⟩
   intro e2 a3 W3 hp
   cases e2 with
   | normal=>obtain ⟨h3,hp⟩:=hp;obtain ⟨W4,e4,s4,l4⟩:=fin none W3 h3;exact ⟨_,_,e4,hp W4 s4 l4⟩
   | ret=>obtain ⟨h3,hp⟩:=hp;obtain ⟨W4,e4,s4,l4⟩:=fin (some .ret) W3 h3;exact ⟨_,_,e4,hp W4 s4 l4⟩
   | exit id=>obtain ⟨h3,hp⟩:=hp;obtain ⟨W4,e4,s4,l4⟩:=fin (some (.exit id)) W3 h3;exact ⟨_,_,e4,hp W4 s4 l4⟩
   | goto t=>obtain ⟨h3,hp⟩:=hp;obtain ⟨W4,e4,s4,l4⟩:=fin (some (.goto t)) W3 h3;exact ⟨_,_,e4,hp W4 s4 l4⟩
   | panic _=>exact hp.elim
   | outgrown=>exact hp.elim
 | ret=>exact hq.elim
 | exit id=>exact hq.elim
 | goto t=>exact hq.elim
 | panic _=>exact hq.elim
 | outgrown=>exact hq.elim
theorem sRs {b:Frame} {a:Act} {k:List Item} {cs:List Frame} {w:World} {c:Code}:step P (lone (b.atR a (.code (.scope c) :: k)) cs w) = .next (lone (b.atR a (.code c :: .inScope c :: k)) cs w):=
 step_lone_go (by simp [stepG,stepG.exec,Frame.atR])
theorem sRi {b:Frame} {a:Act} {k:List Item} {cs:List Frame} {w:World} {c:Code}:step P (lone (b.atR a (.inScope c :: k)) cs w) = .next (lone (b.atR a k) cs w):=
 step_lone_go (by simp [stepG,stepG.exec,Frame.atR])
theorem wIs {F:Fence} {c:Code} {Q:Exit→Act→World→Prop} {a:Act} {w:World} (h:c.wpIn F n P (Exit.noGoto Q) a w):(Code.scope c).wpIn F n P Q a w:=by
 intro b k cs Ab hb hr
 have h0:(lone (b.atR a (.code (.scope c) :: k)) cs w).fenced P F:=fenced_calm hb hr rfl
 obtain ⟨e,a₁,w₁,hq,Aa⟩:=h b (.inScope c :: k) cs Ab hb hr
 cases e with
 | normal=>exact ⟨.normal,a₁,w₁,hq,.head h0 sRs (StepsIn.trans Aa (.one (fenced_calm hb hr rfl) sRi))⟩
 | exit id=>
   have hx:exitTo id (.inScope c :: k)=exitTo id k:=by simp [exitTo]
   exact ⟨.exit id,a₁,w₁,hq,fun k' hk => .head h0 sRs (Aa.1 k' (by rw [hx];exact hk)),
    fun hr' hk=>let ⟨k₁,h1,h2⟩:=Aa.2 hr' (by rw [hx];exact hk);⟨k₁,h1,.head h0 sRs h2⟩⟩
 | goto l=>exact hq.elim
 | ret=>exact ⟨_,a₁,w₁,hq,.of_steps (.one h0 sRs) Aa⟩
 | panic ch=>exact ⟨_,a₁,w₁,hq,.of_steps (.one h0 sRs) Aa⟩
 | outgrown=>exact ⟨_,a₁,w₁,hq,.of_steps (.one h0 sRs) Aa⟩
end Go.Rf
namespace Go.Flow
open Go Go.RowKit
abbrev Spec:=Value ⊕ (Value→World→Prop)
def Spec.holds:Spec→Value→World→Prop
 | .inl u,v,_=>v=u
 | .inr V,v,w=>V v w
def Spec.ok:Spec→Value→Prop
 | .inl u,v=>v=u
 | .inr _,_=>True
def Mono (p:World→Prop):Prop:=∀ w w',p w→Below w.heap.size w w'→p w'
def Spec.mono (s:Spec):Prop:=∀ v,Mono (s.holds v)
theorem mi (u:Value):Spec.mono (.inl u):=fun _ _ _ h _=>h
section
variable {P:Program} {ops:Array Oper}
def yields (P:Program) (o:Oper) (ρ:Operand→Value) (w:World) (R:Value→World→Prop):Prop:=
 match (execOp ρ o).run P w with
 | .ok (.value v) w'=>R v w'
 | .ok .skip w'=>R undef w'
 | .ok (.enter f args) w'=>Calls P f args w' fun e w'' => ∃ v,e = .returned v∧R v w''
 | _=>False
theorem ym2 {o:Oper} {ρ:Operand→Value} {w:World} {R R':Value→World→Prop} (h:∀ v w,R v w→R' v w) (hy:yields P o ρ w R):yields P o ρ w R':=by
 unfold yields at *
 generalize (execOp ρ o).run P w=r at *
 cases r with
 | ok n w'=>
   cases n <;> first
    | exact h _ _ hy
    | exact Calls.mono hy (fun e w'' ⟨v,he,hr⟩=>⟨v,he,h _ _ hr⟩)
    | exact hy
 | halt x w'=>exact hy
theorem woy {o:Oper} {a:Act} {w:World} {K:Act→World→Prop} {Q:Exit→Act→World→Prop} (hy:yields P o a.eval w fun v w'=>K (a.put o.dst v) w'):o.wp P a w K Q:=by
 unfold yields at hy
 unfold Oper.wp
 generalize (execOp a.eval o).run P w=r at *
 cases r with
 | ok n w'=>
   cases n <;> simp only [Oper.upon] <;> first
    | exact hy
    | exact (show False from hy).elim
    | exact Calls.mono hy (fun e w'' ⟨v,he,hr⟩=>by subst he;exact hr)
 | halt x w'=>exact hy.elim
def Runs (P:Program) (ops:Array Oper) (o:Oper) (s:Spec) (a:Act) (w:World):Prop:=
 if Region.wanted o (yielded ops a.tmps) then yields P o a.eval w (fun v w'=>Below w.heap.size w w'∧s.holds v w') else s.holds undef w
def dep (o:Oper) (j:Nat):Bool:=o.after.any fun e=>Region.binds .any e && e.on == j
def Ru (P:Program) (ops:Array Oper) (w0:World) (o:Oper) (s:Spec) (a:Act) (Γ:Nat→World→Prop):Prop:=
 ∀ w,Below w0.heap.size w0 w→(∀ j,dep o j=true→Γ j w)→Runs P ops o s a w
def upd (Γ:Nat→World→Prop) (i:Nat) (p:World→Prop):Nat→World→Prop:=fun j=>if j=i then p else Γ j
theorem upd_ne {Γ:Nat→World→Prop} {i j:Nat} {p:World→Prop} (h:j≠i):upd Γ i p j=Γ j:=by simp [upd,h]
theorem upd_same {Γ:Nat→World→Prop} {i:Nat} {p:World→Prop}:upd Γ i p i=p:=by simp [upd]
theorem uc2 {Γ:Nat→World→Prop} {i j:Nat} {p q:World→Prop} (h:j≠i):upd (upd Γ i p) j q=upd (upd Γ j q) i p:=by
 funext k;unfold upd
 by_cases h1:k=j
 ·subst h1;simp [h]
 ·simp [h1]
def fOp (P:Program) (ops:Array Oper) (S:Nat→Spec) (w0:World) (i:Nat) (K:Act→(Nat→World→Prop)→Prop) (a:Act) (Γ:Nat→World→Prop):Prop:=
 match ops[i]? with
 | none=>K a Γ
 | some o=>Ru P ops w0 o (S i) a Γ∧∀ v,(S i).ok v→K (a.put o.dst v) (upd Γ i ((S i).holds v))
def anyF (P:Program) (ops:Array Oper) (S:Nat→Spec) (w0:World) (E:Act→(Nat→World→Prop)→Prop):Nat→Array Bool→Act→(Nat→World→Prop)→Prop
 | 0,listed,a,Γ=>Region.ready .any ops listed=[]∧E a Γ
 | fuel + 1,listed,a,Γ=>
   (Region.ready .any ops listed=[]→E a Γ) ∧
   ∀ i ∈ Region.ready .any ops listed,fOp P ops S w0 i (anyF P ops S w0 E fuel (listed.setIfInBounds i true)) a Γ
theorem wAo2 {S:Nat→Spec} {w0:World} (hS:∀ i,(S i).mono) {E:Act→(Nat→World→Prop)→Prop} {Q:Exit→Act→World→Prop}
  (hE:∀ a Γ w,E a Γ→Below w0.heap.size w0 w→(∀ j,Γ j w)→Q .normal a w):∀ (fuel:Nat) (listed:Array Bool) (a:Act) (Γ:Nat→World→Prop) (w:World),
  anyF P ops S w0 E fuel listed a Γ→Below w0.heap.size w0 w→(∀ j,Γ j w)→(∀ j,Mono (Γ j))→wpAny P .any ops Q fuel listed a w
 | 0,_,_,_,_,h,hB,hG,_=>⟨h.1,hE _ _ _ h.2 hB hG⟩
 | fuel + 1,listed,a,Γ,w,h,hB,hG,hM=>by
   refine ⟨fun h0=>hE _ _ _ (h.1 h0) hB hG,fun i hi => ?_⟩
   have h1:=h.2 i hi
   unfold fOp at h1
   unfold wpOp
   have hM':∀ v j,Mono (upd Γ i ((S i).holds v) j):=fun v j=>by
    by_cases e:j=i
    ·subst e;rw [upd_same];exact hS j v
    ·rw [upd_ne e];exact hM j
   have hG':∀ v w',Below w.heap.size w w'→(S i).holds v w'→∀ j,upd Γ i ((S i).holds v) j w':=fun v w' hb hv j=>by
    by_cases e:j=i
    ·subst e;rw [upd_same];exact hv
    ·rw [upd_ne e];exact hM j _ _ (hG j) hb
   have hok:∀ v w',(S i).holds v w'→(S i).ok v:=fun v w' hv=>by
    cases hs:S i with
    | inl u=>rw [hs] at hv;exact hv
    | inr V=>trivial
   split
   ·rename_i ho
    simp only [ho] at h1
    exact wAo2 hS hE fuel _ _ _ _ h1 hB hG hM
   ·rename_i o ho
    simp only [ho] at h1
    have h2:=h1.1 w hB (fun j _=>hG j)
    unfold Runs at h2
    split
    ·rename_i hw
     simp only [hw,if_true] at h2
     refine .inl (woy (ym2 ?_ h2))
     intro v w' ⟨hb,hv⟩
     exact wAo2 hS hE fuel _ _ _ _ (h1.2 v (hok v w' hv)) (hB.trans (hb.mono hB.size)) (hG' v w' hb hv) (hM' v)
    ·rename_i hw
     simp only [hw] at h2
     exact wAo2 hS hE fuel _ _ _ _ (h1.2 undef (hok _ _ h2)) hB (hG' _ _ (Below.refl _ _) h2) (hM' _)
theorem Ru.of_same {w0:World} {o:Oper} {s:Spec} {a a':Act} {Γ Γ':Nat→World→Prop} (h:Ru P ops w0 o s a Γ) (he:execOp a'.eval o=execOp a.eval o)
  (hw:Region.wanted o (yielded ops a'.tmps)=Region.wanted o (yielded ops a.tmps)) (hg:∀ j,dep o j=true→Γ' j=Γ j):Ru P ops w0 o s a' Γ':=by
 intro w hB hG
 have:=h w hB (fun j hj=>by rw [← hg j hj];exact hG j hj)
 unfold Runs yields at *
 rw [he,hw]
 exact this
theorem nd2 {o:Oper} {i:Nat} (h:∀ e ∈ o.after,Region.binds .any e=true→e.on≠i) {j:Nat} (hj:dep o j=true):j≠i:=by
 obtain ⟨e,he,hb⟩:=Array.any_eq_true'.1 hj
 rw [Bool.and_eq_true,beq_iff_eq] at hb
 intro e2
 exact h e he hb.1 (by rw [hb.2,e2])
theorem aFf2 {S:Nat→Spec} {w0:World} {E:Act→(Nat→World→Prop)→Prop} {i:Nat} {oi:Oper} (hi:ops[i]? = some oi) (hsel:∀ (j:Nat) (o:Oper) cs b,ops[j]? = some o→o.op ≠ .select cs b) :
  ∀ (fuel:Nat) (listed:Array Bool) (a:Act) (Γ:Nat→World→Prop),
    (∀ j oj,ops[j]? = some oj→j≠i→listed.getD j true=false→(∀ e ∈ oj.after,Region.binds .any e=true→e.on≠i)→oi.apart ops oj=true) →
    i ∈ Region.ready .any ops listed→Ru P ops w0 oi (S i) a Γ →
    (∀ v,(S i).ok v→anyF P ops S w0 E fuel (listed.setIfInBounds i true) (a.put oi.dst v) (upd Γ i ((S i).holds v)))→anyF P ops S w0 E (fuel + 1) listed a Γ:=by
 have An:∃ v,(S i).ok v:=by
  cases hs:S i with
  | inl u=>exact ⟨u,rfl⟩
  | inr V=>exact ⟨undef,trivial⟩
 obtain ⟨v0,Ak⟩:=An
 intro fuel
 induction fuel with
 | zero=>
   intro listed a Γ _ hr hy H
   refine ⟨fun h=>(by rw [h] at hr;cases hr),fun j hj => ?_⟩
   by_cases hji:j=i
   ·subst hji
    unfold fOp;simp only [hi];exact ⟨hy,H⟩
   ·have:=ready_mono hj hji
    rw [(H v0 Ak).1] at this
    cases this
 | succ fuel ih=>
   intro listed a Γ Aa hr hy H
   refine ⟨fun h=>(by rw [h] at hr;cases hr),fun j hj => ?_⟩
   by_cases hji:j=i
   ·subst hji
    unfold fOp;simp only [hi];exact ⟨hy,H⟩
   ·obtain ⟨Ac,oj,Ag,Ah⟩:=mem_ready.1 hj
    have Ai:=(mem_ready.1 hr).1
    have Aj:∀ k,listed.getD k true=false→listed.getD k false=true→False:=fun k h1 h0=>by
     rcases Nat.lt_or_ge k listed.size with h' | h'
     ·simp [h'] at h0 h1;rw [h0] at h1;cases h1
     ·simp [Array.getElem?_eq_none h'] at h1
    have Ae:∀ e ∈ oj.after,Region.binds .any e=true→e.on≠i:=fun e he hb heq=>Aj i Ai (by rw [← heq];exact Ah e he hb)
    have Af:∀ e ∈ oi.after,Region.binds .any e=true→e.on≠j:=fun e he hb heq=>by
     obtain ⟨_,o',Al,Ad⟩:=mem_ready.1 hr
     rw [hi] at Al;cases Al
     exact Aj j Ac (by rw [← heq];exact Ad e he hb)
    have Am:=Aa j oj Ag hji Ac Ae
    obtain ⟨h1,h2,h3⟩:=Oper.apart_spec Am
    have Ab:∀ k ok,ops[k]? = some ok→k≠i→(listed.setIfInBounds j true).getD k true=false →
      (∀ e ∈ ok.after,Region.binds .any e=true→e.on≠i)→oi.apart ops ok=true:=fun k ok hk hki hun hno=>by
     refine Aa k ok hk hki ?_ hno
     by_cases hjk:j=k
     ·subst hjk;exact Ac
     ·rw [getD_set_ne true hjk] at hun;exact hun
    have Hj:∀ v,(S i).ok v→Ru P ops w0 oj (S j) (a.put oi.dst v) (upd Γ i ((S i).holds v))∧∀ u,(S j).ok u →
      anyF P ops S w0 E fuel ((listed.setIfInBounds i true).setIfInBounds j true) ((a.put oi.dst v).put oj.dst u) (upd (upd Γ i ((S i).holds v)) j ((S j).holds u)):=fun v hv=>by
     have:=(H v hv).2 j (ready_mono hj hji)
     unfold fOp at this
     simpa only [Ag] using this
    unfold fOp
    simp only [Ag]
    refine ⟨(Hj v0 Ak).1.of_same (execOp_put oj (fun cs b=>hsel j oj cs b Ag) a oi.dst v0 h1).symm (wanted_put oj a oi.dst v0 h1).symm (fun k hk => ?_),fun u hu => ?_⟩
    ·exact (upd_ne (nd2 Ae hk)).symm
    ·refine ih (listed.setIfInBounds j true) _ _ Ab (ready_mono hr (Ne.symm hji)) ?_ (fun v hv => ?_)
     ·exact hy.of_same (execOp_put oi (fun cs b=>hsel i oi cs b hi) a oj.dst u h3) (wanted_put oi a oj.dst u h3) (fun k hk=>upd_ne (nd2 Af hk))
     ·have:=(Hj v hv).2 u hu
      rw [Array.setIfInBounds_comm _ _ hji,← Act.put_comm a v u h2,← uc2 hji]
      exact this
def Tree (P:Program) (ops:Array Oper) (S:Nat→Spec) (w0:World) (E:Act→(Nat→World→Prop)→Prop):List Oper→Nat→Act→(Nat→World→Prop)→Prop
 | [],_,a,Γ=>E a Γ
 | o :: rest,i,a,Γ=>Ru P ops w0 o (S i) a Γ∧∀ v,(S i).ok v→Tree P ops S w0 E rest (i + 1) (a.put o.dst v) (upd Γ i ((S i).holds v))
theorem aFl2 {S:Nat→Spec} {w0:World} {E:Act→(Nat→World→Prop)→Prop} (hs:Region.noSelect ops=true):∀ (l:List Oper) (k:Nat) (listed:Array Bool) (a:Act) (Γ:Nat→World→Prop),(∀ j,l[j]? = ops[k + j]?) →
  Region.lexFrom .any ops l.length k listed=true→Tree P ops S w0 E l k a Γ→anyF P ops S w0 E l.length listed a Γ
 | [],_,_,_,_,_,hB,h=>⟨by simpa [Region.lexFrom] using hB,h⟩
 | o :: l,k,listed,a,Γ,hl,hB,h=>by
   have h0:ops[k]? = some o:=by simpa using (hl 0).symm
   simp only [List.length_cons,Region.lexFrom,Bool.and_eq_true] at hB
   obtain ⟨⟨hr,hf⟩,Aa⟩:=hB
   exact aFf2 h0 (Region.noSelect_spec hs) l.length listed a Γ (Region.free_spec h0 hf) (by simpa using hr) h.1
    (fun v hv=>aFl2 hs l (k + 1) _ _ _ (fun j=>by have:=hl (j + 1);simpa [Nat.add_assoc,Nat.add_comm 1 j] using this) Aa (h.2 v hv))
theorem wrf2 {id:Nat} {Q:Exit→Act→World→Prop} {a:Act} {w:World} {l:List Oper} (S:Nat→Spec) (hm:P.follows .mixedOrders=true) (hB:Region.lexB .any l.toArray=true) (hS:∀ i,(S i).mono)
  (h:Tree P l.toArray S w (fun a' Γ => ∀ w',Below w.heap.size w w'→(∀ j,Γ j w')→Q .normal a' w') l 0 a (fun _ _=>True)):(Code.region id l.toArray true).wp P Q a w:=by
 simp only [Region.lexB,Bool.and_eq_true] at hB
 refine wp_region_any hm (wAo2 (S:=S) (w0:=w) (E:=fun a' Γ => ∀ w',Below w.heap.size w w'→(∀ j,Γ j w')→Q .normal a' w') (Γ:=fun _ _=>True) hS (fun a' Γ w' hE hb hG=>hE w' hb hG) _ _ _ _ ?_ ((Below.refl _ _).drew) (fun _=>trivial) (fun _ _ _ _ _=>trivial))
 have:=aFl2 hB.1 l 0 (Array.replicate l.toArray.size false) a (fun _ _=>True) (by simp) (by simpa using hB.2) h
 simpa using this
theorem tn2 {S:Nat→Spec} {w0:World} {E:Act→(Nat→World→Prop)→Prop} {i:Nat} {a:Act} {Γ:Nat→World→Prop} (h:E a Γ):Tree P ops S w0 E [] i a Γ:=h
theorem tv3 {S:Nat→Spec} {w0:World} {E:Act→(Nat→World→Prop)→Prop} {o:Oper} {rest:List Oper} {i:Nat} {a:Act} {Γ:Nat→World→Prop} (u:Value) (hs:S i = .inl u)
  (hr:∀ w,Below w0.heap.size w0 w→(∀ j,dep o j=true→Γ j w)→Runs P ops o (.inl u) a w) (h:Tree P ops S w0 E rest (i + 1) (a.put o.dst u) (upd Γ i (fun _=>True))):Tree P ops S w0 E (o :: rest) i a Γ:=by
 refine ⟨by rw [hs];exact hr,fun v hv => ?_⟩
 rw [hs] at hv ⊢
 cases hv
 have:(fun w=>Spec.holds (.inl u) u w)=fun _=>True:=by funext w;simp [Spec.holds]
 rw [show Spec.holds (.inl u) u=fun _=>True from this]
 exact h
theorem tv2 {S:Nat→Spec} {w0:World} {E:Act→(Nat→World→Prop)→Prop} {o:Oper} {rest:List Oper} {i:Nat} {a:Act} {Γ:Nat→World→Prop} (V:Value→World→Prop) (hs:S i = .inr V)
  (hr:∀ w,Below w0.heap.size w0 w→(∀ j,dep o j=true→Γ j w)→Runs P ops o (.inr V) a w) (h:∀ v,Tree P ops S w0 E rest (i + 1) (a.put o.dst v) (upd Γ i (V v))):Tree P ops S w0 E (o :: rest) i a Γ:=by
 refine ⟨by rw [hs];exact hr,fun v _ => ?_⟩
 rw [hs]
 exact h v
def sp3 (l:List Spec):Nat→Spec:=fun i=>l.getD i (.inl undef)
theorem sm2 {l:List Spec} (h:∀ s ∈ l,Spec.mono s):∀ i,(sp3 l i).mono:=fun i=>by
 unfold sp3
 rcases Nat.lt_or_ge i l.length with h' | h'
 ·rw [List.getD_eq_getElem?_getD,List.getElem?_eq_getElem h'];exact h _ (List.getElem_mem h')
 ·rw [List.getD_eq_getElem?_getD,List.getElem?_eq_none h'];exact mi _
theorem runs_ok {o:Oper} {a:Act} {w w':World} {s:Spec} {u:Value} (hw:Region.wanted o (yielded ops a.tmps)=true) (h:(execOp a.eval o).run P w = .ok (.value u) w') (hb:Below w.heap.size w w') (hv:s.holds u w'):Runs P ops o s a w:=by
 unfold Runs yields
 rw [if_pos hw,h]
 exact ⟨hb,hv⟩
theorem tvK {S:Nat→Spec} {w0:World} {E:Act→(Nat→World→Prop)→Prop} {o:Oper} {rest:List Oper} {i:Nat} {a:Act} {Γ:Nat→World→Prop} {u:Value} (hs:S i = .inl u)
  (h:∀ K:Act→Prop,(∀ a',Tree P ops S w0 E rest (i + 1) a' (upd Γ i (fun _=>True))→K a')→(∀ w,Below w0.heap.size w0 w→(∀ j,dep o j=true→Γ j w)→Runs P ops o (.inl u) a w)∧K (a.put o.dst u)):Tree P ops S w0 E (o :: rest) i a Γ:=
 tv3 u hs (h (fun _=>True) (fun _ _=>trivial)).1 (h _ (fun _ h=>h)).2
theorem tvK2 {S:Nat→Spec} {w0:World} {E:Act→(Nat→World→Prop)→Prop} {o:Oper} {rest:List Oper} {i:Nat} {a:Act} {Γ:Nat→World→Prop} {V:Value→World→Prop} (hs:S i = .inr V)
  (h:∀ K:Act→(World→Prop)→Prop,(∀ a' v,Tree P ops S w0 E rest (i + 1) a' (upd Γ i (V v))→K a' (V v))→(∀ w,Below w0.heap.size w0 w→(∀ j,dep o j=true→Γ j w)→Runs P ops o (.inr V) a w)∧∀ v,K (a.put o.dst v) (V v)):Tree P ops S w0 E (o :: rest) i a Γ:=by
 refine tv2 V hs (h (fun _ _=>True) (fun _ _ _=>trivial)).1 fun v => ?_
 have:=(h (fun a' p=>Tree P ops S w0 E rest (i + 1) a' (upd Γ i p)) (fun _ _ h=>h)).2 v
 exact this
@[go_sem] theorem below_self (w:World):Below w.heap.size w w=True:=eq_true (Below.refl _ _)
@[go_sem] theorem holds_inl (u v:Value) (w:World):Spec.holds (.inl u) v w=(v=u):=rfl
theorem ln2:∀ s ∈ ([]:List Spec),s.mono:=fun _ h=>by cases h
theorem li2 {u:Value} {l:List Spec} (h:∀ s ∈ l,s.mono):∀ s ∈ (.inl u :: l:List Spec),s.mono:=fun s hs=>by
 rcases List.mem_cons.1 hs with rfl | hs
 ·exact mi u
 ·exact h s hs
theorem li3 {V:Value→World→Prop} {l:List Spec} (hV:Spec.mono (.inr V)) (h:∀ s ∈ l,s.mono):∀ s ∈ (.inr V :: l:List Spec),s.mono:=fun s hs=>by
 rcases List.mem_cons.1 hs with rfl | hs
 ·exact hV
 ·exact h s hs
def aF (P:Program) (ops:Array Oper) (S:Nat→Spec) (w0:World) (n:Nat) (L:Array Bool→Act→(Nat→World→Prop)→Prop):Nat→Array Bool→Act→(Nat→World→Prop)→Prop
 | 0,listed,a,Γ=>L listed a Γ
 | f + 1,listed,a,Γ=>Region.ready .any ops listed≠[]∧∀ i ∈ Region.ready .any ops listed,i < n∧fOp P ops S w0 i (aF P ops S w0 n L f (listed.setIfInBounds i true)) a Γ
theorem wAo {S:Nat→Spec} {w0:World} (hS:∀ i,(S i).mono) {n g:Nat} {L:Array Bool→Act→(Nat→World→Prop)→Prop} {Q:Exit→Act→World→Prop}
  (hL:∀ listed a Γ w,L listed a Γ→Below w0.heap.size w0 w→(∀ j,Γ j w)→wpAny P .any ops Q g listed a w):∀ (f:Nat) (listed:Array Bool) (a:Act) (Γ:Nat→World→Prop) (w:World),
  aF P ops S w0 n L f listed a Γ→Below w0.heap.size w0 w→(∀ j,Γ j w)→(∀ j,Mono (Γ j))→wpAny P .any ops Q (f + g) listed a w
 | 0,_,_,_,_,h,hB,hG,_=>by rw [Nat.zero_add];exact hL _ _ _ _ h hB hG
 | f + 1,listed,a,Γ,w,h,hB,hG,hM=>by
   rw [show f + 1 + g=(f + g) + 1 by omega]
   refine ⟨fun h0=>absurd h0 h.1,fun i hi => ?_⟩
   have h1:=(h.2 i hi).2
   unfold fOp at h1
   unfold wpOp
   have hM':∀ v j,Mono (upd Γ i ((S i).holds v) j):=fun v j=>by
    by_cases e:j=i
    ·subst e;rw [upd_same];exact hS j v
    ·rw [upd_ne e];exact hM j
   have hG':∀ v w',Below w.heap.size w w'→(S i).holds v w'→∀ j,upd Γ i ((S i).holds v) j w':=fun v w' hb hv j=>by
    by_cases e:j=i
    ·subst e;rw [upd_same];exact hv
    ·rw [upd_ne e];exact hM j _ _ (hG j) hb
   have hok:∀ v w',(S i).holds v w'→(S i).ok v:=fun v w' hv=>by
    cases hs:S i with
    | inl u=>rw [hs] at hv;exact hv
    | inr V=>trivial
   split
   ·rename_i ho
    simp only [ho] at h1
    exact wAo hS hL f _ _ _ _ h1 hB hG hM
   ·rename_i o ho
    simp only [ho] at h1
    have h2:=h1.1 w hB (fun j _=>hG j)
    unfold Runs at h2
    split
    ·rename_i hw
     simp only [hw,if_true] at h2
     refine .inl (woy (ym2 ?_ h2))
     intro v w' ⟨hb,hv⟩
     exact wAo hS hL f _ _ _ _ (h1.2 v (hok v w' hv)) (hB.trans (hb.mono hB.size)) (hG' v w' hb hv) (hM' v)
    ·rename_i hw
     simp only [hw] at h2
     exact wAo hS hL f _ _ _ _ (h1.2 undef (hok _ _ h2)) hB (hG' _ _ (Below.refl _ _) h2) (hM' _)
theorem aFf {S:Nat→Spec} {w0:World} {n i:Nat} {oi:Oper} {L:Array Bool→Act→(Nat→World→Prop)→Prop} (hi:ops[i]? = some oi) (hsel:∀ (j:Nat) (o:Oper) cs b,ops[j]? = some o→o.op ≠ .select cs b)
  (hs:Region.sinkB .any ops n=true) (hc:Region.chainB .any ops n=true) (hn:n < ops.size) (hin:i < n)
  (hdone:∀ listed a Γ,L listed a Γ→∀ j ∈ Region.ready .any ops listed,n≤j) :
  ∀ (f:Nat) (listed:Array Bool) (a:Act) (Γ:Nat→World→Prop),HeadInv .any ops n listed →
    (∀ j oj,ops[j]? = some oj→j≠i→listed.getD j true=false→(∀ e ∈ oj.after,Region.binds .any e=true→e.on≠i)→oi.apart ops oj=true) →
    i ∈ Region.ready .any ops listed→Ru P ops w0 oi (S i) a Γ →
    (∀ v,(S i).ok v→aF P ops S w0 n L f (listed.setIfInBounds i true) (a.put oi.dst v) (upd Γ i ((S i).holds v)))→aF P ops S w0 n L (f + 1) listed a Γ:=by
 have Ap:∃ v,(S i).ok v:=by
  cases hs:S i with
  | inl u=>exact ⟨u,rfl⟩
  | inr V=>exact ⟨undef,trivial⟩
 obtain ⟨v0,Am⟩:=Ap
 intro f
 induction f with
 | zero=>
   intro listed a Γ Ah _ hr hy H
   have Ab:=(mem_ready.1 hr).1
   refine ⟨fun h=>(by rw [h] at hr;cases hr),fun j hj => ?_⟩
   have Aj:j < n:=by
    rcases Nat.lt_or_ge j n with h | h
    ·exact h
    ·exact absurd hj (tail_waits hs hc hn Ah _ i rfl hin Ab j h)
   refine ⟨Aj,?_⟩
   by_cases hji:j=i
   ·subst hji
    unfold fOp;simp only [hi];exact ⟨hy,H⟩
   ·have:=hdone _ _ _ (H v0 Am) j (ready_mono hj hji)
    omega
 | succ f ih=>
   intro listed a Γ Ah Aa hr hy H
   have Ab:=(mem_ready.1 hr).1
   refine ⟨fun h=>(by rw [h] at hr;cases hr),fun j hj => ?_⟩
   have Aj:j < n:=by
    rcases Nat.lt_or_ge j n with h | h
    ·exact h
    ·exact absurd hj (tail_waits hs hc hn Ah _ i rfl hin Ab j h)
   refine ⟨Aj,?_⟩
   by_cases hji:j=i
   ·subst hji
    unfold fOp;simp only [hi];exact ⟨hy,H⟩
   ·obtain ⟨Ad,oj,Ai,Ak⟩:=mem_ready.1 hj
    have Al:∀ k,listed.getD k true=false→listed.getD k false=true→False:=fun k h1 h0=>by rw [getD_both h1] at h0;cases h0
    have Af:∀ e ∈ oj.after,Region.binds .any e=true→e.on≠i:=fun e he hb heq=>Al i Ab (by rw [← heq];exact Ak e he hb)
    have Ag:∀ e ∈ oi.after,Region.binds .any e=true→e.on≠j:=fun e he hb heq=>by
     obtain ⟨_,o',An,Ae⟩:=mem_ready.1 hr
     rw [hi] at An;cases An
     exact Al j Ad (by rw [← heq];exact Ae e he hb)
    have Ao:=Aa j oj Ai hji Ad Af
    obtain ⟨h1,h2,h3⟩:=Oper.apart_spec Ao
    have Ac:∀ k ok,ops[k]? = some ok→k≠i→(listed.setIfInBounds j true).getD k true=false →
      (∀ e ∈ ok.after,Region.binds .any e=true→e.on≠i)→oi.apart ops ok=true:=fun k ok hk hki Ab hno=>by
     refine Aa k ok hk hki ?_ hno
     by_cases hjk:j=k
     ·subst hjk;exact Ad
     ·rw [getD_set_ne true hjk] at Ab;exact Ab
    have Hj:∀ v,(S i).ok v→Ru P ops w0 oj (S j) (a.put oi.dst v) (upd Γ i ((S i).holds v))∧∀ u,(S j).ok u →
      aF P ops S w0 n L f ((listed.setIfInBounds i true).setIfInBounds j true) ((a.put oi.dst v).put oj.dst u) (upd (upd Γ i ((S i).holds v)) j ((S j).holds u)):=fun v hv=>by
     have:=((H v hv).2 j (ready_mono hj hji)).2
     unfold fOp at this
     simpa only [Ai] using this
    unfold fOp
    simp only [Ai]
    refine ⟨(Hj v0 Am).1.of_same (execOp_put oj (fun cs b=>hsel j oj cs b Ai) a oi.dst v0 h1).symm (wanted_put oj a oi.dst v0 h1).symm (fun k hk => ?_),fun u hu => ?_⟩
    ·exact (upd_ne (nd2 Af hk)).symm
    ·refine ih (listed.setIfInBounds j true) _ _ (Ah.set hj Aj) Ac (ready_mono hr (Ne.symm hji)) ?_ (fun v hv => ?_)
     ·exact hy.of_same (execOp_put oi (fun cs b=>hsel i oi cs b hi) a oj.dst u h3) (wanted_put oi a oj.dst u h3) (fun k hk=>upd_ne (nd2 Ag hk))
     ·have:=(Hj v hv).2 u hu
      rw [Array.setIfInBounds_comm _ _ hji,← Act.put_comm a v u h2,← uc2 hji]
      exact this
theorem aFl {S:Nat→Spec} {w0:World} {n g:Nat} {Lq:Act→(Nat→World→Prop)→Prop} (hsel:Region.noSelect ops=true) (hs:Region.sinkB .any ops n=true) (hc:Region.chainB .any ops n=true) (hn:n < ops.size) :
  ∀ (l:List Oper) (k:Nat) (listed:Array Bool) (a:Act) (Γ:Nat→World→Prop),(∀ j,j < l.length→l[j]? = ops[k + j]?)→k + l.length=n→HeadInv .any ops n listed →
  Region.lexHead .any ops g l.length k listed=true→Tree P ops S w0 Lq l k a Γ →
  aF P ops S w0 n (fun listed' a' Γ'=>Region.seqB .any ops g n listed'=true∧Lq a' Γ') l.length listed a Γ
 | [],k,listed,a,Γ,_,hk,_,hB,h=>by
   have:k=n:=by simpa using hk
   subst this
   exact ⟨by simpa [Region.lexHead] using hB,h⟩
 | o :: l,k,listed,a,Γ,hl,hk,inv,hB,h=>by
   have h0:ops[k]? = some o:=by simpa using (hl 0 (by simp)).symm
   simp only [List.length_cons,Region.lexHead,Bool.and_eq_true] at hB
   obtain ⟨⟨hr,hf⟩,Ac⟩:=hB
   have Aa:k < n:=by simp only [List.length_cons] at hk;omega
   have Ab:k ∈ Region.ready .any ops listed:=by simpa using hr
   exact aFf h0 (Region.noSelect_spec hsel) hs hc hn Aa (fun listed' a' Γ' hL=>seqB_ready hL.1) l.length listed a Γ inv (Region.free_spec h0 hf) Ab h.1
    (fun v hv=>aFl hsel hs hc hn l (k + 1) _ _ _ (fun j hj=>by have:=hl (j + 1) (by simp;omega);simpa [Nat.add_assoc,Nat.add_comm 1 j] using this) (by simp only [List.length_cons] at hk;omega) (inv.set Ab Aa) Ac (h.2 v hv))
theorem wrf {id:Nat} {Q:Exit→Act→World→Prop} {a:Act} {w:World} {l:List Oper} (n:Nat) (S:Nat→Spec) (hm:P.follows .mixedOrders=true) (hB:Region.lexTailB .any l.toArray n=true) (hS:∀ i,(S i).mono)
  (h:Tree P l.toArray S w (fun a' Γ => ∀ w',Below w.heap.size w w'→(∀ j,Γ j w')→wpList P l.toArray Q (l.drop n) a' w') (l.take n) 0 a (fun _ _=>True)):(Code.region id l.toArray true).wp P Q a w:=by
 simp only [Region.lexTailB,Bool.and_eq_true,decide_eq_true_eq] at hB
 obtain ⟨⟨⟨⟨Ab,hn⟩,hs⟩,hc⟩,Ad⟩:=hB
 have Ag:n < l.length:=by simpa using hn
 have Aa:(l.take n).length=n:=by simp;omega
 have Ae:(l.drop n).length=l.toArray.size - n:=by simp
 have Ac:HeadInv .any l.toArray n (Array.replicate l.toArray.size false):=
  ⟨by simp,fun j oj _ hl=>(by rw [getD_replicate_false] at hl;cases hl),fun t _ ht=>getD_in (by simpa using ht) (getD_replicate_false _ _)⟩
 have H:=aFl (g:=l.toArray.size - n) Ab hs hc hn (l.take n) 0 _ a (fun _ _=>True) (fun j hj=>by
  have Af:j < n:=by rw [Aa] at hj;exact hj
  simp [Af]) (by simpa using Aa) Ac (by rw [Aa];exact Ad) h
 refine wp_region_any hm ?_
 have:=wAo (Q:=Q) (g:=l.toArray.size - n) hS (fun listed a' Γ' w' hL hb hG=>by
  have:=wpAny_of_seq (md:=.any) (Q':=Q) (l.drop n) n listed a' w' (fun j=>by simp [List.getElem?_drop]) (by rw [Ae];exact hL.1) (hL.2 w' hb hG)
  rwa [Ae] at this) _ _ _ _ { w with drawn:=w.drawn + 1 } H ((Below.refl _ _).drew) (fun _=>trivial) (fun _ _ _ _ _=>trivial)
 rw [Aa,show n + (l.toArray.size - n)=l.toArray.size by omega] at this
 exact this
end
end Go.Flow
namespace Go
open Go.RowKit
def nO3 (x:Value) (v:Value) (w:World):Prop:=∃ g,v = .slice (some ⟨g,0,none⟩) 1 1∧g < w.heap.size∧w.cell? ⟨g,0,none⟩=some x
theorem nOm2 (x:Value):Flow.Spec.mono (.inr (nO3 x)):=fun _ _ _ ⟨g,h1,h2,h3⟩ hb=>⟨g,h1,Nat.lt_of_lt_of_le h2 hb.size,(hb.cell (p:=⟨g,0,none⟩) h2).trans h3⟩
theorem nOm (x:Value) (w:World) (t:TypeId):nO3 x (.slice (some ⟨w.heap.size,0,none⟩) 1 1) (w.alloc (.cells #[x] t)):=⟨_,rfl,by simp,by simp⟩
end Go
