/- Laws of single operations over any program, and bits of 32 places in the walk's own forms. -/
import Derived.WalkKit
import Derived.WalkSpells
import Derived.WalkLawsBesides
import Derived.Laws.BitsAll
import Derived.Laws.BytesArg
import Derived.Laws.Rows
import Derived.Laws.Tables
import Derived.Scope
import Derived.ScopeJumps
import Derived.WalkMore
import Derived.Laws.IdiomStrings
import Derived.Deep.RegionLaw
import Derived.StillTailTactics
import Derived.SliceStrings
import Derived.WideShapes
import Derived.Lib.Hide
import Derived.Lib.QuietBelow
import Derived.BigQuiet
import Derived.Deep.QuietTactic
namespace Go
open Go.RowKit
section
variable {P:Program} {w:World} {ops:Array Oper} {rest:List Oper} {o:Oper} {a:Act} {Q:Exit→Act→World→Prop}
theorem wpList_wanted (hw:Region.wanted o (yielded ops a.tmps)=true) (h:∀ K:Act→World→Prop,(∀ a w,wpList P ops Q rest a w→K a w)→o.wp P a w K Q):wpList P ops Q (o :: rest) a w:=
 wpList_step fun K hK=>by simp only [hw,if_true];exact h K hK
theorem wpList_alloc_var (t:TypeId) (ho:o.op = .alloc t) (z:Value) (hz:∀ w:World,(zeroValue t).run P w = .ok z w)
  (cs:Array Value) (hcs:z.cells=cs)
  (h:wpList P ops Q rest (a.put o.dst (.pointer (some ⟨w.heap.size,0,none⟩))) (w.alloc (.cells cs t))) (hgd:Region.wanted o (yielded ops a.tmps)=true:=by first | (simp only [Region.wanted];done) | (simp [Region.wanted,yielded];done)):wpList P ops Q (o :: rest) a w:=by
 refine wpList_wanted hgd fun K hK => ?_
 unfold Oper.wp execOp
 subst hcs
 simp only [ho,Instr.alloc,Sem.run_bind,hz,Result.andThen_ok,newVar,newRow,run_newObj,Sem.run_pure]
 exact hK _ _ h
theorem wpList_bytes_string (src dst e:TypeId) (x:Operand) (ho:o.op = .convert src dst x) (hs:P.underlying src=some (.slice e)) (he:P.underlying e=some (.int .u8)) (hd:P.underlying dst=some .string)
  (b off len cap:Nat) (hx:a.eval x = .slice (some ⟨b,off,none⟩) len cap) (xs:List Int) (hlen:xs.length=len)
  (hcell:∀ i,i < len→w.cell? ⟨b,off + i,none⟩=some (.int .u8 (xs.getD i 0)))
  (h:wpList P ops Q rest (a.put o.dst (.string (strOfNums xs))) w) (hgd:Region.wanted o (yielded ops a.tmps)=true:=by first | (simp only [Region.wanted];done) | (simp [Region.wanted,yielded];done)):wpList P ops Q (o :: rest) a w:=by
 refine wpList_wanted hgd fun K hK => ?_
 unfold Oper.wp execOp
 simp only [ho,hx,Sem.run_bind,run_convert_bytes_arg w src e hs he b off len cap xs hlen hcell dst hd,Result.andThen_ok,Sem.run_pure]
 exact hK _ _ h
end
theorem xor32_ones (a:Nat) (ha:a < 4294967296):bits .xor .u32 (a:Int) 4294967295=((a ^^^ 4294967295:Nat):Int):=u32_xor_nat a 4294967295 ha (by omega)
theorem xor32_poly (a:Nat) (ha:a < 4294967296):bits .xor .u32 (a:Int) 3988292384=((a ^^^ 3988292384:Nat):Int):=u32_xor_nat a 3988292384 ha (by omega)
theorem xor32_half (a:Nat) (ha:a < 4294967296):bits .xor .u32 ((a:Int) / 2) 3988292384=((a / 2 ^^^ 3988292384:Nat):Int):=xor32_poly (a / 2) (by omega)
theorem Below_setRow {B:Nat} {a w:World} (h:Below B a w) {g:Nat} (hp:B≤g) (cs:Array Value):Below B a (w.setRow g cs):=
 h.trans ⟨rfl,rfl,rfl,by simp,fun k hk=>setRow_other _ _ _ _ (by omega)⟩
theorem step32 (n:Nat) (h:n < 4294967296):bits .xor .u32 ((n:Int) / 2) (bits .and .u32 3988292384 (-bits .and .u32 (n:Int) 1 % 4294967296))=(if n % 2=1 then (((n / 2) ^^^ 3988292384:Nat):Int) else ((n / 2:Nat):Int)):=by
 have h1:bits .and .u32 (n:Int) 1=((n % 2:Nat):Int):=by
  have:=u32_and_nat n 1 h (by omega)
  rw [Nat.and_one_is_mod] at this
  exact this
 rw [h1]
 by_cases e:n % 2=1
 ·rw [if_pos e,e]
  have h2:bits .and .u32 3988292384 (-((1:Nat):Int) % 4294967296)=3988292384:=by
   have:=u32_and_nat 3988292384 4294967295 (by omega) (by omega)
   exact this
  rw [h2];exact xor32_half n h
 ·have e0:n % 2=0:=by omega
  rw [if_neg e,e0]
  have h2:bits .and .u32 3988292384 (-((0:Nat):Int) % 4294967296)=0:=by
   have:=u32_and_nat 3988292384 0 (by omega) (by omega)
   rw [Nat.and_zero] at this
   exact this
  rw [h2]
  have:=u32_xor_nat (n / 2) 0 (by omega) (by omega)
  rw [Nat.xor_zero] at this
  exact this
theorem or32_256 (c b:Nat) (hc:c < 16777216) (hb:b < 256):bits .or .u32 ((c:Int) * 256) (b:Int)=((c * 256 + b:Nat):Int):=by
 have h:=u32_or_nat (c * 256) b (by omega) (by omega)
 have h2:c * 256 ||| b=c * 256 + b:=by
  have:=Nat.two_pow_add_eq_or_of_lt (i:=8) (b:=b) (by omega) c
  rw [Nat.mul_comm c 256];exact this.symm
 rw [h2] at h
 exact h
theorem or32_at (c b p i:Nat) (hp:p=2 ^ i) (hl:b < 4294967296) (hc:c * p < 4294967296) (hb:b < p):bits .or .u32 ((c * p:Nat):Int) (b:Int)=((c * p + b:Nat):Int):=by
 subst hp
 have h:=u32_or_nat (c * 2 ^ i) b hc hl
 have h2:c * 2 ^ i ||| b=c * 2 ^ i + b:=by
  have:=Nat.two_pow_add_eq_or_of_lt (i:=i) (b:=b) hb c
  rw [Nat.mul_comm c (2 ^ i)];exact this.symm
 rw [h2] at h
 exact h
theorem or4 (a b c d:Nat) (ha:a < 256) (hb:b < 256) (hc:c < 256) (hd:d < 256) :
  bits .or .u32 (bits .or .u32 (bits .or .u32 ((a:Int) * 16777216) ((b:Int) * 65536)) ((c:Int) * 256)) (d:Int)=((((a * 256 + b) * 256 + c) * 256 + d:Nat):Int):=by
 have e1:bits .or .u32 ((a:Int) * 16777216) ((b:Int) * 65536)=((a * 16777216 + b * 65536:Nat):Int):=or32_at a (b * 65536) 16777216 24 rfl (by omega) (by omega) (by omega)
 have e2:bits .or .u32 ((a * 16777216 + b * 65536:Nat):Int) ((c:Int) * 256)=((a * 16777216 + b * 65536 + c * 256:Nat):Int):=by
  have:=or32_at (a * 256 + b) (c * 256) 65536 16 rfl (by omega) (by omega) (by omega)
  rw [show (a * 256 + b) * 65536=a * 16777216 + b * 65536 from by omega] at this
  exact this
 have e3:bits .or .u32 ((a * 16777216 + b * 65536 + c * 256:Nat):Int) (d:Int)=((a * 16777216 + b * 65536 + c * 256 + d:Nat):Int):=by
  have:=or32_at (a * 65536 + b * 256 + c) d 256 8 rfl (by omega) (by omega) (by omega)
  rw [show (a * 65536 + b * 256 + c) * 256=a * 16777216 + b * 65536 + c * 256 from by omega] at this
  exact this
 rw [e1,e2,e3,show ((a * 256 + b) * 256 + c) * 256 + d=a * 16777216 + b * 65536 + c * 256 + d from by omega]
theorem getD_at {α:Type} {l:List α} {k:Nat} (d:α) (h:k < l.length):l.getD k d=l[k]:=by simp [h]
theorem owns_cell {w:World} {base:Nat} {e:TypeId} {v:Value} {n:Nat} {xs:List Value} (h:w.ownsRow base e 1 v n xs) (hn:0 < n) :
  ∃ g cap,v = .slice (some ⟨g,0,none⟩) n cap∧base≤g∧g < w.heap.size∧n≤cap∧∀ j,j < n→w.cell? ⟨g,0 + j,none⟩=xs[j]? ∧ w.frozen? ⟨g,0 + j,none⟩=false:=by
 obtain ⟨hl,h⟩:=h
 rcases h with ⟨_,h0⟩ | ⟨g,cap,cur,hv,hb,hg,hcap,_,hs,ht⟩
 ·omega
 ·refine ⟨g,cap,hv,hb,(Array.getElem?_eq_some_iff.1 hg).1,hcap,fun j hj=>⟨?_,frozen_of_row _ _ _ _ _ hg⟩⟩
  rw [cell_of_row _ _ _ _ _ _ hg,← ht,Nat.mul_one,List.getElem?_take,if_pos hj,Nat.zero_add,Array.getElem?_toList]
def u8v (b:UInt8):Value:=.int .u8 (b.toNat:Int)
theorem u8v_one (l:List UInt8):∀ u ∈ l.map u8v,u.oneCell'=true:=by
 intro u hu;obtain ⟨b,_,rfl⟩:=List.mem_map.1 hu;rfl
theorem strOfNums_u8 (bs:List UInt8):strOfNums (bs.map fun b=>(b.toNat:Int))=⟨bs.toArray⟩:=by
 simp only [strOfNums,List.map_map]
 congr 2
 conv=>rhs;rw [← List.map_id bs]
 apply List.map_congr_left
 intro b _
 simp
section
variable {P:Program} {w:World} {ops:Array Oper} {rest:List Oper} {o:Oper} {a:Act} {Q:Exit→Act→World→Prop}
theorem wpList_bytes_string_own (src dst e:TypeId) (x:Operand) (ho:o.op = .convert src dst x) (hs:P.underlying src=some (.slice e)) (he:P.underlying e=some (.int .u8)) (hd:P.underlying dst=some .string)
  (v:Value) (n base:Nat) (hx:a.eval x=v) (bs:List UInt8) (hown:w.ownsRow base e 1 v n (bs.map u8v))
  (h:wpList P ops Q rest (a.put o.dst (.string ⟨bs.toArray⟩)) w) (hgd:Region.wanted o (yielded ops a.tmps)=true:=by first | (simp only [Region.wanted];done) | (simp [Region.wanted,yielded];done)):wpList P ops Q (o :: rest) a w:=by
 have hlen:bs.length=n:=by have:=hown.1;simpa using this
 rcases Nat.eq_zero_or_pos n with h0 | h0
 ·subst h0
  have hb:bs=[]:=List.eq_nil_of_length_eq_zero hlen
  subst hb
  obtain ⟨_,⟨hv,_⟩ | ⟨g,cap,cur,hv,_,hg,_⟩⟩:=hown
  ·refine wpList_wanted hgd fun K hK => ?_
   unfold Oper.wp execOp
   rw [hv] at hx
   simp only [ho,hx,Sem.run_bind,run_convert_bytes_nil w src e hs he 0 0 dst hd,Result.andThen_ok,Sem.run_pure]
   exact hK _ _ h
  ·refine wpList_bytes_string src dst e x ho hs he hd g 0 0 cap (by rw [hx,hv]) [] rfl (fun i hi=>by omega) h hgd
 ·obtain ⟨g,cap,hv,_,_,_,hg⟩:=owns_cell hown h0
  refine wpList_bytes_string (hgd:=hgd) src dst e x ho hs he hd g 0 n cap (by rw [hx,hv]) (bs.map fun b=>(b.toNat:Int)) (by simpa using hlen) (fun i hi => ?_) (by rw [strOfNums_u8];exact h)
  rw [(hg i hi).1,getD_at _ (by simp;omega)]
  simp [u8v,hlen,hi]
end
def Exit.fwd (l:Nat) (J:Act→World→Prop) (Q:Exit→Act→World→Prop):Exit→Act→World→Prop
 | .goto l',a,w=>l'=l∧J a w
 | e,a,w=>Q e a w
section
variable {P:Program} {w:World} {a:Act} {Q:Exit→Act→World→Prop} {J:Act→World→Prop} {l:Nat}
@[go_sem] theorem Exit.fwd_normal:Exit.fwd l J Q .normal a w=Q .normal a w:=rfl
@[go_sem] theorem Exit.fwd_exit (id:Nat):Exit.fwd l J Q (.exit id) a w=Q (.exit id) a w:=rfl
@[go_sem] theorem Exit.fwd_ret:Exit.fwd l J Q .ret a w=Q .ret a w:=rfl
@[go_sem] theorem Exit.fwd_panic (ch:List PanicEntry):Exit.fwd l J Q (.panic ch) a w=Q (.panic ch) a w:=rfl
theorem Exit.fwd_goto (h:J a w):Exit.fwd l J Q (.goto l) a w:=⟨rfl,h⟩
theorem Exit.then_goto {K:Act→World→Prop} (h:Q (.goto l) a w):Exit.then K Q (.goto l) a w:=h
theorem wp_scope_fwd {c rest:Code} (l:Nat) (hf:findLabel c l=some rest) (h:c.wp P (Exit.fwd l (rest.wp P (Exit.noGoto Q)) Q) a w):(Code.scope c).wp P Q a w:=by
 refine wp_scope_jumps l (rest.wp P (Exit.noGoto Q)) (fun _ _=>0) hf (wp_mono h ?_) ?_
 ·intro e a w hq;cases e <;> exact hq
 ·intro a w hJ
  refine wp_mono hJ ?_
  intro e a w hq
  cases e <;> first | exact hq | exact hq.elim
end
open Go.Sort in
theorem Calls.regrown_same {P:Program} {f:FuncId} {args:Array Value} {w:World} {d:Nat} {os:Array Obj} {v:Value}
  (h:Calls P f args (grow (redrawn w d) os) fun e w'=>e = .returned v∧(grow (redrawn w d) os)=w'):Calls P f args (grow (redrawn w d) os) fun e w''=>e = .returned v∧∃ p:Regrown,w''=grow (redrawn w p.d) p.os:=
 h.mono fun _ _ ⟨he,hb⟩=>⟨he,⟨d,os⟩,hb.symm⟩
theorem Bt {w a b:World} (h:Below w.heap.size w a) (k:Below a.heap.size a b):Below w.heap.size w b:=h.trans (k.mono h.size)
section
variable {P:Program} {w:World} {ops:Array Oper} {rest:List Oper} {o:Oper} {a:Act} {Q:Exit→Act→World→Prop}
theorem wpList_string_bytes (src dst e:TypeId) (x:Operand) (ho:o.op = .convert src dst x) (hs:P.underlying src=some .string) (hd:P.underlying dst=some (.slice e)) (he:P.underlying e=some (.int .u8))
  (s:ByteArray) (hx:a.eval x = .string s)
  (h:∀ (w1:World) (cap:Nat),Below w.heap.size w w1→w.heap.size < w1.heap.size→(∀ (j:Nat) (x:UInt8),s.data.toList[j]? = some x→w1.cell? ⟨w.heap.size,j,none⟩=some (.int .u8 (x.toNat:Int))∧w1.frozen? ⟨w.heap.size,j,none⟩=false) →
    wpList P ops Q rest (a.put o.dst (.slice (some ⟨w.heap.size,0,none⟩) s.size cap)) w1) (hgd:Region.wanted o (yielded ops a.tmps)=true:=by first | (simp only [Region.wanted];done) | (simp [Region.wanted,yielded];done)):wpList P ops Q (o :: rest) a w:=by
 refine wpList_wanted hgd fun K hK => ?_
 unfold Oper.wp execOp
 simp only [ho,hx,Sem.run_bind,run_bytes_of_string w src dst e s hs hd he,Result.andThen_ok,Sem.run_pure]
 refine hK _ _ (h _ _ ((Below.refl _ _).drew.alloc (Nat.le_refl _) _) (by simp) fun j x hj => ?_)
 obtain ⟨hj',hv⟩:=List.getElem?_eq_some_iff.1 hj
 have hjs:j < s.data.size:=by simpa using hj'
 have e1:=World.cell?_alloc_mark w.drew (bytesRow s (grownCap w s.size 0 e)) e ((bytesRow s (grownCap w s.size 0 e)).size,(bytesRow s (grownCap w s.size 0 e)).size + 1) j
 have e2:=World.frozen?_alloc_mark w.drew (bytesRow s (grownCap w s.size 0 e)) e (bytesRow s (grownCap w s.size 0 e)).size ((bytesRow s (grownCap w s.size 0 e)).size + 1) j
 refine ⟨e1.trans ?_,e2.trans ?_⟩
 ·rw [bytesRow_at s _ j hjs,← hv];simp
 ·have:¬ (bytesRow s (grownCap w s.size 0 e)).size≤j:=by
   have hjs2:j < s.size:=hjs
   unfold bytesRow;simp;omega
  simp [this]
end
theorem strOfNums_list (B:ByteArray):strOfNums (B.data.toList.map fun b=>(b.toNat:Int))=B:=by
 rw [strOfNums_u8]
section
variable {P:Program} {w:World} {ops:Array Oper} {rest:List Oper} {o:Oper} {a:Act} {Q:Exit→Act→World→Prop}
theorem wpList_make_row (l c:Operand) (t:TypeId) (hop:o.op=Op.makeSlice t l c)
  (e:TypeId) (i:TypeInfo) (z:Value) (h1:P.underlying t=some (.slice e)) (h2:P.info? e=some i) (h3:i.zero=some z) (h4:i.size=1) (hz:z.cells=#[z])
  (kl kc:IntKind) (n:Nat) (hl:a.eval l = .int kl (n:Int)) (hc:a.eval c = .int kc (n:Int)) (b2:i.bytes * n≤281474976710656) (b3:n≤maxLen)
  (h:∀ w1:World,Below w.heap.size w w1→w.heap.size < w1.heap.size→w1.heap[w.heap.size]? = some (.cells (Array.replicate n z) e (0,0))→wpList P ops Q rest (a.put o.dst (.slice (some ⟨w.heap.size,0,none⟩) n n)) w1) (hgd:Region.wanted o (yielded ops a.tmps)=true:=by first | (simp only [Region.wanted];done) | (simp [Region.wanted,yielded];done)) :
  wpList P ops Q (o :: rest) a w:=by
 refine wpList_wanted hgd fun K hK => ?_
 obtain ⟨w',hrun,r1,r2⟩:=run_make_full (P:=P) w w.heap.size t e i z 1 h1 h2 h3 h4 kl kc n b2 b3 (Nat.le_refl _)
 unfold Oper.wp
 simp only [execOp,hop,hl,hc,hrun,Result.andThen,Sem.run_bind,Sem.run_pure]
 refine hK _ _ (h w' ((Below.refl _ _).grown r2 (Nat.le_refl _) (fun k e=>by cases e)) ?_ ?_)
 ·obtain ⟨_,⟨hv,_⟩ | ⟨g,cap,cur,hv,_,hg,_⟩⟩:=r1
  ·cases hv
  ·cases hv;exact (Array.getElem?_eq_some_iff.1 hg).1
 ·obtain ⟨_,⟨hv,_⟩ | ⟨g,cap,cur,hv,_,hg,_,_,hs,ht⟩⟩:=r1
  ·cases hv
  ·cases hv
   rw [hg,hz,toList_madeCells_one] at *
   rw [List.take_of_length_le (by simp [hs])] at ht
   have:cur=Array.replicate n z:=by
    apply Array.toList_inj.1
    rw [ht];simp
   rw [this]
end
section
variable {P:Program} {w:World} {ops:Array Oper} {rest:List Oper} {a:Act} {Q:Exit→Act→World→Prop}
theorem at_conv (src dst:Nat) {x:Operand} {d:Option Tmp} {t:TypeId} {p:String} {es:Array Edge} {g:Option (Nat×Bool)} (h:wpList P ops Q ({ dst:=d,op:=.convert src dst x,type:=t,pos:=p,after:=es,guard:=g } :: rest) a w) :
  wpList P ops Q ({ dst:=d,op:=.convert src dst x,type:=t,pos:=p,after:=es,guard:=g } :: rest) a w:=h
theorem at_convx (src dst x:Nat) {d:Option Tmp} {t:TypeId} {p:String} {es:Array Edge} {g:Option (Nat×Bool)} (h:wpList P ops Q ({ dst:=d,op:=.convert src dst (.tmp x),type:=t,pos:=p,after:=es,guard:=g } :: rest) a w) :
  wpList P ops Q ({ dst:=d,op:=.convert src dst (.tmp x),type:=t,pos:=p,after:=es,guard:=g } :: rest) a w:=h
end
theorem alloc_cell {W:World} {cs:Array Value} {t:TypeId} {g:Nat} (i:Nat) (hg:g=W.heap.size):(W.alloc (.cells cs t)).cell? ⟨g,0 + i,none⟩=cs[i]? := by
 subst hg;rw [cell_of_row _ _ _ _ _ _ (heap_alloc_new _ _),Nat.zero_add]
section
variable {P:Program} {ops:Array Oper} {o:Oper} {a:Act} {w:World} {K:Act→World→Prop} {Q:Exit→Act→World→Prop} {E:Prop}
theorem step_bytes_string (src dst e:TypeId) (x:Operand) (ho:o.op = .convert src dst x) (hs:P.underlying src=some (.slice e)) (he:P.underlying e=some (.int .u8)) (hd:P.underlying dst=some .string)
  (b off len cap:Nat) (hx:a.eval x = .slice (some ⟨b,off,none⟩) len cap) (xs:List Int) (hlen:xs.length=len)
  (hcell:∀ i,i < len→w.cell? ⟨b,off + i,none⟩=some (.int .u8 (xs.getD i 0))) (hw:Region.wanted o (yielded ops a.tmps)=true)
  (hK:K (a.put o.dst (.string (strOfNums xs))) w):if Region.wanted o (yielded ops a.tmps)=true then Oper.wp P o a w K Q else E:=by
 rw [if_pos hw]
 unfold Oper.wp execOp
 simp only [ho,hx,Sem.run_bind,run_convert_bytes_arg w src e hs he b off len cap xs hlen hcell dst hd,Result.andThen_ok,Sem.run_pure]
 exact hK
theorem step_make_row (l c:Operand) (t:TypeId) (hop:o.op=Op.makeSlice t l c)
  (e:TypeId) (i:TypeInfo) (z:Value) (h1:P.underlying t=some (.slice e)) (h2:P.info? e=some i) (h3:i.zero=some z) (h4:i.size=1) (hz:z.cells=#[z])
  (kl kc:IntKind) (n:Nat) (hl:a.eval l = .int kl (n:Int)) (hc:a.eval c = .int kc (n:Int)) (b2:i.bytes * n≤281474976710656) (b3:n≤maxLen) (hw:Region.wanted o (yielded ops a.tmps)=true)
  (h:∀ w1:World,Below w.heap.size w w1→w.heap.size < w1.heap.size→w1.heap[w.heap.size]? = some (.cells (Array.replicate n z) e (0,0))→K (a.put o.dst (.slice (some ⟨w.heap.size,0,none⟩) n n)) w1) :
  if Region.wanted o (yielded ops a.tmps)=true then Oper.wp P o a w K Q else E:=by
 rw [if_pos hw]
 obtain ⟨w',hrun,r1,r2⟩:=run_make_full (P:=P) w w.heap.size t e i z 1 h1 h2 h3 h4 kl kc n b2 b3 (Nat.le_refl _)
 unfold Oper.wp
 simp only [execOp,hop,hl,hc,hrun,Result.andThen,Sem.run_bind,Sem.run_pure]
 refine h w' ((Below.refl _ _).grown r2 (Nat.le_refl _) (fun k e=>by cases e)) ?_ ?_
 ·obtain ⟨_,⟨hv,_⟩ | ⟨g,cap,cur,hv,_,hg,_⟩⟩:=r1
  ·cases hv
  ·cases hv;exact (Array.getElem?_eq_some_iff.1 hg).1
 ·obtain ⟨_,⟨hv,_⟩ | ⟨g,cap,cur,hv,_,hg,_,_,hs,ht⟩⟩:=r1
  ·cases hv
  ·cases hv
   rw [hg,hz,toList_madeCells_one] at *
   rw [List.take_of_length_le (by simp [hs])] at ht
   have:cur=Array.replicate n z:=by
    apply Array.toList_inj.1
    rw [ht];simp
   rw [this]
end
def SlOf (w:World) (v:Value) (cs:List Value):Prop:=
 cs.length≤maxLen∧∃ a cap,v = .slice a cs.length cap∧(0 < cs.length→∃ b off,a=some ⟨b,off,none⟩∧b < w.heap.size∧∀ j,(h:j < cs.length)→w.cell? ⟨b,off + j,none⟩=some cs[j])
theorem SlOf.below {w w':World} {v:Value} {cs:List Value} (h:SlOf w v cs) (hb:Below w.heap.size w w'):SlOf w' v cs:=by
 obtain ⟨h0,a,cap,hv,hc⟩:=h
 refine ⟨h0,a,cap,hv,fun hp => ?_⟩
 obtain ⟨b,off,ha,hlt,hcell⟩:=hc hp
 exact ⟨b,off,ha,Nat.lt_of_lt_of_le hlt hb.size,fun j hj=>(hb.cell (p:=⟨b,off + j,none⟩) hlt).trans (hcell j hj)⟩
theorem SlOf.owned {w:World} {base:Nat} {e:TypeId} {v:Value} {n:Nat} {xs:List Value} (h:w.ownsRow base e 1 v n xs):SlOf w v xs:=by
 have hl:xs.length=n:=by have:=h.1;omega
 rcases Nat.eq_zero_or_pos n with h0 | h0
 ·subst h0
  have hx:xs=[]:=List.eq_nil_of_length_eq_zero hl
  subst hx
  obtain ⟨_,⟨hv,_⟩ | ⟨g,cap,cur,hv,_⟩⟩:=h
  ·exact ⟨Nat.zero_le _,none,0,hv,fun hp=>absurd hp (by simp)⟩
  ·exact ⟨Nat.zero_le _,some ⟨g,0,none⟩,cap,hv,fun hp=>absurd hp (by simp)⟩
 ·obtain ⟨g,cap,hv,_,hlt,hcap,hc⟩:=owns_cell h h0
  have hm:n≤maxLen:=by
   obtain ⟨_,⟨_,h1⟩ | ⟨_,_,_,hv',_,_,h1,h2,_⟩⟩:=h
   ·omega
   ·exact Nat.le_trans h1 h2
  subst hl
  exact ⟨hm,some ⟨g,0,none⟩,cap,hv,fun _=>⟨g,0,rfl,hlt,fun j hj=>by rw [(hc j hj).1,List.getElem?_eq_getElem hj]⟩⟩
theorem SlOf.nil (w:World):SlOf w (.slice none 0 0) []:=⟨Nat.zero_le _,none,0,rfl,fun hp=>absurd hp (by simp)⟩
section
variable {P:Program} {w:World} {H:Type} {enc:TypeId×Value→H}
theorem open_strs_sl {r:Reach} {b0:Nat} {base:Nat} {held:Bool} {t e:TypeId} {v:Value} {d:DataW H} {ps:List MemPlace} (ht:P.underlying t=some (.slice e)) (he:P.underlying e=some .string) (hc:P.cellsOf e=1)
  (hval:Value.okWide P w r b0 t v) (hd:DataW.Trod enc P w base (fun _=>true) held t v d ps):∃ ss:List ByteArray,SlOf w v (ss.map .string)∧∀ s ∈ ss,s.size≤maxLen:=by
 obtain ⟨a0,len0,cap0,rfl⟩:=Go.WideShapes.okWide_slice ht hval
 obtain ⟨fuel,hf⟩:=hd
 rcases Go.ChangeShapes.open_strings ht he hc hf with ⟨hcs,_⟩ | ⟨a,len,cap,ss,hcs,_,hl,hm,hz,_,hcell,hsz⟩
 ·simp [Value.cells] at hcs
  obtain ⟨rfl,rfl,rfl⟩:=hcs
  exact ⟨[],SlOf.nil w,fun s hs=>by cases hs⟩
 ·simp [Value.cells] at hcs
  obtain ⟨rfl,rfl,rfl⟩:=hcs
  have hz':ss.length=cap0:=by simpa using hz
  have hlen:((ss.take len0).map Value.string).length=len0:=by simp;omega
  refine ⟨ss.take len0,⟨by rw [hlen];omega,some a,cap0,by rw [hlen],fun hp => ?_⟩,fun s hs=>hsz s (List.mem_of_mem_take hs)⟩
  rw [hlen] at hp
  obtain ⟨ab,ao,asp⟩:=a
  have h0:=hcell 0 (by omega)
  cases asp with
  | some x=>exfalso;simp [Addr.add,World.cell?] at h0;split at h0 <;> simp at h0
  | none=>
    refine ⟨ab,ao,rfl,World.block_lt_of_cell? w _ h0,fun j hj => ?_⟩
    rw [hlen] at hj
    have:=hcell j (by omega)
    have hadd:(⟨ab,ao,none⟩:Addr).add j=⟨ab,ao + j,none⟩:=by unfold Addr.add;split <;> simp_all
    rw [hadd] at this
    rw [this,getD_at _ (by omega)]
    simp
end
theorem sls_open {w:World} {v:Value} {ss:List ByteArray} (h:SlOf w v (ss.map .string)):∃ a cap,v = .slice a ss.length cap∧ss.length≤9223372036854775807 ∧
  ∀ k,(hk:k < ss.length)→∃ b off,a=some ⟨b,off,none⟩∧b < w.heap.size∧w.cell? ⟨b,off + k,none⟩=some (.string ss[k]):=by
 obtain ⟨h0,a,cap,hv,hc⟩:=h
 simp only [List.length_map] at h0 hv hc
 refine ⟨a,cap,hv,by unfold maxLen at h0;omega,fun k hk => ?_⟩
 obtain ⟨b,off,ha,hb,hcell⟩:=hc (by omega)
 exact ⟨b,off,ha,hb,by rw [hcell k hk];simp⟩
theorem joinl_owned {w:World} {base:Nat} {e:TypeId} {v:Value} {n:Nat} {xs ys:List Value} (h:w.ownsRow base e 1 v n xs) (e2:xs=ys):w.ownsRow base e 1 v n ys:=e2 ▸ h
theorem Below.grownNone {w w':World} (hb:Below w.heap.size w w'):w.grownBy w' none:=⟨hb.os,hb.tape,hb.output,hb.size,fun k hk _=>hb.block k hk⟩
theorem owns_below {w w':World} {base:Nat} {e:TypeId} {size:Nat} {v:Value} {n:Nat} {xs:List Value} (h:w.ownsRow base e size v n xs) (hb:Below w.heap.size w w'):w'.ownsRow base e size v n xs:=by
 refine h.kept (Below.grownNone hb) ?_
 cases hv:v.ownBlock with
 | none=>exact .inl rfl
 | some k=>exact .inr (by simp)
theorem str_inj {x y:ByteArray} (h:x.toList=y.toList):x=y:=by
 rw [ByteArray.toList_eq,ByteArray.toList_eq] at h
 exact ByteArray.ext (Array.toList_inj.1 h)
theorem str_ne {x y:ByteArray} (h:(!x.toList == y.toList)=true):x≠y:=by
 intro e;subst e;simp at h
theorem str_eq {x y:ByteArray} (h:(!x.toList == y.toList)=false):x=y:=by
 simp at h;exact str_inj h
theorem str_eq' {x y:ByteArray} (h:(x.toList == y.toList)=true):x=y:=str_inj (by simpa using h)
theorem str_ne' {x y:ByteArray} (h:(x.toList == y.toList)=false):x≠y:=by
 intro e;subst e;simp at h
end Go
