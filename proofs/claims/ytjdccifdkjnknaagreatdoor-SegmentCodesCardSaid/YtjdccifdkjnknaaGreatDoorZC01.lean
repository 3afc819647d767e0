/- Joined. -/
import Derived.WalkSpells
import Derived.WalkLawsBesides
import Derived.Deep.RegionLaw
import Derived.StillTailTactics
import Derived.SliceStrings
import Derived.Lib.Hide
import Derived.Lib.QuietBelow
import Derived.BigQuiet
import Derived.Test.YtjdccifdkjnknaaGreatDoorRows
import Derived.RangeFuncCalls
set_option maxHeartbeats 1000000
set_option linter.defProp false
def zI:=@Go.Exit.noGoto_ret
def zh:=@Go.cell_one_new
def zi:=@Go.below_drewN
def jE:=@Go.getD_replicate_false
def jK:=@Go.Oper.semAt_some
def jR:=@Go.rounds_succ
def jT:=@Go.wpList_append_own_at
def jZ:=@Go.mem_ready
def jj:=@Go.ready_mono
def jv:=@Go.wp_loop_rounds
def yK:=@Go.execOp_put
def yS:=@Go.wanted_put
def yT:=@Go.Region.noSelect_spec
def yc:=@Go.wp_region_quiet_below
def yn:=@Go.Act.put_comm
def yu:=@Go.CallsIn.inRound
def yy:=@Go.Region.free_spec
def xN:=@Go.Oper.apart_spec
def xP:=@Go.getD_set_ne
def xQ:=@Go.Calls.regrown_of
def xm:=@Go.below_regrown
def qAi:=@Go.wp_region_any
def qAl:=@Go.wpQuiet_nil
def qAr:=@Go.getD_both
def qAy:=@Go.tail_waits
def qBh:=@Go.wp_scope_straight
theorem Xq{A:Sort _}(a:A):∃x,x=a:=⟨_,rfl⟩
theorem XQ{A:Sort _}(a:A):∃x,a=x:=⟨_,rfl⟩
namespace Go.Proofs
theorem Hd{p:Prop}(h:p):RowKit.Hid p:=Lib.hid h
end Go.Proofs
namespace Go
open Go.RowKit
section
variable {P:Program} {w:World} {ops:Array Oper} {rest:List Oper} {o:Oper} {a:Act} {Q:Exit->Act->World->Prop}
theorem wLw(hw:Region.wanted o (yielded ops a.tmps)=true)(h:∀K:Act->World->Prop,(∀a w,wpList P ops Q rest a w->K a w)->o.wp P a w K Q):wpList P ops Q (o::rest) a w:=
 wpList_step fun K hK=>by simp only[hw,if_true];exact h K hK
theorem wLa2(t:TypeId)(ho:o.op = .alloc t)(z:Value)(hz:∀w:World,(zeroValue t).run P w = .ok z w)
  (cs:Array Value) (hcs:z.cells=cs)
  (h:wpList P ops Q rest (a.put o.dst (.pointer (some ⟨w.heap.size,0,none⟩))) (w.alloc (.cells cs t))) (hgd:Region.wanted o (yielded ops a.tmps)=true:=by first|(simp only[Region.wanted];done)|(simp[Region.wanted,yielded];done)):wpList P ops Q (o::rest) a w:=by
 refine wLw hgd fun K hK=>?_;unfold Oper.wp execOp;subst hcs;simp only[ho,Instr.alloc,Sem.run_bind,hz,Result.andThen_ok,newVar,newRow,run_newObj,Sem.run_pure];exact hK _ _ h
theorem wLb2(src dst e:TypeId)(x:Operand)(ho:o.op = .convert src dst x)(hs:P.underlying src=some (.slice e))(he:P.underlying e=some (.int .u8))(hd:P.underlying dst=some .string)
  (b off len cap:Nat) (hx:a.eval x = .slice (some ⟨b,off,none⟩) len cap) (xs:List Int) (hlen:xs.length=len)
  (hcell:∀i,i<len->w.cell? ⟨b,off+i,none⟩=some (.int .u8 (xs.getD i 0)))
  (h:wpList P ops Q rest (a.put o.dst (.string (strOfNums xs))) w) (hgd:Region.wanted o (yielded ops a.tmps)=true:=by first|(simp only[Region.wanted];done)|(simp[Region.wanted,yielded];done)):wpList P ops Q (o::rest) a w:=by
 refine wLw hgd fun K hK=>?_;unfold Oper.wp execOp;simp only[ho,hx,Sem.run_bind,run_convert_bytes_arg w src e hs he b off len cap xs hlen hcell dst hd,Result.andThen_ok,Sem.run_pure];exact hK _ _ h
end
theorem xo2(a:Nat)(ha:a<4294967296):bits .xor .u32 (a:Int) 4294967295=((a ^^^ 4294967295:Nat):Int):=u32_xor_nat a 4294967295 ha (by omega)
theorem xp2(a:Nat)(ha:a<4294967296):bits .xor .u32 (a:Int) 3988292384=((a ^^^ 3988292384:Nat):Int):=u32_xor_nat a 3988292384 ha (by omega)
theorem xh(a:Nat)(ha:a<4294967296):bits .xor .u32 ((a:Int)/2) 3988292384=((a/2 ^^^ 3988292384:Nat):Int):=xp2 (a/2) (by omega)
theorem BsR{B:Nat}{a w:World}(h:Below B a w){g:Nat}(hp:B<=g)(cs:Array Value):Below B a (w.setRow g cs):=
 h.trans ⟨rfl,rfl,rfl,by simp,fun k hk=>setRow_other _ _ _ _ (by omega)⟩
theorem st5(n:Nat)(h:n<4294967296):bits .xor .u32 ((n:Int)/2) (bits .and .u32 3988292384 (-bits .and .u32 (n:Int) 1%4294967296))=(if n%2=1 then(((n/2) ^^^ 3988292384:Nat):Int)else((n/2:Nat):Int)):=by
 have h1:bits .and .u32 (n:Int) 1=((n%2:Nat):Int):=by have:=u32_and_nat n 1 h (by omega);rw[Nat.and_one_is_mod]at this;exact this
 rw[h1];by_cases e:n%2=1
 ·rw[if_pos e,e]
  have h2:bits .and .u32 3988292384 (-((1:Nat):Int)%4294967296)=3988292384:=by have:=u32_and_nat 3988292384 4294967295 (by omega) (by omega);exact this
  rw[h2];exact xh n h
 ·have e0:n%2=0:=by omega
  rw[if_neg e,e0]
  have h2:bits .and .u32 3988292384 (-((0:Nat):Int)%4294967296)=0:=by have:=u32_and_nat 3988292384 0 (by omega) (by omega);rw[Nat.and_zero]at this;exact this
  rw[h2];have:=u32_xor_nat (n/2) 0 (by omega) (by omega);rw[Nat.xor_zero]at this;exact this
theorem o22(c b:Nat)(hc:c<16777216)(hb:b<256):bits .or .u32 ((c:Int)*256) (b:Int)=((c*256+b:Nat):Int):=by
 have h:=u32_or_nat (c*256) b (by omega) (by omega)
 have h2:c*256 ||| b=c*256+b:=by have:=Nat.two_pow_add_eq_or_of_lt (i:=8) (b:=b) (by omega) c;rw[Nat.mul_comm c 256];exact this.symm
 rw[h2]at h;exact h
theorem oa5(c b p i:Nat)(hp:p=2^i)(hl:b<4294967296)(hc:c*p<4294967296)(hb:b<p):bits .or .u32 ((c*p:Nat):Int) (b:Int)=((c*p+b:Nat):Int):=by
 subst hp;have h:=u32_or_nat (c*2^i) b hc hl
 have h2:c*2^i ||| b=c*2^i+b:=by have:=Nat.two_pow_add_eq_or_of_lt (i:=i) (b:=b) hb c;rw[Nat.mul_comm c (2^i)];exact this.symm
 rw[h2]at h;exact h
theorem or4(a b c d:Nat)(ha:a<256)(hb:b<256)(hc:c<256)(hd:d<256) :
  bits .or .u32 (bits .or .u32 (bits .or .u32 ((a:Int)*16777216) ((b:Int)*65536)) ((c:Int)*256)) (d:Int)=((((a*256+b)*256+c)*256+d:Nat):Int):=by
 have e1:bits .or .u32 ((a:Int)*16777216) ((b:Int)*65536)=((a*16777216+b*65536:Nat):Int):=oa5 a (b*65536) 16777216 24 rfl (by omega) (by omega) (by omega)
 have e2:bits .or .u32 ((a*16777216+b*65536:Nat):Int) ((c:Int)*256)=((a*16777216+b*65536+c*256:Nat):Int):=by have:=oa5 (a*256+b) (c*256) 65536 16 rfl (by omega) (by omega) (by omega);rw[show(a*256+b)*65536=a*16777216+b*65536 from by omega]at this;exact this
 have e3:bits .or .u32 ((a*16777216+b*65536+c*256:Nat):Int) (d:Int)=((a*16777216+b*65536+c*256+d:Nat):Int):=by have:=oa5 (a*65536+b*256+c) d 256 8 rfl (by omega) (by omega) (by omega);rw[show(a*65536+b*256+c)*256=a*16777216+b*65536+c*256 from by omega]at this;exact this
 rw[e1,e2,e3,show((a*256+b)*256+c)*256+d=a*16777216+b*65536+c*256+d from by omega]
theorem getD_at{α:Type}{l:List α}{k:Nat}(d:α)(h:k<l.length):l.getD k d=l[k]:=by simp[h]
theorem oc2{w:World}{base:Nat}{e:TypeId}{v:Value}{n:Nat}{xs:List Value}(h:w.ownsRow base e 1 v n xs)(hn:0<n) :
  ∃g cap,v = .slice (some ⟨g,0,none⟩) n cap/\base<=g/\g<w.heap.size/\n<=cap/\∀j,j<n->w.cell? ⟨g,0+j,none⟩=xs[j]?/\w.frozen? ⟨g,0+j,none⟩=false:=by
 obtain⟨hl,h⟩:=h;rcases h with⟨_,h0⟩|⟨g,cap,Ab,hv,hb,hg,Aa,_,hs,ht⟩
 ·omega
 ·refine⟨g,cap,hv,hb,(Array.getElem?_eq_some_iff.1 hg).1,Aa,fun j hj=>⟨?_,frozen_of_row _ _ _ _ _ hg⟩⟩;rw[cell_of_row _ _ _ _ _ _ hg,<-ht,Nat.mul_one,List.getElem?_take,if_pos hj,Nat.zero_add,Array.getElem?_toList]
def u8v(b:UInt8):Value:=.int .u8 (b.toNat:Int)
theorem uo2(l:List UInt8):∀u∈l.map u8v,u.oneCell'=true:=by intro u hu;obtain⟨b,_,rfl⟩:=List.mem_map.1 hu;rfl
theorem sON2(bs:List UInt8):strOfNums (bs.map fun b=>(b.toNat:Int))=⟨bs.toArray⟩:=by
 simp only[strOfNums,List.map_map];congr 2
 conv=>rhs;rw[<-List.map_id bs]
 apply List.map_congr_left;intro b _;simp
section
variable {P:Program} {w:World} {ops:Array Oper} {rest:List Oper} {o:Oper} {a:Act} {Q:Exit->Act->World->Prop}
theorem wLb(src dst e:TypeId)(x:Operand)(ho:o.op = .convert src dst x)(hs:P.underlying src=some (.slice e))(he:P.underlying e=some (.int .u8))(hd:P.underlying dst=some .string)
  (v:Value) (n base:Nat) (hx:a.eval x=v) (bs:List UInt8) (hown:w.ownsRow base e 1 v n (bs.map u8v))
  (h:wpList P ops Q rest (a.put o.dst (.string ⟨bs.toArray⟩)) w) (hgd:Region.wanted o (yielded ops a.tmps)=true:=by first|(simp only[Region.wanted];done)|(simp[Region.wanted,yielded];done)):wpList P ops Q (o::rest) a w:=by
 have Aa:bs.length=n:=by have:=hown.1;simpa using this
 rcases Nat.eq_zero_or_pos n with h0|h0
 ·subst h0;have hb:bs=[]:=List.eq_nil_of_length_eq_zero Aa;subst hb;obtain⟨_,⟨hv,_⟩|⟨g,Ab,Ac,hv,_,hg,_⟩⟩:=hown
  ·refine wLw hgd fun K hK=>?_;unfold Oper.wp execOp;rw[hv]at hx;simp only[ho,hx,Sem.run_bind,run_convert_bytes_nil w src e hs he 0 0 dst hd,Result.andThen_ok,Sem.run_pure];exact hK _ _ h
  ·refine wLb2 src dst e x ho hs he hd g 0 0 Ab (by rw[hx,hv]) [] rfl (fun i hi=>by omega) h hgd
 ·obtain⟨g,Ab,hv,_,_,_,hg⟩:=oc2 hown h0;refine wLb2 (hgd:=hgd) src dst e x ho hs he hd g 0 n Ab (by rw[hx,hv]) (bs.map fun b=>(b.toNat:Int)) (by simpa using Aa) (fun i hi=>?_) (by rw[sON2];exact h);rw[(hg i hi).1,getD_at _ (by simp;omega)];simp[u8v,Aa,hi]
end
def Exit.fwd(l:Nat)(J:Act->World->Prop)(Q:Exit->Act->World->Prop):Exit->Act->World->Prop
 |.goto l',a,w=>l'=l/\J a w
 |e,a,w=>Q e a w
section
variable {P:Program} {w:World} {a:Act} {Q:Exit->Act->World->Prop} {J:Act->World->Prop} {l:Nat}
@[go_sem] theorem Exit.fn6:Exit.fwd l J Q .normal a w=Q .normal a w:=rfl
@[go_sem] theorem Exit.fe2(id:Nat):Exit.fwd l J Q (.exit id) a w=Q (.exit id) a w:=rfl
@[go_sem] theorem Exit.fr2:Exit.fwd l J Q .ret a w=Q .ret a w:=rfl
@[go_sem] theorem Exit.fp4(ch:List PanicEntry):Exit.fwd l J Q (.panic ch) a w=Q (.panic ch) a w:=rfl
theorem Exit.fg2(h:J a w):Exit.fwd l J Q (.goto l) a w:=⟨rfl,h⟩
theorem Exit.tg2{K:Act->World->Prop}(h:Q (.goto l) a w):Exit.then K Q (.goto l) a w:=h
theorem wsf{c rest:Code}(l:Nat)(hf:findLabel c l=some rest)(h:c.wp P (Exit.fwd l (rest.wp P (Exit.noGoto Q)) Q) a w):(Code.scope c).wp P Q a w:=by
 refine wp_scope_jumps l (rest.wp P (Exit.noGoto Q)) (fun _ _=>0) hf (wp_mono h ?_) ?_
 ·intro e a w hq;cases e<;>exact hq
 ·intro a w hJ;refine wp_mono hJ ?_;intro e a w hq;cases e<;>first|exact hq|exact hq.elim
end
open Go.Sort in
theorem Calls.rs3{P:Program}{f:FuncId}{args:Array Value}{w:World}{d:Nat}{os:Array Obj}{v:Value}
  (h:Calls P f args (grow (redrawn w d) os) fun e w'=>e = .returned v/\(grow (redrawn w d) os)=w'):Calls P f args (grow (redrawn w d) os) fun e w''=>e = .returned v/\∃p:Regrown,w''=grow (redrawn w p.d) p.os:=
 h.mono fun _ _ ⟨he,hb⟩=>⟨he,⟨d,os⟩,hb.symm⟩
theorem Bt{w a b:World}(h:Below w.heap.size w a)(k:Below a.heap.size a b):Below w.heap.size w b:=h.trans (k.mono h.size)
section
variable {P:Program} {w:World} {ops:Array Oper} {rest:List Oper} {o:Oper} {a:Act} {Q:Exit->Act->World->Prop}
end
theorem sON(B:ByteArray):strOfNums (B.data.toList.map fun b=>(b.toNat:Int))=B:=by rw[sON2]
section
variable {P:Program} {w:World} {ops:Array Oper} {rest:List Oper} {o:Oper} {a:Act} {Q:Exit->Act->World->Prop}
theorem wpList_make_row(l c:Operand)(t:TypeId)(hop:o.op=Op.makeSlice t l c)
  (e:TypeId) (i:TypeInfo) (z:Value) (h1:P.underlying t=some (.slice e)) (h2:P.info? e=some i) (h3:i.zero=some z) (h4:i.size=1) (hz:z.cells=#[z])
  (kl kc:IntKind) (n:Nat) (hl:a.eval l = .int kl (n:Int)) (hc:a.eval c = .int kc (n:Int)) (b2:i.bytes*n<=281474976710656) (b3:n<=maxLen)
  (h:∀w1:World,Below w.heap.size w w1->w.heap.size<w1.heap.size->w1.heap[w.heap.size]?=some (.cells (Array.replicate n z) e (0,0))->wpList P ops Q rest (a.put o.dst (.slice (some ⟨w.heap.size,0,none⟩) n n)) w1) (hgd:Region.wanted o (yielded ops a.tmps)=true:=by first|(simp only[Region.wanted];done)|(simp[Region.wanted,yielded];done)) :
  wpList P ops Q (o::rest) a w:=by
 refine wLw hgd fun K hK=>?_;obtain⟨w',Aa,r1,r2⟩:=run_make_full (P:=P) w w.heap.size t e i z 1 h1 h2 h3 h4 kl kc n b2 b3 (Nat.le_refl _);unfold Oper.wp;simp only[execOp,hop,hl,hc,Aa,Result.andThen,Sem.run_bind,Sem.run_pure];refine hK _ _ (h w' ((Below.refl _ _).grown r2 (Nat.le_refl _) (fun k e=>by cases e)) ?_ ?_)
 ·obtain⟨_,⟨hv,_⟩|⟨g,Ac,Ab,hv,_,hg,_⟩⟩:=r1
  ·cases hv
  ·cases hv;exact(Array.getElem?_eq_some_iff.1 hg).1
 ·obtain⟨_,⟨hv,_⟩|⟨g,Ac,Ab,hv,_,hg,_,_,hs,ht⟩⟩:=r1
  ·cases hv
  ·cases hv
   rw[hg,hz,toList_madeCells_one]at *;rw[List.take_of_length_le (by simp[hs])]at ht
   have:Ab=Array.replicate n z:=by apply Array.toList_inj.1;rw[ht];simp
   rw[this]
end
section
variable {P:Program} {w:World} {ops:Array Oper} {rest:List Oper} {a:Act} {Q:Exit->Act->World->Prop}
theorem ac2(src dst:Nat){x:Operand}{d:Option Tmp}{t:TypeId}{p:String}{es:Array Edge}{g:Option (Nat×Bool)}(h:wpList P ops Q ({ dst:=d,op:=.convert src dst x,type:=t,pos:=p,after:=es,guard:=g }::rest) a w) :
  wpList P ops Q ({ dst:=d,op:=.convert src dst x,type:=t,pos:=p,after:=es,guard:=g }::rest) a w:=h
end
section
variable {P:Program} {ops:Array Oper} {o:Oper} {a:Act} {w:World} {K:Act->World->Prop} {Q:Exit->Act->World->Prop} {E:Prop}
end
def SlOf(w:World)(v:Value)(cs:List Value):Prop:=
 cs.length<=maxLen/\∃a cap,v = .slice a cs.length cap/\(0<cs.length->∃b off,a=some ⟨b,off,none⟩/\b<w.heap.size/\∀j,(h:j<cs.length)->w.cell? ⟨b,off+j,none⟩=some cs[j])
theorem SlOf.below{w w':World}{v:Value}{cs:List Value}(h:SlOf w v cs)(hb:Below w.heap.size w w'):SlOf w' v cs:=by obtain⟨h0,a,Ad,hv,hc⟩:=h;refine⟨h0,a,Ad,hv,fun hp=>?_⟩;obtain⟨b,Ac,ha,Ab,Aa⟩:=hc hp;exact⟨b,Ac,ha,Nat.lt_of_lt_of_le Ab hb.size,fun j hj=>(hb.cell (p:=⟨b,Ac+j,none⟩) Ab).trans (Aa j hj)⟩
theorem SlOf.owned{w:World}{base:Nat}{e:TypeId}{v:Value}{n:Nat}{xs:List Value}(h:w.ownsRow base e 1 v n xs):SlOf w v xs:=by
 have hl:xs.length=n:=by have:=h.1;omega
 rcases Nat.eq_zero_or_pos n with h0|h0
 ·subst h0;have hx:xs=[]:=List.eq_nil_of_length_eq_zero hl;subst hx;obtain⟨_,⟨hv,_⟩|⟨g,Aa,Ae,hv,_⟩⟩:=h
  ·exact⟨Nat.zero_le _,none,0,hv,fun hp=>absurd hp (by simp)⟩
  ·exact⟨Nat.zero_le _,some ⟨g,0,none⟩,Aa,hv,fun hp=>absurd hp (by simp)⟩
 ·obtain⟨g,Aa,hv,_,Ab,Ac,hc⟩:=oc2 h h0
  have hm:n<=maxLen:=by
   obtain⟨_,⟨_,h1⟩|⟨_,_,_,Ad,_,_,h1,h2,_⟩⟩:=h
   ·omega
   ·exact Nat.le_trans h1 h2
  subst hl;exact⟨hm,some ⟨g,0,none⟩,Aa,hv,fun _=>⟨g,0,rfl,Ab,fun j hj=>by rw[(hc j hj).1,List.getElem?_eq_getElem hj]⟩⟩
theorem SlOf.nil(w:World):SlOf w (.slice none 0 0) []:=⟨Nat.zero_le _,none,0,rfl,fun hp=>absurd hp (by simp)⟩
section
variable {P:Program} {w:World} {H:Type} {enc:TypeId×Value->H}
end
theorem so2{w:World}{v:Value}{ss:List ByteArray}(h:SlOf w v (ss.map .string)):∃a cap,v = .slice a ss.length cap/\ss.length<=9223372036854775807 /\
  ∀k,(hk:k<ss.length)->∃b off,a=some ⟨b,off,none⟩/\b<w.heap.size/\w.cell? ⟨b,off+k,none⟩=some (.string ss[k]):=by
 obtain⟨h0,a,cap,hv,hc⟩:=h;simp only[List.length_map]at h0 hv hc;refine⟨a,cap,hv,by unfold maxLen at h0;omega,fun k hk=>?_⟩;obtain⟨b,off,ha,hb,Aa⟩:=hc (by omega);exact⟨b,off,ha,hb,by rw[Aa k hk];simp⟩
theorem jo{w:World}{base:Nat}{e:TypeId}{v:Value}{n:Nat}{xs ys:List Value}(h:w.ownsRow base e 1 v n xs)(e2:xs=ys):w.ownsRow base e 1 v n ys:=e2▸h
theorem Below.gN{w w':World}(hb:Below w.heap.size w w'):w.grownBy w' none:=⟨hb.os,hb.tape,hb.output,hb.size,fun k hk _=>hb.block k hk⟩
theorem ol2{w:World}{base base':Nat}{e:TypeId}{size:Nat}{v:Value}{m:Nat}{xs:List Value}(h:w.ownsRow base e size v m xs)(hb:base'<=base):w.ownsRow base' e size v m xs:=by
 obtain⟨hl,h|⟨g,Aa,Ab,h1,h2,r⟩⟩:=h
 ·exact⟨hl,.inl h⟩
 ·exact⟨hl,.inr ⟨g,Aa,Ab,h1,Nat.le_trans hb h2,r⟩⟩
theorem ob2{w w':World}{base:Nat}{e:TypeId}{size:Nat}{v:Value}{n:Nat}{xs:List Value}(h:w.ownsRow base e size v n xs)(hb:Below w.heap.size w w'):w'.ownsRow base e size v n xs:=by
 refine h.kept (Below.gN hb) ?_;cases hv:v.ownBlock with
 |none=>exact .inl rfl
 |some k=>exact .inr (by simp)
theorem si{x y:ByteArray}(h:x.toList=y.toList):x=y:=by rw[ByteArray.toList_eq,ByteArray.toList_eq]at h;exact ByteArray.ext (Array.toList_inj.1 h)
theorem se5{x y:ByteArray}(h:(x.toList==y.toList)=true):x=y:=si (by simpa using h)
theorem sn4{x y:ByteArray}(h:(x.toList==y.toList)=false):x≠y:=by intro e;subst e;simp at h
end Go
namespace Tess
open Go
def bl(a b:ByteArray):Bool:=Op.bytesLess a.toList b.toList
theorem ba6(x y:List UInt8):∀(k:Nat) (h1:k<x.length) (h2:k<y.length),x.take k=y.take k->x[k]≠y[k]->Op.bytesLess x y=decide (x[k]<y[k]):=by
 induction x generalizing y with
 |nil=>intro k h1;simp at h1
 |cons a x ih=>
   intro k h1 h2 ht Aa;cases y with
   |nil=>simp at h2
   |cons b y=>
     cases k with
     |zero=>
       simp only[List.getElem_cons_zero]at Aa⊢;have e:(a==b)=false:=by simpa using Aa
       simp[Op.bytesLess,Aa]
     |succ k=>
       rw[List.take_succ_cons,List.take_succ_cons]at ht;obtain⟨rfl,Ab⟩:=List.cons.inj ht;simp only[List.getElem_cons_succ]at Aa⊢;rw[<-ih y k (by simpa using h1) (by simpa using h2) Ab Aa];simp[Op.bytesLess]
theorem be3(x y:List UInt8):∀(k:Nat),k<=x.length->k<=y.length->x.take k=y.take k->(k=x.length∨k=y.length)->Op.bytesLess x y=decide (x.length<y.length):=by
 induction x generalizing y with
 |nil=>intro k h1 h2 _ _;cases y<;>simp[Op.bytesLess]
 |cons a x ih=>
   intro k h1 h2 ht hk;cases y with
   |nil=>simp[Op.bytesLess]
   |cons b y=>
     cases k with
     |zero=>rcases hk with hk|hk<;>simp at hk
     |succ k=>
       rw[List.take_succ_cons,List.take_succ_cons]at ht;obtain⟨rfl,Aa⟩:=List.cons.inj ht;have:=ih y k (by simpa using h1) (by simpa using h2) Aa (by simpa using hk);simp[Op.bytesLess,this]
theorem tl(a:ByteArray):a.toList=a.data.toList:=ByteArray.toList_eq a
theorem ba9(a b:ByteArray)(k:Nat)(h1:k<a.size)(h2:k<b.size)(ht:a.data.toList.take k=b.data.toList.take k)(hne:a[k]≠b[k]):bl a b=decide (a[k].toNat<b[k].toNat):=by unfold bl;rw[tl,tl,ba6 _ _ k (by simpa using h1) (by simpa using h2) ht (fun e=>hne (show a.data[k]=b.data[k] by simpa using e))];simp only[UInt8.lt_iff_toNat_lt];rfl
theorem be2(a b:ByteArray)(k:Nat)(h1:k<=a.size)(h2:k<=b.size)(ht:a.data.toList.take k=b.data.toList.take k)(hk:k=a.size∨k=b.size):bl a b=decide (a.size<b.size):=by unfold bl;rw[tl,tl,be3 _ _ k (by simpa using h1) (by simpa using h2) ht (by simpa using hk)];simp
theorem tm2(a b:ByteArray)(k:Nat)(h1:k<a.size)(h2:k<b.size)(ht:a.data.toList.take k=b.data.toList.take k)(he:a[k]=b[k]):a.data.toList.take (k+1)=b.data.toList.take (k+1):=by rw[List.take_succ_eq_append_getElem (by simpa using h1),List.take_succ_eq_append_getElem (by simpa using h2),ht];congr 2
end Tess
namespace Go.Proofs.Q9
open Go.RowKit Go.Sort
theorem drb{a b:Bool}(h:a=b):Ending.returned (.bool a) = .returned (.bool b):=by rw[h]
theorem daa2(a b:ByteArray)(w:World)(ha:a.size<=maxLen) :
  Calls Tryz.prog 149 #[.string a,.string b] w fun e w'=>e = .returned (.bool (Tess.bl a b))/\Below w.heap.size w w':=by
 unfold maxLen at ha;go_enter Tryz.func149,Tryz.ntmps149;go_wp2;go_loopw [5] (fun i wr=>∃k:Nat,k<=a.size/\k<=b.size/\i = .int .i64 k/\a.data.toList.take k=b.data.toList.take k/\Below w.heap.size w wr) (fun i _=>a.size-(intOf i).toNat)
 case atStart=>exact⟨0,Nat.zero_le _,Nat.zero_le _,rfl,rfl,Below.refl _ _⟩
 case round=>
  obtain⟨k,Ab,Ac,rfl,Aa,hB⟩:=hrel;have HB:=Hd hB;clear hB;have HE:=Hd Aa;clear Aa;by_cases h1:k<a.size
  ·have Af:(k:Int)<(a.size:Int):=by omega
   by_cases h2:k<b.size
   ·have Ad:(k:Int)<(b.size:Int):=by omega
    by_cases he:a[k]=b[k]
    ·have Ae:((a[k].toNat:Int) !=(b[k].toNat:Int))=false:=by rw[he];simp
     have HX:=Hd he;clear he;go_wp2;go_quiet (fail);go_wp2;go_roundw
     case rel=>exact⟨k+1,by omega,by omega,by go_num,Tess.tm2 a b k h1 h2 HE.out HX.out,zi HB.out _⟩
     case measure=>simp[intOf];omega
    ·have Ag:a[k].toNat≠b[k].toNat:=fun e=>he (UInt8.toNat_inj.1 e);have Ae:((a[k].toNat:Int) !=(b[k].toNat:Int))=true:=by rw[bne_iff_ne];omega
     have HX:=Hd (Tess.ba9 a b k h1 h2 HE.out he);clear he;go_wp2;go_quiet (fail);go_wp2;go_quiet (fail);go_wp2;go_ret;refine⟨drb ?_,zi (zi HB.out _) _⟩;rw[HX.out]
   ·have Ad:¬(k:Int)<(b.size:Int):=by omega
    have HX:=Hd (Tess.be2 a b k Ab Ac HE.out (.inr (by omega)));go_wp2;go_ret;refine⟨drb ?_,HB.out⟩;rw[HX.out]
  ·have Af:¬(k:Int)<(a.size:Int):=by omega
   have HX:=Hd (Tess.be2 a b k Ab Ac HE.out (.inl (by omega)));go_wp2;go_ret;refine⟨drb ?_,HB.out⟩;rw[HX.out]
end Go.Proofs.Q9
namespace Tess
def place(l:List ByteArray)(x:ByteArray):Nat:=l.findIdx fun y=> !bl y x
theorem pa3(l:List ByteArray)(x:ByteArray)(n:Nat)(hn:n<=l.length)(h:∀j (hj:j<l.length),j<n->bl l[j] x=true)(he:n=l.length∨∃hn:n<l.length,bl l[n] x=false):place l x=n:=by
 unfold place;rcases he with rfl|⟨hn,he⟩
 ·rw[List.findIdx_eq_length];intro y hy;obtain⟨j,hj,rfl⟩:=List.getElem_of_mem hy;simp[h j hj hj]
 ·rw[List.findIdx_eq hn];exact⟨by simp[he],fun j hj=>by simp[h j (by omega) hj]⟩
theorem pl2(l:List ByteArray)(x:ByteArray):place l x<=l.length:=List.findIdx_le_length
end Tess
namespace Go.Proofs.Q9
open Go.RowKit Go.Sort
theorem dpa3(v:Value)(l:List ByteArray)(x:ByteArray)(w:World)(hv:SlOf w v (l.map .string))(hl:∀y∈l,y.size<=maxLen) :
  Calls Tryz.prog 148 #[v,.string x] w fun e w'=>e = .returned (.int .i64 (Tess.place l x))/\Below w.heap.size w w':=by
 obtain⟨a,Ah,rfl,Ae,hc⟩:=so2 hv;have HC:=Hd hc;have HL:=Hd hl;clear hc hv hl;go_enter Tryz.func148,Tryz.ntmps148;go_wp2;go_loopw [5] (fun i wr=>∃k:Nat,k<=l.length/\i = .int .i64 k/\(∀j (hj:j<l.length),j<k->Tess.bl l[j] x=true)/\Below w.heap.size w wr) (fun i _=>l.length-(intOf i).toNat)
 case atStart=>exact⟨0,Nat.zero_le _,rfl,fun j _ h=>absurd h (Nat.not_lt_zero _),Below.refl _ _⟩
 case round=>
  obtain⟨k,hk,rfl,Ab,hB⟩:=hrel;have HA:=Hd Ab;have HB:=Hd hB;clear Ab hB;by_cases hlt:k<l.length
  ·obtain⟨b,Ad,rfl,hb,Aa⟩:=HC.out k hlt;have Af:wr.cell? ⟨b,Ad+k,none⟩=some (.string l[k]):=(HB.out.cell (p:=⟨b,Ad+k,none⟩) hb).trans Aa;have Ag:(k:Int)<(l.length:Int):=by omega
   have HY:=Hd (HL.out _ (List.getElem_mem hlt));obtain⟨y,hy⟩:∃y,y=l[k]:=⟨_,rfl⟩
   rw[<-hy]at Af HY;have HE:=Hd hy;clear Aa hy;go_wp2_with (go_at_call 149;refine(daa2 y x _ HY.out).mono ?_;rintro e w2 ⟨rfl,Ac⟩;have HB:=Hd (Bt HB.out Ac);clear Ac;cases hyx:Tess.bl y x)
   ·go_ret;exact⟨by rw[Tess.pa3 l x k hk HA.out (.inr ⟨hlt,by rw[<-HE.out];exact hyx⟩)];rfl,HB.out⟩
   ·go_roundw
    case rel=>
     refine⟨k+1,by omega,by go_num,fun j hj hjk=>?_,HB.out⟩;by_cases hjk':j<k
     ·exact HA.out j hj hjk'
     ·obtain rfl:j=k:=by omega
      rw[<-HE.out];exact hyx
    case measure=>simp[intOf];omega
  ·have Ag:¬(k:Int)<(l.length:Int):=by omega
   go_wp2;go_ret;exact⟨by rw[Tess.pa3 l x k hk HA.out (.inl (by omega))];rfl,HB.out⟩
end Go.Proofs.Q9
namespace Tess
def w0:ByteArray:=⟨#[]⟩
def fits(l:List ByteArray)(i:Nat):Bool:=decide ((l.getD i w0).size<=100)&&(i==0||bl (l.getD (i-1) w0) (l.getD i w0))
def rT(l:List ByteArray)(k:Nat):Bool:=(List.range k).all (fits l)
def right(l:List ByteArray):Bool:=rT l l.length&&decide (l.length<=1000)
theorem rTs(l:List ByteArray)(k:Nat)(h:rT l k=true)(hf:fits l k=true):rT l (k+1)=true:=by unfold rT at *;rw[List.range_succ,List.all_append,h];simp[hf]
theorem rn3(l:List ByteArray)(k:Nat)(hk:k<l.length)(hf:fits l k=false):right l=false:=by unfold right rT;rw[Bool.and_eq_false_iff];left;rw[List.all_eq_false];exact⟨k,List.mem_range.2 hk,by simp[hf]⟩
theorem re2(l:List ByteArray)(h:rT l l.length=true):right l=decide (l.length<=1000):=by unfold right;rw[h];simp
theorem getD_lt(l:List ByteArray)(k:Nat)(h:k<l.length):l.getD k w0=l[k]:=by simp[List.getD,h]
end Tess
namespace Go.Proofs.Q9
open Go.RowKit Go.Sort
theorem ra13(v:Value)(l:List ByteArray)(w:World)(hv:SlOf w v (l.map .string))(hl:∀y∈l,y.size<=maxLen) :
  Calls Tryz.prog 99 #[v] w fun e w'=>e = .returned (.bool (Tess.right l))/\Below w.heap.size w w':=by
 obtain⟨a,Aw,rfl,Ap,hc⟩:=so2 hv;have HC:=Hd hc;have HL:=Hd hl;clear hc hv hl;go_enter Tryz.func99,Tryz.ntmps99;go_wp2;go_loopw [3] (fun i wr=>∃k:Nat,k<=l.length/\i = .int .i64 k/\Tess.rT l k=true/\Below w.heap.size w wr) (fun i _=>l.length-(intOf i).toNat)
 case atStart=>exact⟨0,Nat.zero_le _,rfl,rfl,Below.refl _ _⟩
 case round=>
  obtain⟨k,hk,rfl,Ag,hB⟩:=hrel;have HA:=Hd Ag;have HB:=Hd hB;clear Ag hB;by_cases hlt:k<l.length
  ·obtain⟨b,Ak,rfl,hb,Ab⟩:=HC.out k hlt;have Ah:wr.cell? ⟨b,Ak+k,none⟩=some (.string l[k]):=(HB.out.cell (p:=⟨b,Ak+k,none⟩) hb).trans Ab;have Aq:(k:Int)<(l.length:Int):=by omega
   have HY:=Hd (HL.out _ (List.getElem_mem hlt));have hg:=Tess.getD_lt l k hlt;obtain⟨y,hy⟩:∃y,y=l[k]:=⟨_,rfl⟩
   rw[<-hy]at Ah HY hg;have HG:=Hd hg;clear Ab hy hg;by_cases hz:y.size<=100
   ·have An:¬(100:Int)<(y.size:Int):=by omega
    have Ar:decide ((100:Int)<(y.size:Int))=false:=decide_eq_false An;by_cases h0:k=0
    ·subst h0;rw[Nat.add_zero]at Ah;have hf:Tess.fits l 0=true:=by unfold Tess.fits;rw[HG.out];simpa using hz
     have HF:=Hd hf;clear hf;go_wp2;go_quiet (fail);go_wp2;go_roundw
     case rel=>exact⟨1,by omega,by go_num,Tess.rTs l 0 HA.out HF.out,zi HB.out _⟩
     case measure=>simp[intOf];omega
    ·have Au:(0:Int)<(k:Int):=by omega
     obtain⟨j,rfl⟩:∃j,k=j+1:=⟨k-1,by omega⟩
     have hj:j<l.length:=by omega
     obtain⟨b',Ad,Al,At,Aa⟩:=HC.out j hj;obtain⟨rfl,rfl⟩:b'=b/\Ad=Ak:=by cases Al;exact⟨rfl,rfl⟩
     have Ai:wr.cell? ⟨b',Ad+j,none⟩=some (.string l[j]):=(HB.out.cell (p:=⟨b',Ad+j,none⟩) At).trans Aa;have Aj:=Tess.getD_lt l j hj;have Ao:=HL.out _ (List.getElem_mem hj);have q1:=fun d os=>cell_regrown Ah d os;have Av:decide ((0:Int)<(j:Int)+1)=true:=decide_eq_true (by omega);have As:((j+1:Nat):Int)-1=(j:Int):=by omega
     obtain⟨x,hx⟩:∃x,x=l[j]:=⟨_,rfl⟩
     rw[<-hx]at Ai Aj Ao;have q2:=fun d os=>cell_regrown Ai d os;have c1:=fun d os=>daa2 x y (grow (redrawn wr d) os) Ao;have Ae:Tess.fits l (j+1)=Tess.bl x y:=by unfold Tess.fits;rw[HG.out,Nat.add_sub_cancel,Aj];simp[hz]
     cases hxy:Tess.bl x y
     ·rw[hxy]at c1 Ae;have C1:=Hd (fun d os=>xQ (c1 d os));have HF:=Hd (Tess.rn3 l (j+1) hlt Ae);clear Aa hx Aj Al Ah Ai c1 Ae hxy;go_wp2;refine yc (by kernel_rfl) (by kernel_rfl) ?_
      repeat(go_big_quiet_step (exact C1.out _ _))
      refine qAl ?_;intro _ Am;obtain⟨⟨dq,Af⟩,Ac⟩:=Am;subst Ac;have HB:=Hd (Bt HB.out (xm wr dq Af));generalize grow (redrawn wr dq) Af=w1 at *;clear C1 q1 q2;go_wp2;go_ret;exact⟨by rw[HF.out];rfl,HB.out⟩
     ·rw[hxy]at c1 Ae;have C1:=Hd (fun d os=>xQ (c1 d os));have HF:=Hd Ae;clear Aa hx Aj Al Ah Ai c1 Ae hxy;go_wp2;refine yc (by kernel_rfl) (by kernel_rfl) ?_
      repeat(go_big_quiet_step (exact C1.out _ _))
      refine qAl ?_;intro _ Am;obtain⟨⟨dq,Af⟩,Ac⟩:=Am;subst Ac;have HB:=Hd (Bt HB.out (xm wr dq Af));generalize grow (redrawn wr dq) Af=w1 at *;clear C1 q1 q2;go_wp2;go_roundw
      case rel=>exact⟨j+1+1,by omega,by go_num,Tess.rTs l (j+1) HA.out HF.out,HB.out⟩
      case measure=>simp[intOf];omega
   ·have An:(100:Int)<(y.size:Int):=by omega
    have Ar:decide ((100:Int)<(y.size:Int))=true:=decide_eq_true An;have hf:Tess.fits l k=false:=by unfold Tess.fits;rw[HG.out];simp[hz]
    have HF:=Hd (Tess.rn3 l k hlt hf);clear hf;go_wp2;go_quiet (fail);go_wp2;go_ret;exact⟨by rw[HF.out];rfl,zi HB.out _⟩
  ·have Aq:¬(k:Int)<(l.length:Int):=by omega
   obtain rfl:k=l.length:=by omega
   have HE:=Hd (Tess.re2 l HA.out);go_wp2;go_ret;refine⟨?_,HB.out⟩;rw[HE.out];exact congrArg (fun b=>Ending.returned (Value.bool b)) (decide_eq_decide.2 (by omega))
end Go.Proofs.Q9
namespace Tess
def fW2(l:List ByteArray)(x:ByteArray):Nat×Bool:=if right l then(place l x,decide (place l x<l.length)&&decide (l.getD (place l x) w0=x))else(0,false)
end Tess
namespace Go.Proofs.Q9
open Go.RowKit Go.Sort
theorem sb4(x y:ByteArray):decide (x=y)=(x.toList==y.toList):=by
 by_cases h:x=y
 ·subst h;simp
 ·rw[decide_eq_false h];cases hb:(x.toList==y.toList)with
  |false=>rfl
  |true=>exact absurd (se5 hb) h
def FP(l:List ByteArray)(x:ByteArray)(w:World)(e:Ending)(w':World):Prop:=
 e = .returned (.tuple #[.int .i64 ((Tess.fW2 l x).1:Nat),.bool (Tess.fW2 l x).2])/\Below w.heap.size w w'
theorem ra63(v:Value)(l:List ByteArray)(x:ByteArray)(w:World)(hv:SlOf w v (l.map .string))(hl:∀y∈l,y.size<=maxLen) :
  Calls Tryz.prog 98 #[v,.string x] w (FP l x w):=by
 have Ac:=ra13 v l w hv hl;have HV:=Hd hv;have HL:=Hd hl;cases hr:Tess.right l
 ·rw[hr]at Ac;have HR:=Hd Ac;have HF:Hid (Tess.fW2 l x=(0,false)):=Hd (by unfold Tess.fW2;rw[hr];rfl);clear Ac hr hv hl;go_enter Tryz.func98,Tryz.ntmps98;go_wp2_with (go_at_call 99;refine HR.out.mono ?_;rintro e w1 ⟨rfl,Aa⟩;have HB:=Hd Aa;clear Aa);go_ret2;exact⟨by rw[HF.out];rfl,HB.out⟩
 ·rw[hr]at Ac;have HR:=Hd Ac;obtain⟨n,hn⟩:∃n,n=Tess.place l x:=⟨_,rfl⟩
  have Ah:n<=l.length:=by rw[hn];exact Tess.pl2 l x
  have hF:Tess.fW2 l x=(n,decide (n<l.length)&&decide (l.getD n Tess.w0=x)):=by unfold Tess.fW2;rw[hr,hn];rfl
  have HP:=Hd (fun w1 (hB:Below w.heap.size w w1)=>dpa3 v l x w1 (HV.out.below hB) HL.out);rw[<-hn]at HP;obtain⟨a,Aj,rfl,Ae,hc⟩:=so2 hv;by_cases hlt:n<l.length
  ·obtain⟨b,Ag,rfl,hb,Ab⟩:=hc n hlt;rw[Tess.getD_lt l n hlt]at hF;obtain⟨y,hy⟩:∃y,y=l[n]:=⟨_,rfl⟩
   rw[<-hy,decide_eq_true hlt,Bool.true_and,sb4]at hF;rw[<-hy]at Ab;have HF:=Hd hF;have Ad:(n:Int)<(l.length:Int):=by omega
   have Af:decide ((n:Int)<(l.length:Int))=true:=decide_eq_true Ad;clear Ac hr hv hl hc hF hn hy;go_enter Tryz.func98,Tryz.ntmps98
   go_wp2_with (first
    |(go_at_call 99;refine HR.out.mono ?_;rintro e w1 ⟨rfl,Aa⟩;have HB:=Hd Aa;clear Aa)
    |(go_at_call 148;refine(HP.out _ HB.out).mono ?_;rintro e w1 ⟨rfl,Aa⟩;have HB:=Hd (Bt HB.out Aa);clear Aa;have Ai:=(HB.out.cell (p:=⟨b,Ag+n,none⟩) hb).trans Ab))
   go_quiet (fail);go_wp2;go_ret2;exact⟨by rw[HF.out];rfl,zi HB.out _⟩
  ·rw[decide_eq_false hlt,Bool.false_and]at hF;have HF:=Hd hF;have Ad:¬(n:Int)<(l.length:Int):=by omega
   have Af:decide ((n:Int)<(l.length:Int))=false:=decide_eq_false Ad;clear Ac hr hv hl hc hF hn;go_enter Tryz.func98,Tryz.ntmps98
   go_wp2_with (first
    |(go_at_call 99;refine HR.out.mono ?_;rintro e w1 ⟨rfl,Aa⟩;have HB:=Hd Aa;clear Aa)
    |(go_at_call 148;refine(HP.out _ HB.out).mono ?_;rintro e w1 ⟨rfl,Aa⟩;have HB:=Hd (Bt HB.out Aa);clear Aa))
   go_quiet (fail);go_wp2;go_ret2;exact⟨by rw[HF.out];rfl,zi HB.out _⟩
end Go.Proofs.Q9
namespace Tess
def nb(y z:ByteArray):Bool:= !bl y z
def pre(p y:ByteArray):Bool:=decide (p.size<=y.size)&&decide (y.extract 0 p.size=p)
end Tess
namespace Go.Proofs.Q9
open Go.RowKit Go.Sort
end Go.Proofs.Q9
namespace Tess
def diL(s:ByteArray):Bool:=decide (100<s.size)
end Tess
namespace Go.Proofs.Q9
open Go.RowKit Go.Sort
theorem dla(s:ByteArray)(w:World):Calls Tryz.prog 157 #[.string s] w fun e w'=>e = .returned (.bool (Tess.diL s))/\w=w':=by go_enter Tryz.func157,Tryz.ntmps157;go_wp2;go_ret;exact⟨by unfold Tess.diL;exact congrArg (fun b=>Ending.returned (Value.bool b)) (decide_eq_decide.2 (by omega)),rfl⟩
theorem dil(v:Value)(l:List ByteArray)(w:World)(hv:SlOf w v (l.map .string)) :
  Calls Tryz.prog 199 #[v,.func (.func 157) #[] #[]] w fun e w'=>∃i:Int,e = .returned (.int .i64 i)/\decide (0<=i)=l.any Tess.diL/\Below w.heap.size w w':=by
 obtain⟨a,Ag,rfl,Ad,hc⟩:=so2 hv;have HC:=Hd hc;clear hc hv;go_enter Tryz.func199,Tryz.ntmps199;go_wp2;go_loopw [8] (fun i wr=>∃k:Nat,k<=l.length/\i = .int .i64 k/\(∀j (hj:j<l.length),j<k->Tess.diL l[j]=false)/\Below w.heap.size w wr) (fun i _=>l.length-(intOf i).toNat)
 case atStart=>exact⟨0,Nat.zero_le _,rfl,fun j _ h=>absurd h (Nat.not_lt_zero _),Below.refl _ _⟩
 case round=>
  obtain⟨k,hk,rfl,Ab,hB⟩:=hrel;have HA:=Hd Ab;have HB:=Hd hB;clear Ab hB;by_cases hlt:k<l.length
  ·obtain⟨b,Ac,rfl,hb,Aa⟩:=HC.out k hlt;have Ae:wr.cell? ⟨b,Ac+k,none⟩=some (.string l[k]):=(HB.out.cell (p:=⟨b,Ac+k,none⟩) hb).trans Aa;have Af:(k:Int)<(l.length:Int):=by omega
   obtain⟨y,hy⟩:∃y,y=l[k]:=⟨_,rfl⟩
   rw[<-hy]at Ae;have HE:=Hd hy;clear Aa hy;go_wp2_with (go_at_call 157;refine(dla y _).mono ?_;rintro e w2 ⟨rfl,rfl⟩;cases hyx:Tess.diL y)
   ·go_roundw
    case rel=>
     refine⟨k+1,by omega,by go_num,fun j hj hjk=>?_,HB.out⟩;by_cases hjk':j<k
     ·exact HA.out j hj hjk'
     ·obtain rfl:j=k:=by omega
      rw[<-HE.out];exact hyx
    case measure=>simp[intOf];omega
   ·go_ret;refine⟨(k:Int),rfl,?_,HB.out⟩;rw[decide_eq_true (by omega),eq_comm,List.any_eq_true];exact⟨l[k],List.getElem_mem hlt,by rw[<-HE.out];exact hyx⟩
  ·have Af:¬(k:Int)<(l.length:Int):=by omega
   go_wp2;go_ret;refine⟨-1,rfl,?_,HB.out⟩;rw[decide_eq_false (by omega),eq_comm,List.any_eq_false];intro y hy;obtain⟨j,hj,rfl⟩:=List.getElem_of_mem hy;rw[HA.out j hj (by omega)];simp
theorem dcl(v:Value)(l:List ByteArray)(w:World)(hv:SlOf w v (l.map .string)) :
  Calls Tryz.prog 156 #[v,.func (.func 157) #[] #[]] w fun e w'=>e = .returned (.bool (l.any Tess.diL))/\Below w.heap.size w w':=by
 have HI:=Hd (dil v l w hv);obtain⟨a,Ab,rfl,Aa,hc⟩:=so2 hv;clear hc hv;go_enter Tryz.func156,Tryz.ntmps156;go_wp2_with (go_at_call 199;refine HI.out.mono ?_;rintro e w2 ⟨i,rfl,hi,hB⟩;have HH:=Hd hi;have HB:=Hd hB;clear hi hB);go_ret;refine⟨?_,HB.out⟩;rw[<-HH.out];rfl
end Go.Proofs.Q9
namespace Tess
def ord(l:List ByteArray)(i:Nat):Bool:=i==0||bl (l.getD (i-1) w0) (l.getD i w0)
def chainTo(l:List ByteArray)(k:Nat):Bool:=(List.range k).all (ord l)
theorem cTs(l:List ByteArray)(k:Nat)(h:chainTo l k=true)(hf:ord l k=true):chainTo l (k+1)=true:=by unfold chainTo at *;rw[List.range_succ,List.all_append,h];simp[hf]
theorem cTn(l:List ByteArray)(k:Nat)(hk:k<l.length)(hf:ord l k=false):chainTo l l.length=false:=by unfold chainTo;rw[List.all_eq_false];exact⟨k,List.mem_range.2 hk,by simp[hf]⟩
theorem al2(l:List ByteArray):(!l.any diL)=(List.range l.length).all fun i=>decide ((l.getD i w0).size<=100):=by
 rw[Bool.eq_iff_iff];simp only[Bool.not_eq_true',List.any_eq_false,List.all_eq_true,List.mem_range,diL,decide_eq_true_eq];constructor
 ·intro h i hi;have:=h l[i] (List.getElem_mem hi);rw[getD_lt l i hi];omega
 ·intro h y hy;obtain⟨i,hi,rfl⟩:=List.getElem_of_mem hy;have:=h i hi;rw[getD_lt l i hi]at this;omega
theorem aa5{α:Type}(l:List α)(p q:α->Bool):(l.all fun x=>p x&&q x)=(l.all p&&l.all q):=by
 induction l with
 |nil=>rfl
 |cons a l ih=>simp only[List.all_cons,ih];cases p a<;>cases q a<;>simp
theorem rp2(l:List ByteArray):right l=((decide (l.length<=1000) && !l.any diL)&&chainTo l l.length):=by unfold right rT chainTo;rw[al2,show(fits l)=fun i=>decide ((l.getD i w0).size<=100)&&ord l i from rfl,aa5];cases decide (l.length<=1000)<;>simp
theorem ce3(l:List ByteArray)(k:Nat)(h:chainTo l k=true)(hk:k<=max 1 l.length)(hn:¬k<l.length):chainTo l l.length=true:=by
 by_cases e:l.length=0
 ·rw[e];rfl
 ·have:k=l.length:=by omega
  rw[<-this];exact h
end Tess
namespace Go.Proofs.Q9
open Go.RowKit Go.Sort
theorem dpa2(a:Option Addr)(n cap:Nat)(w:World) :
  Calls Tryz.prog 160 #[.slice a n cap] w fun e w'=>e = .returned (.func (.func 201) #[] #[.pointer (some ⟨w.heap.size,0,none⟩)])/\w.alloc (.cells #[.slice a n cap] 22)=w':=by
 go_enter Tryz.func160,Tryz.ntmps160;go_wp2;go_ret;exact⟨rfl,rfl⟩
end Go.Proofs.Q9
namespace Go.Rf
open Go Go.RowKit
variable {P:Program} {n:Nat}
structure SB(l:Nat)(W W':World):Prop where
 os:W'.os=W.os
 tape:W'.tape=W.tape
 output:W'.output=W.output
 size:W'.heap.size=W.heap.size
 block:∀k,k≠l->W'.heap[k]?=W.heap[k]?
theorem SB.put(W:World)(l:Nat)(o:Obj):SB l W (W.putObj l o):=⟨rfl,rfl,rfl,by simp,fun k hk=>World.putObj_heap_other hk⟩
theorem SB.below{l B:Nat}{W W':World}(h:SB l W W')(hl:B<=l):Below B W W':=⟨h.os,h.tape,h.output,Nat.le_of_eq h.size.symm,fun k hk=>h.block k (by omega)⟩
theorem SB.owns{l:Nat}{W W':World}(h:SB l W W'){base:Nat}{e:TypeId}{size:Nat}{v:Value}{m:Nat}{xs:List Value}{o:Obj}(ho:W.ownsRow base e size v m xs)(hl:W.heap[l]?=some o)(hc:o.isCells=false):W'.ownsRow base e size v m xs:=by
 obtain⟨h1,h2⟩:=ho;refine⟨h1,?_⟩;rcases h2 with h2|⟨g,Aa,Ab,hv,hb,hg,r⟩
 ·exact .inl h2
 ·refine .inr ⟨g,Aa,Ab,hv,hb,?_,r⟩;rw[h.block g (fun e=>by subst e;rw[hl]at hg;cases hg;cases hc)];exact hg
theorem rw3{g:Operand}{ps:Array Tmp}{assign body:Code}{Q:Exit->Act->World->Prop}{a:Act}{w:World}{gf:Nat}{lb:Array Value}
  (hg:a.eval g = .func (.func gf) #[] lb) (eg:∀args w,(callFunc gf args).run P w = .ok (.enter gf args) w)
  (h:∀(fn:Nat) (W1:World),W1.heap[w.heap.size+1]?=some (.loop { state:=.ready,pending:=none,fn,tmps:=a.tmps,params:=ps,assign,body,defers:=w.heap.size })->W1.heap[w.heap.size]?=some (.deferred (some [])) ->
    Below w.heap.size w W1->W1.heap.size=w.heap.size+2 ->
    CallsIn Fence.wide (n-1) P gf (#[.func (.yield (w.heap.size+1)) #[] #[]]++lb) W1 fun e W3=>(∃v,e = .returned v)/\∃r:Loop,W3.heap[w.heap.size+1]?=some (.loop r)/\r.state ≠ .busy /\
     ∀W4,SB (w.heap.size+1) W3 W4->match r.pending with
       |none=>Q .normal { a with defers:={ target:=.collected w.heap.size,args:=#[] }::a.defers } W4
       |some c=>c.wpIn Fence.wide n P Q { a with defers:={ target:=.collected w.heap.size,args:=#[] }::a.defers } W4) :
  (Code.rangeFunc g ps assign body).wpIn Fence.wide n P Q a w:=by
 refine wpIn_rangeFunc ?_;intro fn _;obtain⟨W1,Aa⟩:∃W1,(w.alloc (.deferred (some []))).alloc (.loop { state:=.ready,pending:=none,fn,tmps:=a.tmps,params:=ps,assign,body,defers:=w.heap.size })=W1:=⟨_,rfl⟩
 have Ac:W1.heap[w.heap.size+1]?=some (.loop { state:=.ready,pending:=none,fn,tmps:=a.tmps,params:=ps,assign,body,defers:=w.heap.size }):=by rw[<-Aa];have:=World.alloc_heap_new (w.alloc (.deferred (some []))) (.loop { state:=.ready,pending:=none,fn,tmps:=a.tmps,params:=ps,assign,body,defers:=w.heap.size });rwa [World.size_alloc]at this
 have Ae:W1.heap[w.heap.size]?=some (.deferred (some [])):=by rw[<-Aa];exact(Below.heap_alloc _ _ _ (by simp)).trans (World.alloc_heap_new w _)
 have Ab:Below w.heap.size w W1:=by rw[<-Aa];exact((Below.refl _ w).alloc (Nat.le_refl _) _).alloc (by simp) _
 have Ad:W1.heap.size=w.heap.size+2:=by rw[<-Aa];simp
 have H:=h fn _ Ac Ae Ab Ad
 refine⟨w.heap.size+1,[{ target:=.collected w.heap.size,args:=#[] }],W1,{ target:=.fn (.func gf) lb,args:=#[.func (.yield (w.heap.size+1)) #[] #[]] },W1,gf,
  #[.func (.yield (w.heap.size+1)) #[] #[]]++lb,W1,?_,?_,?_,?_,(fun hd=>by cases hd),?_⟩
 ·rw[<-Aa];exact run_enterLoop_outer _ _ _ _ _
 ·simp only[resolve,hg];simp[go_sem]
 ·intro f' _;trivial
 ·simp[invoke,go_sem,eg]
 ·refine H.mono ?_;rintro e W3 ⟨⟨v,rfl⟩,r,hr,hb,hq⟩;refine⟨r.pending,_,run_endLoop hr hb,?_⟩;have:=hq _ (SB.put W3 (w.heap.size+1) (.loop { r with state:=.exhausted }));cases hp:r.pending with
  |none=>rw[hp]at this;exact this
  |some c=>rw[hp]at this;exact this
def rQ(l:Nat)(r:Loop)(R:Ending->World->Prop):Exit->Act->World->Prop
 |.normal,_,W3=>W3.heap[l]?=some (.loop { r with state:=.busy })/\∀W4,SB l W3 W4->W4.heap[l]?=some (.loop { r with state:=.ready,pending:=none })->R (.returned (.bool true)) W4
 |.ret,_,W3=>W3.heap[l]?=some (.loop { r with state:=.busy })/\∀W4,SB l W3 W4->W4.heap[l]?=some (.loop { r with state:=.done,pending:=some .ret })->R (.returned (.bool false)) W4
 |.exit id,_,W3=>W3.heap[l]?=some (.loop { r with state:=.busy })/\∀W4,SB l W3 W4->W4.heap[l]?=some (.loop { r with state:=.done,pending:=some (.exit id) })->R (.returned (.bool false)) W4
 |.goto t,_,W3=>W3.heap[l]?=some (.loop { r with state:=.busy })/\∀W4,SB l W3 W4->W4.heap[l]?=some (.loop { r with state:=.done,pending:=some (.goto t) })->R (.returned (.bool false)) W4
 |.panic _,_,_=>False
 |.outgrown,_,_=>False
theorem rw2{l:Nat}{f:FuncId}{tmps:Array Value}{assign body:Code}{W:World}{R:Ending->World->Prop}{r:Loop}
  (h:assign.wpIn (Fence.wide.inRound l) n P (Exit.then (fun a₁ W₁=>W₁.heap[l]?=some (.loop r)/\r.state = .ready/\∀W₂,SB l W₁ W₂->W₂.heap[l]?=some (.loop { r with state:=.busy })->body.wpIn (Fence.wide.inRound l) n P (rQ l r R) a₁ W₂) (fun _ _ _=>False))
    { tmps:=tmps,defers:=[] } W):RoundIn Fence.wide n P l f tmps assign body W R:=by
 refine roundIn_of_wpIn trivial (wpIn_mono h ?_);intro e a₁ W₁ hq;cases e with
 |normal=>
   obtain⟨hl,hr,hb⟩:=hq;refine⟨_,run_beginRound hl hr,?_⟩;have Aa:l<W₁.heap.size:=(Array.getElem?_eq_some_iff.1 hl).1;refine wpIn_mono (hb _ (SB.put _ _ _) (World.putObj_heap_same Aa)) ?_
   have fin:∀(jump:Option Code) (W3:World),W3.heap[l]?=some (.loop { r with state:=.busy })->∃W4,(Instr.endRound l jump).run P W3 = .ok (.bool jump.isNone) W4/\SB l W3 W4 /\
     W4.heap[l]?=some (.loop { r with state:=if jump.isNone then .ready else .done,pending:=jump }):=fun jump W3 h3=>
    ⟨_,run_endRound jump h3,SB.put _ _ _,World.putObj_heap_same (Array.getElem?_eq_some_iff.1 h3).1⟩
   intro e2 a3 W3 hp;cases e2 with
   |normal=>obtain⟨h3,hp⟩:=hp;obtain⟨W4,e4,s4,l4⟩:=fin none W3 h3;exact⟨_,_,e4,hp W4 s4 l4⟩
   |ret=>obtain⟨h3,hp⟩:=hp;obtain⟨W4,e4,s4,l4⟩:=fin (some .ret) W3 h3;exact⟨_,_,e4,hp W4 s4 l4⟩
   |exit id=>obtain⟨h3,hp⟩:=hp;obtain⟨W4,e4,s4,l4⟩:=fin (some (.exit id)) W3 h3;exact⟨_,_,e4,hp W4 s4 l4⟩
   |goto t=>obtain⟨h3,hp⟩:=hp;obtain⟨W4,e4,s4,l4⟩:=fin (some (.goto t)) W3 h3;exact⟨_,_,e4,hp W4 s4 l4⟩
   |panic _=>exact hp.elim
   |outgrown=>exact hp.elim
 |ret=>exact hq.elim
 |exit id=>exact hq.elim
 |goto t=>exact hq.elim
 |panic _=>exact hq.elim
 |outgrown=>exact hq.elim
theorem sRs{b:Frame}{a:Act}{k:List Item}{cs:List Frame}{w:World}{c:Code}:step P (lone (b.atR a (.code (.scope c)::k)) cs w) = .next (lone (b.atR a (.code c :: .inScope c::k)) cs w):=
 step_lone_go (by simp[stepG,stepG.exec,Frame.atR])
theorem sRi{b:Frame}{a:Act}{k:List Item}{cs:List Frame}{w:World}{c:Code}:step P (lone (b.atR a (.inScope c::k)) cs w) = .next (lone (b.atR a k) cs w):=
 step_lone_go (by simp[stepG,stepG.exec,Frame.atR])
theorem wIs{F:Fence}{c:Code}{Q:Exit->Act->World->Prop}{a:Act}{w:World}(h:c.wpIn F n P (Exit.noGoto Q) a w):(Code.scope c).wpIn F n P Q a w:=by
 intro b k cs Ab hb hr;have h0:(lone (b.atR a (.code (.scope c)::k)) cs w).fenced P F:=fenced_calm hb hr rfl;obtain⟨e,a₁,w₁,hq,Aa⟩:=h b (.inScope c::k) cs Ab hb hr;cases e with
 |normal=>exact⟨.normal,a₁,w₁,hq,.head h0 sRs (StepsIn.trans Aa (.one (fenced_calm hb hr rfl) sRi))⟩
 |exit id=>
   have hx:exitTo id (.inScope c::k)=exitTo id k:=by simp[exitTo]
   exact⟨.exit id,a₁,w₁,hq,fun k' hk=>.head h0 sRs (Aa.1 k' (by rw[hx];exact hk)),
    fun hr' hk=>let⟨k₁,h1,h2⟩:=Aa.2 hr' (by rw[hx];exact hk);⟨k₁,h1,.head h0 sRs h2⟩⟩
 |goto l=>exact hq.elim
 |ret=>exact⟨_,a₁,w₁,hq,.of_steps (.one h0 sRs) Aa⟩
 |panic ch=>exact⟨_,a₁,w₁,hq,.of_steps (.one h0 sRs) Aa⟩
 |outgrown=>exact⟨_,a₁,w₁,hq,.of_steps (.one h0 sRs) Aa⟩
