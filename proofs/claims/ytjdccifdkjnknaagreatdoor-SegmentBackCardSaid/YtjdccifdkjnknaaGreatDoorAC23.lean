/- Joined by mergeK.py: S8p, T8, T9 -/
import Derived.Test.YtjdccifdkjnknaaGreatDoorAC15
import Derived.Test.YtjdccifdkjnknaaGreatDoorAC05
import Derived.Test.YtjdccifdkjnknaaGreatDoorAC14
import Derived.Test.YtjdccifdkjnknaaGreatDoorAC12
import Derived.Test.YtjdccifdkjnknaaGreatDoorAC03
import Derived.ArgAppend
namespace Tess
open Go Go.RowKit
structure WSt (V B:Nat) (out:List UInt8) (n c:Nat):Prop where
 len:8 * out.length + c=B
 val:valB out * 2 ^ c + n=V
 lt:n < 2 ^ c
theorem WSt.none:WSt 0 0 [] 0 0:=⟨rfl,rfl,by decide⟩
theorem WSt.add {V B:Nat} {out:List UInt8} {n c:Nat} (h:WSt V B out n c) (w x:Nat) (hx:x < 2 ^ w):WSt (V * 2 ^ w + x) (B + w) out (n * 2 ^ w + x) (c + w):=by
 refine ⟨by have:=h.len;omega,?_,?_⟩
 ·rw [← h.val,Nat.pow_add,Nat.add_mul,Nat.mul_assoc,Nat.add_assoc]
 ·have:=h.lt
  have h2:(n + 1) * 2 ^ w≤2 ^ c * 2 ^ w:=Nat.mul_le_mul_right _ this
  rw [Nat.add_mul,Nat.one_mul] at h2
  rw [Nat.pow_add]
  omega
theorem WSt.take {V B:Nat} {out:List UInt8} {n c:Nat} (h:WSt V B out n c) (hc:8≤c):WSt V B (out ++ [UInt8.ofNat (n / 2 ^ (c - 8))]) (n % 2 ^ (c - 8)) (c - 8)∧n / 2 ^ (c - 8) < 256:=by
 have hq:n / 2 ^ (c - 8) < 256:=by
  rw [Nat.div_lt_iff_lt_mul (Nat.two_pow_pos _)]
  have:=h.lt
  have e:(2:Nat) ^ c=256 * 2 ^ (c - 8):=by rw [show (256:Nat)=2 ^ 8 by decide,← Nat.pow_add];congr 1;omega
  omega
 refine ⟨⟨?_,?_,Nat.mod_lt _ (Nat.two_pow_pos _)⟩,hq⟩
 ·rw [List.length_append,List.length_singleton];have:=h.len;omega
 ·rw [vBs,UInt8.toNat_ofNat',Nat.mod_eq_of_lt hq,Nat.add_mul,Nat.add_assoc,Nat.mul_comm (n / 2 ^ (c - 8)),Nat.div_add_mod]
  rw [← h.val,Nat.mul_assoc]
  congr 2
  rw [show (256:Nat)=2 ^ 8 by decide,← Nat.pow_add];congr 1;omega
theorem WSt.done {V B:Nat} {out:List UInt8} (h:WSt V B out 0 0):out=bytesBE (B / 8) V:=by
 have h1:=h.len
 have h2:=h.val
 rw [Nat.pow_zero,Nat.mul_one,Nat.add_zero] at h2
 rw [← h2,show B / 8=out.length by omega]
 exact (bytes_val out).symm
theorem WSt.zero {V B:Nat} {out:List UInt8} {n:Nat} (h:WSt V B out n 0):n=0:=by have:=h.lt;simpa using this
structure RSt (w:Nat) (T:List UInt8) (k j n c:Nat):Prop where
 le:j≤T.length
 len:k * w + c=8 * j
 val:n=valB (T.take j) % 2 ^ c
theorem RSt.none (w:Nat) (T:List UInt8):RSt w T 0 0 0 0:=⟨Nat.zero_le _,by simp,by simp [valB]⟩
theorem RSt.lt {w:Nat} {T:List UInt8} {k j n c:Nat} (h:RSt w T k j n c):n < 2 ^ c:=by rw [h.val];exact Nat.mod_lt _ (Nat.two_pow_pos _)
theorem RSt.more {w:Nat} {T:List UInt8} {k j n c:Nat} (h:RSt w T k j n c) (hj:j < T.length):RSt w T k (j + 1) (n * 2 ^ 8 + T[j].toNat) (c + 8):=by
 refine ⟨hj,by have:=h.len;omega,?_⟩
 rw [List.take_succ_eq_append_getElem hj,vBs,h.val]
 obtain ⟨V,hV⟩:∃ V,V=valB (T.take j):=⟨_,rfl⟩
 rw [← hV,Nat.pow_add,Nat.mul_comm (2 ^ c)]
 have hb:T[j].toNat < 2 ^ 8:=T[j].toNat_lt
 rw [show (256:Nat)=2 ^ 8 by decide,Nat.mod_mul,Nat.add_comm (V * 2 ^ 8),Nat.add_mul_mod_self_right,Nat.mod_eq_of_lt hb,Nat.add_mul_div_right _ _ (Nat.two_pow_pos 8),Nat.div_eq_of_lt hb,Nat.zero_add,Nat.mul_comm (2 ^ 8),Nat.add_comm]
theorem RSt.take {w:Nat} {T:List UInt8} {k j n c:Nat} (h:RSt w T k j n c) (hc:w≤c):RSt w T (k + 1) j (n % 2 ^ (c - w)) (c - w)∧n / 2 ^ (c - w)=numK w T k:=by
 refine ⟨⟨h.le,by have:=h.len;rw [Nat.add_mul];omega,?_⟩,?_⟩
 ·rw [h.val,show c=(c - w) + w by omega,Nat.pow_add,Nat.add_sub_cancel,Nat.mod_mul_right_mod]
 ·unfold numK
  have hl:valB T=valB (T.take j) * 256 ^ (T.length - j) + valB (T.drop j):=by
   conv=>lhs;rw [← List.take_append_drop j T]
   rw [valB_append,List.length_drop]
  have hd:valB (T.drop j) < 256 ^ (T.length - j):=by have:=valB_lt (T.drop j);rwa [List.length_drop] at this
  have Ab:=h.le
  have Aa:=h.len
  have e:8 * T.length - (k + 1) * w=8 * (T.length - j) + (c - w):=by rw [Nat.add_mul];omega
  rw [e,Nat.pow_add,← Nat.div_div_eq_div_mul,hl,pow_256,Nat.mul_comm (valB (T.take j)),Nat.mul_add_div (Nat.two_pow_pos _),← pow_256,Nat.div_eq_of_lt hd,Nat.add_zero,h.val]
  obtain ⟨V,hV⟩:∃ V,V=valB (T.take j):=⟨_,rfl⟩
  rw [← hV]
  have e2:(2:Nat) ^ c=2 ^ (c - w) * 2 ^ w:=by rw [← Nat.pow_add];congr 1;omega
  rw [e2,Nat.mod_mul_right_div_self]
theorem RSt.rest {w:Nat} {T:List UInt8} {k n c:Nat} (h:RSt w T k T.length n c):n=valB T % 2 ^ (8 * T.length - k * w):=by
 have h1:=h.len
 rw [h.val,List.take_length,show 8 * T.length - k * w=c by omega]
end Tess
namespace Go.Proofs.YtjdccifdkjnknaaGreatDoor
open Go.RowKit Go.Sort
structure Kp (b:Nat) (o:Option Nat) (w w':World):Prop where
 os:w'.os=w.os
 tape:w'.tape=w.tape
 output:w'.output=w.output
 size:w.heap.size≤w'.heap.size
 block:∀ k,k < w.heap.size→k≠b→o≠some k→w'.heap[k]? = w.heap[k]?
theorem Kp.one {b:Nat} {o:Option Nat} {w w1 w2:World} (h:Kp b o w w1) (h':OneB b w1 w2):Kp b o w w2:=⟨h'.os.trans h.os,h'.tape.trans h.tape,h'.output.trans h.output,Nat.le_trans h.size h'.size,fun k h1 h2 h3=>(h'.block k (Nat.lt_of_lt_of_le h1 h.size) h2).trans (h.block k h1 h2 h3)⟩
theorem Kp.refl (b:Nat) (o:Option Nat) (w:World):Kp b o w w:=⟨rfl,rfl,rfl,Nat.le_refl _,fun _ _ _ _=>rfl⟩
theorem Kp.below {b N:Nat} {o:Option Nat} {w w':World} (h:Kp b o w w') (hb:N≤b) (hN:N≤w.heap.size) (ho:∀ g,o=some g→N≤g):Below N w w':=⟨h.os,h.tape,h.output,h.size,fun k hk=>h.block k (by omega) (by omega) fun e=>by have:=ho k e;omega⟩
def Loc (o:Option Nat) (w:World) (v:Value):Prop:=∀ g,v.ownBlock=some g→o=some g∨w.heap.size≤g
structure Wtr (N b:Nat) (h0:UInt8) (V B:Nat) (o:List UInt8) (n c:Nat) (vo:Value) (w:World):Prop where
 box:Dg b 171 n c vo w
 own:w.ownsRow N 5 1 vo (o.length + 1) (Lib.byteCells (h0 :: o))
 ne:vo.ownBlock≠some b
 st:Tess.WSt V B o n c
theorem oo {b base:Nat} {e:TypeId} {v:Value} {n:Nat} {xs:List Value} {w w':World} (h:w.ownsRow base e 1 v n xs) (hne:v.ownBlock≠some b) (ho:OneB b w w'):w'.ownsRow base e 1 v n xs:=by
 obtain ⟨hl,h⟩:=h
 refine ⟨hl,?_⟩
 rcases h with h | ⟨g,Ab,Aa,rfl,h2,h3,h4⟩
 ·exact .inl h
 ·exact .inr ⟨g,Ab,Aa,rfl,h2,(ho.block g (Array.getElem?_eq_some_iff.1 h3).1 (fun e=>hne (by rw [← e];rfl))).trans h3,h4⟩
theorem bs3 {base:Nat} {e:TypeId} {v:Value} {n:Nat} {xs:List Value} {w:World} (h:w.ownsRow base e 1 v n xs):∃ a c,v = .slice a n c:=by
 rcases h.2 with ⟨h,h0⟩ | ⟨g,Aa,_,h,_⟩
 ·exact ⟨none,0,by rw [h,h0]⟩
 ·exact ⟨_,_,h⟩
def cnt (b:Nat) (w:World):Nat:=match w.cell? ⟨b,1,none⟩ with | some (.int _ z)=>z.toNat | _=>0
theorem Wtr.app {N b V B n c:Nat} {h0 x:UInt8} {o:List UInt8} {vo v':Value} {W W2:World} {ob:Obj} (ne:vo.ownBlock≠some b) (hbox:Dg b 171 n c vo W) (hst:Tess.WSt V B (o ++ [x]) n c)
  (hown:W2.ownsRow N 5 1 v' (o.length + 1 + 1) (Lib.byteCells (h0 :: o) ++ [.int .u8 x.toNat])) (hg:(W.alloc ob).grownBy W2 vo.ownBlock) (hloc:v'.ownBlock=vo.ownBlock∨v'.ownBlock=some (W.heap.size + 1)) :
  Wtr N b h0 V B (o ++ [x]) n c v' (W2.setCell ⟨b,2,none⟩ v'):=by
 have hb:=(Dg.cells hbox).2.2
 have Aa:Dg b 171 n c vo W2:=(hg.block b (by simp;omega) (fun e=>ne e.symm)).trans ((Below.heap_alloc W ob b hb).trans hbox)
 have Ab:v'.ownBlock≠some b:=by
  rcases hloc with e | e
  ·rw [e];exact ne
  ·rw [e];simp;omega
 have e1:Lib.byteCells (h0 :: (o ++ [x]))=Lib.byteCells (h0 :: o) ++ [.int .u8 x.toNat]:=by simp [Lib.byteCells]
 refine ⟨Aa.set2 v',oo (b:=b) ?_ Ab ((OneB.of (Below.refl W2.heap.size W2)).set b 2 v'),Ab,hst⟩
 rw [e1,List.length_append,List.length_singleton]
 exact hown
theorem Kp.app {b:Nat} {o:Option Nat} {w W W2:World} {ob:Obj} {v v':Value} (h:Kp b o w W) (hl:Loc o w v) (hg:(W.alloc ob).grownBy W2 v.ownBlock):Kp b o w (W2.setCell ⟨b,2,none⟩ v'):=by
 refine ⟨hg.os.trans h.os,hg.tape.trans h.tape,hg.output.trans h.output,?_,fun k h1 h2 h3 => ?_⟩
 ·have:=h.size;have:=hg.size;simp [World.setCell] at this ⊢;omega
 ·have:=h.size
  rw [Below.heap_setCell _ _ _ _ h2,hg.block k (by simp;omega) (fun e => ?_),Below.heap_alloc W ob k (by omega),h.block k h1 h2 h3]
  rcases hl k e.symm with e | e
  ·exact h3 e
  ·omega
theorem Loc.app {b:Nat} {o:Option Nat} {w W:World} {v v':Value} (h:Kp b o w W) (hl:Loc o w v) (hv:v'.ownBlock=v.ownBlock∨v'.ownBlock=some (W.heap.size + 1)):Loc o w v':=fun g e=>by
 rcases hv with e2 | e2
 ·exact hl g (by rw [← e2];exact e)
 ·rw [e2] at e;have:=Option.some.inj e;have:=h.size;right;omega
set_option maxRecDepth 100000 in
set_option maxHeartbeats 4000000 in
theorem wput_any (N b width V B:Nat) (h0:UInt8) (o:List UInt8) (n c:Nat) (vo:Value) (l:List Nat) (a:Option Addr) (cp:Nat) (w:World) (h:Wtr N b h0 V B o n c vo w) (hc8:c < 8) (hw:width≤16) (hx:∀ x ∈ l,x < 2 ^ width) (hll:l.length≤1000) (hB:B≤1000000) (hNw:N≤w.heap.size)
  (hl:∀ W,Kp b vo.ownBlock w W→∀ k (hk:k < l.length),∃ bb off,a=some ⟨bb,off,none⟩∧W.cell? ⟨bb,off + k,none⟩=some (.int .i64 (l[k]:Nat))) :
  Calls Tryz.prog 123 #[.pointer (some ⟨b,0,none⟩),.int .i64 width,.slice a l.length cp] w fun e w'=>e = .returned (.tuple #[])∧∃ o' n' c' vo',Wtr N b h0 (l.foldl (fun a x=>a * 2 ^ width + x) V) (B + l.length * width) o' n' c' vo' w'∧c' < 8∧Kp b vo.ownBlock w w'∧Loc vo.ownBlock w vo':=by
 have HX:=Hd hx
 have HL:=Hd hl
 have HH:=Hd h
 have Bb:=Hd hc8
 obtain ⟨i0,hi,Ay,Az,A3⟩:=info_parts (P:=Tryz.prog) (e:=5) (z:=.int .u8 0) (size:=1) (bytes:=1) (by kernel_rfl)
 clear hx hl h hc8
 go_enter Tryz.func123,Tryz.ntmps123
 go_wp2
 go_loopw [10] (fun vi wr => ∃ (k:Nat) (o':List UInt8) (n' c':Nat) (vo':Value),k≤l.length∧vi = .int .i64 k∧Wtr N b h0 ((l.take k).foldl (fun a x=>a * 2 ^ width + x) V) (B + k * width) o' n' c' vo' wr∧c' < 8∧Kp b vo.ownBlock w wr∧Loc vo.ownBlock w vo') (fun vi _=>l.length - (intOf vi).toNat)
 case atStart=>exact ⟨0,o,n,c,vo,Nat.zero_le _,rfl,by simpa using HH.out,Bb.out,Kp.refl _ _ _,fun g e => .inl e⟩
 case round=>
  obtain ⟨k,o1,n1,c1,Bd,hk,rfl,hW,Bp,hK,hL⟩:=hrel
  by_cases hlt:k < l.length
  ·obtain ⟨bb,off,rfl,Al⟩:=HL.out wr hK k hlt
   have Bl:(k:Int) < (l.length:Int):=by omega
   have Ax:=HX.out _ (List.getElem_mem hlt)
   have HV:=Hd (show (l.take (k + 1)).foldl (fun a x=>a * 2 ^ width + x) V=(l.take k).foldl (fun a x=>a * 2 ^ width + x) V * 2 ^ width + l[k] by rw [List.take_succ_eq_append_getElem hlt,List.foldl_append];rfl)
   generalize l[k]=x at *
   generalize (l.take k).foldl (fun a x=>a * 2 ^ width + x) V=Vk at *
   have Aj:=hW.st.add width x Ax
   have An:=Aj.lt
   have Bh:n1 * 2 ^ width + x < 18446744073709551616:=Nat.lt_of_lt_of_le An (Nat.le_trans (Nat.pow_le_pow_right (by omega) (show c1 + width≤64 by omega)) (by decide))
   have Bt:IntKind.u64.wrap (x:Int)=(x:Int):=by rw [wrap_u64];have:=Nat.pow_le_pow_right (n:=2) (by omega) hw;have e:(2:Nat) ^ 16=65536:=(by decide);omega
   have A5:=Hd (dadd_any b 171 n1 c1 width x Bd wr hW.box Ax Bh (by omega) (by omega))
   have Ao:=Hd Aj
   have HW:=Hd hW
   have HK:=Hd hK
   have As:=Hd hL
   clear hW hK hL Aj An Bh Ax
   go_wp2_with (fail)
   go_at_call 165
   refine A5.out.mono ?_
   rintro e w2 ⟨rfl,A9,A4⟩
   have Be:Wtr N b h0 (Vk * 2 ^ width + x) (B + k * width + width) o1 (n1 * 2 ^ width + x) (c1 + width) Bd w2:=⟨A9,oo HW.out.own HW.out.ne A4,HW.out.ne,Ao.out⟩
   have Bi:=HK.out.one A4
   have A1:=Hd Be
   have Bm:=Hd Bi
   clear A9 A4 Be Bi Al
   go_wp2_with (fail)
   obtain ⟨wa,Bq⟩:∃ wa,wa=w2:=⟨_,rfl⟩
   subst Bq
   obtain ⟨V2,Bg⟩:∃ V2,V2=Vk * 2 ^ width + x:=⟨_,rfl⟩
   rw [← Bg] at HV A1
   obtain ⟨B2,A7⟩:∃ B2,B2=B + k * width + width:=⟨_,rfl⟩
   rw [← A7] at A1
   have Ba:=Hd A7
   clear Bg A7
   go_loopw [25] (fun _ wr => ∃ (o':List UInt8) (n' c':Nat) (vo':Value),Wtr N b h0 V2 B2 o' n' c' vo' wr∧c'≤23∧Kp b vo.ownBlock w wr∧Loc vo.ownBlock w vo') (fun _ wr=>cnt b wr)
   case atStart=>exact ⟨_,_,_,_,A1.out,by have:=Bb.out;omega,Bm.out,As.out⟩
   case round=>
    obtain ⟨o2,n2,c2,Bv,hW,Bs,hK,hL⟩:=hrel
    obtain ⟨a2,A2,rfl⟩:=bs3 hW.own
    obtain ⟨⟨x0,x1,x2⟩,⟨z0,z1,z2⟩,hb⟩:=Dg.cells hW.box
    have HW:=Hd hW
    have HK:=Hd hK
    have As:=Hd hL
    have Ar:cnt b wr=c2:=by unfold cnt;rw [x1];rfl
    have A0:=Hd Ar
    clear hW hK hL Ar
    by_cases h8:8≤c2
    ·obtain ⟨m,rfl⟩:∃ m,c2=m + 8:=⟨c2 - 8,by omega⟩
     have Bj:(8:Int)≤((m + 8:Nat):Int):=by omega
     have Ap:n2 < 18446744073709551616:=Nat.lt_of_lt_of_le HW.out.st.lt (Nat.le_trans (Nat.pow_le_pow_right (by omega) (show m + 8≤64 by omega)) (by decide))
     have HT:=Hd (fun W (h:Dg b 171 n2 (m + 8) (.slice a2 (o2.length + 1) A2) W)=>da4 b 171 n2 m 8 _ W h Ap (by omega))
     obtain ⟨Au,hq⟩:=HW.out.st.take (show 8≤m + 8 by omega)
     rw [Nat.add_sub_cancel] at Au hq
     have Ao:=Hd Au
     obtain ⟨q,Av⟩:∃ q,q=n2 / 2 ^ m:=⟨_,rfl⟩
     obtain ⟨r,hr⟩:∃ r,r=n2 % 2 ^ m:=⟨_,rfl⟩
     rw [← Av] at Ao hq
     rw [← hr] at Ao
     rw [← Av,← hr] at HT
     have Bw:IntKind.u8.wrap (q:Int)=(q:Int):=by unfold IntKind.wrap;simp [IntKind.bits,IntKind.signed];omega
     have Af:=Hd (show o2.length≤2000000 by
      have h1:=HW.out.st.len
      have h2:=Ba.out
      have h3:k * width≤1000 * 16:=Nat.mul_le_mul (by omega) hw
      omega)
     clear Au Ap Av hr
     go_wp2_with (fail)
     refine FlowO.wp_region [0,1,2,3,5,6,7] 8 rfl (by kernel_rfl) ?_
     iterate 7 (refine ⟨_,_,rfl,rfl,(fun w=>by go_simp;try rfl),?_⟩)
     intro w1 Am Br
     have Ai:Dg b 171 n2 (m + 8) (.slice a2 (o2.length + 1) A2) w1:=(Am.block _ hb).trans HW.out.box
     have Ah:=ob2 HW.out.own Am
     have Bf:=Hd (HK.out.one (OneB.of (b:=b) Am))
     have A6:=Hd (show wr.heap.size≤w1.heap.size from Am.size)
     clear x0 x1 x2 z0 z1 z2 hb Am Br
     obtain ⟨⟨d0,d1,d2⟩,⟨y0,y1,y2⟩,hb⟩:=Dg.cells Ai
     have H1:=Hd Ai
     clear Ai
     refine FlowO.two 4 8 (by kernel_rfl) rfl rfl ?_ ?_
     go_wp2_with (fail)
     refine ⟨rfl,FlowO.seq [8,9,10,11,12,13,14] (by kernel_rfl) (by kernel_rfl) ?_⟩
     simp only [FlowP.pick,List.flatMap_cons,List.flatMap_nil,List.drop_succ_cons,List.drop_zero,List.take_succ_cons,List.take_zero,List.append_nil,List.cons_append,List.nil_append]
     go_wp2_with (fail)
     go_at_call 166
     refine ((HT.out _ H1.out).mono ?_)
     rintro e w3 ⟨rfl,Ad,Ac⟩
     have Ab:=oo Ah HW.out.ne Ac
     have Ak:=Hd (Bf.out.one Ac)
     obtain ⟨⟨e0,e1,e2⟩,⟨t0,t1,t2⟩,A8⟩:=Dg.cells Ad
     have Aw:=Hd Ad
     have At:=Hd Ab
     clear Ad Ac Ab d0 d1
     go_wp2_with (at_builtin;refine wpList_append_own_at _ rfl _ _ 86 rfl N 5 i0 (.int .u8 0) 1 1 Tryz.underlying86 hi Ay Az A3 rfl (by decide) _ _ _ rfl (At.out.alloc _) ⟨w3.heap.size,0,none⟩ 1 1 [.int .u8 q] rfl rfl (cell_one_new _ _ _) (by simp [Value.oneCell']) (by have:=Af.out;unfold maxLen;omega) (by have:=Af.out;omega) (by have:=A6.out;have:=Ak.out.size;simp;omega) ?_)
     rotate_left
     go_wp2_with (fail)
     go_at_call 166
     refine ((HT.out _ H1.out).mono ?_)
     rintro e w3 ⟨rfl,Ad,Ac⟩
     have Ab:=oo Ah HW.out.ne Ac
     have Ak:=Hd (Bf.out.one Ac)
     obtain ⟨⟨e0,e1,e2⟩,⟨t0,t1,t2⟩,A8⟩:=Dg.cells Ad
     have Aw:=Hd Ad
     have At:=Hd Ab
     clear Ad Ac Ab d0 d1
     go_wp2_with (fail)
     refine ⟨rfl,FlowO.pures [9] 6 (by kernel_rfl) ?_⟩
     iterate 1 (refine ⟨_,_,rfl,rfl,(fun w=>by go_simp;try rfl),?_⟩)
     refine FlowO.two 4 10 (by kernel_rfl) rfl rfl ?_ ?_
     go_wp2_with (fail)
     refine ⟨rfl,FlowO.seq [10,11,12,13,14] (by kernel_rfl) (by kernel_rfl) ?_⟩
     simp only [FlowP.pick,List.flatMap_cons,List.flatMap_nil,List.drop_succ_cons,List.drop_zero,List.take_succ_cons,List.take_zero,List.append_nil,List.cons_append,List.nil_append]
     go_wp2_with (at_builtin;refine wpList_append_own_at _ rfl _ _ 86 rfl N 5 i0 (.int .u8 0) 1 1 Tryz.underlying86 hi Ay Az A3 rfl (by decide) _ _ _ rfl (At.out.alloc _) ⟨w3.heap.size,0,none⟩ 1 1 [.int .u8 q] rfl rfl (cell_one_new _ _ _) (by simp [Value.oneCell']) (by have:=Af.out;unfold maxLen;omega) (by have:=Af.out;omega) (by have:=A6.out;have:=Ak.out.size;simp;omega) ?_)
     rotate_left
     go_wp2_with (fail)
     refine ⟨rfl,FlowO.seq [4,11,12,13,14] (by kernel_rfl) (by kernel_rfl) ?_⟩
     simp only [FlowP.pick,List.flatMap_cons,List.flatMap_nil,List.drop_succ_cons,List.drop_zero,List.take_succ_cons,List.take_zero,List.append_nil,List.cons_append,List.nil_append]
     go_wp2_with (at_builtin;refine wpList_append_own_at _ rfl _ _ 86 rfl N 5 i0 (.int .u8 0) 1 1 Tryz.underlying86 hi Ay Az A3 rfl (by decide) _ _ _ rfl (At.out.alloc _) ⟨w3.heap.size,0,none⟩ 1 1 [.int .u8 q] rfl rfl (cell_one_new _ _ _) (by simp [Value.oneCell']) (by have:=Af.out;unfold maxLen;omega) (by have:=Af.out;omega) (by have:=A6.out;have:=Ak.out.size;simp;omega) ?_)
     all_goals
      intro v' w4 Ae Aa _ Ag
      have Bk:((UInt8.ofNat q).toNat:Int)=(q:Int):=by rw [UInt8.toNat_ofNat'];omega
      rw [← Bk] at Ae
      have Bc:=Hd (Wtr.app HW.out.ne Aw.out Ao.out Ae Aa Ag)
      have Bo:=Hd (Kp.app (v':=v') Ak.out As.out Aa)
      have Bn:=Hd (Loc.app Ak.out As.out Ag)
      have Aq:Dg b 171 r m (.slice a2 (o2.length + 1) A2) w4:=(Aa.block b (by simp;omega) (fun e=>HW.out.ne e.symm)).trans ((Below.heap_alloc w3 _ b A8).trans Aw.out)
      clear Aa Ag d2 y0 y1 y2 hb e0 e1 e2 t0 t1 t2 A8
      obtain ⟨a4,Bu,rfl⟩:=bs3 Ae
      obtain ⟨⟨d0,d1,d2⟩,⟨y0,y1,y2⟩,hb⟩:=Dg.cells Aq
      clear Ae Aq
      go_wp2_with (fail)
      refine ⟨rfl,?_⟩
      go_roundw
      case rel=>exact ⟨_,_,_,_,_,_,_,_,_,_,_,_,_,_,_,_,_,_,_,_,⟨_,_,_,_,Bc.out,by omega,Bo.out,Bn.out⟩,rfl⟩
      case measure=>have h1:cnt b _=m:=(by unfold cnt;rw [(Dg.cells Bc.out.box).1.2.1];rfl);rw [h1,A0.out];omega
    ·have Bj:¬ (8:Int)≤(c2:Int):=by omega
     go_wp2
     go_roundw
     case rel=>exact ⟨k + 1,o2,n2,c2,_,by omega,by go_num,by rw [HV.out,Nat.succ_mul,← Nat.add_assoc,← Ba.out];exact HW.out,by omega,HK.out,As.out⟩
     case measure=>simp [intOf];omega
  ·have Bl:¬ (k:Int) < (l.length:Int):=by omega
   obtain rfl:k=l.length:=by omega
   rw [List.take_length] at hW
   go_wp2
   go_end0
   exact ⟨rfl,_,_,_,_,hW,Bp,hK,hL⟩
end Go.Proofs.YtjdccifdkjnknaaGreatDoor
namespace Tess
open Go
theorem lib_bits:∀ (f x:Nat),x < 2 ^ f→Lib.bitLenAux f x=bitLen x
 | 0,x,h=>by
   have:x=0:=by simpa using h
   subst this;rfl
 | f + 1,x,h=>by
   unfold Lib.bitLenAux
   split
   ·subst_vars;rfl
   ·rename_i h0
    rw [Nat.pow_succ] at h
    rw [lib_bits f (x / 2) (by omega)]
    unfold bitLen
    rw [if_neg h0]
    by_cases h2:x / 2=0
    ·have h1:x=1:=by omega
     subst h1
     rfl
    ·rw [if_neg h2]
     conv=>rhs;rw [Nat.log2_def]
     rw [if_pos (by omega)]
     omega
theorem max_maxN (l:List Nat):max 0 (Lib.maxOf ((l.map fun n:Nat=>(n:Int)) ++ [0]))=(maxN l:Nat):=by
 have Aa:∀ (l:List Nat) (a:Nat),(l.map fun n:Nat=>(n:Int)).foldl max (a:Int)=((l.foldl max a:Nat):Int):=by
  intro l
  induction l with
  | nil=>intro a;rfl
  | cons x l ih=>
    intro a
    rw [List.map_cons,List.foldl_cons,List.foldl_cons,show max (a:Int) (x:Int)=((max a x:Nat):Int) by omega]
    exact ih _
 unfold Lib.maxOf maxN
 cases l with
 | nil=>rfl
 | cons x l=>
   rw [List.map_cons,List.cons_append,List.headD_cons,List.foldl_cons,List.foldl_append,show max (x:Int) (x:Int)=((max 0 x:Nat):Int) by omega,Aa,List.foldl_cons]
   simp only [List.foldl_cons,List.foldl_nil]
   omega
end Tess
namespace Go.Proofs.YtjdccifdkjnknaaGreatDoor
open Go.RowKit Go.Sort
theorem other_any (n:Nat) (w:World) (h:n≤65535):Calls Tryz.prog 161 #[.int .i64 n] w fun e w'=>e = .returned (.bool false)∧w'=w:=by
 have h1:decide ((65535:Int) < (n:Int))=false:=decide_eq_false (by omega)
 have h2:decide ((n:Int) < 0)=false:=decide_eq_false (by omega)
 go_enter Tryz.func161,Tryz.ntmps161
 go_wp2
 go_ret
 exact ⟨rfl,rfl⟩
set_option maxHeartbeats 1000000 in
theorem wo3 (v:Value) (l:List Nat) (w:World) (hv:SlOf w v (l.map fun n => .int .i64 (n:Nat))) (hl:∀ x ∈ l,x≤65535) :
  Calls Tryz.prog 202 #[v,.func (.func 161) #[] #[]] w fun e w'=>e = .returned (.int .i64 (-1))∧Below w.heap.size w w':=by
 obtain ⟨a,Ae,rfl,Ab,hc⟩:=so3 _ hv
 have HC:=Hd hc
 have HL:=Hd hl
 clear hc hv hl
 go_enter Tryz.func202,Tryz.ntmps202
 go_wp2
 go_loopw [8] (fun i wr => ∃ k:Nat,k≤l.length∧i = .int .i64 k∧Below w.heap.size w wr) (fun i _=>l.length - (intOf i).toNat)
 case atStart=>exact ⟨0,Nat.zero_le _,rfl,Below.refl _ _⟩
 case round=>
  obtain ⟨k,hk,rfl,hB⟩:=hrel
  by_cases hlt:k < l.length
  ·obtain ⟨b,Ad,rfl,hb,Aa⟩:=HC.out wr hB k hlt
   have hx:=HL.out _ (List.getElem_mem hlt)
   have Ac:(k:Int) < (l.length:Int):=by omega
   generalize l[k]=y at *
   have HB:=Hd hB
   clear hB hb
   go_wp2_with (go_at_call 161;refine (other_any y _ hx).mono ?_;rintro e w2 ⟨rfl,rfl⟩)
   go_roundw
   case rel=>exact ⟨k + 1,by omega,by go_num,HB.out⟩
   case measure=>simp [intOf];omega
  ·have Ac:¬ (k:Int) < (l.length:Int):=by omega
   go_wp2
   go_ret
   exact ⟨rfl,hB⟩
theorem wo2 (v:Value) (l:List Nat) (w:World) (hv:SlOf w v (l.map fun n => .int .i64 (n:Nat))) (hl:∀ x ∈ l,x≤65535) :
  Calls Tryz.prog 162 #[v,.func (.func 161) #[] #[]] w fun e w'=>e = .returned (.bool false)∧Below w.heap.size w w':=by
 have HI:=Hd (wo3 v l w hv hl)
 obtain ⟨a,Ab,rfl,Aa,hc⟩:=so3 _ hv
 clear hc hv
 go_enter Tryz.func162,Tryz.ntmps162
 go_wp2_with (go_at_call 202;refine HI.out.mono ?_;rintro e w2 ⟨rfl,hB⟩)
 go_ret
 exact ⟨rfl,hB⟩
set_option maxRecDepth 100000 in
set_option maxHeartbeats 1000000 in
theorem wa2 (a:Option Addr) (cap:Nat) (l:List Nat) (w:World) (hv:SlOf w (.slice a l.length cap) (l.map fun n => .int .i64 (n:Nat))) (hcap:l.length≤cap) (hl:∀ x ∈ l,x≤65535) (hll:l.length≤1000) :
  Calls Tryz.prog 122 #[.slice a l.length cap] w fun e w'=>e = .returned (.tuple #[.int .i64 (Tess.widN l:Nat),.int .i64 0])∧Below w.heap.size w w':=by
 have Ar:=Hd (fun W (hB:Below w.heap.size w W)=>wo2 _ l W (hv.below hB) hl)
 obtain ⟨a',Av,e,Ao,hc⟩:=so3 _ hv
 cases e
 have HC:=Hd hc
 have hm:Tess.maxN l≤65535:=Tess.mNl 65535 l 0 (by omega) hl
 have HM:=Hd hm
 have Ay:decide ((1000:Int) < (l.length:Int))=false:=decide_eq_false (by omega)
 have Aw:IntKind.u64.wrap ((Tess.maxN l:Nat):Int)=((Tess.maxN l:Nat):Int):=by rw [wrap_u64];omega
 obtain ⟨i0,hi,Al,Am,Aq⟩:=info_parts (P:=Tryz.prog) (e:=3) (z:=.int .i64 0) (size:=1) (bytes:=8) (by kernel_rfl)
 clear hc hv
 go_enter Tryz.func122,Tryz.ntmps122
 have Ad:a=none→l.length=0∧l.length=0:=fun e=>by
  rcases Nat.eq_zero_or_pos l.length with h | h
  ·exact ⟨h,h⟩
  ·obtain ⟨b,Au,h1,_⟩:=HC.out w (Below.refl _ _) 0 h
   rw [e] at h1;cases h1
 have Ap:(l.map fun n:Nat=>Value.int .i64 (n:Nat)).length=l.length * 1:=by simp
 have Ai:=Hd (Tess.max_maxN l)
 have Ag:(l.length:Int)≤9223372036854775807:=by omega
 go_wp2_with (first
  | (go_at_call 162;refine (Ar.out _ (Below.refl _ _)).mono ?_;rintro e w2 ⟨rfl,hB⟩;have HB:=Hd hB;clear hB)
  | (at_builtin;refine wpList_append_grows _ rfl _ _ 96 rfl 3 i0 (.int .i64 0) 1 8 Tryz.underlying96 hi Al Am Aq rfl (by decide) a l.length l.length (l.map fun n:Nat=>Value.int .i64 (n:Nat)) rfl Ad Ap ?c1 ⟨w2.heap.size,0,none⟩ 1 1 [.int .i64 0] rfl rfl (cell_one_new _ _ _) (by simp [Value.oneCell']) (by omega) (by unfold maxLen;omega) (by omega) ?_))
 case c1=>
  intro b hb j u hj
  have Ah:j < l.length:=by have:=(List.getElem?_eq_some_iff.1 hj).1;simpa using this
  obtain ⟨b',Au,h1,_,h2⟩:=HC.out (w2.alloc (.cells #[.int .i64 0] 3)) (HB.out.alloc HB.out.size _) j Ah
  rw [h1] at hb
  cases hb
  rw [List.getElem?_map,List.getElem?_eq_getElem Ah] at hj
  cases hj
  rw [ap2];exact h2
 intro v' w3 Ab Aj
 obtain ⟨g,cp,rfl,_,As,_,Ak⟩:=oc2 Ab (by omega)
 have Aa:=Tryz.slices_Max_int g 0 (l.length + 1) cp ((l.map fun n:Nat=>(n:Int)) ++ [0]) w3 (by omega) (by simp) (by omega) (fun j hj=>by
  have An:j < l.length + 1:=by simpa using hj
  rw [(Ak j An).1]
  by_cases h:j < l.length
  ·rw [List.getElem?_append_left (by simpa using h),List.getD_eq_getElem?_getD,List.getElem?_append_left (by simpa using h)]
   simp [h]
  ·have:j=l.length:=by omega
   subst this
   rw [List.getElem?_append_right (by simp),List.getD_eq_getElem?_getD,List.getElem?_append_right (by simp)]
   simp)
 rw [List.take_of_length_le (by simp)] at Aa
 generalize hz:Lib.maxOf ((l.map fun n:Nat=>(n:Int)) ++ [0])=z at Aa Ai
 have Ax:=Ai.out
 have Ae:=Hd Aa
 have At:=Hd ((HB.out.alloc HB.out.size (.cells #[.int .i64 0] 3)).grown Aj (by have:=HB.out.size;simp;omega) (fun k e=>by cases e))
 have Ac:=fun W=>Tryz.bits_Len ((Tess.maxN l:Nat):Int) W (by omega) (by omega)
 rw [Int.toNat_natCast,show Lib.bitLen (Tess.maxN l)=bitLen (Tess.maxN l) from Tess.lib_bits 64 _ (by omega)] at Ac
 have Af:=Hd Ac
 clear Aa Ac Ab Aj Ak
 go_wp2_with (first
  | (go_at_call 164;refine Ae.out.mono ?_;rintro e w4 ⟨rfl,rfl⟩)
  | (go_at_call 163;refine (Af.out _).mono ?_;rintro e w5 ⟨rfl,rfl⟩))
 go_ret2
 exact ⟨rfl,At.out⟩
end Go.Proofs.YtjdccifdkjnknaaGreatDoor
