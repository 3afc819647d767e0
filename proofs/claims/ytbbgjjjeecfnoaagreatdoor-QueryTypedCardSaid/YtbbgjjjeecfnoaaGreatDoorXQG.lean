/- Joined by mergeQ.py: Q39, Q40 -/
import Derived.Test.YtbbgjjjeecfnoaaGreatDoorXQ38
import Derived.Test.YtbbgjjjeecfnoaaGreatDoorXPD
import Derived.Test.YtbbgjjjeecfnoaaGreatDoorXQ26
import Derived.Test.YtbbgjjjeecfnoaaGreatDoorXQN
import Derived.Test.YtbbgjjjeecfnoaaGreatDoorXFl
import Derived.Lib.AppendIntMem
namespace Go.Proofs.YtbbgjjjeecfnoaaGreatDoor
open Go.RowKit Go.Sort Go.Maps
open Tess (Tok)
theorem quote_len (c:UInt8):(Tess.Wr.quoteB c).length≤4∧1≤(Tess.Wr.quoteB c).length:=by
 unfold Tess.Wr.quoteB
 split
 ·simp
 ·split <;> simp
theorem quotes_len (l:List UInt8):(l.flatMap Tess.Wr.quoteB).length≤4 * l.length:=by
 induction l with
 | nil=>simp
 | cons c r ih=>
   rw [List.flatMap_cons,List.length_append,List.length_cons]
   have:=(quote_len c).1
   omega
structure Qt (w W1:World) (v:Value) (acc:List UInt8) (W:World):Prop where
 o:W.ownsRow w.heap.size 5 1 v acc.length (acc.map u8v)
 ne:v.ownBlock≠some (w.heap.size + 1)
 b:Below w.heap.size w W
 k:W.heap[w.heap.size + 1]? = W1.heap[w.heap.size + 1]?
 l:w.heap.size + 2≤W.heap.size
section
variable {w W1 W W':World} {v v':Value} {acc:List UInt8}
theorem Qt.alloc (h:Qt w W1 v acc W) (o:Obj):Qt w W1 v acc (W.alloc o):=
 have hl:=h.l
 ⟨h.o.alloc _,h.ne,h.b.alloc (by omega) _,(Below.heap_alloc _ _ _ (by omega)).trans h.k,by simp;omega⟩
theorem Qt.below (h:Qt w W1 v acc W) (hb:Below W.heap.size W W'):Qt w W1 v acc W':=
 have hl:=h.l
 ⟨owns_below h.o hb,h.ne,Bt h.b hb,(hb.block _ (by omega)).trans h.k,Nat.le_trans hl hb.size⟩
theorem Qt.app {cs:List UInt8} (h:Qt w W1 v acc W) (hg:W.grownBy W' v.ownBlock) (ho:W'.ownsRow w.heap.size 5 1 v' (acc.length + cs.length) (acc.map u8v ++ cs.map u8v)) (hl:v'.ownBlock=v.ownBlock∨v'.ownBlock=some W.heap.size):Qt w W1 v' (acc ++ cs) W':=by
 have h2:=h.l
 refine ⟨by rw [List.length_append,List.map_append];exact ho,?_,h.b.grown hg (by omega) (fun k e=>(h.o.lt k e).1),(hg.block _ (by omega) (fun e=>h.ne e.symm)).trans h.k,Nat.le_trans h2 hg.size⟩
 rcases hl with e | e
 ·rw [e];exact h.ne
 ·rw [e];intro e2;have:=Option.some.inj e2;omega
end
def newFour (x0 x1 x2 x3:Value) (v:Value) (w:World):Prop:=∃ g,v = .slice (some ⟨g,0,none⟩) 4 4∧g < w.heap.size∧∀ j u,[x0,x1,x2,x3][j]? = some u→w.cell? ⟨g,j,none⟩=some u
theorem newFour_mono (x0 x1 x2 x3:Value):Flow.Spec.mono (.inr (newFour x0 x1 x2 x3)):=fun _ _ _ ⟨g,h1,h2,h3⟩ hb=>⟨g,h1,Nat.lt_of_lt_of_le h2 hb.size,fun j u hj=>(hb.cell (p:=⟨g,j,none⟩) h2).trans (h3 j u hj)⟩
theorem newFour_mk (x0 x1 x2 x3:Value) (w:World) (t:TypeId):newFour x0 x1 x2 x3 (.slice (some ⟨w.heap.size,0,none⟩) 4 4) (w.alloc (.cells #[x0,x1,x2,x3] t)):=⟨_,rfl,by simp,fun j u hj=>by
 rw [cell_of_row _ _ j _ _ _ (heap_alloc_new _ _)]
 simpa using hj⟩
set_option maxRecDepth 100000 in
theorem and15:∀ n:Fin 256,bits .and .u8 (n.val:Int) 15=((n.val % 16:Nat):Int):=by decide
theorem hex_int (n:Nat) (h:n < 16) (z:Int) (hz:z=n) (hb:z.toNat < (⟨#[48,49,50,51,52,53,54,55,56,57,97,98,99,100,101,102]⟩:ByteArray).size) :
  Value.int .u8 (((⟨#[48,49,50,51,52,53,54,55,56,57,97,98,99,100,101,102]⟩:ByteArray)[z.toNat]'hb).toNat:Int) = .int .u8 ((Tess.Wr.hexD n).toNat:Int):=by
 subst hz
 have:n=0∨n=1∨n=2∨n=3∨n=4∨n=5∨n=6∨n=7∨n=8∨n=9∨n=10∨n=11∨n=12∨n=13∨n=14∨n=15:=by omega
 rcases this with rfl | rfl | rfl | rfl | rfl | rfl | rfl | rfl | rfl | rfl | rfl | rfl | rfl | rfl | rfl | rfl <;> rfl
set_option maxRecDepth 100000 in
set_option maxHeartbeats 4000000 in
theorem quoted_any (s:ByteArray) (w:World) (hs:s.size≤1000000000) :
  Calls Tryz.prog 198 #[.string s] w fun e w'=>e = .returned (.string (Tok.ofL (Tess.Wr.quoted s)))∧Below w.heap.size w w':=by
 obtain ⟨i0,hi0,hz0,hz1,hz2⟩:=info_parts infoU8
 obtain ⟨W0,hW0⟩:∃ W0,w.alloc (.cells #[.int .u8 34] 5)=W0:=⟨_,rfl⟩
 obtain ⟨l1,l2,l3⟩:=laid1 w (.cells #[.int .u8 34] 5)
 rw [hW0] at l1 l2 l3
 obtain ⟨cap,hcv⟩:∃ cap,(convert 9 276 (.string s)).run Tryz.prog W0 = .ok (.slice (some ⟨w.heap.size + 1,0,none⟩) s.size cap) (Lib.bytesWorld W0 5 s):=⟨_,by rw [Lib.run_convert_string_bytes W0 _ _ _ _ Tryz.underlying9 Tryz.underlying276 Tryz.underlying5,l2]⟩
 have hB1:Below W0.heap.size W0 (Lib.bytesWorld W0 5 s):=Lib.bytesWorld_below _ _ _
 have hS1:(Lib.bytesWorld W0 5 s).heap.size=W0.heap.size + 1:=Lib.bytesWorld_size _ _ _
 have HCL:RowKit.Hid (∀ j (h:j < s.size),(Lib.bytesWorld W0 5 s).cell? ⟨w.heap.size + 1,j,none⟩=some (.int .u8 (s[j]).toNat)):=Lib.hid fun j hj=>by
  have:=Lib.bytesWorld_cell W0 5 s j hj
  rw [l2] at this
  rw [this,List.getD_eq_getElem?_getD,List.getElem?_eq_getElem (by simpa using hj)]
  rfl
 have h0:W0.ownsRow w.heap.size 5 1 (.slice (some ⟨w.heap.size,0,none⟩) 1 1) ([34]:List UInt8).length (([34]:List UInt8).map u8v):=⟨rfl,.inr ⟨w.heap.size,1,_,rfl,Nat.le_refl _,l1,Nat.le_refl _,by unfold maxLen;omega,rfl,rfl⟩⟩
 have hQ0:RowKit.Hid (Qt w (Lib.bytesWorld W0 5 s) (.slice (some ⟨w.heap.size,0,none⟩) 1 1) [34] (Lib.bytesWorld W0 5 s)):=Lib.hid ⟨owns_below h0 hB1,by simp [Value.ownBlock],Bt l3 hB1,rfl,by omega⟩
 clear l1 l2 l3 h0 hB1 hS1
 generalize Lib.bytesWorld W0 5 s=W1 at *
 go_enter Tryz.func198,Tryz.ntmps198
 go_wp2
 go_loopw [3,10] (fun v i wr => ∃ k:Nat,k≤s.size∧i = .int .i64 k∧Qt w W1 v (34 :: (s.data.toList.take k).flatMap Tess.Wr.quoteB) wr) (fun _ i _=>s.size - (intOf i).toNat)
 case atStart=>exact ⟨0,Nat.zero_le _,rfl,by simpa using hQ0.out⟩
 case round=>
  obtain ⟨k,hk,rfl,hQ⟩:=hrel
  have HQ:=Lib.hid hQ
  clear hQ hcv hQ0
  have hlen:(34 :: (s.data.toList.take k).flatMap Tess.Wr.quoteB).length≤4000000001:=by
   have:=quotes_len (s.data.toList.take k)
   rw [List.length_take] at this
   rw [List.length_cons];omega
  by_cases hlt:k < s.size
  ·have hck:wr.cell? ⟨w.heap.size + 1,k,none⟩=some (.int .u8 (s[k]).toNat):=(World.cell?_of_block (a:=⟨w.heap.size + 1,k,none⟩) HQ.out.k).trans (HCL.out k hlt)
   have HN:=Lib.hid (show ∀ cs,Tess.Wr.quoteB s[k]=cs→34 :: (s.data.toList.take (k + 1)).flatMap Tess.Wr.quoteB=(34 :: (s.data.toList.take k).flatMap Tess.Wr.quoteB) ++ cs from fun cs hcs=>by
    rw [List.take_succ_eq_append_getElem (by simpa using hlt),List.flatMap_append,← hcs]
    simp [ByteArray.getElem_eq_getElem_data])
   have hki:(k:Int) < (s.size:Int):=by omega
   generalize 34 :: (s.data.toList.take k).flatMap Tess.Wr.quoteB=acc at *
   generalize s[k]=c at *
   have hc256:=c.toNat_lt
   have hbs:w.heap.size + 2≤wr.heap.size:=HQ.out.l
   by_cases h1:c=34∨c=92
   ·have HC:=Lib.hid (HN.out [92,c] (by unfold Tess.Wr.quoteB;rw [if_pos h1]))
    have h1i:(((c.toNat:Int) == 34)=true)∨(((c.toNat:Int) == 34)=false∧((c.toNat:Int) == 92)=true):=by
     rcases h1 with rfl | rfl
     ·exact Or.inl rfl
     ·exact Or.inr ⟨rfl,rfl⟩
    have HU:=Lib.hid (show [Value.int .u8 92,.int .u8 (c.toNat:Int)]=([92,c]:List UInt8).map u8v from rfl)
    clear h1 HN
    generalize hCC:c.toNat=C at *
    rcases h1i with h1i | ⟨h1i,h1j⟩
    all_goals
     go_wp2_with (at_builtin;refine wpList_append_own_at _ rfl _ _ 276 rfl w.heap.size 5 i0 (.int .u8 0) 1 1 Tryz.underlying276 hi0 hz0 hz1 hz2 rfl (by decide) _ _ _ rfl (HQ.out.alloc _).o ⟨wr.heap.size,0,none⟩ 2 2 [.int .u8 92,.int .u8 C] rfl rfl ?c1 (by simp [Value.oneCell']) (by unfold maxLen;omega) (by omega) (by simp;omega) ?_)
     case c1=>intro j u hj;rcases j with _ | _ | j <;> simp at hj <;> subst hj <;> simp [Addr.add]
     intro v' w1 hown1 hgrow _ hloc
     rw [HU.out] at hown1
     have H1:=Lib.hid ((HQ.out.alloc _).app hgrow hown1 (by simpa using hloc))
     rw [← HC.out] at H1
     clear hown1 hgrow hloc
     go_wp2
     go_roundw
     case rel=>exact ⟨k + 1,by omega,by go_num,H1.out⟩
     case measure=>simp [intOf];omega
   ·have n34:c.toNat≠34:=fun e=>h1 (Or.inl (UInt8.toNat_inj.1 e))
    have n92:c.toNat≠92:=fun e=>h1 (Or.inr (UInt8.toNat_inj.1 e))
    have e34:((c.toNat:Int) == 34)=false:=by rw [beq_eq_false_iff_ne];omega
    have e92:((c.toNat:Int) == 92)=false:=by rw [beq_eq_false_iff_ne];omega
    by_cases h2:c.toNat < 32∨126 < c.toNat
    ·have HC:=Lib.hid (HN.out [92,120,Tess.Wr.hexD (c.toNat / 16),Tess.Wr.hexD (c.toNat % 16)] (by unfold Tess.Wr.quoteB;rw [if_neg h1,if_pos h2]))
     have h2i:((c.toNat:Int) < 32)∨(¬ ((c.toNat:Int) < 32)∧(126:Int) < (c.toNat:Int)):=by omega
     clear h1 h2 HN
     generalize hCC:c.toNat=C at *
     have hand:bits .and .u8 (C:Int) 15=((C % 16:Nat):Int):=and15 ⟨C,hc256⟩
     rcases h2i with h2i | ⟨h2i,h2j⟩
     all_goals
      go_wp2
      refine Flow.wp_region_flow_tail 8 (Flow.specs [.inl ?_,.inl ?_,.inl ?_,.inl (.int .u8 ((Tess.Wr.hexD (C / 16)).toNat:Int)),.inl ?_,.inl (.int .u8 ((C % 16:Nat):Int)),.inl (.int .u8 ((Tess.Wr.hexD (C % 16)).toNat:Int)),.inr (newFour (.int .u8 92) (.int .u8 120) (.int .u8 ((Tess.Wr.hexD (C / 16)).toNat:Int)) (.int .u8 ((Tess.Wr.hexD (C % 16)).toNat:Int)))]) (by kernel_rfl) (by kernel_rfl) ?_ ?_
      rotate_left 4
      ·refine Flow.specs_mono ?_
       repeat (first | exact Flow.lmono_nil | refine Flow.lmono_inl ?_ | refine Flow.lmono_inr (newFour_mono _ _ _ _) ?_)
      all_goals try simp only [List.take_succ_cons,List.take_zero,List.drop_succ_cons,List.drop_zero]
      iterate 3 (refine Flow.tree_valK rfl (fun K hK=>⟨fun w hw hG => ?_,?_⟩);(have hcl:=Flow.bcell hw;clear hG hw;unfold Flow.Runs Flow.yields;go_simp;try rfl);go_simp;refine hK _ ?_;clear hK K)
      (refine Flow.tree_valK rfl (fun K hK=>⟨fun w hw hG => ?_,?_⟩);(clear hG hw;unfold Flow.Runs Flow.yields;go_simp;rw [dif_pos (by omega)];exact ⟨Below.refl _ _,hex_int _ (by omega) _ (by omega) _⟩);go_simp;refine hK _ ?_;clear hK K)
      iterate 1 (refine Flow.tree_valK rfl (fun K hK=>⟨fun w hw hG => ?_,?_⟩);(have hcl:=Flow.bcell hw;clear hG hw;unfold Flow.Runs Flow.yields;go_simp;try rfl);go_simp;refine hK _ ?_;clear hK K)
      (refine Flow.tree_valK rfl (fun K hK=>⟨fun w hw hG => ?_,?_⟩);(clear hG hw;unfold Flow.Runs Flow.yields;go_simp);go_simp;refine hK _ ?_;clear hK K)
      (refine Flow.tree_valK rfl (fun K hK=>⟨fun w hw hG => ?_,?_⟩);(clear hG hw;unfold Flow.Runs Flow.yields;go_simp;rw [dif_pos (by omega)];exact ⟨Below.refl _ _,hex_int _ (by omega) _ (by omega) _⟩);go_simp;refine hK _ ?_;clear hK K)
      (refine Flow.tree_varK rfl (fun K hK=>⟨fun w hw hG => ?_,?_⟩);(clear hG hw;unfold Flow.Runs Flow.yields;go_simp;exact ⟨(Below.refl _ _).alloc (Nat.le_refl _) _,newFour_mk _ _ _ _ _ _⟩);intro vz;go_simp;refine hK _ _ ?_;clear hK K)
      refine Flow.tree_nil fun w2 hw2 hG => ?_
      obtain ⟨gn,rfl,hgn,hcn⟩:=(show newFour (.int .u8 92) (.int .u8 120) (.int .u8 ((Tess.Wr.hexD (C / 16)).toNat:Int)) (.int .u8 ((Tess.Wr.hexD (C % 16)).toNat:Int)) vz w2 by simpa [Flow.upd] using hG 7)
      clear hG
      have HQ2:=Lib.hid (HQ.out.below hw2)
      have hbs2:w.heap.size≤w2.heap.size:=by have:=hw2.size;omega
      have HU:=Lib.hid (show [Value.int .u8 92,.int .u8 120,.int .u8 ((Tess.Wr.hexD (C / 16)).toNat:Int),.int .u8 ((Tess.Wr.hexD (C % 16)).toNat:Int)]=([92,120,Tess.Wr.hexD (C / 16),Tess.Wr.hexD (C % 16)]:List UInt8).map u8v from rfl)
      go_wp2_with (at_builtin;refine wpList_append_own_at _ rfl _ _ 276 rfl w.heap.size 5 i0 (.int .u8 0) 1 1 Tryz.underlying276 hi0 hz0 hz1 hz2 rfl (by decide) _ _ _ rfl HQ2.out.o ⟨gn,0,none⟩ 4 4 [.int .u8 92,.int .u8 120,.int .u8 ((Tess.Wr.hexD (C / 16)).toNat:Int),.int .u8 ((Tess.Wr.hexD (C % 16)).toNat:Int)] rfl rfl ?c1 (by simp [Value.oneCell']) (by unfold maxLen;omega) (by omega) hbs2 ?_)
      case c1=>intro j u hj;have hju:=hcn j u hj;rcases j with _ | j <;> simpa [Addr.add] using hju
      intro v' w1 hown1 hgrow _ hloc
      rw [HU.out] at hown1
      have H1:=Lib.hid (HQ2.out.app hgrow hown1 hloc)
      rw [← HC.out] at H1
      clear hown1 hgrow hloc
      go_wp2
      go_roundw
      case rel=>exact ⟨k + 1,by omega,by go_num,H1.out⟩
      case measure=>simp [intOf];omega
    ·have HC:=Lib.hid (HN.out [c] (by unfold Tess.Wr.quoteB;rw [if_neg h1,if_neg h2]))
     have h2i:¬ ((c.toNat:Int) < 32):=by omega
     have h2j:¬ ((126:Int) < (c.toNat:Int)):=by omega
     have HU:=Lib.hid (show [Value.int .u8 (c.toNat:Int)]=([c]:List UInt8).map u8v from rfl)
     clear h1 h2 HN
     generalize hCC:c.toNat=C at *
     go_wp2_with (at_builtin;refine wpList_append_own_at _ rfl _ _ 276 rfl w.heap.size 5 i0 (.int .u8 0) 1 1 Tryz.underlying276 hi0 hz0 hz1 hz2 rfl (by decide) _ _ _ rfl (HQ.out.alloc _).o ⟨wr.heap.size,0,none⟩ 1 1 [.int .u8 C] rfl rfl (cell_one_new _ _ _) (by simp [Value.oneCell']) (by unfold maxLen;omega) (by omega) (by simp;omega) ?_)
     intro v' w1 hown1 hgrow _ hloc
     rw [HU.out] at hown1
     have H1:=Lib.hid ((HQ.out.alloc _).app hgrow hown1 (by simpa using hloc))
     rw [← HC.out] at H1
     clear hown1 hgrow hloc
     go_wp2
     go_roundw
     case rel=>exact ⟨k + 1,by omega,by go_num,H1.out⟩
     case measure=>simp [intOf];omega
  ·obtain rfl:k=s.size:=by omega
   have hki:¬ (s.size:Int) < (s.size:Int):=by omega
   have HF:=Lib.hid (show (34 :: (s.data.toList.take s.size).flatMap Tess.Wr.quoteB) ++ [34]=Tess.Wr.quoted s by
    rw [List.take_of_length_le (by simp)];rfl)
   have HU:=Lib.hid (show [Value.int .u8 34]=([34]:List UInt8).map u8v from rfl)
   have hbs:w.heap.size + 2≤wr.heap.size:=HQ.out.l
   generalize 34 :: (s.data.toList.take s.size).flatMap Tess.Wr.quoteB=acc at *
   go_wp2_with (at_builtin;refine wpList_append_own_at _ rfl _ _ 276 rfl w.heap.size 5 i0 (.int .u8 0) 1 1 Tryz.underlying276 hi0 hz0 hz1 hz2 rfl (by decide) _ _ _ rfl (HQ.out.alloc _).o ⟨wr.heap.size,0,none⟩ 1 1 [.int .u8 34] rfl rfl (cell_one_new _ _ _) (by simp [Value.oneCell']) (by unfold maxLen;omega) (by omega) (by simp;omega) ?_)
   intro v' w1 hown1 hgrow _ hloc
   rw [HU.out] at hown1
   have H1:=Lib.hid ((HQ.out.alloc _).app hgrow hown1 (by simpa using hloc))
   have HO:=Lib.hid H1.out.o
   clear hown1 hgrow hloc
   go_wp2_with (with_reducible refine at_conv 276 9 ?_;refine wpList_bytes_string_own _ _ 5 _ rfl Tryz.underlying276 Tryz.underlying5 Tryz.underlying9 _ _ _ rfl _ HO.out ?_)
   go_ret
   exact ⟨by rw [← HF.out];rfl,H1.out.b⟩
end Go.Proofs.YtbbgjjjeecfnoaaGreatDoor
namespace Go.Proofs.YtbbgjjjeecfnoaaGreatDoor
open Go.RowKit Go.Sort Go.Maps
open Tess (Tok)
theorem cat (x y:List UInt8):Tok.ofL x ++ Tok.ofL y=Tok.ofL (x ++ y):=by
 apply ByteArray.ext
 simp [Tess.Tok.ofL,ByteArray.data_append]
theorem self_ofL (x:ByteArray):x=Tok.ofL (Tess.Wr.bs x):=(Tess.Tok.ofL_bs x).symm
theorem digits_any (n:Int) (h0 : -9223372036854775808≤n) (h1:n≤9223372036854775807) (w:World) (hV:Vz w) :
  Calls Tryz.prog 119 #[.int .i64 n] w fun e w'=>e = .returned (.string (Tok.ofL (Tess.Wr.digits n)))∧Below w.heap.size w w':=by
 have HF:=Lib.hid (Tryz.strconv_FormatInt_10 n h0 h1 w (hV.pow w (Below.refl _ _)))
 have HD:=Lib.hid (Tess.Wr.itoa_digits h0 h1)
 go_enter Tryz.func119,Tryz.ntmps119
 go_wp2_with (go_at_call 169;refine HF.out.mono ?_;rintro e w2 ⟨rfl,k,os,rfl⟩)
 go_ret
 exact ⟨by rw [HD.out];rfl,Lib.below_grow _ _ (Nat.le_refl _) _ _⟩
theorem one_txt (l:List ByteArray) (i:Int) (h0:0≤i) (k:Nat) (hk:k < l.length) (hi:i=k):Tess.Wr.one l i=Tess.Wr.bs l[k]:=by
 unfold Tess.Wr.one
 rw [if_neg (by omega),hi,Int.toNat_natCast,List.getD_eq_getElem?_getD,List.getElem?_eq_getElem hk]
 rfl
theorem one_any (v:Value) (l:List ByteArray) (i:Int) (w:World) (hv:SlOf w v (l.map .string)) :
  Calls Tryz.prog 118 #[v,.int .i64 i] w fun e w'=>e = .returned (.string (Tok.ofL (Tess.Wr.one l i)))∧w'=w:=by
 obtain ⟨a,cap,rfl,hl,hc⟩:=sls_open hv
 have HC:=Lib.hid hc
 clear hc hv
 rcases (show i < 0∨(¬ i < 0∧(l.length:Int)≤i)∨(¬ i < 0∧¬ (l.length:Int)≤i) by omega) with h | ⟨h,h2⟩ | ⟨h,h2⟩
 ·have HE:=Lib.hid (show Tess.Wr.one l i=[63] by unfold Tess.Wr.one;rw [if_pos (Or.inl h)])
  go_enter Tryz.func118,Tryz.ntmps118
  go_wp2
  go_ret
  exact ⟨by rw [HE.out];rfl,rfl⟩
 ·have HE:=Lib.hid (show Tess.Wr.one l i=[63] by unfold Tess.Wr.one;rw [if_pos (Or.inr h2)])
  go_enter Tryz.func118,Tryz.ntmps118
  go_wp2
  go_ret
  exact ⟨by rw [HE.out];rfl,rfl⟩
 ·obtain ⟨k,hk,rfl⟩:∃ k:Nat,k < l.length∧i=k:=⟨i.toNat,by omega,by omega⟩
  obtain ⟨b,off,rfl,hb,hcell⟩:=HC.out k hk
  have HE:=Lib.hid (one_txt l k (by omega) k hk rfl)
  generalize l[k]=x at *
  go_enter Tryz.func118,Tryz.ntmps118
  go_wp2
  go_ret
  exact ⟨by rw [HE.out,← self_ofL];rfl,rfl⟩
theorem one_size (l:List ByteArray) (i:Int) (n:Nat) (hn:1≤n) (h:∀ x ∈ l,x.size≤n):(Tess.Wr.one l i).length≤n:=by
 unfold Tess.Wr.one
 split
 ·exact hn
 ·rename_i hi
  rw [List.getD_eq_getElem?_getD,List.getElem?_eq_getElem (show i.toNat < l.length by omega)]
  have:=h _ (List.getElem_mem (show i.toNat < l.length by omega))
  simpa [Tess.Wr.bs] using this
theorem dollar_any (s:ByteArray) (hs:s.size≤1000000000) (w:World) :
  Calls Tryz.prog 195 #[.string s] w fun e w'=>e = .returned (.string (Tok.ofL (Tess.Wr.dollar s)))∧Below w.heap.size w w':=by
 have HA:=fun W=>run_string_add_sum (P:=Tryz.prog) W ⟨#[36]⟩ s (by show 1 + s.size≤_;omega)
 have HE:=Lib.hid (show (⟨#[36]⟩:ByteArray) ++ s=Tok.ofL (Tess.Wr.dollar s) by
  conv=>lhs;rw [self_ofL s]
  exact cat [36] (Tess.Wr.bs s))
 go_enter Tryz.func195,Tryz.ntmps195
 go_wp2
 go_ret
 exact ⟨by rw [← HE.out];rfl,Below.refl _ _⟩
theorem dollars_any (v:Value) (l:List ByteArray) (w:World) (hv:SlOf w v (l.map .string)) (hs:∀ x ∈ l,x.size≤1000000000) (hl:l.length≤10000000) (hj:(Tess.Wr.dollars l).length≤100000000000) :
  Calls Tryz.prog 121 #[v] w fun e w'=>e = .returned (.string (Tok.ofL (Tess.Wr.dollars l)))∧Below w.heap.size w w':=by
 obtain ⟨a,cap,rfl,_,hc⟩:=sls_open hv
 have HE:=Lib.hid (each_dol Tess.Wr.dollar l a cap ⟨#[32,44,32]⟩ w hl hj fun k hk=>by
  obtain ⟨b,off,ha,hb,hcell⟩:=hc k hk
  exact ⟨b,off,ha,hb,_,hcell,fun W _=>dollar_any _ (hs _ (List.getElem_mem hk)) W⟩)
 clear hc hv
 go_enter Tryz.func121,Tryz.ntmps121
 go_wp2_with (go_at_call 194;refine HE.out.mono ?_;rintro e w2 ⟨rfl,hb2⟩;have HB:=Lib.hid hb2;clear hb2)
 go_ret
 exact ⟨rfl,HB.out⟩
theorem set_any' (v:Value) (l:List ByteArray) (w:World) (hv:SlOf w v (l.map .string)) (hs:∀ x ∈ l,x.size≤1000000000) (hl:l.length≤10000000) (hj:(Tess.Wr.dollars l).length≤100000000000) :
  Calls Tryz.prog 120 #[v] w fun e w'=>e = .returned (.string (Tok.ofL (Tess.Wr.set l)))∧Below w.heap.size w w':=by
 have HD:=Lib.hid (dollars_any v l w hv hs hl hj)
 obtain ⟨a,cap,rfl,_,hc⟩:=sls_open hv
 have HA:=fun W=>run_string_add_sum (P:=Tryz.prog) W ⟨#[40,32]⟩ (Tok.ofL (Tess.Wr.dollars l)) (by show 2 + (Tok.ofL (Tess.Wr.dollars l)).size≤_;rw [Tess.Tok.size_ofL];omega)
 have HA2:=fun W=>run_string_add_sum (P:=Tryz.prog) W (⟨#[40,32]⟩ ++ Tok.ofL (Tess.Wr.dollars l)) ⟨#[32,41]⟩ (by rw [ByteArray.size_append];show 2 + (Tok.ofL (Tess.Wr.dollars l)).size + 2≤_;rw [Tess.Tok.size_ofL];omega)
 clear hc hv hs hj
 rcases Nat.eq_zero_or_pos l.length with h0 | h0
 ·have HE:=Lib.hid (show Tess.Wr.set l=[40,32,41] by unfold Tess.Wr.set;rw [List.length_eq_zero_iff.1 h0];rfl)
  have hi:((l.length:Int) == 0)=true:=by rw [h0];rfl
  go_enter Tryz.func120,Tryz.ntmps120
  go_wp2
  go_ret
  exact ⟨by rw [HE.out];rfl,Below.refl _ _⟩
 ·have HE:=Lib.hid (show (⟨#[40,32]⟩:ByteArray) ++ Tok.ofL (Tess.Wr.dollars l) ++ ⟨#[32,41]⟩=Tok.ofL (Tess.Wr.set l) by
   have e:Tess.Wr.set l=[40,32] ++ Tess.Wr.dollars l ++ [32,41]:=by
    unfold Tess.Wr.set
    rw [if_neg (by cases l with | nil=>exact absurd h0 (Nat.lt_irrefl 0) | cons=>simp)]
   rw [e,← cat,← cat];rfl)
  have hi:((l.length:Int) == 0)=false:=by rw [beq_eq_false_iff_ne];omega
  generalize Tess.Wr.dollars l=D at *
  go_enter Tryz.func120,Tryz.ntmps120
  go_wp2_with (go_at_call 121;refine HD.out.mono ?_;rintro e w2 ⟨rfl,hb2⟩;have HB:=Lib.hid hb2;clear hb2)
  go_ret
  exact ⟨by rw [← HE.out];rfl,HB.out⟩
end Go.Proofs.YtbbgjjjeecfnoaaGreatDoor
