/- Joined by mergeK.py: K41, K42, K43, FlRU, K39 -/
import Derived.Test.YtaddkkkchkdgkaaGreatDoorCC23
import Derived.Test.YtaddkkkchkdgkaaGreatDoorCC22
import Derived.Test.YtaddkkkchkdgkaaGreatDoorCC24
import Derived.Lib.ItoaLen
import Derived.Maps.OwnRows
import Derived.Maps.Views
import Derived.Test.YtaddkkkchkdgkaaGreatDoorCC11
import Derived.Test.YtaddkkkchkdgkaaGreatDoorCC15
import Derived.Maps.AppendAt
namespace Go.Proofs.YtaddkkkchkdgkaaGreatDoor
open Go.RowKit Go.Sort
open Tess (CK Pay)
structure Vn (T:Lib.PrintTabs) (w:World):Prop where
 pow : ∀ w2, Below w.heap.size w w2 → Lib.TabIs Tryz.prog w2 "internal/strconv.uint64pow10" .u64 Lib.pow10Tab
 prt:Lib.PrintTabsAt 9 10 11 12 T w
 utf:Lib.Utf8Tabs 7 8 w
theorem TSb {g:Nat} {k:IntKind} {t:List Nat} {w w':World} (h:Lib.TabSlice g k t w) (hb:Below w.heap.size w w'):Lib.TabSlice g k t w':=by
 have kk:∀ {a:Addr} {v:Value},w.cell? a=some v→w'.cell? a=some v:=fun {a v} hc=>(hb.cell (World.block_lt_of_cell? w a hc)).trans hc
 obtain ⟨R,o,c,h1,h2⟩:=h
 exact ⟨R,o,c,kk h1,fun j hj=>kk (h2 j hj)⟩
theorem Vn.below {T:Lib.PrintTabs} {w w':World} (h:Vn T w) (hb:Below w.heap.size w w'):Vn T w':=by
 have kk:∀ {a:Addr} {v:Value},w.cell? a=some v→w'.cell? a=some v:=fun {a v} hc=>(hb.cell (World.block_lt_of_cell? w a hc)).trans hc
 obtain ⟨p1,p2,p3,p4,p5⟩:=h.prt
 exact ⟨fun w2 h2=>h.pow w2 (hb.trans (h2.mono hb.size)),⟨TSb p1 hb,TSb p2 hb,TSb p3 hb,TSb p4 hb,p5⟩,⟨fun c hc=>kk (h.utf.1 c hc),fun i hi=>⟨kk (h.utf.2 i hi).1,kk (h.utf.2 i hi).2⟩⟩⟩
def iB (n:Int):ByteArray:=⟨(Lib.itoa n).toArray⟩
def qB2 (T:Lib.PrintTabs) (s:ByteArray):ByteArray:=strOfNums (Lib.quoteZ T s)
def boolB (b:Bool):ByteArray:=⟨(Lib.formatBool b).toArray⟩
def pB2 (T:Lib.PrintTabs) (v:Tess.Val):ByteArray:=(((⟨#[32]⟩:ByteArray) ++ boolB v.null) ++ qB2 T v.s) ++ iB v.s.size
def headB (s t:Int):ByteArray:=(iB s ++ (⟨#[32]⟩:ByteArray)) ++ iB t
def nameB (T:Lib.PrintTabs) (s t:Int) (key:List Tess.Val):ByteArray:=key.foldl (fun o v=>o ++ pB2 T v) (headB s t)
theorem iBs {n:Int} (h:I64 n):(iB n).size≤21:=by
 have:=Lib.itoa_length_le n h.1 h.2
 simpa [iB,ByteArray.size] using this
theorem qBs (T:Lib.PrintTabs) (s:ByteArray):(qB2 T s).size≤10 * s.size + 2:=by
 unfold qB2
 rw [strOfNums_size];exact Lib.quoteZ_length_le T s
theorem bBs (b:Bool):(boolB b).size≤5:=by cases b <;> decide
theorem itoa_any {T:Lib.PrintTabs} (n:Int) (hn:I64 n) (w:World) (hV:Vn T w):Calls Tryz.prog 112 #[.int .i64 n] w fun e w'=>e = .returned (.string (iB n))∧Below w.heap.size w w':=
 (Tryz.strconv_Itoa n hn.1 hn.2 w (hV.pow w (Below.refl _ _))).mono fun _ _ ⟨h1,h2⟩=>⟨h1,below_grow h2⟩
theorem formatInt_any {T:Lib.PrintTabs} (n:Int) (hn:I64 n) (w:World) (hV:Vn T w):Calls Tryz.prog 113 #[.int .i64 n,.int .i64 10] w fun e w'=>e = .returned (.string (iB n))∧Below w.heap.size w w':=
 (Tryz.strconv_FormatInt_10 n hn.1 hn.2 w (hV.pow w (Below.refl _ _))).mono fun _ _ ⟨h1,h2⟩=>⟨h1,below_grow h2⟩
theorem fBa (b:Bool) (w:World):Calls Tryz.prog 114 #[.bool b] w fun e w'=>e = .returned (.string (boolB b))∧Below w.heap.size w w':=
 (Tryz.strconv_FormatBool b w).mono fun _ _ ⟨h1,h2⟩=>⟨h1,by rw [h2];exact Below.refl _ _⟩
theorem quote_any {T:Lib.PrintTabs} (s:ByteArray) (hs:s.size≤1000000) (w:World) (hV:Vn T w):Calls Tryz.prog 115 #[.string s] w fun e w'=>e = .returned (.string (qB2 T s))∧Below w.heap.size w w':=
 Tryz.strconv_Quote T s w (by omega) hV.prt hV.utf
theorem Below.of {N:Nat} {w w':World} (h:Below w.heap.size w w') (hN:N≤w.heap.size):Below N w w':=h.mono hN
set_option maxRecDepth 100000 in
set_option maxHeartbeats 2000000 in
theorem name_any {T:Lib.PrintTabs} (p:Nat→Prop) (cs:List Value) (x:Int×CK×Pay) (w:World) (hV:Vn T w) (hx:GA2 p w cs x) (hs:I64 x.1) (ht:I64 x.2.1.1) (hk:∀ v ∈ x.2.1.2.map Tess.valOf,v.s.size≤1000000) (hkl:x.2.1.2.length≤1000) :
  Calls Tryz.prog 74 #[.agg cs.toArray] w fun e w'=>e = .returned (.string (nameB T x.1 x.2.1.1 (x.2.1.2.map Tess.valOf)))∧Below w.heap.size w w':=by
 rw [← List.length_map (f:=Tess.valOf)] at hkl
 obtain ⟨vd,v4,v5,v6,rfl,hd,hp⟩:=hx
 obtain ⟨a4,c4,rfl⟩:=hp.sums.shape
 obtain ⟨a5,c5,rfl⟩:=hp.mins.shape
 obtain ⟨a6,c6,rfl⟩:=hp.maxs.shape
 have HD:=Hd hd.cells
 obtain ⟨da,dc,rfl⟩:=hd.shape
 generalize x.2.2.sums.length=n4 at *
 generalize x.2.2.mins.length=n5 at *
 generalize x.2.2.maxs.length=n6 at *
 generalize x.2.2.n=nn at *
 generalize x.2.1.2.map Tess.valOf=key at *
 have At:=Hd hk
 have HI:=Hd (fun W (hB:Below w.heap.size w W)=>itoa_any x.1 hs W (hV.below hB))
 have HF:=Hd (fun W (hB:Below w.heap.size w W)=>formatInt_any x.2.1.1 ht W (hV.below hB))
 have HV:=Hd hV
 have Aq:=iBs hs
 have An:=iBs ht
 clear hd hp hs ht hk hV
 generalize x.1=s at *
 generalize x.2.1.1=t at *
 obtain ⟨W0,Ag⟩:∃ W0,w.alloc (.cells #[.int .i64 s,.int .i64 t,.slice da key.length dc,.int .i64 nn,.slice a4 n4 c4,.slice a5 n5 c5,.slice a6 n6 c6] 56)=W0:=⟨_,rfl⟩
 obtain ⟨k0,kS,kB⟩:=la2 w (.cells #[.int .i64 s,.int .i64 t,.slice da key.length dc,.int .i64 nn,.slice a4 n4 c4,.slice a5 n5 c5,.slice a6 n6 c6] 56)
 rw [Ag] at k0 kS kB
 obtain ⟨⟨x0,x1,x2,x3,x4,x5,x6⟩,_⟩:=can7 k0
 have Af:w.heap.size < W0.heap.size:=by omega
 have HB:=Hd kB
 have HK:=Hd k0
 have HH:RowKit.Hid (headB s t=(iB s ++ (⟨#[32]⟩:ByteArray)) ++ iB t):=Hd rfl
 have As:(headB s t).size≤100:=by unfold headB;simp only [ByteArray.size_append];show (iB s).size + 1 + (iB t).size≤100;omega
 have HN:RowKit.Hid (nameB T s t key=key.foldl (fun o v=>o ++ pB2 T v) (headB s t)):=Hd rfl
 generalize headB s t=hd0 at *
 clear k0 kS kB
 generalize iB s=bs at *
 generalize iB t=bt at *
 have n1:¬ 9223372036854775807 < bs.size + 1:=by omega
 have n2:¬ 9223372036854775807 < bs.size + 1 + bt.size:=by omega
 clear Aq An
 go_enter Tryz.func74,Tryz.ntmps74
 go_wp2_with (fail)
 refine Flow.wrf 7 (Flow.sp3 [.inl ?_,.inl ?_,.inl ?_,.inl ?_,.inl ?_,.inl ?_,.inl ?_]) (by kernel_rfl) (by kernel_rfl) ?_ ?_
 rotate_left 7
 ·refine Flow.sm2 ?_
  repeat (first | exact Flow.ln2 | refine Flow.li2 ?_)
 all_goals try simp only [List.take_succ_cons,List.take_zero,List.drop_succ_cons,List.drop_zero]
 iterate 2 (refine Flow.tvK rfl (fun K hK=>⟨fun w hw hG => ?_,?_⟩);(have Ab:=Flow.bc4 hw;clear hG hw;unfold Flow.Runs Flow.yields;go_simp;try rfl);go_simp;refine hK _ ?_;clear hK K)
 (refine Flow.tvK rfl (fun K hK=>⟨fun w hw hG => ?_,?_⟩);(have HW:=Hd hw;clear hG hw;unfold Flow.Runs Flow.yields;go_simp;refine (HI.out _ (Bt HB.out HW.out)).mono ?_;rintro e w5 ⟨rfl,Aa⟩;first | exact ⟨_,rfl,Aa,rfl⟩ | (refine ⟨?_,Aa⟩;rfl));go_simp;refine hK _ ?_;clear hK K)
 iterate 3 (refine Flow.tvK rfl (fun K hK=>⟨fun w hw hG => ?_,?_⟩);(have Ab:=Flow.bc4 hw;clear hG hw;unfold Flow.Runs Flow.yields;go_simp;try rfl);go_simp;refine hK _ ?_;clear hK K)
 (refine Flow.tvK rfl (fun K hK=>⟨fun w hw hG => ?_,?_⟩);(have HW:=Hd hw;clear hG hw;unfold Flow.Runs Flow.yields;go_simp;refine (HF.out _ (Bt HB.out HW.out)).mono ?_;rintro e w5 ⟨rfl,Aa⟩;first | exact ⟨_,rfl,Aa,rfl⟩ | (refine ⟨?_,Aa⟩;rfl));go_simp;refine hK _ ?_;clear hK K)
 refine Flow.tn2 fun w1 hw1 hG => ?_
 clear hG x0 x1 x2 x3 x4 x5 x6 Ag
 have Ah:=(hw1.block _ Af).trans HK.out
 obtain ⟨⟨x0,x1,x2,x3,x4,x5,x6⟩,_⟩:=can7 Ah
 have Am:=Hd (Bt HB.out hw1)
 clear hw1 Ah Af
 go_simp
 go_wp2_with (fail)
 rw [← HH.out]
 clear x0 x1 x2 x3 x4 x5 x6
 go_loopw [3,17] (fun o i wr => ∃ k:Nat,k≤key.length∧i = .int .i64 k∧o = .string ((key.take k).foldl (fun o v=>o ++ pB2 T v) hd0)∧((key.take k).foldl (fun o v=>o ++ pB2 T v) hd0).size≤100 + k * 10000100∧Below w.heap.size w wr) (fun _ i _=>key.length - (intOf i).toNat)
 case atStart=>exact ⟨0,Nat.zero_le _,rfl,rfl,by simpa using As,Am.out⟩
 case round=>
  obtain ⟨k,hk,rfl,rfl,Ao,hB⟩:=hrel
  by_cases hlt:k < key.length
  ·have Au:(k:Int) < (key.length:Int):=by omega
   obtain ⟨a',A0,e',A1,hc⟩:=HD.out
   simp only [Value.slice.injEq] at e'
   obtain ⟨rfl,_,rfl⟩:=e'
   obtain ⟨b,Ai,rfl,hb,c0,c1⟩:=hc k hlt
   have Ak:=At.out _ (List.getElem_mem hlt)
   have d0:=(hB.cell (p:=⟨b,Ai + k * 2,none⟩) hb).trans c0
   have d1:=(hB.cell (p:=⟨b,Ai + k * 2 + 1,none⟩) hb).trans c1
   have Ax:b < wr.heap.size:=Nat.lt_of_lt_of_le hb hB.size
   have Aj:=Hd (show (key.take k).foldl (fun o v=>o ++ pB2 T v) hd0 ++ pB2 T key[k]=(key.take (k + 1)).foldl (fun o v=>o ++ pB2 T v) hd0 by rw [List.take_succ_eq_append_getElem hlt,List.foldl_append];rfl)
   have HQ:=Hd (fun W (hW:Below w.heap.size w W)=>quote_any key[k].s Ak W (HV.out.below hW))
   have HL:=Hd (fun W (hW:Below w.heap.size w W)=>itoa_any (key[k].s.size:Int) ⟨by omega,by omega⟩ W (HV.out.below hW))
   have Ar:=Hd (fun W=>fBa key[k].null W)
   have Az:RowKit.Hid (pB2 T key[k]=(((⟨#[32]⟩:ByteArray) ++ boolB key[k].null) ++ qB2 T key[k].s) ++ iB key[k].s.size):=Hd rfl
   have Aw:=Hd hB
   have z1:=qBs T key[k].s
   have z2:=bBs key[k].null
   have z3:=iBs (n:=(key[k].s.size:Int)) ⟨by omega,by omega⟩
   have Ap:(pB2 T key[k]).size≤10000100:=by unfold pB2;simp only [ByteArray.size_append];show 1 + (boolB key[k].null).size + (qB2 T key[k].s).size + (iB _).size≤_;omega
   have Ae:=Hd (show ((key.take (k + 1)).foldl (fun o v=>o ++ pB2 T v) hd0).size≤100 + (k + 1) * 10000100 by rw [← Aj.out,ByteArray.size_append];omega)
   have A2:k≤1000:=by omega
   clear c0 c1 hc hB hb
   generalize (key.take k).foldl (fun o v=>o ++ pB2 T v) hd0=acc at *
   generalize hacc:(key.take (k + 1)).foldl (fun o v=>o ++ pB2 T v) hd0=acc' at *
   have Ac:=Hd hacc
   clear hacc
   generalize pB2 T key[k]=pc at *
   generalize key[k].s=zs at *
   generalize key[k].null=zb at *
   generalize iB (zs.size:Int)=bl at *
   generalize qB2 T zs=bq at *
   generalize boolB zb=bb at *
   have n3:¬ 9223372036854775807 < 1 + bb.size:=by omega
   have n4:¬ 9223372036854775807 < 1 + bb.size + bq.size:=by omega
   have n5:¬ 9223372036854775807 < 1 + bb.size + bq.size + bl.size:=by omega
   have n6:¬ 9223372036854775807 < acc.size + (1 + bb.size + bq.size + bl.size):=by omega
   have n7:¬ 9223372036854775807 < zs.size:=by omega
   clear z1 z2 z3 Ap Ao Ak
   obtain ⟨W1,Al⟩:∃ W1,wr.alloc (.cells #[.string zs,.bool zb] 72)=W1:=⟨_,rfl⟩
   obtain ⟨q1,qS,qB⟩:=la2 wr (.cells #[.string zs,.bool zb] 72)
   rw [Al] at q1 qS qB
   obtain ⟨⟨y0,y1⟩,_⟩:=can2 q1
   have Av:wr.heap.size < W1.heap.size:=by omega
   have Ad:=Hd (Bt Aw.out qB)
   clear q1 qS qB
   go_wp2_with (fail)
   clear Al d0 d1 Ax
   refine Flow.wrf 14 (Flow.sp3 [.inl ?_,.inl ?_,.inl ?_,.inl ?_,.inl ?_,.inl ?_,.inl ?_,.inl ?_,.inl ?_,.inl ?_,.inl ?_,.inl ?_,.inl ?_,.inl ?_]) (by kernel_rfl) (by kernel_rfl) ?_ ?_
   rotate_left 14
   ·refine Flow.sm2 ?_
    repeat (first | exact Flow.ln2 | refine Flow.li2 ?_)
   all_goals try simp only [List.take_succ_cons,List.take_zero,List.drop_succ_cons,List.drop_zero]
   iterate 3 (refine Flow.tvK rfl (fun K hK=>⟨fun w hw hG => ?_,?_⟩);(have Ab:=Flow.bc4 hw;clear hG hw;unfold Flow.Runs Flow.yields;go_simp;try rfl);go_simp;refine hK _ ?_;clear hK K)
   (refine Flow.tvK rfl (fun K hK=>⟨fun w hw hG => ?_,?_⟩);(have HW:=Hd hw;clear hG hw;unfold Flow.Runs Flow.yields;go_simp;refine (Ar.out _).mono ?_;rintro e w5 ⟨rfl,Aa⟩;first | exact ⟨_,rfl,Aa,rfl⟩ | (refine ⟨?_,Aa⟩;rfl));go_simp;refine hK _ ?_;clear hK K)
   iterate 3 (refine Flow.tvK rfl (fun K hK=>⟨fun w hw hG => ?_,?_⟩);(have Ab:=Flow.bc4 hw;clear hG hw;unfold Flow.Runs Flow.yields;go_simp;try rfl);go_simp;refine hK _ ?_;clear hK K)
   (refine Flow.tvK rfl (fun K hK=>⟨fun w hw hG => ?_,?_⟩);(have HW:=Hd hw;clear hG hw;unfold Flow.Runs Flow.yields;go_simp;refine (HQ.out _ (Bt Ad.out HW.out)).mono ?_;rintro e w5 ⟨rfl,Aa⟩;first | exact ⟨_,rfl,Aa,rfl⟩ | (refine ⟨?_,Aa⟩;rfl));go_simp;refine hK _ ?_;clear hK K)
   iterate 4 (refine Flow.tvK rfl (fun K hK=>⟨fun w hw hG => ?_,?_⟩);(have Ab:=Flow.bc4 hw;clear hG hw;unfold Flow.Runs Flow.yields;go_simp;try rfl);go_simp;refine hK _ ?_;clear hK K)
   (refine Flow.tvK rfl (fun K hK=>⟨fun w hw hG => ?_,?_⟩);(have HW:=Hd hw;clear hG hw;unfold Flow.Runs Flow.yields;go_simp;refine (HL.out _ (Bt Ad.out HW.out)).mono ?_;rintro e w5 ⟨rfl,Aa⟩;first | exact ⟨_,rfl,Aa,rfl⟩ | (refine ⟨?_,Aa⟩;rfl));go_simp;refine hK _ ?_;clear hK K)
   iterate 1 (refine Flow.tvK rfl (fun K hK=>⟨fun w hw hG => ?_,?_⟩);(have Ab:=Flow.bc4 hw;clear hG hw;unfold Flow.Runs Flow.yields;go_simp;try rfl);go_simp;refine hK _ ?_;clear hK K)
   refine Flow.tn2 fun w2 hw2 hG => ?_
   clear hG y0 y1 Av
   have Ay:=Hd (Bt Ad.out hw2)
   clear hw2
   go_simp
   go_wp2
   rw [← Az.out,Aj.out]
   go_roundw
   case rel=>exact ⟨k + 1,by omega,by go_num,by rw [Ac.out],by rw [Ac.out];exact Ae.out,Ay.out⟩
   case measure=>simp [intOf];omega
  ·have Au:¬ (k:Int) < (key.length:Int):=by omega
   obtain rfl:k=key.length:=by omega
   rw [List.take_length]
   go_wp2
   go_ret
   exact ⟨by rw [HN.out];rfl,hB⟩
end Go.Proofs.YtaddkkkchkdgkaaGreatDoor
namespace Go.Proofs.YtaddkkkchkdgkaaGreatDoor
open Go.RowKit Go.Sort Go.ChangeMaps Go.MapKept Go.WideMaps Go.Maps
open Go.WideElems (Fit rd rg pl rd_val)
abbrev RowV:=Option (Nat×Nat×Nat)
def valO:RowV→Value
 | none => .slice none 0 0
 | some (g,n,c) => .slice (some ⟨g,0,none⟩) n c
def encO:RowV→DataW Unit
 | none => .nil
 | some (g,n,c) => .agg [.lit (.int .i64 (g:Nat)),.lit (.int .i64 (n:Nat)),.lit (.int .i64 (c:Nat))]
def encR (v:Value):Option (DataW Unit×List MemPlace):=match v with
 | .slice (some ⟨g,0,none⟩) n c=>some (encO (some (g,n,c)),[])
 | _=>none
theorem encO_inj {a b:RowV} (h:encO a=encO b):a=b:=by
 rcases a with _ | ⟨g,n,c⟩ <;> rcases b with _ | ⟨g',n',c'⟩
 ·rfl
 ·cases h
 ·cases h
 ·simp only [encO,DataW.agg.injEq,List.cons.injEq,DataW.lit.injEq,Lit.int.injEq,Int.natCast_inj,true_and,and_true] at h
  obtain ⟨rfl,rfl,rfl⟩:=h
  rfl
theorem encR_inv {v:Value} {y:DataW Unit×List MemPlace} (h:encR v=some y):∃ r,v=valO (some r)∧y=(encO (some r),[]):=by
 unfold encR at h
 split at h
 ·rename_i g n c
  exact ⟨(g,n,c),rfl,(Option.some.inj h).symm⟩
 ·cases h
theorem keyed:Keyed Tryz.prog 9:=string_keyed Tryz.underlying9
theorem key_of {s:ByteArray} (hs:s.size≤maxLen):keyOf Tryz.prog 9 (.string s)=some (.string s.data.toList):=keyOf_string_mk Tryz.underlying9 hs
theorem zero_ints (w:World):(zeroValue 65).run Tryz.prog w = .ok (.slice none 0 0) w:=by kernel_rfl
def MI (mb n:Nat) (V:ByteArray→RowV) (W:World):Prop:=
 ∃ es clock,W.heap[mb]? = some (.map es clock)∧Fit Tryz.prog 9 encR es clock∧es.size≤n∧∀ s:ByteArray,s.size≤maxLen→(DataW.map ((es.toList.map (rg Tryz.prog 9 encR)).foldr DataW.insert [])).atKey (.string s.data.toList) .nil=encO (V s)
theorem MI.keep {mb n:Nat} {V:ByteArray→RowV} {W W':World} (h:MI mb n V W) (hb:W'.heap[mb]? = W.heap[mb]?):MI mb n V W':=let ⟨es,c,h1,h2⟩:=h;⟨es,c,hb.trans h1,h2⟩
theorem MI.made {mb:Nat} {W:World} (h:W.heap[mb]? = some (.map #[] 0)):MI mb 0 (fun _=>none) W:=
 ⟨#[],0,h,⟨by simp,stamped_empty 0,by simp⟩,Nat.le_refl _,fun s _=>rfl⟩
theorem MI.look {mb n:Nat} {V:ByteArray→RowV} {W:World} (h:MI mb n V W) {s:ByteArray} (hs:s.size≤maxLen):(Instr.lookup 99 (.map (some mb)) (.string s) false).run Tryz.prog W = .ok (valO (V s)) W:=by
 obtain ⟨es,Ad,hb,F,_,Ae⟩:=h
 have Ab:=Ae s hs
 rcases Maps.fit_look false keyed Tryz.underlying99 (zero_ints W) hb F (key_of hs) with ⟨Aa,_,h1⟩ | ⟨e0,y,_,_,Aa,hR,h1,_⟩
 ·rw [h1] at Ab
  rw [← encO_inj (a:=none) Ab]
  exact Aa
 ·obtain ⟨r,hv,rfl⟩:=encR_inv hR
  rw [h1] at Ab
  have Ac:encO (some r)=encO (V s):=Ab
  rw [← encO_inj Ac,← hv]
  exact Aa
theorem MI.store {mb n:Nat} {V:ByteArray→RowV} {W:World} (h:MI mb n V W) (hn:n < maxLen) {s:ByteArray} (hs:s.size≤maxLen) (r:Nat×Nat×Nat) :
  ∃ W',(Instr.mapUpdate 99 (.map (some mb)) (.string s) (valO (some r))).run Tryz.prog W = .ok () W'∧MI mb (n + 1) (fun s'=>if s'=s then some r else V s') W'∧W.grownBy W' (some mb):=by
 obtain ⟨es,Ae,hb,F,Af,Ag⟩:=h
 obtain ⟨g,m,c⟩:=r
 obtain ⟨Ad,Aa,Ac,F',Ab,_,_,_⟩:=Maps.fit_store (R':=encR) (yv:=(encO (some (g,m,c)),[])) keyed Tryz.underlying99 hb F (Nat.lt_of_le_of_lt Af hn) (fun x _ _ z hz=>hz) (key_of hs) (val:=valO (some (g,m,c))) rfl
 refine ⟨_,Ac,⟨Ad,Aa,heap_setBlock_same hb _,F',?_,fun s' hs' => ?_⟩,⟨rfl,rfl,rfl,by simp [setBlock],fun i _ hi=>heap_setBlock_other hb _ (fun e1=>hi (by rw [e1]))⟩⟩
 ·have e1:Ad.size=((Ad.toList.map (rg Tryz.prog 9 encR)).foldr DataW.insert []).length:=by rw [length_sorted];simp
  rw [e1,Ab]
  unfold putKey
  rw [length_insert]
  have e2:=List.length_filter_le (notKey (.string s.data.toList)) ((es.toList.map (rg Tryz.prog 9 encR)).foldr DataW.insert [])
  rw [length_sorted] at e2
  simp at e2
  omega
 ·rw [Ab,← DataW.put_eq]
  dsimp only
  by_cases e:s'=s
  ·subst e
   rw [if_pos rfl]
   exact atKey_put_same ⟨_,rfl⟩ (keyed.key (key_of hs)) _ _
  ·rw [if_neg e,atKey_put_other (fun h=>e ?_)]
   ·exact Ag s' hs'
   ·simp only [Lit.string.injEq] at h
    exact ByteArray.ext (Array.toList_inj.1 h)
theorem wLm {P:Program} {w w2:World} {ops:Array Oper} {rest:List Oper} {o:Oper} {a:Act} {Q:Exit→Act→World→Prop} (hg:o.guard=none) (m x v:Operand) (t:TypeId) (hop:o.op=Op.mapUpdate t m x v)
  {vm vx vv:Value} (hm:a.eval m=vm) (hx:a.eval x=vx) (hv:a.eval v=vv) (hr:(Instr.mapUpdate t vm vx vv).run P w = .ok () w2) (hK:wpList P ops Q rest (a.put o.dst undef) w2):wpList P ops Q (o :: rest) a w:=by
 refine wpList_plain hg fun K' hK' => ?_
 unfold Oper.wp
 simp [execOp,hop,hm,hx,hv,hr,Result.andThen]
 exact hK' _ _ hK
end Go.Proofs.YtaddkkkchkdgkaaGreatDoor
namespace Go.Proofs.YtaddkkkchkdgkaaGreatDoor
open Go.RowKit Go.Sort
open Tess (CK Pay PO)
abbrev Grp:=Int×CK×Pay
def nG (T:Lib.PrintTabs) (x:Grp):ByteArray:=nameB T x.1 x.2.1.1 (x.2.1.2.map Tess.valOf)
theorem nameG_one {T:Lib.PrintTabs} {x y:Grp} (h:oneB x y=true):nG T x=nG T y:=by
 obtain ⟨h1,h2⟩:=oBi.1 h
 unfold nG
 rw [h1,h2]
def idxF (T:Lib.PrintTabs) (s:ByteArray):Nat→List Grp→List Nat
 | _,[]=>[]
 | i,x :: l=>if nG T x=s then i :: idxF T s (i + 1) l else idxF T s (i + 1) l
section
variable {T:Lib.PrintTabs} {s:ByteArray}
theorem idxF_snoc (x:Grp):∀ (l:List Grp) (i:Nat),idxF T s i (l ++ [x])=idxF T s i l ++ if nG T x=s then [i + l.length] else []
 | [],i=>by simp only [List.nil_append,idxF,List.length_nil,Nat.add_zero]
 | y :: l,i=>by
   rw [List.cons_append,idxF,idxF,idxF_snoc x l (i + 1),List.length_cons,show i + 1 + l.length=i + (l.length + 1) by omega]
   split <;> simp
theorem idxF_set {y:Grp}:∀ (l:List Grp) (i k:Nat) (hk:k < l.length),nG T y=nG T l[k]→idxF T s i (l.set k y)=idxF T s i l
 | x :: l,i,0,_,h=>by
   simp only [List.getElem_cons_zero] at h
   rw [List.set_cons_zero,idxF,idxF,h]
 | x :: l,i,k + 1,hk,h=>by
   simp only [List.getElem_cons_succ] at h
   rw [List.set_cons_succ,idxF,idxF,idxF_set l (i + 1) k (by simpa using hk) h]
theorem iFm:∀ (l:List Grp) (i j:Nat),j ∈ idxF T s i l→∃ h:j - i < l.length,i≤j∧nG T l[j - i]=s
 | [],_,_,h=>by cases h
 | x :: l,i,j,h=>by
   rw [idxF] at h
   by_cases hx:nG T x=s
   ·rw [if_pos hx] at h
    rcases List.mem_cons.1 h with rfl | h
    ·exact ⟨by simp,Nat.le_refl _,by simpa using hx⟩
    ·obtain ⟨h1,h2,h3⟩:=iFm l (i + 1) j h
     refine ⟨by rw [List.length_cons];omega,by omega,?_⟩
     have e:j - i=(j - (i + 1)) + 1:=by omega
     simp only [e,List.getElem_cons_succ];exact h3
   ·rw [if_neg hx] at h
    obtain ⟨h1,h2,h3⟩:=iFm l (i + 1) j h
    refine ⟨by rw [List.length_cons];omega,by omega,?_⟩
    have e:j - i=(j - (i + 1)) + 1:=by omega
    simp only [e,List.getElem_cons_succ];exact h3
theorem idxF_all:∀ (l:List Grp) (i k:Nat) (hk:k < l.length),nG T l[k]=s→i + k ∈ idxF T s i l
 | x :: l,i,0,_,h=>by
   simp only [List.getElem_cons_zero] at h
   rw [idxF,if_pos h];simp
 | x :: l,i,k + 1,hk,h=>by
   simp only [List.getElem_cons_succ] at h
   have:=idxF_all l (i + 1) k (by simpa using hk) h
   rw [idxF]
   rw [show i + (k + 1)=i + 1 + k by omega]
   split
   ·exact List.mem_cons_of_mem _ this
   ·exact this
theorem idxF_ge:∀ (l:List Grp) (i j:Nat),j ∈ idxF T s i l→i≤j
 | l,i,j,h=>(iFm l i j h).2.1
theorem idxF_asc:∀ (l:List Grp) (i:Nat),(idxF T s i l).Pairwise (· < ·)
 | [],_=>List.Pairwise.nil
 | x :: l,i=>by
   rw [idxF]
   split
   ·exact List.pairwise_cons.2 ⟨fun j hj=>by have:=idxF_ge l (i + 1) j hj;omega,idxF_asc l (i + 1)⟩
   ·exact idxF_asc l (i + 1)
theorem idxF_len:∀ (l:List Grp) (i:Nat),(idxF T s i l).length≤l.length
 | [],_=>Nat.le_refl _
 | x :: l,i=>by
   have:=idxF_len l (i + 1)
   rw [idxF]
   split <;> simp only [List.length_cons] <;> omega
end
def putG:List Grp→Grp→List Grp
 | [],x=>[x]
 | y :: l,x=>if oneB y x then (y.1,y.2.1,y.2.2.add x.2.2) :: l else y :: putG l x
theorem putG_end {x:Grp}:∀ {L:List Grp},(∀ y ∈ L,oneB y x=false)→putG L x=L ++ [x]
 | [],_=>rfl
 | y :: L,h=>by rw [putG,h y (by simp),if_neg (by decide),putG_end fun z hz=>h z (by simp [hz])];rfl
theorem putG_at {x:Grp}:∀ {L:List Grp} {k:Nat} (hk:k < L.length),(∀ j (h:j < L.length),j < k→oneB L[j] x=false)→oneB L[k] x=true→putG L x=L.set k (L[k].1,L[k].2.1,L[k].2.2.add x.2.2)
 | y :: L,0,_,_,h=>by
   simp only [List.getElem_cons_zero] at h
   rw [putG,if_pos h];rfl
 | y :: L,k + 1,hk,hb,h=>by
   have h0:=hb 0 (by simp) (by omega)
   simp only [List.getElem_cons_zero] at h0
   simp only [List.getElem_cons_succ] at h
   rw [putG,h0,if_neg (by decide),putG_at (k:=k) (by simpa using hk) (fun j hj hjk=>hb (j + 1) (by simpa using hj) (by omega)) h]
   rfl
structure GO2 (M:Nat) (x:Grp):Prop where
 set:I64 x.1
 time:I64 x.2.1.1
 len:x.2.1.2.length≤1000
 size:∀ v ∈ x.2.1.2.map Tess.valOf,v.s.size≤1000000
 pay:PO M x.2.2
theorem putG_ok {M:Nat} {x:Grp} (hx:GO2 M x):∀ {L:List Grp},(∀ y ∈ L,GO2 M y)→∀ y ∈ putG L x,GO2 M y
 | [],_,y,hy=>by rw [putG,List.mem_singleton] at hy;rw [hy];exact hx
 | z :: L,hL,y,hy=>by
   rw [putG] at hy
   have hz:=hL z (by simp)
   split at hy
   ·rcases List.mem_cons.1 hy with rfl | hy
    ·exact ⟨hz.set,hz.time,hz.len,hz.size,Tess.pOa _ _ hz.pay hx.pay⟩
    ·exact hL y (by simp [hy])
   ·rcases List.mem_cons.1 hy with rfl | hy
    ·exact hz
    ·exact putG_ok hx (fun u hu=>hL u (by simp [hu])) y hy
def totG (L:List Grp):Int:=(L.map (·.2.2.n)).sum
theorem putG_tot (x:Grp):∀ (L:List Grp),totG (putG L x)=totG L + x.2.2.n
 | []=>by simp [putG,totG]
 | y :: L=>by
   have ih:=putG_tot x L
   rw [putG]
   unfold totG at *
   split
   ·simp only [List.map_cons,List.sum_cons,Pay.add];omega
   ·simp only [List.map_cons,List.sum_cons];omega
theorem tGl {M:Nat}:∀ {L:List Grp},(∀ y ∈ L,GO2 M y)→(L.length:Int)≤totG L∧∀ y ∈ L,y.2.2.n≤totG L
 | [],_=>⟨by simp [totG],fun _ h=>by cases h⟩
 | y :: L,h=>by
   obtain ⟨h1,h2⟩:=tGl (L:=L) fun z hz=>h z (by simp [hz])
   have:=(h y (by simp)).pay.one
   unfold totG at *
   simp only [List.map_cons,List.sum_cons,List.length_cons]
   refine ⟨by omega,fun z hz => ?_⟩
   rcases List.mem_cons.1 hz with rfl | hz
   ·omega
   ·have:=h2 z hz;omega
end Go.Proofs.YtaddkkkchkdgkaaGreatDoor
namespace Go.FlowR
open Go Go.RowKit
section
variable {R:Rel} {P:Program} {ops:Array Oper}
def SpU (ops:Array Oper) (S:Nat→Value→Spec) (σ:Nat→Nat):Prop:=∀ i oi,ops[i]? = some oi→(∀ k ok,ops[k]? = some ok→ok.dst=some (σ i)→dep oi k=true)∨∀ x y,S i x=S i y
theorem hSp_ne {k s:Nat} {oi ok:Oper} (hk:ops[k]? = some ok) (h:(∀ k ok,ops[k]? = some ok→ok.dst=some s→dep oi k=true)) (hd:dep oi k=true→False):ok.dst≠some s:=fun e=>hd (h k ok hk e)
theorem sp_putU {S:Nat→Value→Spec} {σ:Nat→Nat} (hS:SpU ops S σ) {i:Nat} {oi:Oper} (hi:ops[i]? = some oi) (a:Act) (dst:Option Tmp) (v:Value) (h:(∀ k ok,ops[k]? = some ok→ok.dst=some (σ i)→dep oi k=true)→dst≠some (σ i)):sp S σ i (a.put dst v)=sp S σ i a:=by
 rcases hS i oi hi with h1 | h1
 ·unfold sp
  have Ab:=h h1
  cases dst with
  | none=>rfl
  | some d=>
    have Aa:d≠σ i:=fun e=>Ab (by rw [e])
    congr 1
    simp [Act.put,Aa]
 ·exact h1 _ _
theorem specs_okU {n s:Nat} {f:Value→Spec} {l:List Spec} (h:(match ops[n]? with | some o=>(List.range ops.size).all (fun k=>match ops[k]? with | some ok => !(ok.dst == some s) || dep o k | none=>true) | none=>true)=true):SpU ops (sp3 n f l) (fun _=>s):=fun i oi hi=>by
 by_cases e:i=n
 ·subst e
  rw [hi] at h
  refine .inl fun k ok hk hd => ?_
  have:=List.all_eq_true.1 h k (List.mem_range.2 (Array.getElem?_eq_some_iff.1 hk).1)
  rw [hk] at this
  simpa [hd] using this
 ·exact .inr fun x y=>by unfold sp3;rw [if_neg e,if_neg e]
theorem anyFL_firstU {S:Nat→Value→Spec} {σ:Nat→Nat} {w0:World} {n i:Nat} {oi:Oper} {L:Array Bool→Act→(Nat→World→Prop)→Prop} (hSp:SpU ops S σ) (hi:ops[i]? = some oi) (hsel:∀ (j:Nat) (o:Oper) cs b,ops[j]? = some o→o.op ≠ .select cs b)
  (hs:Region.sinkB .any ops n=true) (hc:Region.chainB .any ops n=true) (hn:n < ops.size) (hin:i < n)
  (hdone:∀ listed a Γ,L listed a Γ→∀ j ∈ Region.ready .any ops listed,n≤j) :
  ∀ (f:Nat) (listed:Array Bool) (a:Act) (Γ:Nat→World→Prop),HeadInv .any ops n listed →
    (∀ j oj,ops[j]? = some oj→j≠i→listed.getD j true=false→(∀ e ∈ oj.after,Region.binds .any e=true→e.on≠i)→oi.apart ops oj=true) →
    i ∈ Region.ready .any ops listed→Ru R P ops w0 oi (sp S σ i a) a Γ →
    (∀ v,(sp S σ i a).ok v→aF R P ops S σ w0 n L f (listed.setIfInBounds i true) (a.put oi.dst v) (upd Γ i ((sp S σ i a).holds v)))→aF R P ops S σ w0 n L (f + 1) listed a Γ:=by
 have Am:∀ a,∃ v,(sp S σ i a).ok v:=fun a=>by
  cases hs:sp S σ i a with
  | inl u=>exact ⟨u,rfl⟩
  | inr V=>exact ⟨undef,trivial⟩
 intro f
 induction f with
 | zero=>
   intro listed a Γ Aj _ hr hy H
   obtain ⟨v0,Ak⟩:=Am a
   have Ad:=(mem_ready.1 hr).1
   refine ⟨fun h=>(by rw [h] at hr;cases hr),fun j hj => ?_⟩
   have Ai:j < n:=by
    rcases Nat.lt_or_ge j n with h | h
    ·exact h
    ·exact absurd hj (tail_waits hs hc hn Aj _ i rfl hin Ad j h)
   refine ⟨Ai,?_⟩
   by_cases hji:j=i
   ·subst hji
    unfold fOp;simp only [hi];exact ⟨hy,H⟩
   ·have:=hdone _ _ _ (H v0 Ak) j (ready_mono hj hji)
    omega
 | succ f ih=>
   intro listed a Γ Aj Ab hr hy H
   obtain ⟨v0,Ak⟩:=Am a
   have Ad:=(mem_ready.1 hr).1
   refine ⟨fun h=>(by rw [h] at hr;cases hr),fun j hj => ?_⟩
   have Ai:j < n:=by
    rcases Nat.lt_or_ge j n with h | h
    ·exact h
    ·exact absurd hj (tail_waits hs hc hn Aj _ i rfl hin Ad j h)
   refine ⟨Ai,?_⟩
   by_cases hji:j=i
   ·subst hji
    unfold fOp;simp only [hi];exact ⟨hy,H⟩
   ·obtain ⟨Af,oj,Ag,Al⟩:=mem_ready.1 hj
    have An:∀ k,listed.getD k true=false→listed.getD k false=true→False:=fun k h1 h0=>by rw [getD_both h1] at h0;cases h0
    have Ae:∀ e ∈ oj.after,Region.binds .any e=true→e.on≠i:=fun e he hb heq=>An i Ad (by rw [← heq];exact Al e he hb)
    have Aa:∀ e ∈ oi.after,Region.binds .any e=true→e.on≠j:=fun e he hb heq=>by
     obtain ⟨_,o',Ao,Ah⟩:=mem_ready.1 hr
     rw [hi] at Ao;cases Ao
     exact An j Af (by rw [← heq];exact Ah e he hb)
    have Ap:=Ab j oj Ag hji Af Ae
    obtain ⟨h1,h2,h3⟩:=Oper.apart_spec Ap
    have Ac:∀ k ok,ops[k]? = some ok→k≠i→(listed.setIfInBounds j true).getD k true=false →
      (∀ e ∈ ok.after,Region.binds .any e=true→e.on≠i)→oi.apart ops ok=true:=fun k ok hk hki Ad hno=>by
     refine Ab k ok hk hki ?_ hno
     by_cases hjk:j=k
     ·subst hjk;exact Af
     ·rw [getD_set_ne true hjk] at Ad;exact Ad
    have ej:∀ v,sp S σ j (a.put oi.dst v)=sp S σ j a:=fun v=>sp_putU hSp Ag a oi.dst v (fun h=>hSp_ne hi h (fun hk=>nd2 Ae hk rfl))
    have ei:∀ u,sp S σ i (a.put oj.dst u)=sp S σ i a:=fun u=>sp_putU hSp hi a oj.dst u (fun h=>hSp_ne Ag h (fun hk=>nd2 Aa hk rfl))
    have Hj:∀ v,(sp S σ i a).ok v→Ru R P ops w0 oj (sp S σ j a) (a.put oi.dst v) (upd Γ i ((sp S σ i a).holds v))∧∀ u,(sp S σ j a).ok u →
      aF R P ops S σ w0 n L f ((listed.setIfInBounds i true).setIfInBounds j true) ((a.put oi.dst v).put oj.dst u) (upd (upd Γ i ((sp S σ i a).holds v)) j ((sp S σ j a).holds u)):=fun v hv=>by
     have:=((H v hv).2 j (ready_mono hj hji)).2
     unfold fOp at this
     simpa only [Ag,ej v] using this
    unfold fOp
    simp only [Ag]
    refine ⟨(Hj v0 Ak).1.of_same (execOp_put oj (fun cs b=>hsel j oj cs b Ag) a oi.dst v0 h1).symm (wanted_put oj a oi.dst v0 h1).symm (fun k hk => ?_),fun u hu => ?_⟩
    ·exact (upd_ne (nd2 Ae hk)).symm
    ·refine ih (listed.setIfInBounds j true) _ _ (Aj.set hj Ai) Ac (ready_mono hr (Ne.symm hji)) ?_ (fun v hv => ?_)
     ·rw [ei u]
      exact hy.of_same (execOp_put oi (fun cs b=>hsel i oi cs b hi) a oj.dst u h3) (wanted_put oi a oj.dst u h3) (fun k hk=>upd_ne (nd2 Aa hk))
     ·rw [ei u] at hv ⊢
      have:=(Hj v hv).2 u hu
      rw [Array.setIfInBounds_comm _ _ hji,← Act.put_comm a v u h2,← uc2 hji]
      exact this
theorem aFl4 {S:Nat→Value→Spec} {σ:Nat→Nat} {w0:World} {n g:Nat} {Lq:Act→(Nat→World→Prop)→Prop} (hSp:SpU ops S σ) (hsel:Region.noSelect ops=true) (hs:Region.sinkB .any ops n=true) (hc:Region.chainB .any ops n=true) (hn:n < ops.size) :
  ∀ (l:List Oper) (k:Nat) (listed:Array Bool) (a:Act) (Γ:Nat→World→Prop),(∀ j,j < l.length→l[j]? = ops[k + j]?)→k + l.length=n→HeadInv .any ops n listed →
  Region.lexHead .any ops g l.length k listed=true→Tree R P ops S σ w0 Lq l k a Γ →
  aF R P ops S σ w0 n (fun listed' a' Γ'=>Region.seqB .any ops g n listed'=true∧Lq a' Γ') l.length listed a Γ
 | [],k,listed,a,Γ,_,hk,_,hB,h=>by
   have:k=n:=by simpa using hk
   subst this
   exact ⟨by simpa [Region.lexHead] using hB,h⟩
 | o :: l,k,listed,a,Γ,hl,hk,inv,hB,h=>by
   have h0:ops[k]? = some o:=by simpa using (hl 0 (by simp)).symm
   simp only [List.length_cons,Region.lexHead,Bool.and_eq_true] at hB
   obtain ⟨⟨hr,hf⟩,Ac⟩:=hB
   have Ab:k < n:=by simp only [List.length_cons] at hk;omega
   have Aa:k ∈ Region.ready .any ops listed:=by simpa using hr
   exact anyFL_firstU hSp h0 (Region.noSelect_spec hsel) hs hc hn Ab (fun listed' a' Γ' hL=>seqB_ready hL.1) l.length listed a Γ inv (Region.free_spec h0 hf) Aa h.1
    (fun v hv=>aFl4 hSp hsel hs hc hn l (k + 1) _ _ _ (fun j hj=>by have:=hl (j + 1) (by simp;omega);simpa [Nat.add_assoc,Nat.add_comm 1 j] using this) (by simp only [List.length_cons] at hk;omega) (inv.set Aa Ab) Ac (h.2 v hv))
theorem wrf3 {id:Nat} {Q:Exit→Act→World→Prop} {a:Act} {w:World} {l:List Oper} (n:Nat) (S:Nat→Value→Spec) (σ:Nat→Nat) (hSp:SpU l.toArray S σ) (hm:P.follows .mixedOrders=true) (hB:Region.lexTailB .any l.toArray n=true) (hS:∀ i x,Spec.mono R (S i x))
  (h:Tree R P l.toArray S σ w (fun a' Γ => ∀ w',R.r w w'→(∀ j,Γ j w')→wpList P l.toArray Q (l.drop n) a' w') (l.take n) 0 a (fun _ _=>True)):(Code.region id l.toArray true).wp P Q a w:=by
 simp only [Region.lexTailB,Bool.and_eq_true,decide_eq_true_eq] at hB
 obtain ⟨⟨⟨⟨Ab,hn⟩,hs⟩,hc⟩,Ac⟩:=hB
 have Ag:n < l.length:=by simpa using hn
 have Aa:(l.take n).length=n:=by simp;omega
 have Ae:(l.drop n).length=l.toArray.size - n:=by simp
 have Ad:HeadInv .any l.toArray n (Array.replicate l.toArray.size false):=
  ⟨by simp,fun j oj _ hl=>(by rw [getD_replicate_false] at hl;cases hl),fun t _ ht=>getD_in (by simpa using ht) (getD_replicate_false _ _)⟩
 have H:=aFl4 (g:=l.toArray.size - n) hSp Ab hs hc hn (l.take n) 0 _ a (fun _ _=>True) (fun j hj=>by
  have Af:j < n:=by rw [Aa] at hj;exact hj
  simp [Af]) (by simpa using Aa) Ad (by rw [Aa];exact Ac) h
 refine wp_region_any hm ?_
 have:=wAo (Q:=Q) (g:=l.toArray.size - n) hS (fun listed a' Γ' w' hL hb hG=>by
  have:=wpAny_of_seq (md:=.any) (Q':=Q) (l.drop n) n listed a' w' (fun j=>by simp [List.getElem?_drop]) (by rw [Ae];exact hL.1) (hL.2 w' hb hG)
  rwa [Ae] at this) _ _ _ _ { w with drawn:=w.drawn + 1 } H (R.drew _) (fun _=>trivial) (fun _ _ _ _ _=>trivial)
 rw [Aa,show n + (l.toArray.size - n)=l.toArray.size by omega] at this
 exact this
end
end Go.FlowR
namespace Go.Proofs.YtaddkkkchkdgkaaGreatDoor
open Go.RowKit Go.Sort
def setB (o:Option Obj) (k:Nat) (x:Value):Option Obj:=match o with
 | some (.cells cur T f)=>some (.cells (cur.setIfInBounds k x) T f)
 | o=>o
theorem sBt (o:Option Obj) (k:Nat) (x y:Value):setB (setB o k x) k y=setB o k y:=by
 unfold setB
 cases o with
 | none=>rfl
 | some o=>cases o <;> simp
def tw (G H:Option Nat) (k:Nat) (x y:Value):FlowR.Rel where
 r w w':=w'.os=w.os∧w'.tape=w.tape∧w'.output=w.output∧w.heap.size≤w'.heap.size∧∀ b,b < w.heap.size→w'.heap[b]? = w.heap[b]? ∨ (G=some b∧w'.heap[b]? = setB w.heap[b]? k x)∨(H=some b∧w'.heap[b]? = setB w.heap[b]? k y)
 rf w:=⟨rfl,rfl,rfl,Nat.le_refl _,fun _ _ => .inl rfl⟩
 tr:=by
  rintro a b c ⟨h1,h2,h3,h4,h5⟩ ⟨k1,k2,k3,k4,k5⟩
  refine ⟨k1.trans h1,k2.trans h2,k3.trans h3,Nat.le_trans h4 k4,fun n hn => ?_⟩
  rcases h5 n hn with e1 | ⟨g1,e1⟩ | ⟨g1,e1⟩ <;> rcases k5 n (Nat.lt_of_lt_of_le hn h4) with e2 | ⟨g2,e2⟩ | ⟨g2,e2⟩
  ·exact .inl (e2.trans e1)
  ·exact .inr (.inl ⟨g2,by rw [e2,e1]⟩)
  ·exact .inr (.inr ⟨g2,by rw [e2,e1]⟩)
  ·exact .inr (.inl ⟨g1,e2.trans e1⟩)
  ·exact .inr (.inl ⟨g2,by rw [e2,e1,sBt]⟩)
  ·exact .inr (.inr ⟨g2,by rw [e2,e1,sBt]⟩)
  ·exact .inr (.inr ⟨g1,e2.trans e1⟩)
  ·exact .inr (.inl ⟨g2,by rw [e2,e1,sBt]⟩)
  ·exact .inr (.inr ⟨g2,by rw [e2,e1,sBt]⟩)
 drew w:=⟨rfl,rfl,rfl,Nat.le_refl _,fun _ _ => .inl rfl⟩
section
variable {G H:Option Nat} {k:Nat} {x y z:Value} {W W':World} {N:Nat} {e:TypeId} {v:Value} {xs:List Value}
theorem tb2 (hr:(tw G H k x y).r W W') {b:Nat} (hb:b < W.heap.size) (hG:G≠some b) (hH:H≠some b):W'.heap[b]? = W.heap[b]? := by
 rcases hr.2.2.2.2 b hb with e | ⟨e,_⟩ | ⟨e,_⟩
 ·exact e
 ·exact absurd e hG
 ·exact absurd e hH
theorem tw_at (hr:(tw G H k x y).r W W') {b o:Nat} (hb:b < W.heap.size) (hG:G≠some b) (hH:H≠some b):W'.cell? ⟨b,o,none⟩=W.cell? ⟨b,o,none⟩:=
 World.cell?_of_block (a:=⟨b,o,none⟩) (tb2 hr hb hG hH)
theorem tw_alloc (o:Obj):(tw G H k x y).r W (W.alloc o):=⟨rfl,rfl,rfl,by simp,fun _ hb => .inl (heap_alloc_old W _ hb)⟩
theorem tw_below (hr:(tw G H k x y).r W W') {M:Nat} (hM:M≤W.heap.size) (hG:∀ b,G=some b→M≤b) (hH:∀ b,H=some b→M≤b):Below M W W':=
 ⟨hr.1,hr.2.1,hr.2.2.1,hr.2.2.2.1,fun b hb=>tb2 hr (by omega) (fun e=>by have:=hG b e;omega) (fun e=>by have:=hH b e;omega)⟩
theorem take_set {l:List Value} {n:Nat} {x:Value}:(l.set n x).take n=l.take n:=by
 apply List.ext_getElem?
 intro i
 by_cases h:i < n
 ·rw [List.getElem?_take_of_lt h,List.getElem?_take_of_lt h,List.getElem?_set_ne (by omega)]
 ·rw [List.getElem?_eq_none (by simp;omega),List.getElem?_eq_none (by simp;omega)]
theorem tw_owns (h:W.ownsRow N e 1 v k xs) (hr:(tw G H k x y).r W W'):W'.ownsRow N e 1 v k xs:=by
 obtain ⟨h1,h2⟩:=h
 refine ⟨h1,?_⟩
 rcases h2 with h2 | ⟨g,Ab,Ad,hv,hb,hg,h3,h4,h5,h6⟩
 ·exact .inl h2
 ·have Ac:∀ z:Value,W'.heap[g]? = setB W.heap[g]? k z→∃ Aa,W'.heap[g]? = some (.cells Aa e (0,0))∧Aa.size=Ab * 1∧Aa.toList.take (k * 1)=xs:=fun z hz=>by
   rw [hg] at hz
   refine ⟨_,hz,by simpa using h5,?_⟩
   rw [Array.toList_setIfInBounds,Nat.mul_one,take_set,← Nat.mul_one k]
   exact h6
  rcases hr.2.2.2.2 g (Array.getElem?_eq_some_iff.1 hg).1 with e1 | ⟨_,e1⟩ | ⟨_,e1⟩
  ·exact .inr ⟨g,Ab,Ad,hv,hb,e1.trans hg,h3,h4,h5,h6⟩
  ·obtain ⟨Aa,a1,a2,a3⟩:=Ac _ e1
   exact .inr ⟨g,Ab,Aa,hv,hb,a1,h3,h4,a2,a3⟩
  ·obtain ⟨Aa,a1,a2,a3⟩:=Ac _ e1
   exact .inr ⟨g,Ab,Aa,hv,hb,a1,h3,h4,a2,a3⟩
theorem set_same_at {l:List Value} {n:Nat} {x:Value} (h:l[n]? = some x):l.set n x=l:=by
 apply List.ext_getElem?
 intro i
 by_cases e:n=i
 ·subst e
  rw [List.getElem?_set_self (by have:=(List.getElem?_eq_some_iff.1 h).1;exact this),h]
 ·rw [List.getElem?_set_ne e]
theorem tw_owns1 (h:W.ownsRow N e 1 v (k + 1) (xs ++ [z])) (hk:xs.length=k) (hr:(tw G H k x y).r W W') (hG:∀ b,v.ownBlock=some b→G=some b→z=x) (hH:∀ b,v.ownBlock=some b→H=some b→z=y):W'.ownsRow N e 1 v (k + 1) (xs ++ [z]):=by
 obtain ⟨h1,h2⟩:=h
 refine ⟨h1,?_⟩
 rcases h2 with h2 | ⟨g,Ad,Aa,rfl,hb,hg,h3,h4,h5,h6⟩
 ·exact .inl h2
 ·have hz:Aa.toList[k]? = some z:=by
   have e1:(Aa.toList.take ((k + 1) * 1))[k]? = (xs ++ [z])[k]? := by rw [h6]
   rw [List.getElem?_take_of_lt (by omega)] at e1
   rw [e1,List.getElem?_append_right (by omega),hk,Nat.sub_self];rfl
  have Ac:∀ u:Value,z=u→setB W.heap[g]? k u=W.heap[g]? := fun u hu=>by
   rw [hg,← hu]
   show some (Obj.cells (Aa.setIfInBounds k z) e (0,0))=_
   have:Aa.setIfInBounds k z=Aa:=by
    apply Array.toList_inj.1
    rw [Array.toList_setIfInBounds]
    exact set_same_at hz
   rw [this]
  have Ab:W'.heap[g]? = W.heap[g]? := by
   rcases hr.2.2.2.2 g (Array.getElem?_eq_some_iff.1 hg).1 with e1 | ⟨g1,e1⟩ | ⟨g1,e1⟩
   ·exact e1
   ·exact e1.trans (Ac _ (hG g rfl g1))
   ·exact e1.trans (Ac _ (hH g rfl g1))
  exact .inr ⟨g,Ad,Aa,rfl,hb,Ab.trans hg,h3,h4,h5,h6⟩
end
theorem app_own {P:Program} {V:World} {N:Nat} {t ty e:TypeId} {i:TypeInfo} {u z v:Value} {bytes k:Nat} {xs:List Value} (ht:P.underlying t=some (.slice e)) (hi:P.info? e=some i) (hz:i.zero=some u) (hsize:i.size=1) (hby:i.bytes=bytes) (hzs:u.cells.size=1)
  (hown:V.ownsRow N e 1 v k xs) (h:Nat) (hc:V.cell? ⟨h,0,none⟩=some z) (h1:z.oneCell'=true) (h63:k + 1≤maxLen) (hbytes:(k + 1) * bytes≤140737488355328) (hN:N≤V.heap.size) :
  ∃ v' V',(Builtin.append_ #[t,t] ty #[v,.slice (some ⟨h,0,none⟩) 1 1]).run P V = .ok v' V'∧V'.ownsRow N e 1 v' (k + 1) (xs ++ [z])∧(v'.ownBlock=v.ownBlock∨v'.ownBlock=some V.heap.size) ∧
    (V'.os=V.os∧V'.tape=V.tape∧V'.output=V.output∧V.heap.size≤V'.heap.size)∧∀ b,b < V.heap.size→V'.heap[b]? = V.heap[b]? ∨ (v.ownBlock=some b∧V'.heap[b]? = setB V.heap[b]? k z):=by
 have Aa:∀ j w,[z][j]? = some w→V.cell? ((⟨h,0,none⟩:Addr).add j)=some w:=fun j w hj=>by
  match j,hj with
  | 0,hj=>simp at hj;subst hj;simpa [Addr.add] using hc
 have Ac:∀ w ∈ [z],w.oneCell'=true:=fun w hw=>by rw [List.mem_singleton.1 hw];exact h1
 obtain ⟨v',V',hr,h2,h3,_,h5⟩:=run_append_own_at (P:=P) V N t ty e i u 1 bytes ht hi hz hsize hby hzs (by omega) v k xs hown ⟨h,0,none⟩ 1 1 [z] rfl Aa Ac h63 hbytes hN
 refine ⟨v',V',hr,h2,h5,⟨h3.os,h3.tape,h3.output,h3.size⟩,fun b hb => ?_⟩
 by_cases hbv:v.ownBlock=some b
 ·rcases hown.2 with ⟨rfl,_⟩ | ⟨g,Ad,Ae,rfl,Ai,hg,Ah,Aj,Af,Ag⟩
  ·cases hbv
  ·obtain rfl:g=b:=by simpa [Value.ownBlock] using hbv
   by_cases hroom:k + 1≤Ad
   ·have Ab:=run_append_room (P:=P) V t ty e i ht hi g k Ad Ae hg ⟨h,0,none⟩ 1 1 [z] (by rw [hsize];rfl) Aa Ac hroom (by rw [hsize,Af];simp;omega)
    rw [hr] at Ab
    simp only [Result.ok.injEq] at Ab
    obtain ⟨_,rfl⟩:=Ab
    refine .inr ⟨hbv,?_⟩
    rw [setRow_heap V g Ae _ e _ hg,hg]
    show some (Obj.cells _ e (0,0))=some (Obj.cells (Ae.setIfInBounds k z) e (0,0))
    congr 2
    apply Array.toList_inj.1
    rw [Array.toList_setIfInBounds,List.set_eq_take_append_cons_drop,if_pos (by rw [Array.length_toList,Af];omega)]
    simp [hsize]
   ·have holds:∀ j w,xs[j]? = some w→V.cell? ((⟨g,0,none⟩:Addr).add j)=some w:=hown.cells (g:=g) rfl
    have Ab:=run_append_grow (P:=P) V t ty e i u ht hi hz ⟨g,0,none⟩ k Ad xs (by rw [hown.1,hsize]) holds ⟨h,0,none⟩ 1 1 [z] (by rw [hsize];rfl) Aa (by omega) (by unfold maxLen at h63;omega) (growslice_fits (by omega) (by rw [hby];exact hbytes))
    rw [hr] at Ab
    simp only [Result.ok.injEq] at Ab
    obtain ⟨_,rfl⟩:=Ab
    exact .inl (heap_alloc_old V.drew _ hb)
 ·exact .inl (h3.block b hb (fun e=>hbv e.symm))
end Go.Proofs.YtaddkkkchkdgkaaGreatDoor
