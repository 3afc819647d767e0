/- Joined by mergeK.py: ShA, D10, F19, F20, F21, F22 -/
import Derived.Shelf.Strings.Builder1
import Derived.Shelf.Small.Bits
import Derived.Shelf.Small.Strs
import Derived.Shelf.Strings.BuilderF
import Derived.Shelf.Strings.BuilderK
import Derived.Shelf.Strconv.Itoa0
import Derived.Shelf.Bits.Mul64
import Derived.Shelf.Strings.BuilderCap
import Derived.Shelf.Slices.Turned
import Derived.Shelf.Slices.CompactS
import Derived.Shelf.Slices.Cells
import Derived.Shelf.Slices.In.SortNone
import Derived.Test.YtjdccifdkjnknaaGreatDoorProg
import Derived.Test.YtjdccifdkjnknaaGreatDoorAC01
import Derived.Test.YtjdccifdkjnknaaGreatDoorAC02
import Derived.RegionIn
import Derived.Stop.RegionWithIn
import Derived.OwnWalkIn
import Derived.TacticsInMore
import Derived.LoopNIn
import Derived.LoopIn
import Derived.Shelf.Abstract
import Derived.Shelf.RegionOpen
import Derived.Test.YtjdccifdkjnknaaGreatDoorAC03
import Derived.LaidEql
import Derived.Stop.Asserts
namespace Go.Proofs
open Go.Shelf
def Tryz.lr3:Go.Shelf.Ren:=⟨fun | 169=>43 | n=>n,fun | 70=>85 | 9=>9 | 0=>0 | 72=>88 | 37=>86 | 127=>138 | 3=>3 | 5=>5 | n=>n,fun | n=>n⟩
theorem Tryz.lays169:Go.Proofs.Lays.n169 Tryz.prog Tryz.lr3:={
 mixed:=by kernel_rfl
 f169:=Tryz.func43.trans (congrArg some (by kernel_rfl))
 t0:=Tryz.underlying0
 a0:=Tryz.isAgg0
 z0:=Tryz.sizeOf0
 v0:=Tryz.zeroValue0
 t3:=Tryz.underlying3
 a3:=Tryz.isAgg3
 z3:=Tryz.sizeOf3
 v3:=Tryz.zeroValue3
 t9:=Tryz.underlying9
 a9:=Tryz.isAgg9
 z9:=Tryz.sizeOf9
 v9:=Tryz.zeroValue9
 t37:=Tryz.underlying86
 a37:=Tryz.isAgg86
 z37:=Tryz.sizeOf86
 v37:=Tryz.zeroValue86
 t70:=Tryz.underlying85
 a70:=Tryz.isAgg85
 z70:=Tryz.sizeOf85
 v70:=Tryz.zeroValue85
 t72:=Tryz.underlying88
 a72:=Tryz.isAgg88
 z72:=Tryz.sizeOf88
 v72:=Tryz.zeroValue88
 t127:=Tryz.underlying138
 a127:=Tryz.isAgg138
 z127:=Tryz.sizeOf138
 v127:=Tryz.zeroValue138 }
theorem Tryz.BE1:Builder.Extra Tryz.prog Tryz.lr3:={
 sizeBuilder:=by kernel_rfl
 liesBuilder:=by kernel_rfl
 t5:=Tryz.underlying5
 a5:=Tryz.isAgg5
 z5:=Tryz.sizeOf5
 v5:=Tryz.zeroValue5
 infoByte:=by kernel_rfl
 cellsByte:=by kernel_rfl
 sizeByte:=by kernel_rfl
 neB5:=by decide }
def Tryz.lr4:Go.Shelf.Ren:=⟨fun | 125=>163 | 128=>203 | 129=>204 | n=>n,fun | 46=>161 | 3=>3 | 51=>119 | 53=>92 | 4=>4 | 5=>5 | 9=>9 | n=>n,fun | n=>n⟩
theorem Tryz.lays125:Go.Proofs.Lays.n125 Tryz.prog Tryz.lr4:={
 mixed:=by kernel_rfl
 f125:=Tryz.func163.trans (congrArg some (by kernel_rfl))
 f128:=Tryz.func203.trans (congrArg some (by kernel_rfl))
 f129:=Tryz.func204.trans (congrArg some (by kernel_rfl))
 t3:=Tryz.underlying3
 a3:=Tryz.isAgg3
 z3:=Tryz.sizeOf3
 v3:=Tryz.zeroValue3
 t4:=Tryz.underlying4
 a4:=Tryz.isAgg4
 z4:=Tryz.sizeOf4
 v4:=Tryz.zeroValue4
 t5:=Tryz.underlying5
 a5:=Tryz.isAgg5
 z5:=Tryz.sizeOf5
 v5:=Tryz.zeroValue5
 t9:=Tryz.underlying9
 a9:=Tryz.isAgg9
 z9:=Tryz.sizeOf9
 v9:=Tryz.zeroValue9
 t46:=Tryz.underlying161
 a46:=Tryz.isAgg161
 z46:=Tryz.sizeOf161
 v46:=Tryz.zeroValue161
 t51:=Tryz.underlying119
 a51:=Tryz.isAgg119
 z51:=Tryz.sizeOf119
 v51:=Tryz.zeroValue119
 t53:=Tryz.underlying92
 a53:=Tryz.isAgg92
 z53:=Tryz.sizeOf92
 v53:=Tryz.zeroValue92 }
theorem Tryz.bits_Len (x:Int) (w:World) (h0:0≤x) (h1:x≤18446744073709551615) :
  Calls Tryz.prog 163 #[.int .u64 x] w fun e w'=>e = .returned (.int .i64 (Lib.bitLen x.toNat))∧w'=w:=Any.bits_Len Tryz.lays125 x w h0 h1
def Tryz.lays106_ren:Go.Shelf.Ren:=⟨fun | 106=>185 | 213=>214 | 265=>232 | n=>n,fun | 9=>9 | 3=>3 | n=>n,fun | n=>n⟩
theorem Tryz.lays106:Go.Proofs.Lays.n106 Tryz.prog Tryz.lays106_ren:={
 mixed:=by kernel_rfl
 f106:=Tryz.func185.trans (congrArg some (by kernel_rfl))
 f213:=Tryz.func214.trans (congrArg some (by kernel_rfl))
 f265:=Tryz.func232.trans (congrArg some (by kernel_rfl))
 t3:=Tryz.underlying3
 a3:=Tryz.isAgg3
 z3:=Tryz.sizeOf3
 v3:=Tryz.zeroValue3
 t9:=Tryz.underlying9
 a9:=Tryz.isAgg9
 z9:=Tryz.sizeOf9
 v9:=Tryz.zeroValue9 }
open Go.RowKit in
theorem Tryz.strings_Compare (a b:ByteArray) (w:World) :
  Calls Tryz.prog 185 #[.string a,.string b] w fun e w'=>e = .returned (.int .i64 (Lib.compareBytes a.data.toList b.data.toList))∧w'=w:=Any.strings_Compare Tryz.lays106 a b w
open Go.RowKit in
theorem Tryz.Builder_String_k (B b:Nat) (l:List UInt8) (w:World) (h:Lib.IsBuilderF 88 5 B b (Lib.byteCells l) w) (h0:l≠[]) :
  Calls Tryz.prog 43 #[.pointer (some ⟨b,0,none⟩)] w fun e w'=>e = .returned (.string ⟨l.toArray⟩)∧(Lib.IsBuilderF 88 5 B b (Lib.byteCells l) w'∧Below B w w'∧Lib.OthersKept 5 (some b) w w'):=Any.Builder_String_k Tryz.lays169 Tryz.BE1 B b l w h h0
def Tryz.lays264_ren:Go.Shelf.Ren:=⟨fun | 264=>181 | n=>n,fun | 53=>92 | 46=>161 | n=>n,fun | n=>n⟩
theorem Tryz.lays264:Go.Proofs.Lays.n264 Tryz.prog Tryz.lays264_ren:={
 mixed:=by kernel_rfl
 f264:=Tryz.func181.trans (congrArg some (by kernel_rfl))
 t46:=Tryz.underlying161
 a46:=Tryz.isAgg161
 z46:=Tryz.sizeOf161
 v46:=Tryz.zeroValue161
 t53:=Tryz.underlying92
 a53:=Tryz.isAgg92
 z53:=Tryz.sizeOf92
 v53:=Tryz.zeroValue92 }
open Go.RowKit Go.Lib in
theorem Tryz.bits_Mul64 (x y:Nat) (hx:x < 18446744073709551616) (hy:y < 18446744073709551616) (w:World) :
  Calls Tryz.prog 181 #[.int .u64 x,.int .u64 y] w fun e w'=>e = .returned (.tuple #[.int .u64 ((x * y / 18446744073709551616:Nat):Int),.int .u64 ((x * y % 18446744073709551616:Nat):Int)])∧w'=w:=Any.bits_Mul64 Tryz.lays264 x y hx hy w
def Tryz.lr6:Go.Shelf.Ren:=⟨fun | 113=>164 | n=>n,fun | 28=>96 | 3=>3 | 4=>4 | 9=>9 | 20=>20 | 0=>0 | n=>n,fun | n=>n⟩
theorem Tryz.lays113:Go.Proofs.Lays.n113 Tryz.prog Tryz.lr6:={
 mixed:=by kernel_rfl
 f113:=Tryz.func164.trans (congrArg some (by kernel_rfl))
 t0:=Tryz.underlying0
 a0:=Tryz.isAgg0
 z0:=Tryz.sizeOf0
 v0:=Tryz.zeroValue0
 t3:=Tryz.underlying3
 a3:=Tryz.isAgg3
 z3:=Tryz.sizeOf3
 v3:=Tryz.zeroValue3
 t4:=Tryz.underlying4
 a4:=Tryz.isAgg4
 z4:=Tryz.sizeOf4
 v4:=Tryz.zeroValue4
 t9:=Tryz.underlying9
 a9:=Tryz.isAgg9
 z9:=Tryz.sizeOf9
 v9:=Tryz.zeroValue9
 t20:=Tryz.underlying20
 a20:=Tryz.isAgg20
 z20:=Tryz.sizeOf20
 v20:=Tryz.zeroValue20
 t28:=Tryz.underlying96
 a28:=Tryz.isAgg96
 z28:=Tryz.sizeOf96
 v28:=Tryz.zeroValue96 }
open Go.Lib in
theorem Tryz.slices_Max_int (b off n c:Nat) (zs:List Int) (w:World) (hn:0 < n) (hz:n≤zs.length) (hbig:n≤9223372036854775807) (hc:∀ j,j < zs.length→w.cell? ⟨b,off + j,none⟩=some (.int .i64 (zs.getD j 0))) :
  Calls Tryz.prog 164 #[.slice (some ⟨b,off,none⟩) n c] w fun e w'=>e = .returned (.int .i64 (Lib.maxOf (zs.take n)))∧w'=w:=Any.slices_Max_int Tryz.lays113 b off n c zs w hn hz hbig hc
def Tryz.lr5:Go.Shelf.Ren:=⟨fun | 194=>159 | n=>n,fun | 31=>22 | 9=>9 | 3=>3 | 4=>4 | 0=>0 | n=>n,fun | n=>n⟩
theorem Tryz.lays194:Go.Proofs.Lays.n194 Tryz.prog Tryz.lr5:={
 mixed:=by kernel_rfl
 f194:=Tryz.func159.trans (congrArg some (by kernel_rfl))
 t0:=Tryz.underlying0
 a0:=Tryz.isAgg0
 z0:=Tryz.sizeOf0
 v0:=Tryz.zeroValue0
 t3:=Tryz.underlying3
 a3:=Tryz.isAgg3
 z3:=Tryz.sizeOf3
 v3:=Tryz.zeroValue3
 t4:=Tryz.underlying4
 a4:=Tryz.isAgg4
 z4:=Tryz.sizeOf4
 v4:=Tryz.zeroValue4
 t9:=Tryz.underlying9
 a9:=Tryz.isAgg9
 z9:=Tryz.sizeOf9
 v9:=Tryz.zeroValue9
 t31:=Tryz.underlying22
 a31:=Tryz.isAgg22
 z31:=Tryz.sizeOf22
 v31:=Tryz.zeroValue22 }
open Go.RowKit Go.Lib Go.Sort in
theorem Tryz.slices_Compact_string (blk off cap:Nat) (zs:List (List UInt8)) (w:World) (hH:Holds encStr w blk off zs.toArray) (hsz:zs.length≤9223372036854775807) (hcap:zs.length≤cap) :
  Calls Tryz.prog 159 #[.slice (some ⟨blk,off,none⟩) zs.length cap] w fun e w'=>e = .returned (.slice (some ⟨blk,off,none⟩) (Lib.compact zs).length cap)∧∃ q,w'=putRow encStr (Sort.ahead w q) blk off (Lib.compact zs ++ List.replicate (zs.length - (Lib.compact zs).length) []).toArray:=Any.slices_Compact_string Tryz.lays194 blk off cap zs w hH hsz hcap
end Go.Proofs
namespace Go.Proofs.YtjdccifdkjnknaaGreatDoor
open Go.RowKit Go.Sort Go.Shelf
attribute [local go_sem] Oper.semAt_some
theorem dco {W:World} {B:Nat} {v:Value} {t:TypeId} (h:W.heap[B]? = some (.cells #[v] t (0,0))):W.cell? ⟨B,0,none⟩=some v∧W.frozen? ⟨B,0,none⟩=false:=by
 constructor <;> simp [World.cell?,World.frozen?,h]
theorem dhs {W:World} {B:Nat} {v:Value} {t:TypeId} (v':Value) (h:W.heap[B]? = some (.cells #[v] t (0,0))):(W.setCell ⟨B,0,none⟩ v').heap[B]? = some (.cells #[v'] t (0,0)):=by
 obtain ⟨Aa,hk⟩:=Array.getElem?_eq_some_iff.1 h
 show (W.heap.modify B _)[B]? = _
 rw [Array.getElem?_eq_getElem (by rw [Array.size_modify];exact Aa),Array.getElem_modify_self,hk]
 rfl
theorem dhn {W:World} {B k:Nat} {u:Value} (h:k≠B):(W.setCell ⟨B,0,none⟩ u).heap[k]? = W.heap[k]? := Below.heap_setCell _ _ _ _ h
theorem dgB (W:World) (l:Nat) (o:Obj):W.grownBy (W.putObj l o) (some l):=
 ⟨rfl,rfl,rfl,by simp,fun k _ hk=>World.putObj_heap_other (fun e=>hk (by rw [e]))⟩
structure Rp (w:World) (rec:Loop) (v:Value) (e:Bool) (W:World):Prop where
 k0:W.heap[w.heap.size]? = some (.cells #[.bool e] 4 (0,0))
 k1:W.heap[w.heap.size + 1]? = some (.cells #[v] 22 (0,0))
 kD:W.heap[w.heap.size + 2]? = some (.deferred (some []))
 kL:W.heap[w.heap.size + 3]? = some (.loop rec)
 below:Below w.heap.size w W
section
variable {w W W':World} {rec rec':Loop} {v:Value} {e e':Bool}
theorem Rp.set0 (h:Rp w rec v e W) (e':Bool):Rp w rec v e' (W.setCell ⟨w.heap.size,0,none⟩ (.bool e')):=
 ⟨dhs _ h.k0,(dhn (by omega)).trans h.k1,(dhn (by omega)).trans h.kD,(dhn (by omega)).trans h.kL,h.below.setCell (Nat.le_refl _) _⟩
theorem Rp.but (h:Rp w rec v e W) (hs:Rf.SB (w.heap.size + 2 + 1) W W') (hl:W'.heap[w.heap.size + 2 + 1]? = some (.loop rec')):Rp w rec' v e W':=
 ⟨(hs.block _ (by omega)).trans h.k0,(hs.block _ (by omega)).trans h.k1,(hs.block _ (by omega)).trans h.kD,hl,h.below.trans (hs.below (by omega))⟩
theorem Rp.later (h:Rp w rec v e W) (hB:Below W.heap.size W W'):Rp w rec v e W':=
 ⟨(hB.block _ (Array.getElem?_eq_some_iff.1 h.k0).1).trans h.k0,(hB.block _ (Array.getElem?_eq_some_iff.1 h.k1).1).trans h.k1,(hB.block _ (Array.getElem?_eq_some_iff.1 h.kD).1).trans h.kD,(hB.block _ (Array.getElem?_eq_some_iff.1 h.kL).1).trans h.kL,h.below.trans (hB.mono h.below.size)⟩
end
set_option maxRecDepth 100000 in
set_option maxHeartbeats 2000000 in
theorem dra (v:Value) (l:List ByteArray) (w:World) (hv:SlOf w v (l.map .string)) :
  Calls Tryz.prog 120 #[v] w fun e w'=>e = .returned (.bool (Tess.right l))∧Below w.heap.size w w':=by
 have A8:=Hd (dcl v l w hv)
 have HP:=Hd (Tess.rp2 l)
 obtain ⟨a,Ai,rfl,Br,hc⟩:=so2 hv
 have HC:=Hd hc
 clear hc hv
 refine (callsIn_wide (n:=5)).1 ?_
 refine callsIn_of_wp_marks Tryz.func120 rfl trivial ?_ rfl
 simp only [Tryz.ntmps120,List.size_toArray,List.length_cons,List.length_nil,Nat.reduceAdd,Nat.reduceSub,Array.replicate_succ,Array.replicate_zero,List.push_toArray,List.append_toArray,List.nil_append,List.cons_append]
 gi_wp2
 refine Rf.wIs ?_
 by_cases h1000:l.length≤1000
 ·have Bj:(l.length:Int)≤1000:=by omega
  have Bp:decide ((l.length:Int)≤1000)=true:=decide_eq_true Bj
  have hp:=HP.out
  rw [decide_eq_true h1000,Bool.true_and] at hp
  have HP:=Hd hp
  clear hp
  cases hany:l.any Tess.diL
  ·rw [hany] at A8 HP
   have Aw:RowKit.Hid (Tess.right l=Tess.chainTo l l.length):=Hd (by rw [HP.out];rfl)
   clear HP
   gi_wp2_with (refine ⟨trivial,?_⟩;gi_at_call 156;refine (callsIn_wide.2 A8.out).mono ?_;rintro e w1 ⟨rfl,Aj⟩;have HB:=Hd Aj;clear Aj)
   refine wpIn_label ?_
   gi_wp2_with (refine ⟨trivial,?_⟩;gi_at_call 160;refine (callsIn_wide.2 (dpa2 _ _ _ _)).mono ?_;rintro e w' ⟨rfl,rfl⟩)
   obtain ⟨w0,Ak⟩:∃ w0,((w1.alloc (.cells #[.bool true] 4)).alloc (.cells #[.slice a l.length Ai] 22))=w0:=⟨_,rfl⟩
   have hA:w0.heap.size=w1.heap.size + 2:=by rw [← Ak];simp
   have Au:Below w1.heap.size w1 w0:=by rw [← Ak];exact ((Below.refl _ _).alloc (Nat.le_refl _) _).alloc (by simp) _
   have h0:w0.heap[w1.heap.size]? = some (.cells #[.bool true] 4 (0,0)):=by rw [← Ak];exact (Below.heap_alloc _ _ _ (by simp)).trans (World.alloc_heap_new w1 _)
   have h1:w0.heap[w1.heap.size + 1]? = some (.cells #[.slice a l.length Ai] 22 (0,0)):=by
    rw [← Ak];have:=World.alloc_heap_new (w1.alloc (.cells #[.bool true] 4)) (.cells #[.slice a l.length Ai] 22);rwa [World.size_alloc] at this
   rw [Ak]
   clear Ak
   refine Rf.rw3 (gf:=201) (lb:=#[.pointer (some ⟨w1.heap.size + 1,0,none⟩)]) rfl (enters_of Tryz.func201 (by kernel_rfl) rfl) ?_
   intro fn W2 hL hD Aj Bd
   rw [hA] at hL hD Bd ⊢
   obtain ⟨Ad,Ah,hL⟩:∃ Ad:Loop,Ad=_∧W2.heap[w1.heap.size + 2 + 1]? = some (.loop Ad):=⟨_,rfl,hL⟩
   have Ar:=Hd Ah
   have Ap:Ad.state = .ready∧Ad.params.size=2∧Ad.pending=none:=by rw [Ah];exact ⟨rfl,rfl,rfl⟩
   clear Ah
   obtain ⟨Ap,Bg,A2⟩:=Ap
   have hI:Rp w1 Ad (.slice a l.length Ai) true W2:=⟨(Aj.block _ (by omega)).trans h0,(Aj.block _ (by omega)).trans h1,hD,hL,Bt Au Aj⟩
   clear Au Aj h0 h1 hD hL
   refine callsIn_of_wp Tryz.func201 rfl trivial ?_ rfl
   simp only [Tryz.ntmps201,List.size_toArray,List.length_cons,List.length_nil,Nat.reduceAdd,Nat.reduceSub,Array.replicate_succ,Array.replicate_zero,List.push_toArray,List.append_toArray,List.nil_append,List.cons_append]
   gi_wp2
   gi_loopw [3] (fun i wr => ∃ k:Nat,1≤k∧k≤max 1 l.length∧i = .int .i64 k∧Tess.chainTo l k=true∧Rp w1 Ad (.slice a l.length Ai) true wr) (fun i _=>l.length - (intOf i).toNat)
   case atStart=>exact ⟨1,Nat.le_refl _,by omega,rfl,rfl,hI⟩
   case round=>
    obtain ⟨k,Bm,hk,rfl,A0,hS⟩:=hrel
    have A1:=Hd A0
    have HS:=Hd hS
    clear A0 hS
    obtain ⟨c1,z1⟩:=dco HS.out.k1
    by_cases hlt:k < l.length
    ·obtain ⟨j,rfl⟩:∃ j,k=j + 1:=⟨k - 1,by omega⟩
     have hj:j < l.length:=by omega
     obtain ⟨b,Bi,rfl,hb,Ae⟩:=HC.out (j + 1) hlt
     obtain ⟨b',Aa,Av,A5,Ac⟩:=HC.out j hj
     obtain ⟨rfl,rfl⟩:b'=b∧Aa=Bi:=by cases Av;exact ⟨rfl,rfl⟩
     have Am:=Bt HB.out HS.out.below
     have As:wr.cell? ⟨b',Aa + (j + 1),none⟩=some (.string l[j + 1]):=(Am.cell (p:=⟨b',Aa + (j + 1),none⟩) hb).trans Ae
     have At:wr.cell? ⟨b',Aa + j,none⟩=some (.string l[j]):=(Am.cell (p:=⟨b',Aa + j,none⟩) A5).trans Ac
     have Ay:b' < wr.heap.size:=Nat.lt_of_lt_of_le hb Am.size
     have Az:w1.heap.size + 1 < wr.heap.size:=(Array.getElem?_eq_some_iff.1 HS.out.k1).1
     have Ab:Tess.ord l (j + 1)=Tess.bl l[j] l[j + 1]:=by unfold Tess.ord;rw [Nat.add_sub_cancel,Tess.getD_lt l j hj,Tess.getD_lt l (j + 1) hlt];rfl
     obtain ⟨x,hx⟩:∃ x,x=l[j]:=⟨_,rfl⟩
     obtain ⟨y,hy⟩:∃ y,y=l[j + 1]:=⟨_,rfl⟩
     rw [← hx,← hy] at Ab
     rw [← hx] at At
     rw [← hy] at As
     have A6:(j:Int) + 1 < (l.length:Int):=by omega
     have Bl:(0:Int)≤(j:Int) + 1:=by omega
     have A9:(j:Int) + 1 - 1=(j:Int):=by omega
     have Bo:(j:Int) < (l.length:Int):=by omega
     have Bn:IntKind.i64.wrap (j:Int)=(j:Int):=by go_bits;trivial
     have A3:IntKind.i64.wrap ((j:Int) + 1)=(j:Int) + 1:=by go_bits;trivial
     have Bh:=Hd (fun w2 (hw2:Below wr.heap.size wr w2)=>run_yield (P:=Tryz.prog) (w:=w2) (l:=w1.heap.size + 2 + 1) (r:=Ad) (args:=#[.string x,.string y]) (HS.out.later hw2).kL (by rw [Bg];rfl))
     have Bf:=Hd As
     have Ba:=Hd At
     clear hx hy Ae Ac Av Am As At
     gi_wp2
     have Ax:=Hd c1
     clear c1 z1
     refine Flow.wIr 10 (Flow.sp3 [.inl (.func (.yield (w1.heap.size + 2 + 1)) #[] #[]),.inl (.slice (some ⟨b',Aa,none⟩) l.length Ai),.inl (.int .i64 ((j:Int) + 1)),.inl (.int .i64 j),.inl (.pointer (some ⟨b',Aa + j,none⟩)),.inl (.string x),.inl (.slice (some ⟨b',Aa,none⟩) l.length Ai),.inl (.int .i64 ((j:Int) + 1)),.inl (.pointer (some ⟨b',Aa + (j + 1),none⟩)),.inl (.string y)]) (by kernel_rfl) (by kernel_rfl) ?_ ?_
     ·apply Flow.sm2;intro s hs;simp only [List.mem_cons,List.not_mem_nil,or_false] at hs
      rcases hs with rfl | rfl | rfl | rfl | rfl | rfl | rfl | rfl | rfl | rfl
      all_goals exact Flow.mi _
     iterate 1 (refine Flow.tvK rfl (fun K hK=>⟨fun w hw hG => ?_,?_⟩);(clear hG hw;unfold Flow.Runs Flow.yields;go_simp);go_simp;refine hK _ ?_;clear hK K)
     (refine Flow.tvK rfl (fun K hK=>⟨fun w hw hG => ?_,?_⟩);(have Aq:=(hw.cell (p:=⟨w1.heap.size + 1,0,none⟩) Az).trans Ax.out;clear hG hw;unfold Flow.Runs Flow.yields;go_simp);go_simp;refine hK _ ?_;clear hK K)
     iterate 3 (refine Flow.tvK rfl (fun K hK=>⟨fun w hw hG => ?_,?_⟩);(clear hG hw;unfold Flow.Runs Flow.yields;go_simp);go_simp;refine hK _ ?_;clear hK K)
     (refine Flow.tvK rfl (fun K hK=>⟨fun w hw hG => ?_,?_⟩);(have Aq:=(hw.cell (p:=⟨b',Aa + j,none⟩) Ay).trans Ba.out;clear hG hw;unfold Flow.Runs Flow.yields;go_simp);go_simp;refine hK _ ?_;clear hK K)
     (refine Flow.tvK rfl (fun K hK=>⟨fun w hw hG => ?_,?_⟩);(have Aq:=(hw.cell (p:=⟨w1.heap.size + 1,0,none⟩) Az).trans Ax.out;clear hG hw;unfold Flow.Runs Flow.yields;go_simp);go_simp;refine hK _ ?_;clear hK K)
     iterate 2 (refine Flow.tvK rfl (fun K hK=>⟨fun w hw hG => ?_,?_⟩);(clear hG hw;unfold Flow.Runs Flow.yields;go_simp);go_simp;refine hK _ ?_;clear hK K)
     (refine Flow.tvK rfl (fun K hK=>⟨fun w hw hG => ?_,?_⟩);(have Aq:=(hw.cell (p:=⟨b',Aa + (j + 1),none⟩) Ay).trans Bf.out;clear hG hw;unfold Flow.Runs Flow.yields;go_simp);go_simp;refine hK _ ?_;clear hK K)
     refine Flow.tn2 fun w2 hw2 hG => ?_
     clear hG
     have Al:=Hd (HS.out.later hw2)
     have Be:=Bh.out w2 hw2
     clear hw2 HS
     simp only [List.drop_succ_cons,List.drop_zero]
     gi_wp2
     refine Rf.rw2 (r:=Ad) ?_
     have Bc:=Ar.out
     subst Bc
     dsimp only
     gi_wp2_with (rw [Oper.semAt_eq _ _ _ (fun c h=>by cases h)];go_simp;try go_bits)
     refine ⟨Al.out.kL,fun W4 hs4 hl4 => ?_⟩
     have Ag:=Hd (Al.out.but hs4 hl4)
     clear hs4 hl4 Be hL
     cases hxy:Tess.bl x y
     ·have Bb:Op.bytesLess x.toList y.toList=false:=hxy
      rw [hxy] at Ab
      have HO:=Hd (Tess.cTn l (j + 1) hlt Ab)
      clear hxy Ab
      obtain ⟨c0,z0⟩:=dco Ag.out.k0
      gi_wp2_with (rw [Oper.semAt_eq _ _ _ (fun c h=>by cases h)];go_simp;try go_bits)
      refine ⟨(Ag.out.set0 false).kL,fun W5 hs5 hl5 => ?_⟩
      have Af:=Hd ((Ag.out.set0 false).but hs5 hl5)
      clear hs5 hl5 Ag Al c0 z0
      dsimp only
      gi_wp2
      refine bodyPost_ret (results_none (by rfl) _ _ _) rfl ?_
      refine ⟨⟨_,rfl⟩,_,Af.out.kL,by simp,?_⟩
      intro W6 Ao
      dsimp only
      obtain ⟨q0,y0⟩:=dco ((Ao.block w1.heap.size (by omega)).trans Af.out.k0)
      have A4:=(Ao.block (w1.heap.size + 2) (by omega)).trans Af.out.kD
      gi_wp2
      refine ⟨by simp,.inl ⟨_,_,rfl,run_takeDeferred A4,?_⟩⟩
      refine ⟨_,results_tmp rfl _ _ _,by rw [Aw.out,HO.out];rfl,?_⟩
      exact Bt HB.out ((Af.out.below.trans (Ao.below (by omega))).grown (dgB W6 (w1.heap.size + 2) (.deferred none)) (by have:=Af.out.below.size;rw [Ao.size];omega) (fun k e=>by cases e;omega))
     ·have Bb:Op.bytesLess x.toList y.toList=true:=hxy
      rw [hxy] at Ab
      have HO:=Hd (Tess.cTs l (j + 1) A1.out Ab)
      clear hxy Ab
      gi_wp2_with (rw [Oper.semAt_eq _ _ _ (fun c h=>by cases h)];go_simp;try go_bits)
      refine ⟨Ag.out.kL,fun W5 hs5 hl5 => ?_⟩
      have Af:=Hd (Ag.out.but hs5 hl5)
      clear hs5 hl5 Ag Al
      dsimp only
      gi_wp2
      go_roundw
      case rel=>exact ⟨j + 1 + 1,by omega,by omega,by go_num,HO.out,Af.out⟩
      case measure=>simp [intOf];omega
    ·have A6:¬ (k:Int) < (l.length:Int):=by omega
     have HN:=Hd (Tess.ce3 l k A1.out hk hlt)
     gi_wp2
     go_end0
     refine ⟨⟨_,rfl⟩,Ad,HS.out.kL,by rw [Ap];decide,?_⟩
     intro W4 An
     rw [A2]
     dsimp only
     obtain ⟨q0,y0⟩:=dco ((An.block w1.heap.size (by omega)).trans HS.out.k0)
     have A7:=(An.block (w1.heap.size + 2) (by omega)).trans HS.out.kD
     gi_wp2
     refine ⟨by simp,.inl ⟨_,_,rfl,run_takeDeferred A7,?_⟩⟩
     refine ⟨_,results_tmp rfl _ _ _,by rw [Aw.out,HN.out];rfl,?_⟩
     exact Bt HB.out ((HS.out.below.trans (An.below (by omega))).grown (dgB W4 (w1.heap.size + 2) (.deferred none)) (by have:=HS.out.below.size;rw [An.size];omega) (fun k e=>by cases e;omega))
  ·rw [hany] at A8 HP
   have Aw:RowKit.Hid (Tess.right l=false):=Hd (by rw [HP.out];rfl)
   clear HP
   gi_wp2_with (refine ⟨trivial,?_⟩;gi_at_call 156;refine (callsIn_wide.2 A8.out).mono ?_;rintro e w1 ⟨rfl,Aj⟩;have HB:=Hd Aj;clear Aj)
   refine wpIn_label ?_
   gi_wp2_with (refine ⟨trivial,?_⟩;gi_at_call 160;refine (callsIn_wide.2 (dpa2 _ _ _ _)).mono ?_;rintro e w' ⟨rfl,rfl⟩)
   obtain ⟨w0,Ak⟩:∃ w0,((w1.alloc (.cells #[.bool false] 4)).alloc (.cells #[.slice a l.length Ai] 22))=w0:=⟨_,rfl⟩
   have hA:w0.heap.size=w1.heap.size + 2:=by rw [← Ak];simp
   have Au:Below w1.heap.size w1 w0:=by rw [← Ak];exact ((Below.refl _ _).alloc (Nat.le_refl _) _).alloc (by simp) _
   have h0:w0.heap[w1.heap.size]? = some (.cells #[.bool false] 4 (0,0)):=by rw [← Ak];exact (Below.heap_alloc _ _ _ (by simp)).trans (World.alloc_heap_new w1 _)
   have h1:w0.heap[w1.heap.size + 1]? = some (.cells #[.slice a l.length Ai] 22 (0,0)):=by
    rw [← Ak];have:=World.alloc_heap_new (w1.alloc (.cells #[.bool false] 4)) (.cells #[.slice a l.length Ai] 22);rwa [World.size_alloc] at this
   rw [Ak]
   clear Ak
   refine Rf.rw3 (gf:=201) (lb:=#[.pointer (some ⟨w1.heap.size + 1,0,none⟩)]) rfl (enters_of Tryz.func201 (by kernel_rfl) rfl) ?_
   intro fn W2 hL hD Aj Bd
   rw [hA] at hL hD Bd ⊢
   obtain ⟨Ad,Ah,hL⟩:∃ Ad:Loop,Ad=_∧W2.heap[w1.heap.size + 2 + 1]? = some (.loop Ad):=⟨_,rfl,hL⟩
   have Ar:=Hd Ah
   have Ap:Ad.state = .ready∧Ad.params.size=2∧Ad.pending=none:=by rw [Ah];exact ⟨rfl,rfl,rfl⟩
   clear Ah
   obtain ⟨Ap,Bg,A2⟩:=Ap
   have hI:Rp w1 Ad (.slice a l.length Ai) false W2:=⟨(Aj.block _ (by omega)).trans h0,(Aj.block _ (by omega)).trans h1,hD,hL,Bt Au Aj⟩
   clear Au Aj h0 h1 hD hL
   refine callsIn_of_wp Tryz.func201 rfl trivial ?_ rfl
   simp only [Tryz.ntmps201,List.size_toArray,List.length_cons,List.length_nil,Nat.reduceAdd,Nat.reduceSub,Array.replicate_succ,Array.replicate_zero,List.push_toArray,List.append_toArray,List.nil_append,List.cons_append]
   gi_wp2
   gi_loopw [3] (fun i wr => ∃ k:Nat,1≤k∧k≤max 1 l.length∧i = .int .i64 k∧Tess.chainTo l k=true∧Rp w1 Ad (.slice a l.length Ai) false wr) (fun i _=>l.length - (intOf i).toNat)
   case atStart=>exact ⟨1,Nat.le_refl _,by omega,rfl,rfl,hI⟩
   case round=>
    obtain ⟨k,Bm,hk,rfl,A0,hS⟩:=hrel
    have A1:=Hd A0
    have HS:=Hd hS
    clear A0 hS
    obtain ⟨c1,z1⟩:=dco HS.out.k1
    by_cases hlt:k < l.length
    ·obtain ⟨j,rfl⟩:∃ j,k=j + 1:=⟨k - 1,by omega⟩
     have hj:j < l.length:=by omega
     obtain ⟨b,Bi,rfl,hb,Ae⟩:=HC.out (j + 1) hlt
     obtain ⟨b',Aa,Av,A5,Ac⟩:=HC.out j hj
     obtain ⟨rfl,rfl⟩:b'=b∧Aa=Bi:=by cases Av;exact ⟨rfl,rfl⟩
     have Am:=Bt HB.out HS.out.below
     have As:wr.cell? ⟨b',Aa + (j + 1),none⟩=some (.string l[j + 1]):=(Am.cell (p:=⟨b',Aa + (j + 1),none⟩) hb).trans Ae
     have At:wr.cell? ⟨b',Aa + j,none⟩=some (.string l[j]):=(Am.cell (p:=⟨b',Aa + j,none⟩) A5).trans Ac
     have Ay:b' < wr.heap.size:=Nat.lt_of_lt_of_le hb Am.size
     have Az:w1.heap.size + 1 < wr.heap.size:=(Array.getElem?_eq_some_iff.1 HS.out.k1).1
     have Ab:Tess.ord l (j + 1)=Tess.bl l[j] l[j + 1]:=by unfold Tess.ord;rw [Nat.add_sub_cancel,Tess.getD_lt l j hj,Tess.getD_lt l (j + 1) hlt];rfl
     obtain ⟨x,hx⟩:∃ x,x=l[j]:=⟨_,rfl⟩
     obtain ⟨y,hy⟩:∃ y,y=l[j + 1]:=⟨_,rfl⟩
     rw [← hx,← hy] at Ab
     rw [← hx] at At
     rw [← hy] at As
     have A6:(j:Int) + 1 < (l.length:Int):=by omega
     have Bl:(0:Int)≤(j:Int) + 1:=by omega
     have A9:(j:Int) + 1 - 1=(j:Int):=by omega
     have Bo:(j:Int) < (l.length:Int):=by omega
     have Bn:IntKind.i64.wrap (j:Int)=(j:Int):=by go_bits;trivial
     have A3:IntKind.i64.wrap ((j:Int) + 1)=(j:Int) + 1:=by go_bits;trivial
     have Bh:=Hd (fun w2 (hw2:Below wr.heap.size wr w2)=>run_yield (P:=Tryz.prog) (w:=w2) (l:=w1.heap.size + 2 + 1) (r:=Ad) (args:=#[.string x,.string y]) (HS.out.later hw2).kL (by rw [Bg];rfl))
     have Bf:=Hd As
     have Ba:=Hd At
     clear hx hy Ae Ac Av Am As At
     gi_wp2
     have Ax:=Hd c1
     clear c1 z1
     refine Flow.wIr 10 (Flow.sp3 [.inl (.func (.yield (w1.heap.size + 2 + 1)) #[] #[]),.inl (.slice (some ⟨b',Aa,none⟩) l.length Ai),.inl (.int .i64 ((j:Int) + 1)),.inl (.int .i64 j),.inl (.pointer (some ⟨b',Aa + j,none⟩)),.inl (.string x),.inl (.slice (some ⟨b',Aa,none⟩) l.length Ai),.inl (.int .i64 ((j:Int) + 1)),.inl (.pointer (some ⟨b',Aa + (j + 1),none⟩)),.inl (.string y)]) (by kernel_rfl) (by kernel_rfl) ?_ ?_
     ·apply Flow.sm2;intro s hs;simp only [List.mem_cons,List.not_mem_nil,or_false] at hs
      rcases hs with rfl | rfl | rfl | rfl | rfl | rfl | rfl | rfl | rfl | rfl
      all_goals exact Flow.mi _
     iterate 1 (refine Flow.tvK rfl (fun K hK=>⟨fun w hw hG => ?_,?_⟩);(clear hG hw;unfold Flow.Runs Flow.yields;go_simp);go_simp;refine hK _ ?_;clear hK K)
     (refine Flow.tvK rfl (fun K hK=>⟨fun w hw hG => ?_,?_⟩);(have Aq:=(hw.cell (p:=⟨w1.heap.size + 1,0,none⟩) Az).trans Ax.out;clear hG hw;unfold Flow.Runs Flow.yields;go_simp);go_simp;refine hK _ ?_;clear hK K)
     iterate 3 (refine Flow.tvK rfl (fun K hK=>⟨fun w hw hG => ?_,?_⟩);(clear hG hw;unfold Flow.Runs Flow.yields;go_simp);go_simp;refine hK _ ?_;clear hK K)
     (refine Flow.tvK rfl (fun K hK=>⟨fun w hw hG => ?_,?_⟩);(have Aq:=(hw.cell (p:=⟨b',Aa + j,none⟩) Ay).trans Ba.out;clear hG hw;unfold Flow.Runs Flow.yields;go_simp);go_simp;refine hK _ ?_;clear hK K)
     (refine Flow.tvK rfl (fun K hK=>⟨fun w hw hG => ?_,?_⟩);(have Aq:=(hw.cell (p:=⟨w1.heap.size + 1,0,none⟩) Az).trans Ax.out;clear hG hw;unfold Flow.Runs Flow.yields;go_simp);go_simp;refine hK _ ?_;clear hK K)
     iterate 2 (refine Flow.tvK rfl (fun K hK=>⟨fun w hw hG => ?_,?_⟩);(clear hG hw;unfold Flow.Runs Flow.yields;go_simp);go_simp;refine hK _ ?_;clear hK K)
     (refine Flow.tvK rfl (fun K hK=>⟨fun w hw hG => ?_,?_⟩);(have Aq:=(hw.cell (p:=⟨b',Aa + (j + 1),none⟩) Ay).trans Bf.out;clear hG hw;unfold Flow.Runs Flow.yields;go_simp);go_simp;refine hK _ ?_;clear hK K)
     refine Flow.tn2 fun w2 hw2 hG => ?_
     clear hG
     have Al:=Hd (HS.out.later hw2)
     have Be:=Bh.out w2 hw2
     clear hw2 HS
     simp only [List.drop_succ_cons,List.drop_zero]
     gi_wp2
     refine Rf.rw2 (r:=Ad) ?_
     have Bc:=Ar.out
     subst Bc
     dsimp only
     gi_wp2_with (rw [Oper.semAt_eq _ _ _ (fun c h=>by cases h)];go_simp;try go_bits)
     refine ⟨Al.out.kL,fun W4 hs4 hl4 => ?_⟩
     have Ag:=Hd (Al.out.but hs4 hl4)
     clear hs4 hl4 Be hL
     cases hxy:Tess.bl x y
     ·have Bb:Op.bytesLess x.toList y.toList=false:=hxy
      rw [hxy] at Ab
      have HO:=Hd (Tess.cTn l (j + 1) hlt Ab)
      clear hxy Ab
      obtain ⟨c0,z0⟩:=dco Ag.out.k0
      gi_wp2_with (rw [Oper.semAt_eq _ _ _ (fun c h=>by cases h)];go_simp;try go_bits)
      refine ⟨(Ag.out.set0 false).kL,fun W5 hs5 hl5 => ?_⟩
      have Af:=Hd ((Ag.out.set0 false).but hs5 hl5)
      clear hs5 hl5 Ag Al c0 z0
      dsimp only
      gi_wp2
      refine bodyPost_ret (results_none (by rfl) _ _ _) rfl ?_
      refine ⟨⟨_,rfl⟩,_,Af.out.kL,by simp,?_⟩
      intro W6 Ao
      dsimp only
      obtain ⟨q0,y0⟩:=dco ((Ao.block w1.heap.size (by omega)).trans Af.out.k0)
      have A4:=(Ao.block (w1.heap.size + 2) (by omega)).trans Af.out.kD
      gi_wp2
      refine ⟨by simp,.inl ⟨_,_,rfl,run_takeDeferred A4,?_⟩⟩
      refine ⟨_,results_tmp rfl _ _ _,by rw [Aw.out];rfl,?_⟩
      exact Bt HB.out ((Af.out.below.trans (Ao.below (by omega))).grown (dgB W6 (w1.heap.size + 2) (.deferred none)) (by have:=Af.out.below.size;rw [Ao.size];omega) (fun k e=>by cases e;omega))
     ·have Bb:Op.bytesLess x.toList y.toList=true:=hxy
      rw [hxy] at Ab
      have HO:=Hd (Tess.cTs l (j + 1) A1.out Ab)
      clear hxy Ab
      gi_wp2_with (rw [Oper.semAt_eq _ _ _ (fun c h=>by cases h)];go_simp;try go_bits)
      refine ⟨Ag.out.kL,fun W5 hs5 hl5 => ?_⟩
      have Af:=Hd (Ag.out.but hs5 hl5)
      clear hs5 hl5 Ag Al
      dsimp only
      gi_wp2
      go_roundw
      case rel=>exact ⟨j + 1 + 1,by omega,by omega,by go_num,HO.out,Af.out⟩
      case measure=>simp [intOf];omega
    ·have A6:¬ (k:Int) < (l.length:Int):=by omega
     have HN:=Hd (Tess.ce3 l k A1.out hk hlt)
     gi_wp2
     go_end0
     refine ⟨⟨_,rfl⟩,Ad,HS.out.kL,by rw [Ap];decide,?_⟩
     intro W4 An
     rw [A2]
     dsimp only
     obtain ⟨q0,y0⟩:=dco ((An.block w1.heap.size (by omega)).trans HS.out.k0)
     have A7:=(An.block (w1.heap.size + 2) (by omega)).trans HS.out.kD
     gi_wp2
     refine ⟨by simp,.inl ⟨_,_,rfl,run_takeDeferred A7,?_⟩⟩
     refine ⟨_,results_tmp rfl _ _ _,by rw [Aw.out];rfl,?_⟩
     exact Bt HB.out ((HS.out.below.trans (An.below (by omega))).grown (dgB W4 (w1.heap.size + 2) (.deferred none)) (by have:=HS.out.below.size;rw [An.size];omega) (fun k e=>by cases e;omega))
 ·have Bj:¬ (l.length:Int)≤1000:=by omega
  have Bp:decide ((l.length:Int)≤1000)=false:=decide_eq_false Bj
  have Aw:RowKit.Hid (Tess.right l=false):=Hd (by rw [HP.out,decide_eq_false h1000];rfl)
  clear HP A8
  obtain ⟨w1,Bk⟩:∃ w1,w1=w:=⟨_,rfl⟩
  have HB:=Hd (show Below w.heap.size w w1 by rw [Bk];exact Below.refl _ _)
  have Bq:=Hd Bk
  clear Bk
  gi_wp2
  refine ⟨trivial,?_⟩
  gi_wp2
  rw [← Bq.out]
  refine wpIn_label ?_
  gi_wp2_with (refine ⟨trivial,?_⟩;gi_at_call 160;refine (callsIn_wide.2 (dpa2 _ _ _ _)).mono ?_;rintro e w' ⟨rfl,rfl⟩)
  obtain ⟨w0,Ak⟩:∃ w0,((w1.alloc (.cells #[.bool false] 4)).alloc (.cells #[.slice a l.length Ai] 22))=w0:=⟨_,rfl⟩
  have hA:w0.heap.size=w1.heap.size + 2:=by rw [← Ak];simp
  have Au:Below w1.heap.size w1 w0:=by rw [← Ak];exact ((Below.refl _ _).alloc (Nat.le_refl _) _).alloc (by simp) _
  have h0:w0.heap[w1.heap.size]? = some (.cells #[.bool false] 4 (0,0)):=by rw [← Ak];exact (Below.heap_alloc _ _ _ (by simp)).trans (World.alloc_heap_new w1 _)
  have h1:w0.heap[w1.heap.size + 1]? = some (.cells #[.slice a l.length Ai] 22 (0,0)):=by
   rw [← Ak];have:=World.alloc_heap_new (w1.alloc (.cells #[.bool false] 4)) (.cells #[.slice a l.length Ai] 22);rwa [World.size_alloc] at this
  rw [Ak]
  clear Ak
  refine Rf.rw3 (gf:=201) (lb:=#[.pointer (some ⟨w1.heap.size + 1,0,none⟩)]) rfl (enters_of Tryz.func201 (by kernel_rfl) rfl) ?_
  intro fn W2 hL hD Aj Bd
  rw [hA] at hL hD Bd ⊢
  obtain ⟨Ad,Ah,hL⟩:∃ Ad:Loop,Ad=_∧W2.heap[w1.heap.size + 2 + 1]? = some (.loop Ad):=⟨_,rfl,hL⟩
  have Ar:=Hd Ah
  have Ap:Ad.state = .ready∧Ad.params.size=2∧Ad.pending=none:=by rw [Ah];exact ⟨rfl,rfl,rfl⟩
  clear Ah
  obtain ⟨Ap,Bg,A2⟩:=Ap
  have hI:Rp w1 Ad (.slice a l.length Ai) false W2:=⟨(Aj.block _ (by omega)).trans h0,(Aj.block _ (by omega)).trans h1,hD,hL,Bt Au Aj⟩
  clear Au Aj h0 h1 hD hL
  refine callsIn_of_wp Tryz.func201 rfl trivial ?_ rfl
  simp only [Tryz.ntmps201,List.size_toArray,List.length_cons,List.length_nil,Nat.reduceAdd,Nat.reduceSub,Array.replicate_succ,Array.replicate_zero,List.push_toArray,List.append_toArray,List.nil_append,List.cons_append]
  gi_wp2
  gi_loopw [3] (fun i wr => ∃ k:Nat,1≤k∧k≤max 1 l.length∧i = .int .i64 k∧Tess.chainTo l k=true∧Rp w1 Ad (.slice a l.length Ai) false wr) (fun i _=>l.length - (intOf i).toNat)
  case atStart=>exact ⟨1,Nat.le_refl _,by omega,rfl,rfl,hI⟩
  case round=>
   obtain ⟨k,Bm,hk,rfl,A0,hS⟩:=hrel
   have A1:=Hd A0
   have HS:=Hd hS
   clear A0 hS
   obtain ⟨c1,z1⟩:=dco HS.out.k1
   by_cases hlt:k < l.length
   ·obtain ⟨j,rfl⟩:∃ j,k=j + 1:=⟨k - 1,by omega⟩
    have hj:j < l.length:=by omega
    obtain ⟨b,Bi,rfl,hb,Ae⟩:=HC.out (j + 1) hlt
    obtain ⟨b',Aa,Av,A5,Ac⟩:=HC.out j hj
    obtain ⟨rfl,rfl⟩:b'=b∧Aa=Bi:=by cases Av;exact ⟨rfl,rfl⟩
    have Am:=Bt HB.out HS.out.below
    have As:wr.cell? ⟨b',Aa + (j + 1),none⟩=some (.string l[j + 1]):=(Am.cell (p:=⟨b',Aa + (j + 1),none⟩) hb).trans Ae
    have At:wr.cell? ⟨b',Aa + j,none⟩=some (.string l[j]):=(Am.cell (p:=⟨b',Aa + j,none⟩) A5).trans Ac
    have Ay:b' < wr.heap.size:=Nat.lt_of_lt_of_le hb Am.size
    have Az:w1.heap.size + 1 < wr.heap.size:=(Array.getElem?_eq_some_iff.1 HS.out.k1).1
    have Ab:Tess.ord l (j + 1)=Tess.bl l[j] l[j + 1]:=by unfold Tess.ord;rw [Nat.add_sub_cancel,Tess.getD_lt l j hj,Tess.getD_lt l (j + 1) hlt];rfl
    obtain ⟨x,hx⟩:∃ x,x=l[j]:=⟨_,rfl⟩
    obtain ⟨y,hy⟩:∃ y,y=l[j + 1]:=⟨_,rfl⟩
    rw [← hx,← hy] at Ab
    rw [← hx] at At
    rw [← hy] at As
    have A6:(j:Int) + 1 < (l.length:Int):=by omega
    have Bl:(0:Int)≤(j:Int) + 1:=by omega
    have A9:(j:Int) + 1 - 1=(j:Int):=by omega
    have Bo:(j:Int) < (l.length:Int):=by omega
    have Bn:IntKind.i64.wrap (j:Int)=(j:Int):=by go_bits;trivial
    have A3:IntKind.i64.wrap ((j:Int) + 1)=(j:Int) + 1:=by go_bits;trivial
    have Bh:=Hd (fun w2 (hw2:Below wr.heap.size wr w2)=>run_yield (P:=Tryz.prog) (w:=w2) (l:=w1.heap.size + 2 + 1) (r:=Ad) (args:=#[.string x,.string y]) (HS.out.later hw2).kL (by rw [Bg];rfl))
    have Bf:=Hd As
    have Ba:=Hd At
    clear hx hy Ae Ac Av Am As At
    gi_wp2
    have Ax:=Hd c1
    clear c1 z1
    refine Flow.wIr 10 (Flow.sp3 [.inl (.func (.yield (w1.heap.size + 2 + 1)) #[] #[]),.inl (.slice (some ⟨b',Aa,none⟩) l.length Ai),.inl (.int .i64 ((j:Int) + 1)),.inl (.int .i64 j),.inl (.pointer (some ⟨b',Aa + j,none⟩)),.inl (.string x),.inl (.slice (some ⟨b',Aa,none⟩) l.length Ai),.inl (.int .i64 ((j:Int) + 1)),.inl (.pointer (some ⟨b',Aa + (j + 1),none⟩)),.inl (.string y)]) (by kernel_rfl) (by kernel_rfl) ?_ ?_
    ·apply Flow.sm2;intro s hs;simp only [List.mem_cons,List.not_mem_nil,or_false] at hs
     rcases hs with rfl | rfl | rfl | rfl | rfl | rfl | rfl | rfl | rfl | rfl
     all_goals exact Flow.mi _
    iterate 1 (refine Flow.tvK rfl (fun K hK=>⟨fun w hw hG => ?_,?_⟩);(clear hG hw;unfold Flow.Runs Flow.yields;go_simp);go_simp;refine hK _ ?_;clear hK K)
    (refine Flow.tvK rfl (fun K hK=>⟨fun w hw hG => ?_,?_⟩);(have Aq:=(hw.cell (p:=⟨w1.heap.size + 1,0,none⟩) Az).trans Ax.out;clear hG hw;unfold Flow.Runs Flow.yields;go_simp);go_simp;refine hK _ ?_;clear hK K)
    iterate 3 (refine Flow.tvK rfl (fun K hK=>⟨fun w hw hG => ?_,?_⟩);(clear hG hw;unfold Flow.Runs Flow.yields;go_simp);go_simp;refine hK _ ?_;clear hK K)
    (refine Flow.tvK rfl (fun K hK=>⟨fun w hw hG => ?_,?_⟩);(have Aq:=(hw.cell (p:=⟨b',Aa + j,none⟩) Ay).trans Ba.out;clear hG hw;unfold Flow.Runs Flow.yields;go_simp);go_simp;refine hK _ ?_;clear hK K)
    (refine Flow.tvK rfl (fun K hK=>⟨fun w hw hG => ?_,?_⟩);(have Aq:=(hw.cell (p:=⟨w1.heap.size + 1,0,none⟩) Az).trans Ax.out;clear hG hw;unfold Flow.Runs Flow.yields;go_simp);go_simp;refine hK _ ?_;clear hK K)
    iterate 2 (refine Flow.tvK rfl (fun K hK=>⟨fun w hw hG => ?_,?_⟩);(clear hG hw;unfold Flow.Runs Flow.yields;go_simp);go_simp;refine hK _ ?_;clear hK K)
    (refine Flow.tvK rfl (fun K hK=>⟨fun w hw hG => ?_,?_⟩);(have Aq:=(hw.cell (p:=⟨b',Aa + (j + 1),none⟩) Ay).trans Bf.out;clear hG hw;unfold Flow.Runs Flow.yields;go_simp);go_simp;refine hK _ ?_;clear hK K)
    refine Flow.tn2 fun w2 hw2 hG => ?_
    clear hG
    have Al:=Hd (HS.out.later hw2)
    have Be:=Bh.out w2 hw2
    clear hw2 HS
    simp only [List.drop_succ_cons,List.drop_zero]
    gi_wp2
    refine Rf.rw2 (r:=Ad) ?_
    have Bc:=Ar.out
    subst Bc
    dsimp only
    gi_wp2_with (rw [Oper.semAt_eq _ _ _ (fun c h=>by cases h)];go_simp;try go_bits)
    refine ⟨Al.out.kL,fun W4 hs4 hl4 => ?_⟩
    have Ag:=Hd (Al.out.but hs4 hl4)
    clear hs4 hl4 Be hL
    cases hxy:Tess.bl x y
    ·have Bb:Op.bytesLess x.toList y.toList=false:=hxy
     rw [hxy] at Ab
     have HO:=Hd (Tess.cTn l (j + 1) hlt Ab)
     clear hxy Ab
     obtain ⟨c0,z0⟩:=dco Ag.out.k0
     gi_wp2_with (rw [Oper.semAt_eq _ _ _ (fun c h=>by cases h)];go_simp;try go_bits)
     refine ⟨(Ag.out.set0 false).kL,fun W5 hs5 hl5 => ?_⟩
     have Af:=Hd ((Ag.out.set0 false).but hs5 hl5)
     clear hs5 hl5 Ag Al c0 z0
     dsimp only
     gi_wp2
     refine bodyPost_ret (results_none (by rfl) _ _ _) rfl ?_
     refine ⟨⟨_,rfl⟩,_,Af.out.kL,by simp,?_⟩
     intro W6 Ao
     dsimp only
     obtain ⟨q0,y0⟩:=dco ((Ao.block w1.heap.size (by omega)).trans Af.out.k0)
     have A4:=(Ao.block (w1.heap.size + 2) (by omega)).trans Af.out.kD
     gi_wp2
     refine ⟨by simp,.inl ⟨_,_,rfl,run_takeDeferred A4,?_⟩⟩
     refine ⟨_,results_tmp rfl _ _ _,by rw [Aw.out];rfl,?_⟩
     exact Bt HB.out ((Af.out.below.trans (Ao.below (by omega))).grown (dgB W6 (w1.heap.size + 2) (.deferred none)) (by have:=Af.out.below.size;rw [Ao.size];omega) (fun k e=>by cases e;omega))
    ·have Bb:Op.bytesLess x.toList y.toList=true:=hxy
     rw [hxy] at Ab
     have HO:=Hd (Tess.cTs l (j + 1) A1.out Ab)
     clear hxy Ab
     gi_wp2_with (rw [Oper.semAt_eq _ _ _ (fun c h=>by cases h)];go_simp;try go_bits)
     refine ⟨Ag.out.kL,fun W5 hs5 hl5 => ?_⟩
     have Af:=Hd (Ag.out.but hs5 hl5)
     clear hs5 hl5 Ag Al
     dsimp only
     gi_wp2
     go_roundw
     case rel=>exact ⟨j + 1 + 1,by omega,by omega,by go_num,HO.out,Af.out⟩
     case measure=>simp [intOf];omega
   ·have A6:¬ (k:Int) < (l.length:Int):=by omega
    have HN:=Hd (Tess.ce3 l k A1.out hk hlt)
    gi_wp2
    go_end0
    refine ⟨⟨_,rfl⟩,Ad,HS.out.kL,by rw [Ap];decide,?_⟩
    intro W4 An
    rw [A2]
    dsimp only
    obtain ⟨q0,y0⟩:=dco ((An.block w1.heap.size (by omega)).trans HS.out.k0)
    have A7:=(An.block (w1.heap.size + 2) (by omega)).trans HS.out.kD
    gi_wp2
    refine ⟨by simp,.inl ⟨_,_,rfl,run_takeDeferred A7,?_⟩⟩
    refine ⟨_,results_tmp rfl _ _ _,by rw [Aw.out];rfl,?_⟩
    exact Bt HB.out ((HS.out.below.trans (An.below (by omega))).grown (dgB W4 (w1.heap.size + 2) (.deferred none)) (by have:=HS.out.below.size;rw [An.size];omega) (fun k e=>by cases e;omega))
end Go.Proofs.YtjdccifdkjnknaaGreatDoor
namespace Tess
namespace Fil
def run (s:Sch):List (Nat×Fil)→Nat→Bool→Option (Nat×Bool)
 | [],k,g=>some (k,g)
 | (d,x) :: r,k,g=>if k + 1 > 40 || d > 6 || !own s x then none else run s r (k + 1) (g || badGrain s x)
end Fil
end Tess
namespace Go.Proofs.YtjdccifdkjnknaaGreatDoor
open Go.RowKit Go.Sort Go.Shelf
open Tess (Fil)
attribute [local go_sem] Oper.semAt_some
theorem rIa {n m:Nat} {P:Program} {l:Nat} {f:FuncId} {tmps:Array Value} {assign body:Code} {w:World} {R:Ending→World→Prop} (h:RoundIn Fence.wide n P l f tmps assign body w R):RoundIn Fence.wide m P l f tmps assign body w R:=
 ⟨h.1,fun c cs _=>h.2 c cs (room_wide _)⟩
end Go.Proofs.YtjdccifdkjnknaaGreatDoor
namespace Go.Proofs.YtjdccifdkjnknaaGreatDoor
open Go.RowKit Go.Sort Go.Shelf
open Tess (Fil)
attribute [local go_sem] Oper.semAt_some
theorem cob {W:World} {B:Nat} {v:Value} {t:TypeId} (h:W.heap[B]? = some (.cells #[v] t (0,0))):W.cell? ⟨B,0,none⟩=some v∧W.frozen? ⟨B,0,none⟩=false:=by
 constructor <;> simp [World.cell?,World.frozen?,h]
structure Ck (w:World) (sbx:Array Value) (rec:Loop) (ev:Value) (k:Nat) (W:World):Prop where
 k0:W.heap[w.heap.size]? = some (.cells sbx 24 (0,0))
 k2:W.heap[w.heap.size + 2]? = some (.cells #[ev] 75 (0,0))
 k3:W.heap[w.heap.size + 3]? = some (.cells #[.int .i64 (k:Nat)] 3 (0,0))
 kD:W.heap[w.heap.size + 6]? = some (.deferred (some []))
 kL:W.heap[w.heap.size + 7]? = some (.loop rec)
 below:Below w.heap.size w W
section
variable {w W W':World} {sbx:Array Value} {rec rec':Loop} {ev ev':Value} {k k':Nat}
theorem Ck.lt (h:Ck w sbx rec ev k W):w.heap.size + 7 < W.heap.size:=(Array.getElem?_eq_some_iff.1 h.kL).1
theorem Ck.later (h:Ck w sbx rec ev k W) (hb:Below W.heap.size W W'):Ck w sbx rec ev k W':=
 have:=h.lt
 ⟨(hb.block _ (by omega)).trans h.k0,(hb.block _ (by omega)).trans h.k2,(hb.block _ (by omega)).trans h.k3,(hb.block _ (by omega)).trans h.kD,(hb.block _ (by omega)).trans h.kL,Bt h.below hb⟩
theorem Ck.set2 (h:Ck w sbx rec ev k W) (ev':Value):Ck w sbx rec ev' k (W.setCell ⟨w.heap.size + 2,0,none⟩ ev'):=
 ⟨(heap_setCell_other _ _ _ _ (by show _≠w.heap.size + 2;omega)).trans h.k0,heap_setCell_same _ _ _ _ _ _ h.k2,(heap_setCell_other _ _ _ _ (by show _≠w.heap.size + 2;omega)).trans h.k3,(heap_setCell_other _ _ _ _ (by show _≠w.heap.size + 2;omega)).trans h.kD,(heap_setCell_other _ _ _ _ (by show _≠w.heap.size + 2;omega)).trans h.kL,h.below.setCell (by show _≤w.heap.size + 2;omega) _⟩
theorem Ck.but (h:Ck w sbx rec ev k W) (hs:Rf.SB (w.heap.size + 7) W W') (hl:W'.heap[w.heap.size + 7]? = some (.loop rec')):Ck w sbx rec' ev k W':=
 ⟨(hs.block _ (by omega)).trans h.k0,(hs.block _ (by omega)).trans h.k2,(hs.block _ (by omega)).trans h.k3,(hs.block _ (by omega)).trans h.kD,hl,h.below.trans (hs.below (by omega))⟩
end
end Go.Proofs.YtjdccifdkjnknaaGreatDoor
