/- Joined by mergeK.py: Fr2, Fr3, Fr4, Fr5, Fr6, Fr7, Fr8, Fr9, Fr10, Fr11, Fr12, T6, K28p, FlJ, FlRU, FlE -/
import Derived.Test.YtjdccifdkjnknaaGreatDoorRows
import Derived.Test.YtjdccifdkjnknaaGreatDoorAC00
import Derived.Test.YtjdccifdkjnknaaGreatDoorAC01
import Derived.Test.YtjdccifdkjnknaaGreatDoorAC05
import Derived.WalkSmall
import Derived.Maps.AppendAt
import Derived.Test.YtjdccifdkjnknaaGreatDoorAC03
import Derived.Test.YtjdccifdkjnknaaGreatDoorAC02
import Derived.RangeFuncCalls
import Derived.Test.YtjdccifdkjnknaaGreatDoorAC04
namespace Go.Proofs.YtjdccifdkjnknaaGreatDoor
open Go.RowKit
def cT2:Array Value:=Array.ofFn (n:=256) fun j => .int .u32 (Tess.cN2 8 j:Nat)
def ze:Array Value:=Array.replicate 256 (.int .u32 0)
theorem zero48 (w:World):(zeroValue 219).run Tryz.prog w = .ok (.agg ze) w:=by kernel_rfl
theorem size48:(Tryz.prog.info? 219).map (·.size)=some 256:=by kernel_rfl
theorem cTo:cT2.all (·.oneCell')=true:=by
 rw [Array.all_eq_true_iff_forall_mem];intro v hv;simp only [cT2,Array.mem_ofFn] at hv;obtain ⟨i,rfl⟩:=hv;rfl
theorem zs2:ze.size=256:=by simp [ze]
set_option maxHeartbeats 400000 in
set_option maxRecDepth 100000 in
theorem steps_any (w:World) :
  Calls Tryz.prog 168 #[] w fun e w'=>e = .returned (.agg cT2)∧Below w.heap.size w w':=by
 go_enter Tryz.func168,Tryz.ntmps168
 go_wp2_with (refine wLa 219 rfl (.agg ze) zero48 ze rfl ?_)
 have Af:Below w.heap.size w ((w.alloc (.cells ze 219)).alloc (.cells ze 219)):=((Below.refl _ _).alloc (Nat.le_refl _) _).alloc (by simp) _
 have h1:=heap_alloc2_new w (.cells ze 219) (.cells ze 219)
 have h2:=heap_alloc2_old w (.cells ze 219) (.cells ze 219)
 generalize (w.alloc (.cells ze 219)).alloc (.cells ze 219)=w0 at *
 go_loopw [4] (fun i wr => ∃ (k:Nat) (cs:Array Value),k≤256∧i = .int .i64 k∧cs.size=256∧(∀ j:Nat,j < k→cs[j]? = some (.int .u32 (Tess.cN2 8 j:Nat))) ∧
  wr.heap[w.heap.size + 1]? = some (.cells cs 219 (0,0))∧wr.heap[w.heap.size]? = some (.cells ze 219 (0,0))∧Below w.heap.size w wr) (fun i _=>256 - (intOf i).toNat)
 case atStart=>exact ⟨0,ze,by omega,rfl,by simp [ze],fun j hj=>by omega,h1,h2,Af⟩
 case round=>
  obtain ⟨k,cs,hk,rfl,Aa,Ag,Ae,Ah,hB⟩:=hrel
  clear h1 h2 Af
  have HC:=Hd Ag
  have HB:=Hd hB
  have H1:=Hd Ae
  have H0:=Hd Ah
  have HZ:=Hd Aa
  clear Ag hB Ae Ah
  by_cases hlt:k < 256
  ·obtain ⟨c0,Ad⟩:∃ c0,wr.cell? ⟨w.heap.size + 1,k,none⟩=some c0:=⟨cs[k]'(by omega),by rw [cell_of_row _ _ _ _ _ _ H1.out];simp⟩
   have Aj:wr.frozen? ⟨w.heap.size + 1,k,none⟩=false:=frozen_of_row _ _ _ _ _ H1.out
   clear Aa
   go_wp2
   have Ac:k < 4294967296:=by omega
   go_loop [3,9] (fun n i => ∃ j:Nat,j≤8∧i = .int .i64 j∧n = .int .u32 (Tess.cN2 j k:Nat)) (fun _ i=>8 - (intOf i).toNat)
   case atStart=>exact ⟨0,by omega,rfl,rfl⟩
   case round=>
    obtain ⟨j,hj,rfl,rfl⟩:=hrel
    have Ai:=Tess.cNl j k Ac
    by_cases hj8:j < 8
    ·have HJ:=Hd (Tess.cNs2 j k)
     go_wp2
     go_round
     case rel=>exact ⟨j + 1,by omega,by go_num,by rw [step32 _ Ai,HJ.out,Tess.cs4];split <;> rfl⟩
     case measure=>simp [intOf];omega
    ·obtain rfl:j=8:=by omega
     go_wp2
     go_roundw
     case rel=>
      exact ⟨k + 1,cs.setIfInBounds k (.int .u32 (Tess.cN2 8 k:Nat)),by omega,by go_num,by simp [HZ.out],fun i hi=>by
        by_cases e:i=k
        ·subst e;simp [HZ.out,hlt]
        ·rw [Array.getElem?_setIfInBounds_ne (by omega)];exact HC.out i (by omega),heap_setCell_same _ _ _ _ _ _ H1.out,(heap_setCell_other _ _ _ _ (by simp)).trans H0.out,HB.out.setCell (by simp) _⟩
     case measure=>simp [intOf];omega
  ·obtain rfl:k=256:=by omega
   have Ab:cs=cT2:=by
    apply Array.ext
    ·simp [Aa,cT2]
    ·intro i h1 h2
     have:=HC.out i (by omega)
     rw [Array.getElem?_eq_getElem h1] at this
     simp [cT2];simpa using this
   subst Ab
   go_wp2_with (first | (refine wpList_load_row rfl 219 _ rfl (w.heap.size + 1) rfl _ _ _ _ H1.out Tryz.underlying219 rfl (by rw [size48,HZ.out]) ?_) | (refine wpList_store_row rfl 219 _ _ rfl w.heap.size _ rfl rfl _ _ H0.out (by rw [size48,HZ.out]) (by rw [zs2,HZ.out]) cTo ?_))
   refine bodyPost_ret (results_cell_row (by rfl) _ _ w.heap.size _ cT2 _ _ rfl (setRow_heap _ _ _ _ _ _ H0.out) Tryz.underlying219 rfl (by rw [size48,HZ.out])) rfl ⟨rfl,?_⟩
   exact BsR HB.out (Nat.le_refl _) _
end Go.Proofs.YtjdccifdkjnknaaGreatDoor
namespace Go.Proofs.YtjdccifdkjnknaaGreatDoor
open Go.RowKit
theorem crcTab_get (j:Nat) (h:j < 256):cT2[j]? = some (.int .u32 (Tess.cN2 8 j:Nat)):=by
 simp [cT2,h]
theorem cTs2:cT2.size=256:=by simp [cT2]
set_option maxRecDepth 100000 in
theorem sum_any (s:ByteArray) (w:World) (hs:s.size≤maxLen) :
  Calls Tryz.prog 126 #[.string s] w fun e w'=>e = .returned (.int .u32 (Tess.csum s.data.toList:Nat))∧Below w.heap.size w w':=by
 unfold maxLen at hs
 go_enter Tryz.func126,Tryz.ntmps126
 go_wp2_with (first
  | (go_at_call 168;refine (steps_any _).mono ?_;rintro e w1 ⟨rfl,Ab⟩)
  | (refine wLa 219 rfl (.agg ze) zero48 ze rfl ?_)
  | (refine wpList_store_row rfl 219 _ _ rfl _ _ rfl rfl _ _ (heap_alloc_new _ _) (by rw [size48,cTs2]) (by rw [zs2,cTs2]) cTo ?_))
 have hB:Below w.heap.size w ((w1.alloc (.cells ze 219)).setRow w1.heap.size cT2):=BsR (Ab.alloc Ab.size _) Ab.size _
 have Aa:=setRow_heap (w1.alloc (.cells ze 219)) w1.heap.size ze cT2 _ _ (heap_alloc_new _ _)
 generalize (w1.alloc (.cells ze 219)).setRow w1.heap.size cT2=w2 at *
 generalize w1.heap.size=g at *
 clear Ab w1
 go_loop [3,9] (fun n i => ∃ k:Nat,k≤s.size∧i = .int .i64 k∧n = .int .u32 (Tess.crcs (s.data.toList.take k):Nat)) (fun _ i=>s.size - (intOf i).toNat)
 case atStart=>exact ⟨0,Nat.zero_le _,rfl,rfl⟩
 case round=>
  obtain ⟨k,hk,rfl,rfl⟩:=hrel
  have hc:=Tess.crcs_lt (s.data.toList.take k)
  have HR:=Hd Aa
  have HB:=Hd hB
  clear Aa hB
  by_cases hlt:k < s.size
  ·have HS:=Hd ((Tess.ct3 s k hlt).trans (Tess.crc_tab _ _).symm)
   generalize hcr:Tess.crcs (s.data.toList.take k)=c at *
   clear hcr
   have hb:=s[k].toNat_lt
   have hm:c % 256 ^^^ s[k].toNat < 256:=Nat.xor_lt_two_pow (n:=8) (by omega) (by omega)
   have e1:bits .xor .u8 ((c:Int) % 256) (s[k].toNat:Int)=((c % 256 ^^^ s[k].toNat:Nat):Int):=u8_xor_nat (c % 256) s[k].toNat (by omega) (by omega)
   have Ac:w2.cell? ⟨g,c % 256 ^^^ s[k].toNat,none⟩=some (.int .u32 (Tess.cN2 8 (c % 256 ^^^ s[k].toNat):Nat)):=by
    rw [cell_of_row _ _ _ _ _ _ HR.out,crcTab_get _ hm]
   have ht:=Tess.cNl 8 (c % 256 ^^^ s[k].toNat) (by omega)
   have e2:bits .xor .u32 ((c:Int) / 256) ((Tess.cN2 8 (c % 256 ^^^ s[k].toNat):Nat):Int)=((c / 256 ^^^ Tess.cN2 8 (c % 256 ^^^ s[k].toNat):Nat):Int):=u32_xor_nat (c / 256) (Tess.cN2 8 (c % 256 ^^^ s[k].toNat)) (by omega) ht
   go_wp2
   go_round
   case rel=>exact ⟨k + 1,by omega,by go_num,by rw [HS.out]⟩
   case measure=>simp [intOf];omega
  ·rw [List.take_of_length_le (by simp;omega)] at *
   have e1:=xo2 _ hc
   go_wp2
   go_ret
   exact ⟨rfl,HB.out⟩
end Go.Proofs.YtjdccifdkjnknaaGreatDoor
namespace Go.Proofs.YtjdccifdkjnknaaGreatDoor
open Go.RowKit
set_option maxHeartbeats 400000 in
theorem ra3 (s:ByteArray) (w:World) (hs:s.size≤maxLen) (h4:4≤s.size) :
  Calls Tryz.prog 78 #[.string s] w fun e w'=>e = .returned (.int .u32 (Tess.num4 (s.data.toList.take 4):Nat))∧∃ n,w'=w.drewN n:=by
 unfold maxLen at hs
 have h0:0 < s.size:=by omega
 have h1:(1:Int) < (s.size:Int):=by omega
 have h2:(2:Int) < (s.size:Int):=by omega
 have h3:(3:Int) < (s.size:Int):=by omega
 have b0:=s[0].toNat_lt
 have b1:=s[1].toNat_lt
 have b2:=s[2].toNat_lt
 have b3:=s[3].toNat_lt
 go_enter Tryz.func78,Tryz.ntmps78
 go_wp2
 go_quiet (fail)
 go_wp2
 go_ret
 exact ⟨by rw [or4 _ _ _ _ b0 b1 b2 b3,Tess.num4_take4 s h4];rfl,_,rfl⟩
set_option maxHeartbeats 400000 in
theorem fna (s:ByteArray) (w:World) (hs:s.size≤maxLen) (h4:4≤s.size) :
  Calls Tryz.prog 169 #[.string s] w fun e w'=>e = .returned (.int .u32 (Tess.num4 (s.data.toList.take 4):Nat))∧w=w':=by
 unfold maxLen at hs
 go_enter Tryz.func169,Tryz.ntmps169
 go_wp2
 go_loop [3,5] (fun n i => ∃ k:Nat,k≤4∧i = .int .i64 k∧n = .int .u32 (Tess.num4 (s.data.toList.take k):Nat)) (fun _ i=>4 - (intOf i).toNat)
 case atStart=>exact ⟨0,Nat.zero_le _,rfl,rfl⟩
 case round=>
  obtain ⟨k,hk,rfl,rfl⟩:=hrel
  by_cases hlt:k < 4
  ·have hc:Tess.num4 (s.data.toList.take k) < 16777216:=Tess.num4_lt3 _ (by simp;omega)
   have Aa:k < s.size:=by omega
   have HS:=Hd (Tess.nt2 s k Aa)
   have hb:=s[k].toNat_lt
   generalize Tess.num4 (s.data.toList.take k)=c at *
   have e1:bits .or .u32 ((c:Int) * 256) (s[k].toNat:Int)=((c * 256 + s[k].toNat:Nat):Int):=or32_256 c _ hc hb
   go_wp2
   go_round
   case rel=>exact ⟨k + 1,by omega,by go_num,by rw [HS.out];go_num⟩
   case measure=>simp [intOf];omega
  ·obtain rfl:k=4:=by omega
   go_wp2
   go_ret
   exact ⟨rfl,rfl⟩
set_option maxHeartbeats 400000 in
theorem ra5 (n:Nat) (w:World) (hn:n < 4294967296) :
  Calls Tryz.prog 106 #[.int .u32 n] w fun e w'=>e = .returned (.string (Tess.be4 n))∧Below w.heap.size w w':=by
 go_enter Tryz.func106,Tryz.ntmps106
 go_wp2_with (with_reducible refine ac2 86 9 ?_;refine wLb2 _ _ 5 _ rfl Tryz.underlying86 Tryz.underlying5 Tryz.underlying9 w.heap.size 0 4 4 rfl [(n / 16777216 % 256:Nat),(n / 65536 % 256:Nat),(n / 256 % 256:Nat),(n % 256:Nat)] rfl ?c1 ?_)
 case c1=>
  intro i hi
  have:i=0∨i=1∨i=2∨i=3:=by omega
  rcases this with rfl | rfl | rfl | rfl <;> simp <;> omega
 go_ret
 exact ⟨by simp [strOfNums,Tess.be4];exact ⟨rfl,rfl,rfl,rfl⟩,(Below.refl _ _).alloc (Nat.le_refl _) _⟩
end Go.Proofs.YtjdccifdkjnknaaGreatDoor
namespace Go.Proofs.YtjdccifdkjnknaaGreatDoor
open Go.RowKit
theorem cfn (w:World) (x y z u:Value) (t:TypeId):∀ j v,[x,y,z,u][j]? = some v→(w.alloc (.cells #[x,y,z,u] t)).cell? ((⟨w.heap.size,0,none⟩:Addr).add j)=some v:=by
 intro j v h
 have:j=0∨j=1∨j=2∨j=3:=by
  rcases Nat.lt_or_ge j 4 with h' | h'
  ·omega
  ·simp [List.getElem?_eq_none (show [x,y,z,u].length≤j by simpa using h')] at h
 rcases this with rfl | rfl | rfl | rfl <;> simp_all [Addr.add]
theorem infoU8:(Tryz.prog.info? 5).map (fun i=>(i.zero,i.size,i.bytes))=some (some (.int .u8 0),1,1):=by kernel_rfl
def nb4 (n:Nat):List Value:=(Tess.be4 n).data.toList.map u8v
theorem nb4_eq (n:Nat) (h:n < 4294967296):nb4 n=[.int .u8 ((n:Int) / 16777216),.int .u8 ((n:Int) / 65536 % 256),.int .u8 ((n:Int) / 256 % 256),.int .u8 ((n:Int) % 256)]:=by
 simp only [nb4,Tess.be4,List.map_cons,List.map_nil,u8v,UInt8.toNat_ofNat']
 have:n / 16777216 < 256:=by omega
 simp [Nat.mod_eq_of_lt this]
theorem flat_map (l:List Nat):l.flatMap nb4=(l.flatMap fun n=>(Tess.be4 n).data.toList).map u8v:=by
 rw [List.map_flatMap];rfl
set_option maxHeartbeats 400000 in
theorem fna2 (b off:Nat) (l:List Nat) (w:World) (hl:∀ j,j < l.length→w.cell? ⟨b,off + j,none⟩=some (.int .u32 ((l.getD j 0:Nat):Int))) (hlen:l.length≤1000) (hne:0 < l.length) (hlt:∀ x ∈ l,x < 4294967296) :
  Calls Tryz.prog 125 #[.slice (some ⟨b,off,none⟩) l.length l.length] w fun e w'=>e = .returned (.string ⟨(l.flatMap fun n=>(Tess.be4 n).data.toList).toArray⟩)∧Below w.heap.size w w':=by
 go_enter Tryz.func125,Tryz.ntmps125
 go_wp2
 go_loopw [3,8] (fun v i wr => ∃ k:Nat,k≤l.length∧i = .int .i64 k∧wr.ownsRow w.heap.size 5 1 v (4 * k) ((l.take k).flatMap nb4)∧Below w.heap.size w wr) (fun _ i _=>l.length - (intOf i).toNat)
 case atStart=>exact ⟨0,Nat.zero_le _,rfl,by simpa using World.ownsRow_nil w w.heap.size 5 1,Below.refl _ _⟩
 case round=>
  obtain ⟨k,hk,rfl,Aa,hB⟩:=hrel
  have Ad:b < w.heap.size:=World.block_lt_of_cell? w ⟨b,off + 0,none⟩ (hl 0 hne)
  by_cases hkl:k < l.length
  ·obtain ⟨x,hx⟩:∃ x,x=l.getD k 0:=⟨_,rfl⟩
   have Ag:x < 4294967296:=hlt x (by rw [hx,getD_at _ hkl];exact List.getElem_mem _)
   have Ae:wr.cell? ⟨b,off + k,none⟩=some (.int .u32 (x:Int)):=by rw [hB.cell (p:=⟨b,off + k,none⟩) Ad,hx];exact hl k hkl
   have HT:=Hd (show (l.take (k + 1)).flatMap nb4=(l.take k).flatMap nb4 ++ nb4 x from by
    rw [List.take_succ_eq_append_getElem hkl,List.flatMap_append,hx,getD_at _ hkl];simp)
   obtain ⟨i0,hi,Ah,Ai,Aj⟩:=info_parts infoU8
   have HL:=Hd hl
   clear hl hx hlt
   go_wp2_with (at_builtin;refine wpList_append_own _ rfl _ _ 86 rfl w.heap.size 5 i0 (.int .u8 0) 1 1 Tryz.underlying86 hi Ah Ai Aj rfl (by decide) _ _ _ rfl (Aa.alloc _) ⟨wr.heap.size,0,none⟩ 4 4 (nb4 x) rfl (by rw [nb4_eq x Ag];rfl) ?c1 ?c2 ?c3 ?c4 ?c5 ?_)
   case c1=>rw [nb4_eq x Ag];exact cfn _ _ _ _ _ _
   case c2=>exact u8v_one _
   case c3=>unfold maxLen;omega
   case c4=>omega
   case c5=>have:=hB.size;simp;omega
   intro v' w1 Ab Ac _
   have Af:Below w.heap.size w w1:=by
    refine (hB.alloc hB.size _).grown Ac (by have:=hB.size;simp;omega) (fun k e => ?_)
    exact (Aa.lt k e).1
   rw [← HT.out] at Ab
   have H1:=Hd Ab
   have H2:=Hd Af
   clear Ab Af Ac Aa hB HT
   go_wp2
   go_roundw
   case rel=>exact ⟨k + 1,by omega,by go_num,H1.out,H2.out⟩
   case measure=>simp [intOf];omega
  ·obtain rfl:k=l.length:=by omega
   rw [List.take_of_length_le (Nat.le_refl _)] at Aa
   rw [flat_map] at Aa
   have HB:=Hd hB
   have HO:=Hd Aa
   clear Aa hB hl
   go_wp2_with (with_reducible refine ac2 86 9 ?_;refine wLb _ _ 5 _ rfl Tryz.underlying86 Tryz.underlying5 Tryz.underlying9 _ _ _ rfl _ HO.out ?_)
   go_ret
   exact ⟨rfl,HB.out⟩
end Go.Proofs.YtjdccifdkjnknaaGreatDoor
namespace Go.Proofs.YtjdccifdkjnknaaGreatDoor
open Go.RowKit
set_option maxHeartbeats 400000 in
theorem make_no (s:ByteArray) (w:World) (hs:s.size≤maxLen) (h:60000 < s.size) :
  Calls Tryz.prog 77 #[.string s] w fun e w'=>e = .returned (.tuple #[.string ByteArray.empty,.int .i64 30])∧w=w':=by
 unfold maxLen at hs
 go_enter Tryz.func77,Tryz.ntmps77
 go_wp2
 go_ret2
 exact ⟨rfl,rfl⟩
set_option maxHeartbeats 400000 in
theorem make_yes (s:ByteArray) (w:World) (hs:s.size≤60000) :
  Calls Tryz.prog 77 #[.string s] w fun e w'=>e = .returned (.tuple #[.string (Tess.mkf s),.int .i64 0])∧Below w.heap.size w w':=by
 have hc:=Tess.csum_lt s.data.toList
 go_enter Tryz.func77,Tryz.ntmps77
 go_wp2_with (go_at_call 126;refine (sum_any s _ (by unfold maxLen;omega)).mono ?_;rintro e w1 ⟨rfl,Aa⟩)
 refine (fna2 _ 0 [s.size,Tess.csum s.data.toList] _ (fun j hj => ?c1) (by simp) (by simp) (fun x hx => ?c2)).mono ?_
 case c1=>
  have:j=0∨j=1:=by simp at hj;omega
  rcases this with rfl | rfl <;> simp
 case c2=>simp at hx;rcases hx with rfl | rfl <;> omega
 rintro e w2 ⟨rfl,Ab⟩
 have HB:Below w.heap.size w w2:=(Aa.alloc Aa.size _).trans (Ab.mono (by have:=Aa.size;simp;omega))
 clear Aa Ab
 have l1:∀ n,(Tess.be4 n).data.toList.length=4:=fun _=>rfl
 go_wp2
 go_ret2
 exact ⟨by simp [Tess.mkf,← ByteArray.mk_append_mk],HB⟩
set_option maxHeartbeats 400000 in
theorem rmake_no (s:ByteArray) (w:World) (hs:s.size≤maxLen) (h:60000 < s.size) :
  Calls Tryz.prog 53 #[.string s] w fun e w'=>e = .returned (.tuple #[.string ByteArray.empty,.int .i64 30])∧w=w':=by
 unfold maxLen at hs
 go_enter Tryz.func53,Tryz.ntmps53
 go_wp2
 go_ret2
 exact ⟨rfl,rfl⟩
set_option maxHeartbeats 400000 in
theorem rmake_yes (s:ByteArray) (w:World) (hs:s.size≤60000) :
  Calls Tryz.prog 53 #[.string s] w fun e w'=>e = .returned (.tuple #[.string (Tess.mkf s),.int .i64 0])∧Below w.heap.size w w':=by
 have hc:=Tess.csum_lt s.data.toList
 go_enter Tryz.func53,Tryz.ntmps53
 go_wp2_with fail
 refine (ra5 s.size _ (by omega)).mono ?_
 rintro e w1 ⟨rfl,Aa⟩
 go_wp2_with fail
 refine (rsum_any s _ (by unfold maxLen;omega)).mono ?_
 rintro e w' ⟨rfl,rfl⟩
 go_wp2_with fail
 refine (ra5 _ _ hc).mono ?_
 rintro e w2 ⟨rfl,Ab⟩
 have HB:Below w.heap.size w w2:=Aa.trans (Ab.mono Aa.size)
 clear Aa Ab
 have l1:∀ n,(Tess.be4 n).size=4:=fun _=>rfl
 go_wp2
 go_ret2
 exact ⟨by simp [Tess.mkf],HB⟩
end Go.Proofs.YtjdccifdkjnknaaGreatDoor
namespace Go.Proofs.YtjdccifdkjnknaaGreatDoor
open Go.RowKit Go.Sort
def RP (s:ByteArray) (w:World) (e:Ending) (w':World):Prop:=
 e = .returned (.tuple #[.string (Tess.rd s).1,.string (Tess.rd s).2.1,.int .i64 ((Tess.rd s).2.2:Nat)])∧Below w.heap.size w w'
set_option maxHeartbeats 400000 in
theorem read_short (s:ByteArray) (w:World) (hs:s.size≤maxLen) (h:s.size < 8) :
  Calls Tryz.prog 128 #[.string s] w (RP s w):=by
 unfold maxLen at hs
 go_enter Tryz.func128,Tryz.ntmps128
 go_wp2
 refine wsf 0 rfl ?_
 go_wp2
 go_step3
 refine Exit.tg2 (Exit.fg2 ?_)
 go_wp2
 rw [Exit.noGoto_ret]
 go_ret3
 exact ⟨by simp [Tess.rd,h],Below.refl _ _⟩
set_option maxHeartbeats 400000 in
theorem read_great (s:ByteArray) (w:World) (hs:s.size≤maxLen) (h:8≤s.size) (n:Nat) (hn:Tess.num4 (s.data.toList.take 4)=n) (h1:60000 < n) :
  Calls Tryz.prog 128 #[.string s] w (RP s w):=by
 unfold maxLen at hs
 have HN:=Hd hn
 have Aa:n < 4294967296:=by rw [← hn];exact Tess.num4_lt4 _ (by simp;omega)
 clear hn
 go_enter Tryz.func128,Tryz.ntmps128
 go_wp2
 refine wsf 0 rfl ?_
 go_wp2_with (go_at_call 169;refine (fna s _ (by unfold maxLen;omega) (by omega)).mono ?_;rintro e w' ⟨rfl,rfl⟩;rw [HN.out])
 go_step3
 refine Exit.tg2 (Exit.fg2 ?_)
 go_wp2
 rw [Exit.noGoto_ret]
 go_ret3
 have h8:¬ s.size < 8:=by omega
 exact ⟨by simp [Tess.rd,HN.out,h8,h1],Below.refl _ _⟩
set_option maxHeartbeats 400000 in
theorem read_more (s:ByteArray) (w:World) (hs:s.size≤maxLen) (h:8≤s.size) (n:Nat) (hn:Tess.num4 (s.data.toList.take 4)=n) (h1:n≤60000) (h2:s.size < 8 + n) :
  Calls Tryz.prog 128 #[.string s] w (RP s w):=by
 unfold maxLen at hs
 have HN:=Hd hn
 clear hn
 go_enter Tryz.func128,Tryz.ntmps128
 go_wp2
 refine wsf 0 rfl ?_
 go_wp2_with (go_at_call 169;refine (fna s _ (by unfold maxLen;omega) (by omega)).mono ?_;rintro e w' ⟨rfl,rfl⟩;rw [HN.out])
 go_step3
 refine Exit.tg2 (Exit.fg2 ?_)
 go_wp2
 rw [Exit.noGoto_ret]
 go_ret3
 have h8:¬ s.size < 8:=by omega
 have Aa:¬ 60000 < n:=by omega
 exact ⟨by simp [Tess.rd,HN.out,h8,Aa,h2],Below.refl _ _⟩
set_option maxHeartbeats 400000 in
theorem read_sum (s:ByteArray) (w:World) (hs:s.size≤maxLen) (h:8≤s.size) (n:Nat) (hn:Tess.num4 (s.data.toList.take 4)=n) (h1:n≤60000) (h2:8 + n≤s.size) :
  Calls Tryz.prog 128 #[.string s] w (RP s w):=by
 unfold maxLen at hs
 have HN:=Hd hn
 clear hn
 have hf:(Tess.frm s 4).size≤s.size∧4≤(Tess.frm s 4).size:=by simp [Tess.frm];omega
 have hx:(s.extract 8 (8 + n)).size≤s.size:=by simp;omega
 have c1:=fun d os=>Calls.regrown_of (d:=d) (os:=os) (sum_any (s.extract 8 (8 + n)) (grow (redrawn w d) os) (by unfold maxLen;omega))
 have c2:=fun d os=>Calls.rs3 (d:=d) (os:=os) (fna (Tess.frm s 4) (grow (redrawn w d) os) (by unfold maxLen;omega) (by omega))
 unfold Tess.frm at c2
 generalize hA:Tess.csum (s.extract 8 (8 + n)).data.toList=A at c1
 generalize hB:Tess.num4 ((s.extract 4 s.size).data.toList.take 4)=B at c2
 have HA:=Hd hA
 have Ac:=Hd hB
 clear hA hB
 have C1:=Hd c1
 have C2:=Hd c2
 clear c1 c2
 go_enter Tryz.func128,Tryz.ntmps128
 go_wp2
 refine wsf 0 rfl ?_
 go_wp2_with (go_at_call 169;refine (fna s _ (by unfold maxLen;omega) (by omega)).mono ?_;rintro e w' ⟨rfl,rfl⟩;rw [HN.out])
 refine wp_region_quiet_below (by kernel_rfl) (by kernel_rfl) ?_
 repeat (go_big_quiet_step (first | exact C1.out _ _ | exact C2.out _ _))
 refine wpQuiet_nil ?_
 intro _ Ae
 obtain ⟨⟨dq,Ad⟩,Ab⟩:=Ae
 subst Ab
 have HB:=Hd (below_regrown w dq Ad)
 generalize grow (redrawn w dq) Ad=w1 at *
 clear C1 C2
 go_wp2
 ·go_step3
  refine Exit.tg2 (Exit.fg2 ?_)
  go_wp2
  rw [Exit.noGoto_ret]
  go_ret3
  have h8:¬ s.size < 8:=by omega
  have Aa:¬ 60000 < n:=by omega
  have Af:¬ A=B:=by
   have hx:((A:Int) != (B:Int))=true:=by assumption
   rw [bne_iff_ne] at hx
   omega
  refine ⟨?_,HB.out⟩
  unfold Tess.rd Tess.frm
  rw [HN.out,HA.out,Ac.out,if_neg h8,if_neg Aa,if_neg (by omega),if_neg Af]
  rfl
 ·have he:A=B:=by
   have hx:((A:Int) != (B:Int))=false:=by assumption
   rw [bne_eq_false_iff_eq] at hx
   omega
  have HE:=Hd he
  clear he
  go_quiet (fail)
  go_wp2
  rw [Exit.fr2]
  go_ret3
  have h8:¬ s.size < 8:=by omega
  have Aa:¬ 60000 < n:=by omega
  refine ⟨?_,below_drewN HB.out _⟩
  unfold Tess.rd Tess.frm
  rw [HN.out,HA.out,Ac.out,if_neg h8,if_neg Aa,if_neg (by omega),if_pos HE.out]
  rfl
theorem read_any (s:ByteArray) (w:World) (hs:s.size≤maxLen):Calls Tryz.prog 128 #[.string s] w (RP s w):=by
 by_cases h:s.size < 8
 ·exact read_short s w hs h
 ·by_cases h1:60000 < Tess.num4 (s.data.toList.take 4)
  ·exact read_great s w hs (by omega) _ rfl h1
  ·by_cases h2:s.size < 8 + Tess.num4 (s.data.toList.take 4)
   ·exact read_more s w hs (by omega) _ rfl (by omega) h2
   ·exact read_sum s w hs (by omega) _ rfl (by omega) (by omega)
end Go.Proofs.YtjdccifdkjnknaaGreatDoor
namespace Go.Proofs.YtjdccifdkjnknaaGreatDoor
open Go.RowKit Go.Sort
set_option maxHeartbeats 400000 in
theorem rs4 (s:ByteArray) (w:World) (hs:s.size≤1000000) (h:s.size < 8) :
  Calls Tryz.prog 30 #[.string s] w (RP s w):=by
 go_enter Tryz.func30,Tryz.ntmps30
 go_wp2
 go_ret3
 exact ⟨by simp [Tess.rd,h],Below.refl _ _⟩
set_option maxHeartbeats 400000 in
theorem rread_great (s:ByteArray) (w:World) (hs:s.size≤1000000) (h:8≤s.size) (n:Nat) (hn:Tess.num4 (s.data.toList.take 4)=n) (h1:60000 < n) :
  Calls Tryz.prog 30 #[.string s] w (RP s w):=by
 have HN:=Hd hn
 have Aa:n < 4294967296:=by rw [← hn];exact Tess.num4_lt4 _ (by simp;omega)
 clear hn
 go_enter Tryz.func30,Tryz.ntmps30
 go_wp2_with (go_at_call 78;refine (ra3 s _ (by unfold maxLen;omega) (by omega)).mono ?_;rintro e w' ⟨rfl,⟨nd,rfl⟩⟩;rw [HN.out])
 go_ret3
 have h8:¬ s.size < 8:=by omega
 exact ⟨by simp [Tess.rd,HN.out,h8,h1],below_drewN (Below.refl _ _) _⟩
set_option maxHeartbeats 400000 in
theorem rread_more (s:ByteArray) (w:World) (hs:s.size≤1000000) (h:8≤s.size) (n:Nat) (hn:Tess.num4 (s.data.toList.take 4)=n) (h1:n≤60000) (h2:s.size < 8 + n) :
  Calls Tryz.prog 30 #[.string s] w (RP s w):=by
 have HN:=Hd hn
 clear hn
 go_enter Tryz.func30,Tryz.ntmps30
 go_wp2_with (go_at_call 78;refine (ra3 s _ (by unfold maxLen;omega) (by omega)).mono ?_;rintro e w' ⟨rfl,⟨nd,rfl⟩⟩;rw [HN.out])
 go_ret3
 have h8:¬ s.size < 8:=by omega
 have Aa:¬ 60000 < n:=by omega
 exact ⟨by simp [Tess.rd,HN.out,h8,Aa,h2],below_drewN (Below.refl _ _) _⟩
set_option maxHeartbeats 400000 in
theorem rread_sum (s:ByteArray) (w:World) (hs:s.size≤1000000) (h:8≤s.size) (n:Nat) (hn:Tess.num4 (s.data.toList.take 4)=n) (h1:n≤60000) (h2:8 + n≤s.size) :
  Calls Tryz.prog 30 #[.string s] w (RP s w):=by
 have HN:=Hd hn
 clear hn
 have hf:(s.extract 4 s.size).size≤s.size∧4≤(s.extract 4 s.size).size:=by simp;omega
 have hx:(s.extract 8 (8 + n)).size≤s.size:=by simp;omega
 have c1:=fun nd d os=>Calls.rs3 (d:=d) (os:=os) (rsum_any (s.extract 8 (8 + n)) (grow (redrawn (w.drewN nd) d) os) (by unfold maxLen;omega))
 have c2:=fun nd d os=>Calls.regrown_of (d:=d) (os:=os) ((ra3 (s.extract 4 s.size) (grow (redrawn (w.drewN nd) d) os) (by unfold maxLen;omega) (by omega)).mono fun _ _ ⟨he,m,hm⟩=>⟨he,hm ▸ below_drewN (Below.refl _ _) m⟩)
 generalize hA:Tess.csum (s.extract 8 (8 + n)).data.toList=A at c1
 generalize hB:Tess.num4 ((s.extract 4 s.size).data.toList.take 4)=B at c2
 have HA:=Hd hA
 have Ac:=Hd hB
 clear hA hB
 have C1:=Hd c1
 have C2:=Hd c2
 clear c1 c2
 go_enter Tryz.func30,Tryz.ntmps30
 go_wp2_with (go_at_call 78;refine (ra3 s _ (by unfold maxLen;omega) (by omega)).mono ?_;rintro e w' ⟨rfl,⟨nd,rfl⟩⟩;rw [HN.out])
 refine wp_region_quiet_below (by kernel_rfl) (by kernel_rfl) ?_
 repeat (go_big_quiet_step (first | exact C1.out _ _ _ | exact C2.out _ _ _))
 refine wpQuiet_nil ?_
 intro _ Ae
 obtain ⟨⟨dq,Ad⟩,Ab⟩:=Ae
 subst Ab
 have HB:=Hd (Go.RowKit.Below.trans (below_drewN (Below.refl w.heap.size w) nd) (below_regrown (w.drewN nd) dq Ad))
 generalize grow (redrawn (w.drewN nd) dq) Ad=w1 at *
 clear C1 C2
 go_wp2
 ·go_ret3
  have h8:¬ s.size < 8:=by omega
  have Aa:¬ 60000 < n:=by omega
  have Af:¬ A=B:=by
   have hx:((A:Int) != (B:Int))=true:=by assumption
   rw [bne_iff_ne] at hx
   omega
  refine ⟨?_,HB.out⟩
  unfold Tess.rd Tess.frm
  rw [HN.out,HA.out,Ac.out,if_neg h8,if_neg Aa,if_neg (by omega),if_neg Af]
  rfl
 ·have he:A=B:=by
   have hx:((A:Int) != (B:Int))=false:=by assumption
   rw [bne_eq_false_iff_eq] at hx
   omega
  have HE:=Hd he
  clear he
  go_quiet (fail)
  go_wp2
  go_ret3
  have h8:¬ s.size < 8:=by omega
  have Aa:¬ 60000 < n:=by omega
  refine ⟨?_,below_drewN HB.out _⟩
  unfold Tess.rd Tess.frm
  rw [HN.out,HA.out,Ac.out,if_neg h8,if_neg Aa,if_neg (by omega),if_pos HE.out]
  rfl
theorem ra6 (s:ByteArray) (w:World) (hs:s.size≤1000000):Calls Tryz.prog 30 #[.string s] w (RP s w):=by
 by_cases h:s.size < 8
 ·exact rs4 s w hs h
 ·by_cases h1:60000 < Tess.num4 (s.data.toList.take 4)
  ·exact rread_great s w hs (by omega) _ rfl h1
  ·by_cases h2:s.size < 8 + Tess.num4 (s.data.toList.take 4)
   ·exact rread_more s w hs (by omega) _ rfl (by omega) h2
   ·exact rread_sum s w hs (by omega) _ rfl (by omega) (by omega)
end Go.Proofs.YtjdccifdkjnknaaGreatDoor
namespace Go.Proofs.YtjdccifdkjnknaaGreatDoor
open Go.RowKit Go.Sort
def t9:ByteArray:=⟨#[49,50,51,52,53,54,55,56,57]⟩
end Go.Proofs.YtjdccifdkjnknaaGreatDoor
namespace Go.Proofs.YtjdccifdkjnknaaGreatDoor
open Go.RowKit Go.Sort
theorem fiS:(Tryz.prog.info? 9).map (fun i=>(i.zero,i.size,i.bytes))=some (some (.string ByteArray.empty),1,16):=by kernel_rfl
end Go.Proofs.YtjdccifdkjnknaaGreatDoor
namespace Go.Proofs.YtjdccifdkjnknaaGreatDoor
open Go.RowKit Go.Sort
def SP3 (s:ByteArray) (w:World) (e:Ending) (w':World):Prop:=
 ∃ v,e = .returned (.tuple #[v,.int .i64 ((Tess.sF s.size [] s).2:Nat)])∧SlOf w' v ((Tess.sF s.size [] s).1.map .string)∧Below w.heap.size w w'
def strV (l:List ByteArray):List Value:=l.map .string
theorem strV_snoc (l:List ByteArray) (x:ByteArray):strV l ++ [.string x]=strV (l ++ [x]):=by simp [strV]
theorem sn4 {s:ByteArray} (h:s.size≠0):s.toList.isEmpty=false:=by
 rw [ByteArray.toList_eq]
 have:s.data.size≠0:=h
 cases hs:s.data.toList with
 | nil=>exfalso;apply this;rw [← Array.length_toList,hs];rfl
 | cons a l=>rfl
theorem sn2 {s:ByteArray} (h:s.size=0):s=⟨#[]⟩:=by
 apply ByteArray.ext
 exact Array.eq_empty_of_size_eq_zero h
def strLen:Value→Nat | .string x=>x.size | _=>0
set_option maxHeartbeats 1000000 in
theorem ra4 (s:ByteArray) (w:World) (hs:s.size≤1000000):Calls Tryz.prog 12 #[.string s] w (SP3 s w):=by
 obtain ⟨i0,hi,An,Ap,As⟩:=info_parts fiS
 go_enter Tryz.func12,Tryz.ntmps12
 go_wp2
 go_loopw [0,4] (fun c v wr => ∃ (Aa:ByteArray) (out:List ByteArray) (f:Nat),c = .string Aa∧8 * out.length + Aa.size≤s.size∧Aa.size≤f∧Tess.sF f out Aa=Tess.sF s.size [] s ∧
  wr.ownsRow w.heap.size 9 1 v out.length (strV out)∧Below w.heap.size w wr) (fun c _ _=>strLen c)
 case atStart=>exact ⟨s,[],s.size,rfl,by simp,Nat.le_refl _,rfl,World.ownsRow_nil _ _ _ _,Below.refl _ _⟩
 case round=>
  obtain ⟨Aa,out,f,rfl,Aw,hf,Am,Ag,hB⟩:=hrel
  have Ai:=Hd Am
  have HB:=Hd hB
  have HO:=Hd Ag
  clear Am hB Ag
  by_cases h0:Aa.size=0
  ·obtain rfl:=sn2 h0
   have HZ:=Hd ((Tess.sFz f out _ h0).symm.trans Ai.out)
   go_wp2
   go_ret2
   exact ⟨_,by rw [← HZ.out];rfl,by rw [← HZ.out];exact SlOf.owned HO.out,HB.out⟩
  ·have Ay:=sn4 h0
   by_cases he:(Tess.rd Aa).2.2=0
   ·obtain ⟨f',Ar,Ak⟩:=Tess.sFs f out Aa h0 hf he
    obtain ⟨Au,Ax⟩:=Tess.rr3 Aa he
    have Ah:=Hd (Ak.symm.trans Ai.out)
    have Ad:=ra6 Aa wr (by omega)
    unfold RP at Ad
    rw [he] at Ad
    generalize (Tess.rd Aa).1=b at *
    generalize (Tess.rd Aa).2.1=rest at *
    have HR:=Hd Ad
    clear Ad Ak
    go_wp2_with (first
     | (go_at_call 30;refine HR.out.mono ?_;rintro e w2 ⟨rfl,Af⟩;have Aj:=Hd (ob2 HO.out Af);have Ae:=Bt HB.out Af)
     | (at_builtin;refine wpList_append_own _ rfl _ _ 22 rfl w.heap.size 9 i0 (.string ByteArray.empty) 1 16 Tryz.underlying22 hi An Ap As rfl (by decide) _ _ _ rfl (Aj.out.alloc _) ⟨w2.heap.size,0,none⟩ 1 1 [.string b] rfl rfl ?c1 ?c2 ?c3 ?c4 ?c5 ?_))
    case c1=>exact cell_one_new _ _ _
    case c2=>simp [Value.oneCell']
    case c3=>unfold maxLen;omega
    case c4=>omega
    case c5=>have:=Ae.size;simp;omega
    intro v' w3 Ab Ac _
    have Al:Below w.heap.size w w3:=(Ae.alloc Ae.size _).grown Ac (by have:=Ae.size;simp;omega) (fun j e=>(Aj.out.lt j e).1)
    rw [strV_snoc] at Ab
    have At:=Hd Ab
    have Aq:=Hd Al
    clear Ab Ac Al Ae Af Aj
    go_wp2
    go_roundw
    case rel=>exact ⟨rest,out ++ [b],f',rfl,by simp;omega,Ar,Ah.out,by simpa using At.out,Aq.out⟩
    case measure=>simp [strLen];omega
   ·have Ah:=Hd ((Tess.sFe f out Aa h0 hf he).symm.trans Ai.out)
    have Ad:=ra6 Aa wr (by omega)
    unfold RP at Ad
    have Ao:(((Tess.rd Aa).2.2:Nat):Int)≠0:=by omega
    have Av:((((Tess.rd Aa).2.2:Nat):Int) != 0)=true:=by rw [bne_iff_ne];exact Ao
    generalize (Tess.rd Aa).1=b at *
    generalize (Tess.rd Aa).2.1=rest at *
    generalize (Tess.rd Aa).2.2=en at *
    have HR:=Hd Ad
    clear Ad
    go_wp2_with (go_at_call 30;refine HR.out.mono ?_;rintro e w2 ⟨rfl,Af⟩;have Ae:=Bt HB.out Af)
    go_ret2
    exact ⟨_,by rw [← Ah.out];rfl,by rw [← Ah.out];exact SlOf.nil _,Ae⟩
end Go.Proofs.YtjdccifdkjnknaaGreatDoor
namespace Tess
def jP (l:List ByteArray):ByteArray×Nat:=if ∀ s ∈ l,s.size≤60000 then (joinL l,0) else (ByteArray.empty,30)
theorem jLs (l:List ByteArray):∀ k,k≤l.length→(∀ s ∈ l.take k,s.size≤60000)→(joinL (l.take k)).size≤60008 * k:=by
 intro k
 induction k with
 | zero=>intro _ _;exact Nat.le_refl 0
 | succ k ih=>
   intro hk h
   rw [jLt l k hk,ByteArray.size_append,ms3]
   have e:=List.take_succ_eq_append_getElem (l:=l) (i:=k) hk
   have:=ih (by omega) fun s hs=>h s (by rw [e];exact List.mem_append_left _ hs)
   have:=h l[k] (by rw [e];exact List.mem_append_right _ (List.mem_singleton_self _))
   omega
end Tess
namespace Go.Proofs.YtjdccifdkjnknaaGreatDoor
open Go.RowKit Go.Sort
def JoinP (l:List ByteArray) (w:World) (e:Ending) (w':World):Prop:=e = .returned (.tuple #[.string (Tess.jP l).1,.int .i64 ((Tess.jP l).2:Nat)])∧Below w.heap.size w w'
set_option maxHeartbeats 1000000 in
theorem join2_any (v:Value) (l:List ByteArray) (w:World) (hv:SlOf w v (l.map .string)) (hs:∀ s ∈ l,s.size≤maxLen) (hl20:l.length≤1000) :
  Calls Tryz.prog 29 #[v] w (JoinP l w):=by
 obtain ⟨a,ca,rfl,Ak,Ae⟩:=so2 hv
 have HA:=Hd Ae
 have HJ:=Hd (Tess.jLs l)
 have HS:=Hd hs
 clear Ae hv hs
 go_enter Tryz.func29,Tryz.ntmps29
 go_wp2
 go_loopw [4,11] (fun o i wr => ∃ k:Nat,k≤l.length∧i = .int .i64 k∧o = .string (Tess.joinL (l.take k))∧(∀ s ∈ l.take k,s.size≤60000)∧Below w.heap.size w wr) (fun _ i _=>l.length - (intOf i).toNat)
 case atStart=>exact ⟨0,Nat.zero_le _,rfl,rfl,(fun s h=>by simp at h),Below.refl _ _⟩
 case round=>
  obtain ⟨k,hk,rfl,rfl,Ac,hB⟩:=hrel
  have Ab:=Hd Ac
  clear Ac
  by_cases hlt:k < l.length
  ·obtain ⟨b,Aj,rfl,hb,Aa⟩:=HA.out k hlt
   have Ah:=(hB.cell (p:=⟨b,Aj + k,none⟩) hb).trans Aa
   have HM:=Hd (show l[k] ∈ l from List.getElem_mem hlt)
   have Ad:=HS.out _ HM.out
   have HT:=Hd (Tess.jLt l k hlt)
   have hj:=HJ.out k hk Ab.out
   have hm:=Tess.ms3 l[k]
   have Af:=Hd (List.take_succ_eq_append_getElem (l:=l) (i:=k) hlt)
   obtain ⟨x,hx⟩:∃ x,x=l[k]:=⟨_,rfl⟩
   rw [← hx] at Ah Ad hm Af HM
   have HX:=Hd hx
   have HB:=Hd hB
   generalize Tess.joinL (l.take k)=J at *
   by_cases h6:x.size≤60000
   ·have Ai:J.size + (Tess.mkf x).size≤9223372036854775807:=by omega
    clear hB Aa hx hm
    go_wp2_with (go_at_call 77;refine (make_yes x _ h6).mono ?_;rintro e w2 ⟨rfl,Ag⟩)
    go_roundw
    case rel=>exact ⟨k + 1,by omega,by go_num,by rw [HT.out,← HX.out],(fun s hs=>by
     rw [Af.out] at hs
     rcases List.mem_append.1 hs with hs | hs
     ·exact Ab.out s hs
     ·rw [List.mem_singleton.1 hs];exact h6),Bt HB.out Ag⟩
    case measure=>simp [intOf];omega
   ·have hP:Tess.jP l=(ByteArray.empty,30):=if_neg fun h=>h6 (h x HM.out)
    have HP:=Hd hP
    clear hB Aa hx hm hP hj
    go_wp2_with (go_at_call 77;refine (make_no x _ Ad (by omega)).mono ?_;rintro e w2 ⟨rfl,rfl⟩)
    go_ret2
    exact ⟨by rw [HP.out];rfl,HB.out⟩
  ·obtain rfl:k=l.length:=by omega
   have HB:=Hd hB
   clear hB
   rw [List.take_of_length_le (Nat.le_refl _)] at Ab ⊢
   have HP:=Hd (show Tess.jP l=(Tess.joinL l,0) from if_pos Ab.out)
   go_wp2
   go_ret2
   exact ⟨by rw [HP.out];rfl,HB.out⟩
set_option maxHeartbeats 1000000 in
theorem rjoin2_any (v:Value) (l:List ByteArray) (w:World) (hv:SlOf w v (l.map .string)) (hs:∀ s ∈ l,s.size≤maxLen) (hl20:l.length≤1000) :
  Calls Tryz.prog 22 #[v] w (JoinP l w):=by
 obtain ⟨a,ca,rfl,Ak,Ae⟩:=so2 hv
 have HA:=Hd Ae
 have HJ:=Hd (Tess.jLs l)
 have HS:=Hd hs
 clear Ae hv hs
 go_enter Tryz.func22,Tryz.ntmps22
 go_wp2
 go_loopw [4,5] (fun o i wr => ∃ k:Nat,k≤l.length∧i = .int .i64 k∧o = .string (Tess.joinL (l.take k))∧(∀ s ∈ l.take k,s.size≤60000)∧Below w.heap.size w wr) (fun _ i _=>l.length - (intOf i).toNat)
 case atStart=>exact ⟨0,Nat.zero_le _,rfl,rfl,(fun s h=>by simp at h),Below.refl _ _⟩
 case round=>
  obtain ⟨k,hk,rfl,rfl,Ac,hB⟩:=hrel
  have Ab:=Hd Ac
  clear Ac
  by_cases hlt:k < l.length
  ·obtain ⟨b,Aj,rfl,hb,Aa⟩:=HA.out k hlt
   have Ah:=(hB.cell (p:=⟨b,Aj + k,none⟩) hb).trans Aa
   have HM:=Hd (show l[k] ∈ l from List.getElem_mem hlt)
   have Ad:=HS.out _ HM.out
   have HT:=Hd (Tess.jLt l k hlt)
   have hj:=HJ.out k hk Ab.out
   have hm:=Tess.ms3 l[k]
   have Af:=Hd (List.take_succ_eq_append_getElem (l:=l) (i:=k) hlt)
   obtain ⟨x,hx⟩:∃ x,x=l[k]:=⟨_,rfl⟩
   rw [← hx] at Ah Ad hm Af HM
   have HX:=Hd hx
   have HB:=Hd hB
   generalize Tess.joinL (l.take k)=J at *
   by_cases h6:x.size≤60000
   ·have Ai:J.size + (Tess.mkf x).size≤9223372036854775807:=by omega
    clear hB Aa hx hm
    go_wp2_with (go_at_call 53;refine (rmake_yes x _ h6).mono ?_;rintro e w2 ⟨rfl,Ag⟩)
    go_roundw
    case rel=>exact ⟨k + 1,by omega,by go_num,by rw [HT.out,← HX.out],(fun s hs=>by
     rw [Af.out] at hs
     rcases List.mem_append.1 hs with hs | hs
     ·exact Ab.out s hs
     ·rw [List.mem_singleton.1 hs];exact h6),Bt HB.out Ag⟩
    case measure=>simp [intOf];omega
   ·have hP:Tess.jP l=(ByteArray.empty,30):=if_neg fun h=>h6 (h x HM.out)
    have HP:=Hd hP
    clear hB Aa hx hm hP hj
    go_wp2_with (go_at_call 53;refine (rmake_no x _ Ad (by omega)).mono ?_;rintro e w2 ⟨rfl,rfl⟩)
    go_ret2
    exact ⟨by rw [HP.out];rfl,HB.out⟩
  ·obtain rfl:k=l.length:=by omega
   have HB:=Hd hB
   clear hB
   rw [List.take_of_length_le (Nat.le_refl _)] at Ab ⊢
   have HP:=Hd (show Tess.jP l=(Tess.joinL l,0) from if_pos Ab.out)
   go_wp2
   go_ret2
   exact ⟨by rw [HP.out];rfl,HB.out⟩
end Go.Proofs.YtjdccifdkjnknaaGreatDoor
namespace Go.Proofs.YtjdccifdkjnknaaGreatDoor
open Go.RowKit Go.Sort
theorem mb2 {n m:Int} (hn:I64 n) (hm:0≤m∧m≤1000000) : -9223372036854775808000000≤n * m∧n * m≤9223372036854775808000000:=by
 obtain ⟨h1,h2⟩:=hn
 have a1 : -9223372036854775808 * m≤n * m:=Int.mul_le_mul_of_nonneg_right h1 hm.1
 have a2:n * m≤9223372036854775807 * m:=Int.mul_le_mul_of_nonneg_right h2 hm.1
 omega
theorem mul_halves (n:Int) (m:Nat) (hn:I64 n) (hm:m≤1000000):∃ a:Nat,IntKind.u64.wrap n=a∧a < 18446744073709551616∧((a * m % 18446744073709551616:Nat):Int)=wLo (n * m)∧((a * m / 18446744073709551616:Nat):Int) - (if n < 0 then (m:Int) else 0)=wHi (n * m)∧a * m / 18446744073709551616≤1000000:=by
 obtain ⟨a,ha⟩:∃ a:Nat,IntKind.u64.wrap n=a:=⟨(n % 18446744073709551616).toNat,by rw [wu];omega⟩
 refine ⟨a,ha,?_⟩
 rw [wu] at ha
 obtain ⟨h1,h2⟩:=hn
 have Ab:a < 18446744073709551616:=by omega
 obtain ⟨k,hk,Aa⟩:∃ k:Int,k=(if n < 0 then (m:Int) else 0)∧(a:Int) * m=n * m + k * 18446744073709551616:=by
  refine ⟨_,rfl,?_⟩
  split
  ·have e:(a:Int)=n + 18446744073709551616:=by omega
   rw [e,Int.add_mul,Int.mul_comm 18446744073709551616]
  ·have e:(a:Int)=n:=by omega
   rw [e];omega
 have hd:a * m / 18446744073709551616≤1000000:=by
  refine Nat.le_trans ?_ hm
  refine Nat.div_le_of_le_mul ?_
  exact Nat.mul_le_mul_right m (by omega)
 rw [← hk]
 have hc:((a * m:Nat):Int)=n * m + k * 18446744073709551616:=by rw [Int.natCast_mul];exact Aa
 generalize a * m=U at *
 generalize n * m=P at *
 unfold wLo wHi
 refine ⟨Ab,?_,?_,hd⟩ <;> omega
def cmpI (x y:Int):Int:=if x < y then -1 else if y < x then 1 else 0
theorem cmp_wide (n m:Int):(if cmpI (wHi n) (wHi m)≠0 then cmpI (wHi n) (wHi m) else cmpI (wLo n) (wLo m))=cmpI n m:=by
 unfold wHi wLo cmpI
 split <;> split <;> (try split) <;> (try split) <;> omega
theorem cIl (n m:Int):cmpI n m≤0↔n≤m:=by unfold cmpI;split <;> (try split) <;> omega
end Go.Proofs.YtjdccifdkjnknaaGreatDoor
namespace Go.Flow
open Go Go.RowKit
section
variable {P:Program} {ops:Array Oper} {n:Nat} {lr:Nat}
def nD (l:List Oper):Bool:=l.all fun o=>match o.op with | .defer _=>false | _=>true
theorem noDefer_at {l:List Oper} (h:nD l=true) {i:Nat} {o:Oper} (ho:l[i]? = some o):∀ c,o.op ≠ .defer c:=by
 intro c e
 have:=List.all_eq_true.1 h o (List.mem_of_getElem? ho)
 rw [e] at this;cases this
theorem wIR2 {o:Oper} {a:Act} {w:World} {K:Act→World→Prop} {Q:Exit→Act→World→Prop} (hd:∀ c,o.op ≠ .defer c) (hy:yields P o a.eval w fun v w'=>K (a.put o.dst v) w'):o.wpIn (Fence.wide.inRound lr) n P a w K Q:=by
 unfold Oper.wpIn
 refine ⟨fun _ _=>trivial,?_⟩
 have he:o.semAt (Fence.wide.inRound lr).round a.eval=execOp a.eval o:=Oper.semAt_eq _ _ _ hd
 rw [he]
 unfold yields at hy
 generalize (execOp a.eval o).run P w=r at *
 cases r with
 | ok nx w'=>
   cases nx <;> simp only [Oper.uponIn] <;> first
    | exact hy
    | exact (show False from hy).elim
    | exact ⟨(fun h=>by cases h),CallsIn.inRound lr (callsIn_wide.2 (Calls.mono hy (fun e w'' ⟨v,he,hr⟩=>by subst he;exact hr)))⟩
 | halt x w'=>exact hy.elim
theorem wAI {S:Nat→Spec} {w0:World} (hND:nD ops.toList=true) (hS:∀ i,(S i).mono) {m g:Nat} {L:Array Bool→Act→(Nat→World→Prop)→Prop} {Q:Exit→Act→World→Prop}
  (hL:∀ listed a Γ w,L listed a Γ→Below w0.heap.size w0 w→(∀ j,Γ j w)→wpAnyIn (Fence.wide.inRound lr) n P .any ops Q g listed a w):∀ (f:Nat) (listed:Array Bool) (a:Act) (Γ:Nat→World→Prop) (w:World),
  aF P ops S w0 m L f listed a Γ→Below w0.heap.size w0 w→(∀ j,Γ j w)→(∀ j,Mono (Γ j))→wpAnyIn (Fence.wide.inRound lr) n P .any ops Q (f + g) listed a w
 | 0,_,_,_,_,h,hB,hG,_=>by rw [Nat.zero_add];exact hL _ _ _ _ h hB hG
 | f + 1,listed,a,Γ,w,h,hB,hG,hM=>by
   rw [show f + 1 + g=(f + g) + 1 by omega]
   refine ⟨fun h0=>absurd h0 h.1,fun i hi => ?_⟩
   have h1:=(h.2 i hi).2
   unfold fOp at h1
   unfold wpOpIn
   have hM':∀ v j,Mono (upd Γ i ((S i).holds v) j):=fun v j=>by
    by_cases e:j=i
    ·subst e;rw [upd_same];exact hS j v
    ·rw [upd_ne e];exact hM j
   have hG':∀ v w',Below w.heap.size w w'→(S i).holds v w'→∀ j,upd Γ i ((S i).holds v) j w':=fun v w' hb hv j=>by
    by_cases e:j=i
    ·subst e;rw [upd_same];exact hv
    ·rw [upd_ne e];exact hM j _ _ (hG j) hb
   have hok:∀ v w',(S i).holds v w'→(S i).ok v:=fun v w' hv=>by
    cases hs:S i with
    | inl u=>rw [hs] at hv;exact hv
    | inr V=>trivial
   split
   ·rename_i ho
    simp only [ho] at h1
    exact wAI hND hS hL f _ _ _ _ h1 hB hG hM
   ·rename_i o ho
    simp only [ho] at h1
    have h2:=h1.1 w hB (fun j _=>hG j)
    unfold Runs at h2
    split
    ·rename_i hw
     simp only [hw,if_true] at h2
     refine wIR2 (noDefer_at hND (i:=i) (by simpa using ho)) (ym2 ?_ h2)
     intro v w' ⟨hb,hv⟩
     exact wAI hND hS hL f _ _ _ _ (h1.2 v (hok v w' hv)) (hB.trans (hb.mono hB.size)) (hG' v w' hb hv) (hM' v)
    ·rename_i hw
     simp only [hw] at h2
     exact ⟨fun _ _=>trivial,wAI hND hS hL f _ _ _ _ (h1.2 undef (hok _ _ h2)) hB (hG' _ _ (Below.refl _ _) h2) (hM' _)⟩
theorem wIR {id:Nat} {Q:Exit→Act→World→Prop} {a:Act} {w:World} {l:List Oper} (m:Nat) (S:Nat→Spec) (hND:nD l=true) (hm:P.follows .mixedOrders=true) (hB:Region.lexTailB .any l.toArray m=true) (hS:∀ i,(S i).mono)
  (h:Tree P l.toArray S w (fun a' Γ => ∀ w',Below w.heap.size w w'→(∀ j,Γ j w')→wpListIn (Fence.wide.inRound lr) n P l.toArray Q (l.drop m) a' w') (l.take m) 0 a (fun _ _=>True)):(Code.region id l.toArray true).wpIn (Fence.wide.inRound lr) n P Q a w:=by
 simp only [Region.lexTailB,Bool.and_eq_true,decide_eq_true_eq] at hB
 obtain ⟨⟨⟨⟨Ab,hn⟩,hs⟩,hc⟩,Ad⟩:=hB
 have Ag:m < l.length:=by simpa using hn
 have Aa:(l.take m).length=m:=by simp;omega
 have Ae:(l.drop m).length=l.toArray.size - m:=by simp
 have Ac:HeadInv .any l.toArray m (Array.replicate l.toArray.size false):=
  ⟨by simp,fun j oj _ hl=>(by rw [getD_replicate_false] at hl;cases hl),fun t _ ht=>getD_in (by simpa using ht) (getD_replicate_false _ _)⟩
 have H:=aFl (g:=l.toArray.size - m) Ab hs hc hn (l.take m) 0 _ a (fun _ _=>True) (fun j hj=>by
  have Af:j < m:=by rw [Aa] at hj;exact hj
  simp [Af]) (by simpa using Aa) Ac (by rw [Aa];exact Ad) h
 refine wpIn_region_any hm ?_
 have:=wAI (n:=n) (Q:=Q) (g:=l.toArray.size - m) (by simpa using hND) hS (fun listed a' Γ' w' hL hb hG=>by
  have:=wAI4 (md:=.any) (F:=Fence.wide.inRound lr) (n:=n) (Q':=Q) (l.drop m) m listed a' w' (fun j=>by simp [List.getElem?_drop]) (by rw [Ae];exact hL.1) (hL.2 w' hb hG)
  rwa [Ae] at this) _ _ _ _ { w with drawn:=w.drawn + 1 } H ((Below.refl _ _).drew) (fun _=>trivial) (fun _ _ _ _ _=>trivial)
 rw [Aa,show m + (l.toArray.size - m)=l.toArray.size by omega] at this
 exact this
end
end Go.Flow
namespace Go.FlowR
open Go Go.RowKit
section
variable {R:Rel} {P:Program} {ops:Array Oper}
def SpU (ops:Array Oper) (S:Nat→Value→Spec) (σ:Nat→Nat):Prop:=∀ i oi,ops[i]? = some oi→(∀ k ok,ops[k]? = some ok→ok.dst=some (σ i)→dep oi k=true)∨∀ x y,S i x=S i y
theorem hSp_ne {k s:Nat} {oi ok:Oper} (hk:ops[k]? = some ok) (h:(∀ k ok,ops[k]? = some ok→ok.dst=some s→dep oi k=true)) (hd:dep oi k=true→False):ok.dst≠some s:=fun e=>hd (h k ok hk e)
theorem sp_putU {S:Nat→Value→Spec} {σ:Nat→Nat} (hS:SpU ops S σ) {i:Nat} {oi:Oper} (hi:ops[i]? = some oi) (a:Act) (dst:Option Tmp) (v:Value) (h:(∀ k ok,ops[k]? = some ok→ok.dst=some (σ i)→dep oi k=true)→dst≠some (σ i)):sp S σ i (a.put dst v)=sp S σ i a:=by
 rcases hS i oi hi with h1 | h1
 ·unfold sp
  have Ab:=h h1
  cases dst with
  | none=>rfl
  | some d=>
    have Aa:d≠σ i:=fun e=>Ab (by rw [e])
    congr 1
    simp [Act.put,Aa]
 ·exact h1 _ _
theorem specs_okU {n s:Nat} {f:Value→Spec} {l:List Spec} (h:(match ops[n]? with | some o=>(List.range ops.size).all (fun k=>match ops[k]? with | some ok => !(ok.dst == some s) || dep o k | none=>true) | none=>true)=true):SpU ops (sp3 n f l) (fun _=>s):=fun i oi hi=>by
 by_cases e:i=n
 ·subst e
  rw [hi] at h
  refine .inl fun k ok hk hd => ?_
  have:=List.all_eq_true.1 h k (List.mem_range.2 (Array.getElem?_eq_some_iff.1 hk).1)
  rw [hk] at this
  simpa [hd] using this
 ·exact .inr fun x y=>by unfold sp3;rw [if_neg e,if_neg e]
theorem aFf3 {S:Nat→Value→Spec} {σ:Nat→Nat} {w0:World} {n i:Nat} {oi:Oper} {L:Array Bool→Act→(Nat→World→Prop)→Prop} (hSp:SpU ops S σ) (hi:ops[i]? = some oi) (hsel:∀ (j:Nat) (o:Oper) cs b,ops[j]? = some o→o.op ≠ .select cs b)
  (hs:Region.sinkB .any ops n=true) (hc:Region.chainB .any ops n=true) (hn:n < ops.size) (hin:i < n)
  (hdone:∀ listed a Γ,L listed a Γ→∀ j ∈ Region.ready .any ops listed,n≤j) :
  ∀ (f:Nat) (listed:Array Bool) (a:Act) (Γ:Nat→World→Prop),HeadInv .any ops n listed →
    (∀ j oj,ops[j]? = some oj→j≠i→listed.getD j true=false→(∀ e ∈ oj.after,Region.binds .any e=true→e.on≠i)→oi.apart ops oj=true) →
    i ∈ Region.ready .any ops listed→Ru R P ops w0 oi (sp S σ i a) a Γ →
    (∀ v,(sp S σ i a).ok v→aF R P ops S σ w0 n L f (listed.setIfInBounds i true) (a.put oi.dst v) (upd Γ i ((sp S σ i a).holds v)))→aF R P ops S σ w0 n L (f + 1) listed a Γ:=by
 have An:∀ a,∃ v,(sp S σ i a).ok v:=fun a=>by
  cases hs:sp S σ i a with
  | inl u=>exact ⟨u,rfl⟩
  | inr V=>exact ⟨undef,trivial⟩
 intro f
 induction f with
 | zero=>
   intro listed a Γ Ai _ hr hy H
   obtain ⟨v0,Ak⟩:=An a
   have Ac:=(mem_ready.1 hr).1
   refine ⟨fun h=>(by rw [h] at hr;cases hr),fun j hj => ?_⟩
   have Aj:j < n:=by
    rcases Nat.lt_or_ge j n with h | h
    ·exact h
    ·exact absurd hj (tail_waits hs hc hn Ai _ i rfl hin Ac j h)
   refine ⟨Aj,?_⟩
   by_cases hji:j=i
   ·subst hji
    unfold fOp;simp only [hi];exact ⟨hy,H⟩
   ·have:=hdone _ _ _ (H v0 Ak) j (ready_mono hj hji)
    omega
 | succ f ih=>
   intro listed a Γ Ai Aa hr hy H
   obtain ⟨v0,Ak⟩:=An a
   have Ac:=(mem_ready.1 hr).1
   refine ⟨fun h=>(by rw [h] at hr;cases hr),fun j hj => ?_⟩
   have Aj:j < n:=by
    rcases Nat.lt_or_ge j n with h | h
    ·exact h
    ·exact absurd hj (tail_waits hs hc hn Ai _ i rfl hin Ac j h)
   refine ⟨Aj,?_⟩
   by_cases hji:j=i
   ·subst hji
    unfold fOp;simp only [hi];exact ⟨hy,H⟩
   ·obtain ⟨Af,oj,Ag,Al⟩:=mem_ready.1 hj
    have Am:∀ k,listed.getD k true=false→listed.getD k false=true→False:=fun k h1 h0=>by rw [getD_both h1] at h0;cases h0
    have Ad:∀ e ∈ oj.after,Region.binds .any e=true→e.on≠i:=fun e he hb heq=>Am i Ac (by rw [← heq];exact Al e he hb)
    have Ab:∀ e ∈ oi.after,Region.binds .any e=true→e.on≠j:=fun e he hb heq=>by
     obtain ⟨_,o',Ao,Ah⟩:=mem_ready.1 hr
     rw [hi] at Ao;cases Ao
     exact Am j Af (by rw [← heq];exact Ah e he hb)
    have Ap:=Aa j oj Ag hji Af Ad
    obtain ⟨h1,h2,h3⟩:=Oper.apart_spec Ap
    have Ae:∀ k ok,ops[k]? = some ok→k≠i→(listed.setIfInBounds j true).getD k true=false →
      (∀ e ∈ ok.after,Region.binds .any e=true→e.on≠i)→oi.apart ops ok=true:=fun k ok hk hki Ac hno=>by
     refine Aa k ok hk hki ?_ hno
     by_cases hjk:j=k
     ·subst hjk;exact Af
     ·rw [getD_set_ne true hjk] at Ac;exact Ac
    have ej:∀ v,sp S σ j (a.put oi.dst v)=sp S σ j a:=fun v=>sp_putU hSp Ag a oi.dst v (fun h=>hSp_ne hi h (fun hk=>nd2 Ad hk rfl))
    have ei:∀ u,sp S σ i (a.put oj.dst u)=sp S σ i a:=fun u=>sp_putU hSp hi a oj.dst u (fun h=>hSp_ne Ag h (fun hk=>nd2 Ab hk rfl))
    have Hj:∀ v,(sp S σ i a).ok v→Ru R P ops w0 oj (sp S σ j a) (a.put oi.dst v) (upd Γ i ((sp S σ i a).holds v))∧∀ u,(sp S σ j a).ok u →
      aF R P ops S σ w0 n L f ((listed.setIfInBounds i true).setIfInBounds j true) ((a.put oi.dst v).put oj.dst u) (upd (upd Γ i ((sp S σ i a).holds v)) j ((sp S σ j a).holds u)):=fun v hv=>by
     have:=((H v hv).2 j (ready_mono hj hji)).2
     unfold fOp at this
     simpa only [Ag,ej v] using this
    unfold fOp
    simp only [Ag]
    refine ⟨(Hj v0 Ak).1.of_same (execOp_put oj (fun cs b=>hsel j oj cs b Ag) a oi.dst v0 h1).symm (wanted_put oj a oi.dst v0 h1).symm (fun k hk => ?_),fun u hu => ?_⟩
    ·exact (upd_ne (nd2 Ad hk)).symm
    ·refine ih (listed.setIfInBounds j true) _ _ (Ai.set hj Aj) Ae (ready_mono hr (Ne.symm hji)) ?_ (fun v hv => ?_)
     ·rw [ei u]
      exact hy.of_same (execOp_put oi (fun cs b=>hsel i oi cs b hi) a oj.dst u h3) (wanted_put oi a oj.dst u h3) (fun k hk=>upd_ne (nd2 Ab hk))
     ·rw [ei u] at hv ⊢
      have:=(Hj v hv).2 u hu
      rw [Array.setIfInBounds_comm _ _ hji,← Act.put_comm a v u h2,← uc2 hji]
      exact this
theorem aFl4 {S:Nat→Value→Spec} {σ:Nat→Nat} {w0:World} {n g:Nat} {Lq:Act→(Nat→World→Prop)→Prop} (hSp:SpU ops S σ) (hsel:Region.noSelect ops=true) (hs:Region.sinkB .any ops n=true) (hc:Region.chainB .any ops n=true) (hn:n < ops.size) :
  ∀ (l:List Oper) (k:Nat) (listed:Array Bool) (a:Act) (Γ:Nat→World→Prop),(∀ j,j < l.length→l[j]? = ops[k + j]?)→k + l.length=n→HeadInv .any ops n listed →
  Region.lexHead .any ops g l.length k listed=true→Tree R P ops S σ w0 Lq l k a Γ →
  aF R P ops S σ w0 n (fun listed' a' Γ'=>Region.seqB .any ops g n listed'=true∧Lq a' Γ') l.length listed a Γ
 | [],k,listed,a,Γ,_,hk,_,hB,h=>by
   have:k=n:=by simpa using hk
   subst this
   exact ⟨by simpa [Region.lexHead] using hB,h⟩
 | o :: l,k,listed,a,Γ,hl,hk,inv,hB,h=>by
   have h0:ops[k]? = some o:=by simpa using (hl 0 (by simp)).symm
   simp only [List.length_cons,Region.lexHead,Bool.and_eq_true] at hB
   obtain ⟨⟨hr,hf⟩,Ac⟩:=hB
   have Aa:k < n:=by simp only [List.length_cons] at hk;omega
   have Ab:k ∈ Region.ready .any ops listed:=by simpa using hr
   exact aFf3 hSp h0 (Region.noSelect_spec hsel) hs hc hn Aa (fun listed' a' Γ' hL=>seqB_ready hL.1) l.length listed a Γ inv (Region.free_spec h0 hf) Ab h.1
    (fun v hv=>aFl4 hSp hsel hs hc hn l (k + 1) _ _ _ (fun j hj=>by have:=hl (j + 1) (by simp;omega);simpa [Nat.add_assoc,Nat.add_comm 1 j] using this) (by simp only [List.length_cons] at hk;omega) (inv.set Ab Aa) Ac (h.2 v hv))
end
end Go.FlowR
namespace Go.FlowE
open Go Go.RowKit Go.FlowP
def addE (k p:Nat) (l:List Oper):List Oper:=l.modify k fun o=>{ o with after:=o.after.push { on:=p,ground:=.data } }
section
variable {P:Program} {l:List Oper} {k p:Nat}
theorem aEa (j:Nat):(addE k p l)[j]? = if k=j then (l[j]?).map (fun o=>{ o with after:=o.after.push { on:=p,ground:=.data } }) else l[j]? := by
 unfold addE
 rw [List.getElem?_modify]
 by_cases h:k=j
 ·simp only [if_pos h]
  cases l[j]? <;> rfl
 ·simp only [if_neg h]
  cases l[j]? <;> rfl
theorem addE_len:(addE k p l).length=l.length:=by unfold addE;simp
theorem aEy (t:Array Value):yielded (addE k p l).toArray t=yielded l.toArray t:=by
 funext j
 unfold yielded
 simp only [List.getElem?_toArray,aEa]
 by_cases h:k=j
 ·simp only [if_pos h]
  cases l[j]? <;> rfl
 ·simp only [if_neg h]
theorem aEr {listed:Array Bool} (hp:listed.getD p false=true):Region.ready .any (addE k p l).toArray listed=Region.ready .any l.toArray listed:=by
 unfold Region.ready
 simp only [List.size_toArray,addE_len]
 refine List.filter_congr fun i _ => ?_
 simp only [List.getElem?_toArray,aEa]
 by_cases h:k=i
 ·simp only [if_pos h]
  cases l[i]? with
  | none=>rfl
  | some o=>simp only [Option.map_some,Option.getD_some,Array.all_push,hp,Bool.or_true,Bool.and_true]
 ·simp only [if_neg h]
theorem addE_wpOp {Q:Exit→Act→World→Prop} {i:Nat} {K:Act→World→Prop} {a:Act} {w:World}:wpOp P (addE k p l).toArray Q i K a w=wpOp P l.toArray Q i K a w:=by
 unfold wpOp
 simp only [List.getElem?_toArray,aEa,aEy]
 by_cases h:k=i
 ·simp only [if_pos h]
  cases l[i]? <;> rfl
 ·simp only [if_neg h]
theorem aEw {Q:Exit→Act→World→Prop}:∀ (f:Nat) (listed:Array Bool) (a:Act) (w:World),listed.getD p false=true→wpAny P .any (addE k p l).toArray Q f listed a w→wpAny P .any l.toArray Q f listed a w
 | 0,listed,a,w,hp,h=>by
   unfold wpAny at h ⊢
   rw [aEr hp] at h
   exact h
 | f + 1,listed,a,w,hp,h=>by
   unfold wpAny at h ⊢
   rw [aEr hp] at h
   refine ⟨h.1,fun i hi => ?_⟩
   have h1:=h.2 i hi
   rw [addE_wpOp] at h1
   refine wpOp_mono (fun a' w' h'=>aEw f _ a' w' ?_ h') h1
   exact getD_set_true hp
end
variable {P:Program} {R:FlowR.Rel}
theorem wp_region {id:Nat} {Q:Exit→Act→World→Prop} {a:Act} {w:World} {l:List Oper} (n k p:Nat) {op:Oper} {v:Value} (S:Nat→Value→FlowR.Spec) (σ:Nat→Nat) (hSp:FlowR.SpU (addE k p l).toArray S σ) (hm:P.follows .mixedOrders=true) (hB:Region.lexTailB .any (addE k p l).toArray n=true) (hS:∀ i x,FlowR.Spec.mono R (S i x))
  (ho:l[p]? = some op) (hok:(Region.noSelect l.toArray && pO l.toArray [p] (Array.replicate l.length false) && (Region.ready .any (addE k p l).toArray (Array.replicate l.length false)).contains p && decide (p < l.length))=true) (hkp:k≠p) (hwa:Region.wanted op (yielded l.toArray a.tmps)=true) (hv:∀ w,(execOp a.eval op).run P w = .ok (.value v) w)
  (h:FlowR.Tree R P (addE k p l).toArray S σ w (fun a' Γ => ∀ w',R.r w w'→(∀ j,Γ j w')→wpList P (addE k p l).toArray (Qn (Q .normal)) ((addE k p l).drop n) a' w') ((addE k p l).take n) 0 a (fun _ _=>True)):(Code.region id l.toArray true).wp P Q a w:=by
 refine wp_region_any hm (wAw _ _ _ _ ?_)
 simp only [Bool.and_eq_true,decide_eq_true_eq] at hok
 obtain ⟨⟨⟨Aa,Ai⟩,Ak⟩,Aq⟩:=hok
 obtain ⟨l2,Ab⟩:∃ l2,l2=addE k p l:=⟨_,rfl⟩
 have Af:l2.length=l.length:=by rw [Ab];exact addE_len
 rw [← Ab] at hSp hB h Ak
 simp only [Region.lexTailB,Bool.and_eq_true,decide_eq_true_eq] at hB
 obtain ⟨⟨⟨⟨Ae,hn⟩,hs⟩,hc⟩,Ad⟩:=hB
 have Ap:n < l2.length:=by simpa using hn
 have Ac:(l2.take n).length=n:=by simp;omega
 have Aj:(l2.drop n).length=l2.toArray.size - n:=by simp
 have Ag:HeadInv .any l2.toArray n (Array.replicate l2.toArray.size false):=
  ⟨by simp,fun j oj _ hl=>(by rw [getD_replicate_false] at hl;cases hl),fun t _ ht=>getD_in (by simpa using ht) (getD_replicate_false _ _)⟩
 have H:=FlowR.aFl4 (g:=l2.toArray.size - n) hSp Ae hs hc hn (l2.take n) 0 _ a (fun _ _=>True) (fun j hj=>by
  have Am:j < n:=by rw [Ac] at hj;exact hj
  simp [Am]) (by simpa using Ac) Ag (by rw [Ac];exact Ad) h
 have H2:=FlowR.wAo (Q:=Qn (Q .normal)) (g:=l2.toArray.size - n) hS (fun listed a' Γ' w' hL hb hG=>by
  have:=wpAny_of_seq (md:=.any) (Q':=Qn (Q .normal)) (l2.drop n) n listed a' w' (fun j=>by simp [List.getElem?_drop]) (by rw [Aj];exact hL.1) (hL.2 w' hb hG)
  rwa [Aj] at this) _ _ _ _ { w with drawn:=w.drawn + 1 } H (R.drew _) (fun _=>trivial) (fun _ _ _ _ _=>trivial)
 rw [Ac,show n + (l2.toArray.size - n)=l.length by simp;omega] at H2
 simp only [List.size_toArray,Af] at H2 ⊢
 obtain ⟨N,hN⟩:∃ N,l.length=N + 1:=⟨l.length - 1,by omega⟩
 have An:l2.toArray[p]? = some op:=by rw [List.getElem?_toArray,Ab,aEa,if_neg hkp];exact ho
 have Al:∀ t,yielded l2.toArray t=yielded l.toArray t:=fun t=>by rw [Ab];exact aEy t
 have H3:wpAny P .any l.toArray (Qn (Q .normal)) N ((Array.replicate (N + 1) false).setIfInBounds p true) (a.put op.dst v) { w with drawn:=w.drawn + 1 }:=by
  rw [hN] at H2
  have h3:=H2.2 p (by rw [← hN];simpa using Ak)
  unfold wpOp at h3
  simp only [An,Al,hwa,if_true] at h3
  rcases h3 with h3 | h3
  ·unfold Oper.wp at h3
   rw [hv] at h3
   rw [Ab] at h3
   refine aEw _ _ _ _ ?_ h3
   have Ao:p < N + 1:=by omega
   simp [Ao]
  ·exact (nl2 _ h3.2).elim
 have Ah:=Ai
 simp only [pO,Bool.and_eq_true] at Ah
 have H4:=wAp (P:=P) (E:=Q .normal) (fuel:=N) (w:={ w with drawn:=w.drawn + 1 }) Aa [p] (Array.replicate l.length false) a Ai ⟨op,v,by rw [List.getElem?_toArray];exact ho,hwa,hv,by
  show wpAny P .any l.toArray (Qn (Q .normal)) N ((Array.replicate l.length false).setIfInBounds p true) _ _
  rw [hN];exact H3⟩
 rw [hN]
 rw [hN] at H4
 exact H4
end Go.FlowE
