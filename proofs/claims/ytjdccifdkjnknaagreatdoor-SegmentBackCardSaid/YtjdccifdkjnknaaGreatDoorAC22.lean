/- Joined by mergeK.py: D33, D34, U2, U4, T2, T3, T4, U5, U10 -/
import Derived.Test.YtjdccifdkjnknaaGreatDoorAC15
import Derived.Sort.OwnSorted
import Derived.Lib.OwnBridge
import Derived.Laws.CopyOwn
import Derived.Test.YtjdccifdkjnknaaGreatDoorAC21
import Derived.Test.YtjdccifdkjnknaaGreatDoorAC03
import Derived.Test.YtjdccifdkjnknaaGreatDoorAC16
import Derived.Test.YtjdccifdkjnknaaGreatDoorRows
import Derived.Test.YtjdccifdkjnknaaGreatDoorAC00
import Derived.Test.YtjdccifdkjnknaaGreatDoorAC14
import Derived.Test.YtjdccifdkjnknaaGreatDoorAC13
import Derived.Shelf.Sort.Plain
namespace Go.Proofs
open Go.Shelf
def Tryz.lays190_ren:Go.Shelf.Ren:=⟨fun | 190=>158 | 125=>163 | 258=>200 | 128=>203 | 129=>204 | 302=>218 | 303=>219 | 304=>220 | 305=>221 | 306=>222 | 307=>223 | 308=>205 | 309=>224 | 310=>225 | 333=>233 | 329=>234 | 330=>235 | 334=>236 | 335=>237 | 336=>226 | 344=>240 | n=>n,fun | 31=>22 | 9=>9 | 3=>3 | 46=>161 | 0=>0 | 51=>119 | 53=>92 | 4=>4 | 183=>286 | 182=>285 | 131=>142 | 5=>5 | 218=>301 | 222=>304 | 228=>311 | 229=>312 | n=>n,fun | n=>n⟩
theorem Tryz.lays190:Go.Proofs.Lays.n190 Tryz.prog Tryz.lays190_ren:={
 mixed:=by kernel_rfl
 f125:=Tryz.func163.trans (congrArg some (by kernel_rfl))
 f128:=Tryz.func203.trans (congrArg some (by kernel_rfl))
 f129:=Tryz.func204.trans (congrArg some (by kernel_rfl))
 f190:=Tryz.func158.trans (congrArg some (by kernel_rfl))
 f258:=Tryz.func200.trans (congrArg some (by kernel_rfl))
 f302:=Tryz.func218.trans (congrArg some (by kernel_rfl))
 f303:=Tryz.func219.trans (congrArg some (by kernel_rfl))
 f304:=Tryz.func220.trans (congrArg some (by kernel_rfl))
 f305:=Tryz.func221.trans (congrArg some (by kernel_rfl))
 f306:=Tryz.func222.trans (congrArg some (by kernel_rfl))
 f307:=Tryz.func223.trans (congrArg some (by kernel_rfl))
 f308:=Tryz.func205.trans (congrArg some (by kernel_rfl))
 f309:=Tryz.func224.trans (congrArg some (by kernel_rfl))
 f310:=Tryz.func225.trans (congrArg some (by kernel_rfl))
 f329:=Tryz.func234.trans (congrArg some (by kernel_rfl))
 f330:=Tryz.func235.trans (congrArg some (by kernel_rfl))
 f333:=Tryz.func233.trans (congrArg some (by kernel_rfl))
 f334:=Tryz.func236.trans (congrArg some (by kernel_rfl))
 f335:=Tryz.func237.trans (congrArg some (by kernel_rfl))
 f336:=Tryz.func226.trans (congrArg some (by kernel_rfl))
 f344:=Tryz.func240.trans (congrArg some (by kernel_rfl))
 t0:=Tryz.underlying0
 a0:=Tryz.isAgg0
 z0:=Tryz.sizeOf0
 v0:=Tryz.zeroValue0
 t3:=Tryz.underlying3
 a3:=Tryz.isAgg3
 z3:=Tryz.sizeOf3
 v3:=Tryz.zeroValue3
 t4:=Tryz.underlying4
 a4:=Tryz.isAgg4
 z4:=Tryz.sizeOf4
 v4:=Tryz.zeroValue4
 t5:=Tryz.underlying5
 a5:=Tryz.isAgg5
 z5:=Tryz.sizeOf5
 v5:=Tryz.zeroValue5
 t9:=Tryz.underlying9
 a9:=Tryz.isAgg9
 z9:=Tryz.sizeOf9
 v9:=Tryz.zeroValue9
 t31:=Tryz.underlying22
 a31:=Tryz.isAgg22
 z31:=Tryz.sizeOf22
 v31:=Tryz.zeroValue22
 t46:=Tryz.underlying161
 a46:=Tryz.isAgg161
 z46:=Tryz.sizeOf161
 v46:=Tryz.zeroValue161
 t51:=Tryz.underlying119
 a51:=Tryz.isAgg119
 z51:=Tryz.sizeOf119
 v51:=Tryz.zeroValue119
 t53:=Tryz.underlying92
 a53:=Tryz.isAgg92
 z53:=Tryz.sizeOf92
 v53:=Tryz.zeroValue92
 t131:=Tryz.underlying142
 a131:=Tryz.isAgg142
 z131:=Tryz.sizeOf142
 v131:=Tryz.zeroValue142
 t182:=Tryz.underlying285
 a182:=Tryz.isAgg285
 z182:=Tryz.sizeOf285
 v182:=Tryz.zeroValue285
 t183:=Tryz.underlying286
 a183:=Tryz.isAgg286
 z183:=Tryz.sizeOf286
 v183:=Tryz.zeroValue286
 t218:=Tryz.underlying301
 a218:=Tryz.isAgg301
 z218:=Tryz.sizeOf301
 v218:=Tryz.zeroValue301
 t222:=Tryz.underlying304
 a222:=Tryz.isAgg304
 z222:=Tryz.sizeOf304
 v222:=Tryz.zeroValue304
 t228:=Tryz.underlying311
 a228:=Tryz.isAgg311
 z228:=Tryz.sizeOf311
 v228:=Tryz.zeroValue311
 t229:=Tryz.underlying312
 a229:=Tryz.isAgg312
 z229:=Tryz.sizeOf312
 v229:=Tryz.zeroValue312 }
open Go.Sort Go.RowKit in
theorem Tryz.slices_Sort_string (blk off cap:Nat) (ss:List (List UInt8)) (w:World) (hH:Holds encStr w blk off ss.toArray) (hblk:blk < w.heap.size) (hsz:ss.length < 4611686018427387904) :
  Calls Tryz.prog 158 #[.slice (some ⟨blk,off,none⟩) ss.length cap] w fun e w'=>
   e = .returned (.tuple #[])∧∃ n os,w'=grow (putRow encStr (Sort.ahead w n) blk off (ss.mergeSort fun x y=>decide (x≤y)).toArray) os:=Any.slices_Sort_string Tryz.lays190 blk off cap ss w hH hblk hsz
end Go.Proofs
namespace Go.Proofs.YtjdccifdkjnknaaGreatDoor
open Go.RowKit Go.Sort Go.Shelf
def BP (l:List ByteArray) (w:World) (e:Ending) (w':World):Prop:=∃ v,e = .returned (.tuple #[v,.int .i64 ((Tess.bW l).2:Nat)])∧SlOf w' v ((Tess.bW l).1.map .string)∧Below w.heap.size w w'
theorem d_addr_add (g m j:Nat):(⟨g,m,none⟩:Addr).add j=⟨g,m + j,none⟩:=by
 unfold Addr.add
 first | rfl | (split <;> simp_all)
end Go.Proofs.YtjdccifdkjnknaaGreatDoor
namespace Go.Proofs.YtjdccifdkjnknaaGreatDoor
open Go.RowKit Go.Sort Go.Shelf
theorem sort_own (base g cap:Nat) (ss:List (List UInt8)) (w:World) (h:w.ownsRow base 9 1 (.slice (some ⟨g,0,none⟩) ss.length cap) ss.length (ss.map encStr)) (hsz:ss.length < 4611686018427387904) :
  Calls Tryz.prog 158 #[.slice (some ⟨g,0,none⟩) ss.length cap] w fun e w'=>e = .returned (.tuple #[])∧w'.ownsRow base 9 1 (.slice (some ⟨g,0,none⟩) ss.length cap) ss.length ((ss.mergeSort fun x y=>decide (x≤y)).map encStr)∧Below base w w':=by
 obtain ⟨_,⟨hv,_⟩ | ⟨g',Ab,Ac,hv,Aa,hb,h1,h2,h3,h4⟩⟩:=h
 ·cases hv
 ·cases hv
  refine (Tryz.slices_Sort_string g 0 cap ss w (holds_of_block hb (by simpa using h4)) (Array.getElem?_eq_some_iff.1 hb).1 hsz).mono ?_
  rintro e w' ⟨rfl,n,os,rfl⟩
  exact ⟨rfl,ownsRow_sorted (by simp) Aa hb h1 h2 h3,(Below.refl _ _).grown (grownBy_sorted _) (Nat.le_trans Aa (Nat.le_of_lt (Array.getElem?_eq_some_iff.1 hb).1)) (fun k e=>by cases e;exact Aa)⟩
theorem compact_own (base g cap:Nat) (ss:List (List UInt8)) (w:World) (h:w.ownsRow base 9 1 (.slice (some ⟨g,0,none⟩) ss.length cap) ss.length (ss.map encStr)) (hsz:ss.length≤9223372036854775807) :
  Calls Tryz.prog 159 #[.slice (some ⟨g,0,none⟩) ss.length cap] w fun e w'=>e = .returned (.slice (some ⟨g,0,none⟩) (Lib.compact ss).length cap)∧w'.ownsRow base 9 1 (.slice (some ⟨g,0,none⟩) (Lib.compact ss).length cap) (Lib.compact ss).length ((Lib.compact ss).map encStr)∧Below base w w':=by
 have h0:=h
 obtain ⟨g',Ab,hv,Aa,Ad,hn,hm,hl,hH⟩:=Lib.holds_of_ownsRow h (by intro e;cases e)
 cases hv
 refine (Tryz.slices_Compact_string g 0 cap ss w hH hsz hn).mono ?_
 rintro e w' ⟨rfl,q,rfl⟩
 have Ac:=Lib.compact_length_le ss
 have h5:=Lib.ownsRow_putRow (q:=q) (k:=(Lib.compact ss).length) (ys:=Lib.compact ss ++ List.replicate (ss.length - (Lib.compact ss).length) []) h0 (by simp;omega) Ac
 rw [List.take_left] at h5
 exact ⟨rfl,h5,Lib.below_putRow (Below.refl _ _) Aa⟩
theorem enc_bytes (l:List ByteArray):(Tess.bytesOf l).map encStr=l.map .string:=Lib.map_encStr l
theorem enc_back (l:List (List UInt8)):(l.map fun b=>(⟨b.toArray⟩:ByteArray)).map Value.string=l.map encStr:=by rw [List.map_map];rfl
set_option maxRecDepth 100000 in
set_option maxHeartbeats 4000000 in
theorem build_any (v:Value) (l:List ByteArray) (w:World) (hv:SlOf w v (l.map .string)) (hll:l.length≤10000):Calls Tryz.prog 119 #[v] w (BP l w):=by
 obtain ⟨i0,hi,Bd,Ax,Bi⟩:=info_parts diS
 have Ae:=Hd (dcl v l w hv)
 obtain ⟨a,Bo,rfl,Bk,hc⟩:=so2 hv
 have HV:=Hd hv
 clear hc hv
 unfold BP
 go_enter Tryz.func119,Tryz.ntmps119
 go_wp2
 refine wsf 0 rfl ?_
 by_cases hlong:l.any Tess.diL=true
 ·rw [hlong] at Ae
  go_wp2_with (go_at_call 156;refine Ae.out.mono ?_;rintro e w2 ⟨rfl,hB⟩;have HB:=Hd hB;clear hB)
  go_step3
  refine Exit.tg2 (Exit.fg2 ?_)
  go_wp2
  rw [Exit.noGoto_ret]
  go_ret2
  have e:Tess.bW l=([],50):=by unfold Tess.bW;rw [if_pos hlong]
  rw [e]
  exact ⟨_,rfl,SlOf.nil _,HB.out⟩
 ·have A8:l.any Tess.diL=false:=by simpa using hlong
  rw [A8] at Ae
  have Ar:(Tryz.prog.info? 9).map (·.size)=some 1:=by rw [hi];simp [Ax]
  have Am:i0.bytes * l.length≤281474976710656:=by rw [Bi];omega
  have At:l.length≤maxLen:=by unfold maxLen;omega
  obtain ⟨cs,Aj⟩:∃ cs,cs=l.map Value.string:=⟨_,rfl⟩
  have Ah:cs.length=l.length:=by rw [Aj,List.length_map]
  have An:=Hd Aj
  have Ai:∀ v ∈ cs,v.oneCell'=true:=by rw [Aj];intro v hv;obtain ⟨x,_,rfl⟩:=List.mem_map.1 hv;rfl
  have Af:=Hd Ai
  clear Aj Ai
  go_wp2_with (first
   | (go_at_call 156;refine Ae.out.mono ?_;rintro e w2 ⟨rfl,hB⟩;have HB:=Hd hB;have A5:=Hd (HV.out.below hB);clear hB)
   | (refine wpList_make_row (.tmp 8) (.tmp 8) 22 rfl 9 i0 (.string ByteArray.empty) Tryz.underlying22 hi Bd Ax rfl .i64 .i64 l.length rfl rfl Am At ?_))
  intro w3 Ap Bc Aa
  have Ag:=A5.out.below Ap
  have Ad:=Bt HB.out Ap
  have A7:w.heap.size≤w2.heap.size:=HB.out.size
  have A1:=Hd (show w3.heap[w2.heap.size]? = some (.cells (List.replicate l.length (Value.string ByteArray.empty)).toArray 9 (0,0)) by rw [Aa];simp)
  generalize w2.heap.size=g at *
  have Ba:=Hd Ad
  have A2:=Hd Ag
  clear HB A5 Aa Ag Ad Ap
  go_wp2_with (refine wpList_copy_splice rfl (.tmp 10) (.tmp 11) 22 22 rfl 9 Tryz.underlying22 Ar _ _ _ _ _ _ rfl rfl g 0 _ _ A1.out cs ?_ ?_ ?_ Af.out w.heap.size w Ba.out A7 ?_)
  ·simpa using Ah
  ·intro Be
   obtain ⟨a',Bm,Bj,_,A0⟩:=so2 A2.out
   obtain ⟨b,Bl,ha,_,_⟩:=A0 0 (by omega)
   cases Bj
   try refine ⟨rfl,?_⟩
   refine ⟨⟨b,Bl,none⟩,ha,fun j v hj => ?_⟩
   rw [An.out] at hj
   obtain ⟨Bg,rfl⟩:=List.getElem?_eq_some_iff.1 hj
   obtain ⟨b',Bh,Av,_,Ac⟩:=A0 j (by simpa using Bg)
   rw [ha] at Av
   cases Av
   rw [d_addr_add,Ac]
   simp
  ·simp;omega
  intro w4 A3 A4
  have Aq:splice (List.replicate l.length (Value.string ByteArray.empty)) 0 cs=(Tess.bytesOf l).map encStr:=by
   rw [enc_bytes,← An.out]
   unfold splice
   simp;omega
  have Ab:w4.ownsRow w.heap.size 9 1 (.slice (some ⟨g,0,none⟩) (Tess.bytesOf l).length l.length) (Tess.bytesOf l).length ((Tess.bytesOf l).map encStr):=by
   have Bf:(Tess.bytesOf l).length=l.length:=by unfold Tess.bytesOf;simp
   refine ⟨by simp,.inr ⟨g,l.length,_,rfl,A7,A3.out,by omega,At,?_,?_⟩⟩
   ·rw [Aq];simp [Bf]
   ·rw [Aq,Nat.mul_one];exact List.take_of_length_le (by simp)
  have Ay:(Tess.bytesOf l).length=l.length:=by unfold Tess.bytesOf;simp
  have Al:=sort_own w.heap.size g l.length (Tess.bytesOf l) w4 Ab (by rw [Ay];omega)
  rw [Ay] at Al
  have A9:∀ W:World,W.ownsRow w.heap.size 9 1 (.slice (some ⟨g,0,none⟩) l.length l.length) l.length ((Tess.sB3 l).map encStr) →
    Calls Tryz.prog 159 #[.slice (some ⟨g,0,none⟩) l.length l.length] W fun e w'=>e = .returned (.slice (some ⟨g,0,none⟩) (Tess.sW2 l).length l.length)∧SlOf w' (.slice (some ⟨g,0,none⟩) (Tess.sW2 l).length l.length) ((Tess.sW2 l).map .string)∧Below w.heap.size W w':=fun W hW=>by
   have h:=compact_own w.heap.size g l.length (Tess.sB3 l) W (by rw [Tess.sBl];exact hW) (by rw [Tess.sBl];omega)
   rw [Tess.sBl,Tess.sWl] at h
   refine h.mono ?_
   rintro e w' ⟨he,ho,hb⟩
   refine ⟨he,?_,hb⟩
   have hs:=SlOf.owned ho
   rw [← enc_back] at hs
   exact hs
  have Bn:(Tess.sW2 l).length≤l.length:=by
   rw [← Tess.sWl,← Tess.sBl];exact Lib.compact_length_le _
  have HD:=Hd (show Tess.bW l=if 1000 < (Tess.sW2 l).length then ([],50) else (Tess.sW2 l,0) by
   rw [← Tess.bs4];unfold Tess.bW;rw [if_neg hlong])
  have A6:=Hd (show Calls Tryz.prog 158 #[.slice (some ⟨g,0,none⟩) l.length l.length] w4 fun e w'=>e = .returned (.tuple #[])∧w'.ownsRow w.heap.size 9 1 (.slice (some ⟨g,0,none⟩) l.length l.length) l.length ((Tess.sB3 l).map encStr)∧Below w.heap.size w4 w' from Al)
  have Az:=Hd A9
  have Au:=Hd A4
  clear Al A9 Ab A3 A4 Aq A1 Ba A2 An Af Ae HV hlong A8 Ah
  generalize Tess.sW2 l=sl at *
  by_cases h1000:1000 < sl.length
  ·have Bb:¬ (sl.length:Int)≤1000:=by omega
   rw [if_pos h1000] at HD
   go_wp2_with (first
    | (go_at_call 158;refine A6.out.mono ?_;rintro e w5 ⟨rfl,hO,hB⟩;have As:=Hd (Au.out.trans hB);have Ak:=Hd hO;clear hB hO)
    | (go_at_call 159;refine (Az.out _ Ak.out).mono ?_;rintro e w6 ⟨rfl,hS,hB⟩;have Ao:=Hd (As.out.trans hB);have Aw:=Hd hS;clear hB hS))
   refine wp_label ?_
   go_wp2
   rw [Exit.fr2]
   go_ret2
   rw [HD.out]
   exact ⟨_,rfl,SlOf.nil _,Ao.out⟩
  ·have Bb:(sl.length:Int)≤1000:=by omega
   rw [if_neg h1000] at HD
   go_wp2_with (first
    | (go_at_call 158;refine A6.out.mono ?_;rintro e w5 ⟨rfl,hO,hB⟩;have As:=Hd (Au.out.trans hB);have Ak:=Hd hO;clear hB hO)
    | (go_at_call 159;refine (Az.out _ Ak.out).mono ?_;rintro e w6 ⟨rfl,hS,hB⟩;have Ao:=Hd (As.out.trans hB);have Aw:=Hd hS;clear hB hS))
   rw [Exit.fr2]
   go_ret2
   rw [HD.out]
   exact ⟨_,rfl,Aw.out,Ao.out⟩
end Go.Proofs.YtjdccifdkjnknaaGreatDoor
namespace Tess
open Go
theorem bWs (l:List ByteArray) (h:∀ x ∈ l,x.size≤100) (hl:l.length≤1000):bW l=(sW2 l,0):=by
 rw [buildW_ok l fun j hj=>h _ (List.getElem_mem hj),bs4,if_neg (by have:=sWf l;omega)]
theorem dWt (C:List (CK×Pay)) (i k:Nat) (hk:k < C.length):dW (C.take (k + 1)) i=dW (C.take k) i ++ (match C[k].1.2.getD i none with | some b=>[b] | none=>[]):=by
 unfold dW
 rw [List.take_succ_eq_append_getElem hk,List.filterMap_append]
 cases h:C[k].1.2.getD i none <;> simp only [List.filterMap_cons,List.filterMap_nil,h]
end Tess
namespace Go.Proofs.YtjdccifdkjnknaaGreatDoor
open Go.RowKit Go.Sort
open Tess (CK Pay)
theorem ss5 {W:World} {b o:Nat} {cs:Array Value} {t:TypeId} {f:Nat×Nat} {v:Value} (h:W.heap[b]? = some (.cells cs t f)) (hv:cs[o]? = some v):W.setCell ⟨b,o,none⟩ v=W:=by
 have e:(W.setCell ⟨b,o,none⟩ v).heap=W.heap:=by
  apply Array.ext_getElem?
  intro k
  simp only [World.setCell,Array.getElem?_modify]
  by_cases hk:b=k
  ·subst hk
   rw [if_pos rfl,h]
   simp only [Option.map_some,Option.isSome_none]
   congr 2
   apply Array.ext_getElem?
   intro j
   rw [if_neg (by simp),Array.getElem?_setIfInBounds]
   split
   ·rename_i hj
    subst hj
    split
    ·exact hv.symm
    ·rename_i hn;exact absurd (Array.getElem?_eq_some_iff.1 hv).1 hn
   ·rfl
  ·rw [if_neg hk]
 cases W
 simp only [World.setCell] at e ⊢
 rw [e]
theorem CA2.opened {p:Nat→Prop} {w:World} {v:Value} {C:List (CK×Pay)} (h:CA2 p w v C):∃ a cap,v = .slice a C.length cap∧C.length≤9223372036854775807 ∧
  ∀ W,Below w.heap.size w W→∀ k,(hk:k < C.length)→∃ b off ad cd a3 c3 a4 c4 a5 c5,a=some ⟨b,off,none⟩∧b < W.heap.size∧(W.cell? ⟨b,off + k * 6,none⟩=some (.int .i64 C[k].1.1)∧W.cell? ⟨b,off + k * 6 + 1,none⟩=some (.slice ad C[k].1.2.length cd)∧W.cell? ⟨b,off + k * 6 + 2,none⟩=some (.int .i64 C[k].2.n)∧W.cell? ⟨b,off + k * 6 + 3,none⟩=some (.slice a3 C[k].2.sums.length c3)∧W.cell? ⟨b,off + k * 6 + 4,none⟩=some (.slice a4 C[k].2.mins.length c4)∧W.cell? ⟨b,off + k * 6 + 5,none⟩=some (.slice a5 C[k].2.maxs.length c5)) ∧
    VC W ad (C[k].1.2.map Tess.valOf)∧PayAt p W (.slice a3 C[k].2.sums.length c3) (.slice a4 C[k].2.mins.length c4) (.slice a5 C[k].2.maxs.length c5) C[k].2:=by
 obtain ⟨a,cap,rfl,_,hl,_,hc⟩:=LA.open h
 refine ⟨a,cap,rfl,by unfold maxLen at hl;omega,fun W hW k hk => ?_⟩
 obtain ⟨b,off,ha,hb,_,cs,_,hR,Aa⟩:=hc k hk
 obtain ⟨ad,cd,a3,c3,a4,c4,a5,c5,rfl,Ac⟩:=hR.shapes
 obtain ⟨_,_,_,_,e,_,hp⟩:=hR.ag (Ag.new p hW)
 simp only [List.cons.injEq,and_true,true_and] at e
 obtain ⟨rfl,rfl,rfl,rfl⟩:=e
 have Ab:∀ i,W.cell? ⟨b,off + k * 6 + i,none⟩=w.cell? ⟨b,off + k * 6 + i,none⟩:=fun i=>hW.cell (p:=⟨b,off + k * 6 + i,none⟩) hb
 exact ⟨b,off,ad,cd,a3,c3,a4,c4,a5,c5,ha,Nat.lt_of_lt_of_le hb hW.size,⟨(Ab 0).trans (Aa 0 (by omega)),(Ab 1).trans (Aa 1 (by omega)),(Ab 2).trans (Aa 2 (by omega)),(Ab 3).trans (Aa 3 (by omega)),(Ab 4).trans (Aa 4 (by omega)),(Ab 5).trans (Aa 5 (by omega))⟩,Ac.below hW,hp⟩
set_option maxRecDepth 100000 in
set_option maxHeartbeats 4000000 in
theorem words_any (p:Nat→Prop) (vl:Value) (C:List (CK×Pay)) (i:Nat) (w:World) (hv:CA2 p w vl C) (hi:∀ x ∈ C,i < x.1.2.length) (hC:C.length≤1000) (hs:∀ x ∈ Tess.dW C i,x.size≤100) :
  Calls Tryz.prog 69 #[vl,.int .i64 i] w fun e w' => ∃ v,e = .returned v∧SlOf w' v ((Tess.dO C i).map .string)∧Below w.heap.size w w':=by
 obtain ⟨a,A2,rfl,hl,hc⟩:=hv.opened
 have HC:=Hd hc
 have HI:=Hd hi
 have HS:=Hd hs
 obtain ⟨i0,Ay,As,At,Ax⟩:=info_parts diS
 clear hc hv hi hs
 go_enter Tryz.func69,Tryz.ntmps69
 go_wp2
 go_loopw [5,13] (fun v j wr => ∃ k:Nat,k≤C.length∧j = .int .i64 k∧wr.ownsRow w.heap.size 9 1 v (Tess.dW (C.take k) i).length ((Tess.dW (C.take k) i).map .string)∧Below w.heap.size w wr) (fun _ j _=>C.length - (intOf j).toNat)
 case atStart=>exact ⟨0,Nat.zero_le _,rfl,World.ownsRow_nil _ _ _ _,Below.refl _ _⟩
 case round=>
  obtain ⟨k,hk,rfl,Af,hB⟩:=hrel
  have HO:=Hd Af
  have HB:=Hd hB
  clear Af
  by_cases hlt:k < C.length
  ·obtain ⟨b,A4,ad,cd,a3,c3,a4,c4,a5,c5,rfl,hb,⟨q0,q1,q2,q3,q4,q5⟩,Al,_⟩:=HC.out wr hB k hlt
   have Ar:(k:Int) < (C.length:Int):=by omega
   have HM:=Hd (show C[k] ∈ C from List.getElem_mem hlt)
   have Ah:=HI.out _ HM.out
   have HW:=Hd (Tess.dWt C i k hlt)
   generalize C[k]=x at *
   obtain ⟨⟨t,l⟩,P⟩:=x
   dsimp only at q0 q1 q2 q3 q4 q5 Al Ah HW
   obtain ⟨b2,Ab,rfl,Am,e0,e1⟩:=Al i (by simpa using Ah)
   rw [List.getElem_map] at e0 e1
   have An:l.getD i none=l[i]:=by rw [List.getD_eq_getElem?_getD,List.getElem?_eq_getElem Ah];rfl
   rw [An] at HW
   have Av:(i:Int) < (l.length:Int):=by omega
   generalize l[i]=d at *
   obtain ⟨W3,Au⟩:∃ W3,wr.alloc (.cells #[.int .i64 t,.slice (some ⟨b2,Ab,none⟩) l.length cd,.int .i64 P.n,.slice a3 P.sums.length c3,.slice a4 P.mins.length c4,.slice a5 P.maxs.length c5] 56)=W3:=⟨_,rfl⟩
   obtain ⟨k1,kS,kB⟩:=la2 wr (.cells #[.int .i64 t,.slice (some ⟨b2,Ab,none⟩) l.length cd,.int .i64 P.n,.slice a3 P.sums.length c3,.slice a4 P.mins.length c4,.slice a5 P.maxs.length c5] 56)
   rw [Au] at k1 kS kB
   obtain ⟨⟨r0,r1,r2,r3,r4,r5⟩,_⟩:=can6 k1
   have f0:=(kB.cell (p:=⟨b2,Ab + i * 2,none⟩) Am).trans e0
   have f1:=(kB.cell (p:=⟨b2,Ab + i * 2 + 1,none⟩) Am).trans e1
   have Aj:=Hd kB
   have A3:=Hd kS
   clear Al Ah An e0 e1 kS k1 kB hb hB Am
   cases d with
   | none=>
     obtain ⟨W4,Ak⟩:∃ W4,W3.alloc (.cells #[.string ByteArray.empty,.bool true] 47)=W4:=⟨_,rfl⟩
     obtain ⟨k4,Ag,Ac⟩:=la2 W3 (.cells #[.string ByteArray.empty,.bool true] 47)
     rw [Ak] at k4 Ag Ac
     obtain ⟨⟨y0,y1⟩,_⟩:=can2 k4
     have Ae:=Hd (Bt HB.out (Bt Aj.out Ac))
     have Ai:=Hd (ob2 HO.out (Bt Aj.out Ac))
     have HW:=Hd (HW.out.trans (List.append_nil _))
     change W3.cell? _=some (.string ByteArray.empty) at f0
     change W3.cell? _=some (.bool true) at f1
     clear k4 Ag Ac
     go_wp2_with (fail)
     go_roundw
     case rel=>exact ⟨k + 1,by omega,by go_num,by rw [HW.out];exact Ai.out,Ae.out⟩
     case measure=>simp [intOf];omega
   | some y=>
     obtain ⟨W4,Ak⟩:∃ W4,W3.alloc (.cells #[.string y,.bool false] 47)=W4:=⟨_,rfl⟩
     obtain ⟨k4,Ag,Ac⟩:=la2 W3 (.cells #[.string y,.bool false] 47)
     rw [Ak] at k4 Ag Ac
     obtain ⟨⟨y0,y1⟩,_⟩:=can2 k4
     have Ae:=Hd (Bt HB.out (Bt Aj.out Ac))
     have Ai:=Hd (ob2 HO.out (Bt Aj.out Ac))
     have Ao:=Hd (show (Tess.dW (C.take k) i).length≤1000 by
      have:(Tess.dW (C.take k) i).length≤(C.take k).length:=List.length_filterMap_le _ _
      rw [List.length_take] at this
      omega)
     have A1:=ss5 (o:=1) (v:=.bool false) k4 rfl
     change W3.cell? _=some (.string y) at f0
     change W3.cell? _=some (.bool false) at f1
     clear k4 Ag Ac
     go_wp2_with (at_builtin;refine wpList_append_own _ rfl _ _ 22 rfl w.heap.size 9 i0 (.string ByteArray.empty) 1 16 Tryz.underlying22 Ay As At Ax rfl (by decide) _ _ _ rfl (Ai.out.alloc _) ⟨W4.heap.size,0,none⟩ 1 1 [.string y] rfl rfl (cell_one_new _ _ _) (by simp [Value.oneCell']) (by have:=Ao.out;unfold maxLen;omega) (by have:=Ao.out;omega) (by have:=Ae.out.size;simp;omega) ?_)
     intro v' w5 Ad Aa _
     have A0:=Hd ((Ae.out.alloc Ae.out.size (.cells #[.string y] 9)).grown Aa (by have:=Ae.out.size;simp;omega) (fun m e=>(Ai.out.lt m e).1))
     have Ap:=Hd Ad
     clear Ad Aa
     go_wp2_with (fail)
     go_roundw
     case rel=>exact ⟨k + 1,by omega,by go_num,by rw [HW.out,List.length_append,List.map_append];exact Ap.out,A0.out⟩
     case measure=>simp [intOf];omega
  ·have Ar:¬ (k:Int) < (C.length:Int):=by omega
   obtain rfl:k=C.length:=by omega
   rw [List.take_length] at HO
   have hb:=build_any _ (Tess.dW C i) wr (SlOf.owned HO.out) (by
    have:(Tess.dW C i).length≤C.length:=List.length_filterMap_le _ _
    omega)
   unfold BP at hb
   rw [Tess.bWs _ HS.out (by
    have:(Tess.dW C i).length≤C.length:=List.length_filterMap_le _ _
    omega)] at hb
   have Aw:=Hd hb
   clear hb hB
   go_wp2_with (go_at_call 119;refine Aw.out.mono ?_;rintro e w2 ⟨v2,rfl,Aq,Az⟩)
   go_ret
   exact ⟨v2,rfl,Aq,Bt HB.out Az⟩
end Go.Proofs.YtjdccifdkjnknaaGreatDoor
namespace Go.Proofs.YtjdccifdkjnknaaGreatDoor
open Go.RowKit Go.Sort
open Tess (CK Pay)
theorem col1_any (t:Int) (v1 v2 v3 v4 v5:Value) (W:World):Calls Tryz.prog 67 #[.agg #[.int .i64 t,v1,v2,v3,v4,v5]] W fun e w'=>e = .returned (.int .i64 t)∧Below W.heap.size W w':=by
 obtain ⟨k1,kS,kB⟩:=la2 W (.cells #[.int .i64 t,v1,v2,v3,v4,v5] 56)
 obtain ⟨⟨r0,r1,r2,r3,r4,r5⟩,_⟩:=can6 k1
 have Aa:=Hd kB
 clear kB kS k1
 go_enter Tryz.func67,Tryz.ntmps67
 go_wp2
 go_ret
 exact ⟨rfl,Aa.out⟩
theorem col2_any (t:Int) (v0 v1 v3 v4 v5:Value) (W:World):Calls Tryz.prog 68 #[.agg #[v0,v1,.int .i64 t,v3,v4,v5]] W fun e w'=>e = .returned (.int .i64 t)∧Below W.heap.size W w':=by
 obtain ⟨k1,kS,kB⟩:=la2 W (.cells #[v0,v1,.int .i64 t,v3,v4,v5] 56)
 obtain ⟨⟨r0,r1,r2,r3,r4,r5⟩,_⟩:=can6 k1
 have Aa:=Hd kB
 clear kB kS k1
 go_enter Tryz.func68,Tryz.ntmps68
 go_wp2
 go_ret
 exact ⟨rfl,Aa.out⟩
theorem col3_any (p:Nat→Prop) (t:Int) (v1:Value) (a3 a4 a5:Option Addr) (c3 c4 c5 bi i:Nat) (x:Pay) (W:World) (hp:PayAt p W (.slice a3 x.sums.length c3) (.slice a4 x.mins.length c4) (.slice a5 x.maxs.length c5) x) (hi:i < x.sums.length) (hbi:W.cell? ⟨bi,0,none⟩=some (.int .i64 i)) :
  Calls Tryz.prog 73 #[.agg #[.int .i64 t,v1,.int .i64 x.n,.slice a3 x.sums.length c3,.slice a4 x.mins.length c4,.slice a5 x.maxs.length c5],.pointer (some ⟨bi,0,none⟩)] W fun e w'=>e = .returned (.int .i64 (wHi (x.sums.getD i 0)))∧Below W.heap.size W w':=by
 have Ab:=World.block_lt_of_cell? _ _ hbi
 obtain ⟨b,Aa,rfl,hb,h0,h1⟩:=hp.sums.num2 hi
 rw [show x.sums.getD i 0=x.sums[i] by rw [List.getD_eq_getElem?_getD,List.getElem?_eq_getElem hi];rfl]
 have Ad:(i:Int) < (x.sums.length:Int):=by omega
 generalize x.sums[i]=z at *
 obtain ⟨k1,kS,kB⟩:=la2 W (.cells #[.int .i64 t,v1,.int .i64 x.n,.slice (some ⟨b,Aa,none⟩) x.sums.length c3,.slice a4 x.mins.length c4,.slice a5 x.maxs.length c5] 56)
 obtain ⟨⟨r0,r1,r2,r3,r4,r5⟩,_⟩:=can6 k1
 have q:=(kB.cell (p:=⟨bi,0,none⟩) Ab).trans hbi
 have q0:=(kB.cell (p:=⟨b,Aa + i * 2,none⟩) hb).trans h0
 have q1:=(kB.cell (p:=⟨b,Aa + i * 2 + 1,none⟩) hb).trans h1
 have Ac:=Hd kB
 clear kB kS k1 hp hbi h0 hb h1
 go_enter Tryz.func73,Tryz.ntmps73
 go_wp2
 go_ret
 exact ⟨rfl,Ac.out⟩
theorem col4_any (p:Nat→Prop) (t:Int) (v1:Value) (a3 a4 a5:Option Addr) (c3 c4 c5 bi i:Nat) (x:Pay) (W:World) (hp:PayAt p W (.slice a3 x.sums.length c3) (.slice a4 x.mins.length c4) (.slice a5 x.maxs.length c5) x) (hi:i < x.sums.length) (hbi:W.cell? ⟨bi,0,none⟩=some (.int .i64 i)) :
  Calls Tryz.prog 74 #[.agg #[.int .i64 t,v1,.int .i64 x.n,.slice a3 x.sums.length c3,.slice a4 x.mins.length c4,.slice a5 x.maxs.length c5],.pointer (some ⟨bi,0,none⟩)] W fun e w'=>e = .returned (.int .i64 (wrap64 (wLo (x.sums.getD i 0))))∧Below W.heap.size W w':=by
 have Ab:=World.block_lt_of_cell? _ _ hbi
 obtain ⟨b,Aa,rfl,hb,h0,h1⟩:=hp.sums.num2 hi
 rw [show x.sums.getD i 0=x.sums[i] by rw [List.getD_eq_getElem?_getD,List.getElem?_eq_getElem hi];rfl]
 have Ad:(i:Int) < (x.sums.length:Int):=by omega
 generalize x.sums[i]=z at *
 obtain ⟨k1,kS,kB⟩:=la2 W (.cells #[.int .i64 t,v1,.int .i64 x.n,.slice (some ⟨b,Aa,none⟩) x.sums.length c3,.slice a4 x.mins.length c4,.slice a5 x.maxs.length c5] 56)
 obtain ⟨⟨r0,r1,r2,r3,r4,r5⟩,_⟩:=can6 k1
 have q:=(kB.cell (p:=⟨bi,0,none⟩) Ab).trans hbi
 have q0:=(kB.cell (p:=⟨b,Aa + i * 2,none⟩) hb).trans h0
 have q1:=(kB.cell (p:=⟨b,Aa + i * 2 + 1,none⟩) hb).trans h1
 have Ac:=Hd kB
 clear kB kS k1 hp hbi h0 hb h1
 go_enter Tryz.func74,Tryz.ntmps74
 go_wp2
 go_ret
 exact ⟨by rw [← wrap_i64];rfl,Ac.out⟩
theorem col5_any (p:Nat→Prop) (t:Int) (v1:Value) (a3 a4 a5:Option Addr) (c3 c4 c5 bi i:Nat) (x:Pay) (W:World) (hp:PayAt p W (.slice a3 x.sums.length c3) (.slice a4 x.mins.length c4) (.slice a5 x.maxs.length c5) x) (hi:i < x.mins.length) (hbi:W.cell? ⟨bi,0,none⟩=some (.int .i64 i)) :
  Calls Tryz.prog 75 #[.agg #[.int .i64 t,v1,.int .i64 x.n,.slice a3 x.sums.length c3,.slice a4 x.mins.length c4,.slice a5 x.maxs.length c5],.pointer (some ⟨bi,0,none⟩)] W fun e w'=>e = .returned (.int .i64 (x.mins.getD i 0))∧Below W.heap.size W w':=by
 have Ab:=World.block_lt_of_cell? _ _ hbi
 obtain ⟨b,Aa,rfl,hb,h0⟩:=hp.mins.num1 hi
 rw [show x.mins.getD i 0=x.mins[i] by rw [List.getD_eq_getElem?_getD,List.getElem?_eq_getElem hi];rfl]
 have Ad:(i:Int) < (x.mins.length:Int):=by omega
 generalize x.mins[i]=z at *
 obtain ⟨k1,kS,kB⟩:=la2 W (.cells #[.int .i64 t,v1,.int .i64 x.n,.slice a3 x.sums.length c3,.slice (some ⟨b,Aa,none⟩) x.mins.length c4,.slice a5 x.maxs.length c5] 56)
 obtain ⟨⟨r0,r1,r2,r3,r4,r5⟩,_⟩:=can6 k1
 have q:=(kB.cell (p:=⟨bi,0,none⟩) Ab).trans hbi
 have q0:=(kB.cell (p:=⟨b,Aa + i,none⟩) hb).trans h0
 have Ac:=Hd kB
 clear kB kS k1 hp hbi h0 hb
 go_enter Tryz.func75,Tryz.ntmps75
 go_wp2
 go_ret
 exact ⟨rfl,Ac.out⟩
theorem col6_any (p:Nat→Prop) (t:Int) (v1:Value) (a3 a4 a5:Option Addr) (c3 c4 c5 bi i:Nat) (x:Pay) (W:World) (hp:PayAt p W (.slice a3 x.sums.length c3) (.slice a4 x.mins.length c4) (.slice a5 x.maxs.length c5) x) (hi:i < x.maxs.length) (hbi:W.cell? ⟨bi,0,none⟩=some (.int .i64 i)) :
  Calls Tryz.prog 76 #[.agg #[.int .i64 t,v1,.int .i64 x.n,.slice a3 x.sums.length c3,.slice a4 x.mins.length c4,.slice a5 x.maxs.length c5],.pointer (some ⟨bi,0,none⟩)] W fun e w'=>e = .returned (.int .i64 (x.maxs.getD i 0))∧Below W.heap.size W w':=by
 have Ab:=World.block_lt_of_cell? _ _ hbi
 obtain ⟨b,Aa,rfl,hb,h0⟩:=hp.maxs.num1 hi
 rw [show x.maxs.getD i 0=x.maxs[i] by rw [List.getD_eq_getElem?_getD,List.getElem?_eq_getElem hi];rfl]
 have Ad:(i:Int) < (x.maxs.length:Int):=by omega
 generalize x.maxs[i]=z at *
 obtain ⟨k1,kS,kB⟩:=la2 W (.cells #[.int .i64 t,v1,.int .i64 x.n,.slice a3 x.sums.length c3,.slice a4 x.mins.length c4,.slice (some ⟨b,Aa,none⟩) x.maxs.length c5] 56)
 obtain ⟨⟨r0,r1,r2,r3,r4,r5⟩,_⟩:=can6 k1
 have q:=(kB.cell (p:=⟨bi,0,none⟩) Ab).trans hbi
 have q0:=(kB.cell (p:=⟨b,Aa + i,none⟩) hb).trans h0
 have Ac:=Hd kB
 clear kB kS k1 hp hbi h0 hb
 go_enter Tryz.func76,Tryz.ntmps76
 go_wp2
 go_ret
 exact ⟨rfl,Ac.out⟩
end Go.Proofs.YtjdccifdkjnknaaGreatDoor
namespace Tess
theorem turn_bits (n:Int) (h : -9223372036854775808≤n∧n≤9223372036854775807):Go.bits .xor .u64 (Go.IntKind.u64.wrap (Go.IntKind.u64.wrap n * 2)) (Go.IntKind.u64.wrap (n / 9223372036854775808))=((tN n:Nat):Int):=by
 rw [Go.wrap_u64,Go.wrap_u64,Go.wrap_u64]
 by_cases h0:0≤n
 ·have e1:(n % 18446744073709551616 * 2 % 18446744073709551616:Int)=((2 * n).toNat:Int):=by omega
  have e2:(n / 9223372036854775808 % 18446744073709551616:Int)=0:=by omega
  rw [e1,e2,Go.xor_none _ (by omega)]
  unfold tN
  rw [if_pos h0]
 ·have e1:(n % 18446744073709551616 * 2 % 18446744073709551616:Int)=((2 * n + 18446744073709551616).toNat:Int):=by omega
  have e2:(n / 9223372036854775808 % 18446744073709551616:Int)=18446744073709551615:=by omega
  rw [e1,e2,Go.xor_all _ (by omega)]
  unfold tN
  rw [if_neg h0]
  omega
end Tess
namespace Go.Proofs.YtjdccifdkjnknaaGreatDoor
open Go.RowKit Go.Sort
set_option maxRecDepth 100000 in
theorem turn_any (n:Int) (w:World) (hn : -9223372036854775808≤n∧n≤9223372036854775807):Calls Tryz.prog 155 #[.int .i64 n] w fun e w'=>e = .returned (.int .u64 (Tess.tN n:Nat))∧w'=w:=by
 have hb:=Tess.turn_bits n hn
 go_enter Tryz.func155,Tryz.ntmps155
 go_wp2
 go_ret
 exact ⟨by rw [← hb];rfl,rfl⟩
end Go.Proofs.YtjdccifdkjnknaaGreatDoor
namespace Go.Proofs.YtjdccifdkjnknaaGreatDoor
open Go.RowKit Go.Sort Go.Shelf
theorem u64_not {c c':Array Value} {fz fz':Nat×Nat}:Obj.cells c 92 fz≠Obj.cells c' 5 fz':=by
 intro e
 simp at e
theorem putl_len:∀ l:List Nat,(∀ x ∈ l,x < 18446744073709551616)→(l.flatMap Tess.putL).length≤l.length * 10
 | [],_=>by simp
 | x :: l,h=>by
   have h1:=Tess.pLl3 x 9 (Nat.lt_of_lt_of_le (h x (by simp)) (by decide))
   have h2:=putl_len l fun y hy=>h y (by simp [hy])
   rw [List.flatMap_cons,List.length_append,List.length_cons]
   omega
theorem putl_ne (n:Nat):Tess.putL n≠[]:=by
 by_cases h:n < 128
 ·rw [Tess.pLl2 n h];simp
 ·rw [Tess.pLg n h];simp
structure Pv (w:World) (N:Nat) (rec:Loop) (ks:List Nat) (bs:List UInt8) (m:Nat) (W:World):Prop where
 kb:Bd w.heap.size bs W
 kn:W.heap[N]? = some (.cells #[.int .u64 m] 92 (0,0))
 kD:W.heap[N + 1]? = some (.deferred (some []))
 kL:W.heap[N + 2]? = some (.loop rec)
 old:∀ k ∈ ks,W.heap[k]? = some (.deferred (some []))
 size:N + 3≤W.heap.size
 hN:w.heap.size < N
 below:Below w.heap.size w W
section
variable {w W W':World} {N:Nat} {rec rec':Loop} {ks:List Nat} {bs:List UInt8} {m:Nat}
theorem Pv.but (h:Pv w N rec ks bs m W) (hs:Rf.SB (N + 1 + 1) W W') (hl:W'.heap[N + 1 + 1]? = some (.loop rec')):Pv w N rec' ks bs m W':=by
 have hN:=h.hN
 refine ⟨bs2 h.kb (hs.block _ (by omega)) fun k c fz hk=>hs.block _ (fun e => ?_),(hs.block _ (by omega)).trans h.kn,(hs.block _ (by omega)).trans h.kD,hl,fun k hk=>(hs.block _ (fun e => ?_)).trans (h.old k hk),by rw [hs.size];exact h.size,hN,h.below.trans (hs.below (by omega))⟩
 ·subst e;have:=h.kL;rw [hk] at this;cases this
 ·subst e;have:=h.kL;rw [h.old _ hk] at this;cases this
theorem Pv.wrote {c:UInt8} (h:Pv w N rec ks bs m W) (hb:Lib.BuilderAt 88 5 w.heap.size w.heap.size (.pointer (some ⟨w.heap.size,0,none⟩)) (Lib.byteCells bs ++ [.int .u8 c.toNat]) W') (hB:Below w.heap.size W W') (hk:Oth w.heap.size W W'):Pv w N rec ks (bs ++ [c]) m W':=by
 have hN:=h.hN
 refine ⟨.inr ?_,hk _ _ h.kn (by simp;omega) (fun _ _=>u64_not),hk _ _ h.kD (by simp;omega) (fun _ _ e=>by cases e),hk _ _ h.kL (by simp;omega) (fun _ _ e=>by cases e),fun k hk'=>hk _ _ (h.old k hk') (fun e => ?_) (fun _ _ e=>by cases e),Nat.le_trans h.size hB.size,hN,h.below.trans hB⟩
 ·have e:Lib.byteCells (bs ++ [c])=Lib.byteCells bs ++ [.int .u8 c.toNat]:=by simp [Lib.byteCells]
  show Lib.BuilderAt _ _ _ _ _ (Lib.byteCells (bs ++ [c])) W'
  rw [e]
  exact hb
 ·cases e
  rcases h.kb with ⟨_,v,h1,_⟩ | ⟨_,v,h1,_⟩
  ·have:=h.old _ hk';rw [h1] at this;cases this
  ·have:=h.old _ hk';rw [h1] at this;cases this
theorem Pv.setn (h:Pv w N rec ks bs m W) (m':Nat):Pv w N rec ks bs m' (W.setCell ⟨N,0,none⟩ (.int .u64 m')):=by
 have hN:=h.hN
 refine ⟨bs2 h.kb (dhn (by omega)) fun k c fz hk=>dhn (fun e => ?_),dhs _ h.kn,(dhn (by omega)).trans h.kD,(dhn (by omega)).trans h.kL,fun k hk=>(dhn (fun e => ?_)).trans (h.old k hk),by simpa [World.setCell] using h.size,hN,h.below.setCell (by show _≤N;omega) _⟩
 ·subst e;have:=h.kn;rw [hk] at this;exact u64_not (Option.some.inj this).symm
 ·subst e;have:=h.kn;rw [h.old _ hk] at this;cases this
end
structure Pu (w:World) (ks:List Nat) (bs:List UInt8) (W:World):Prop where
 kb:Bd w.heap.size bs W
 old:∀ k ∈ ks,W.heap[k]? = some (.deferred (some []))
 nd:ks.Nodup
 gt:∀ k ∈ ks,w.heap.size < k
 size:w.heap.size < W.heap.size
 below:Below w.heap.size w W
set_option maxRecDepth 100000 in
set_option maxHeartbeats 2000000 in
theorem putl_any (l:List Nat) (a:Option Addr) (c:Nat) (w:World) (hc:∀ W,Below w.heap.size w W→∀ j (hj:j < l.length),∃ b off,a=some ⟨b,off,none⟩∧W.cell? ⟨b,off + j,none⟩=some (.int .u64 l[j])) (hn:∀ x ∈ l,x < 18446744073709551616) (hl:l.length≤1000000) (h0:l≠[]) :
  Calls Tryz.prog 93 #[.slice a l.length c] w fun e w'=>e = .returned (.string ⟨(l.flatMap Tess.putL).toArray⟩)∧Below w.heap.size w w':=by
 have HC:=Hd hc
 have HN:=Hd hn
 clear hc hn
 refine (callsIn_wide (n:=5)).1 ?_
 refine callsIn_of_wp_marks Tryz.func93 rfl trivial ?_ rfl
 simp only [Tryz.ntmps93,List.size_toArray,List.length_cons,List.length_nil,Nat.reduceAdd,Nat.reduceSub,Array.replicate_succ,Array.replicate_zero,List.push_toArray,List.append_toArray,List.nil_append,List.cons_append]
 gi_wp2
 refine wpIn_loop (fun a' wr => ∃ (k:Nat) (ks:List Nat) (u5 u10 u11 u12 u13 u14 u18:Value),k≤l.length∧Pu w ks ((l.take k).flatMap Tess.putL) wr∧a' = { tmps:=#[.slice a l.length c,undef,.string ⟨#[]⟩,.pointer (some ⟨w.heap.size,0,none⟩),undef,u5,undef,.slice a l.length c,.int .i64 l.length,.int .i64 k,u10,u11,u12,u13,u14,undef,undef,undef,u18,undef],defers:=ks.map coll }) (fun a' _=>l.length - (intOf (a'.tmps.getD 9 undef)).toNat) ?_ ?_
 ·exact ⟨0,[],_,_,_,_,_,_,_,Nat.zero_le _,⟨bd_fresh (World.alloc_heap_new w _),(fun _ h=>by cases h),List.nodup_nil,(fun _ h=>by cases h),by simp,(Below.refl _ _).alloc (Nat.le_refl _) _⟩,rfl⟩
 ·rintro _ wr ⟨k,ks,u5,u10,u11,u12,u13,u14,u18,hk,hS,rfl⟩
  dsimp only
  have HS:=Hd hS
  clear hS
  by_cases hlt:k < l.length
  ·obtain ⟨bb,off,ha,Ai⟩:=HC.out wr HS.out.below k hlt
   subst ha
   have A4:(k:Int) < (l.length:Int):=by omega
   obtain ⟨n,Aw⟩:∃ n,n=l[k]:=⟨_,rfl⟩
   rw [← Aw] at Ai
   have hn:n < 18446744073709551616:=by rw [Aw];exact HN.out _ (List.getElem_mem hlt)
   have Bj:=Hd Aw
   clear Aw
   obtain ⟨N,Ag⟩:∃ N,N=wr.heap.size:=⟨_,rfl⟩
   gi_wp2_with (refine ⟨trivial,?_⟩;gi_at_call 141;refine (callsIn_wide.2 (ba4 _ _)).mono ?_;rintro e w' ⟨rfl,rfl⟩)
   obtain ⟨w0,Aq⟩:∃ w0,wr.alloc (.cells #[.int .u64 n] 92)=w0:=⟨_,rfl⟩
   have hA:w0.heap.size=N + 1:=by rw [← Aq,Ag];simp
   have Ba:w0.heap[N]? = some (.cells #[.int .u64 n] 92 (0,0)):=by rw [← Aq,Ag];exact World.alloc_heap_new wr _
   have Ab:Below N wr w0:=by rw [← Aq,Ag];exact (Below.refl _ _).alloc (Nat.le_refl _) _
   rw [Aq,← Ag]
   have Ax:=HS.out.size
   rw [← Ag] at Ax
   have Az:N≤wr.heap.size:=by omega
   clear Aq
   refine Rf.rw3 (gf:=186) (lb:=#[.pointer (some ⟨N,0,none⟩)]) rfl (enters_of Tryz.func186 (by kernel_rfl) rfl) ?_
   intro fn W2 hL hD Av Bb
   rw [hA] at hL hD Bb Av ⊢
   obtain ⟨Aa,Ah,hL⟩:∃ Aa:Loop,Aa=_∧W2.heap[N + 1 + 1]? = some (.loop Aa):=⟨_,rfl,hL⟩
   have Ao:=Hd Ah
   have Aj:Aa.state = .ready∧Aa.params.size=1∧Aa.pending=none:=by rw [Ah];exact ⟨rfl,rfl,rfl⟩
   clear Ah
   obtain ⟨Aj,Be,Bq⟩:=Aj
   have hI:Pv w N Aa ks ((l.take k).flatMap Tess.putL) n W2:=by
    have A5:Below N wr W2:=Ab.trans (Av.mono (by omega))
    have Ap:∀ j o,wr.heap[j]? = some o→W2.heap[j]? = wr.heap[j]? := fun j o h=>A5.block j (by rw [Ag];exact (Array.getElem?_eq_some_iff.1 h).1)
    refine ⟨bs2 HS.out.kb (A5.block _ Ax) (fun j c fz h=>Ap j _ h),(Av.block _ (by omega)).trans Ba,hD,hL,fun j hj=>(Ap j _ (HS.out.old j hj)).trans (HS.out.old j hj),by omega,Ax,HS.out.below.trans (A5.mono (by omega))⟩
   have Bp:=Hd (show ∀ j ∈ ks,j≠N + 1 from fun j hj e=>by
    have h:=HS.out.old j hj
    have:=(Array.getElem?_eq_some_iff.1 h).1
    omega)
   have Bn:=Hd HS.out.nd
   have Bh:=Hd HS.out.gt
   clear Ab Av Ba hD hL Ag hA Bb Az Ax
   refine callsIn_of_wp Tryz.func186 rfl trivial ?_ rfl
   simp only [Tryz.ntmps186,List.size_toArray,List.length_cons,List.length_nil,Nat.reduceAdd,Nat.reduceSub,Array.replicate_succ,Array.replicate_zero,List.push_toArray,List.append_toArray,List.nil_append,List.cons_append]
   gi_wp2
   obtain ⟨wA,Bg⟩:∃ wA,wA=wr:=⟨_,rfl⟩
   subst Bg
   obtain ⟨B0,Ab⟩:∃ B0,B0=(l.take k).flatMap Tess.putL:=⟨_,rfl⟩
   rw [← Ab] at hI
   have A8:=Hd Ab
   clear Ab HS
   gi_loopw [3] (fun _ wr => ∃ (m:Nat) (bs:List UInt8),B0 ++ bs ++ Tess.putL m=B0 ++ Tess.putL n∧m < 18446744073709551616∧bs.length≤10∧B0.length≤10000000∧Pv w N Aa ks (B0 ++ bs) m wr) (fun _ wr=>mea N wr)
   case atStart=>
    refine ⟨n,[],by simp,hn,by simp,?_,by simpa using hI⟩
    rw [A8.out]
    have:=putl_len (l.take k) fun x hx=>HN.out x (List.mem_of_mem_take hx)
    rw [List.length_take] at this
    omega
   case round=>
    obtain ⟨m,bs,Bc,hm,Bi,Ak,hS⟩:=hrel
    have A7:=Hd Bc
    have HS:=Hd hS
    have A1:=mea_at hS.kn
    obtain ⟨c1,z1⟩:=dco hS.kn
    clear Bc hS
    by_cases h128:128≤m
    ·have Al:(128:Int)≤(m:Int):=by omega
     have At:=or_bits m
     obtain ⟨c,Ay⟩:∃ c,c=128 + m % 128:=⟨_,rfl⟩
     rw [← Ay] at At
     have Bl:=Hd Ay
     have An:c < 256:=by omega
     clear Ay
     have A3:=run_yield (P:=Tryz.prog) (w:=wr) (l:=N + 1 + 1) (r:=Aa) (args:=#[.int .u8 (c:Int)]) HS.out.kL (by rw [Be];rfl)
     gi_wp2
     refine Rf.rw2 (r:=Aa) ?_
     have A0:=Ao.out
     subst A0
     dsimp only
     gi_wp2_with (rw [Oper.semAt_eq _ _ _ (fun c h=>by cases h)];go_simp;try go_bits)
     refine ⟨HS.out.kL,fun W4 hs4 hl4 => ?_⟩
     have Ac:=Hd (HS.out.but hs4 hl4)
     clear hs4 hl4 A3 hL
     gi_wp2_with (rw [Oper.semAt_eq _ _ _ (fun c h=>by cases h)];go_simp;try go_bits)
     refine ⟨trivial,?_⟩
     refine CallsIn.mono (CallsIn.inRound _ (callsIn_wide.2 (wBk w.heap.size w.heap.size (Lib.byteCells (B0 ++ bs)) c W4 Ac.out.kb (by rw [Lib.byteCells_length,List.length_append];omega) (by have:=Ac.out.size;have:=Ac.out.hN;omega)))) ?_
     rintro e w5 ⟨rfl,Ae,Au,As⟩
     rw [show (c:Int)=((UInt8.ofNat c).toNat:Int) by rw [UInt8.toNat_ofNat'];omega] at Ae
     have Am:=Hd (Ac.out.wrote Ae Au As)
     clear Ae Au As
     gi_wp2
     refine ⟨Am.out.kL,fun W6 hs6 hl6 => ?_⟩
     have Af:=Hd (Am.out.but hs6 hl6)
     clear hs6 hl6
     dsimp only
     obtain ⟨c6,z6⟩:=dco Af.out.kn
     gi_wp2
     have Ar:(m:Int) / 128=((m / 128:Nat):Int):=by omega
     have A6:=congrArg List.length A7.out
     have Br:=Tess.pLl3 n 9 (Nat.lt_of_lt_of_le hn (by decide))
     rw [Tess.pLg m (by omega),List.length_append,List.length_append,List.length_append,List.length_cons] at A6
     refine ⟨⟨m / 128,bs ++ [UInt8.ofNat c],?_,by omega,by rw [List.length_append,List.length_singleton];omega,Ak,?_⟩,?_⟩
     ·rw [← A7.out,Tess.pLg m (by omega),Bl.out];simp
     ·rw [Ar,← List.append_assoc];exact Af.out.setn (m / 128)
     ·rw [Ar,mea_at (Af.out.setn (m / 128)).kn];omega
    ·have Al:¬ (128:Int)≤(m:Int):=by omega
     have An:m < 256:=by omega
     have A3:=run_yield (P:=Tryz.prog) (w:=wr) (l:=N + 1 + 1) (r:=Aa) (args:=#[.int .u8 (m:Int)]) HS.out.kL (by rw [Be];rfl)
     gi_wp2
     refine Rf.rw2 (r:=Aa) ?_
     have A0:=Ao.out
     subst A0
     dsimp only
     gi_wp2_with (rw [Oper.semAt_eq _ _ _ (fun c h=>by cases h)];go_simp;try go_bits)
     refine ⟨HS.out.kL,fun W4 hs4 hl4 => ?_⟩
     have Ac:=Hd (HS.out.but hs4 hl4)
     clear hs4 hl4 A3 hL
     gi_wp2_with (rw [Oper.semAt_eq _ _ _ (fun c h=>by cases h)];go_simp;try go_bits)
     refine ⟨trivial,?_⟩
     refine CallsIn.mono (CallsIn.inRound _ (callsIn_wide.2 (wBk w.heap.size w.heap.size (Lib.byteCells (B0 ++ bs)) m W4 Ac.out.kb (by rw [Lib.byteCells_length,List.length_append];omega) (by have:=Ac.out.size;have:=Ac.out.hN;omega)))) ?_
     rintro e w5 ⟨rfl,Ae,Au,As⟩
     rw [show (m:Int)=((UInt8.ofNat m).toNat:Int) by rw [UInt8.toNat_ofNat'];omega] at Ae
     have Am:=Hd (Ac.out.wrote Ae Au As)
     clear Ae Au As
     gi_wp2
     refine ⟨Am.out.kL,fun W6 hs6 hl6 => ?_⟩
     have Af:=Hd (Am.out.but hs6 hl6)
     clear hs6 hl6
     dsimp only
     obtain ⟨c6,z6⟩:=dco Af.out.kn
     gi_wp2
     go_end0
     refine ⟨⟨_,rfl⟩,_,Af.out.kL,by simp,?_⟩
     intro W7 Ad
     dsimp only
     have A2:B0 ++ bs ++ [UInt8.ofNat m]=(l.take (k + 1)).flatMap Tess.putL:=by
      rw [← Tess.pLl2 m (by omega),A7.out,A8.out,List.take_succ_eq_append_getElem hlt,List.flatMap_append,Bj.out]
      simp
     have HU:=Hd (show Pu w ((N + 1) :: ks) ((l.take (k + 1)).flatMap Tess.putL) W7 from by
      have h:=Af.out
      rw [← A2]
      refine ⟨bs2 h.kb (Ad.block _ (by have:=h.hN;omega)) (fun j c fz hj=>Ad.block _ (fun e => ?_)),fun j hj => ?_,List.nodup_cons.2 ⟨fun e=>Bp.out _ e rfl,Bn.out⟩,(fun j hj=>by rcases List.mem_cons.1 hj with rfl | hj;exact Nat.lt_succ_of_lt h.hN;exact Bh.out j hj),by rw [Ad.size];have:=h.size;have:=h.hN;omega,h.below.trans (Ad.below (by have:=h.hN;omega))⟩
      ·subst e;have:=h.kL;rw [hj] at this;cases this
      ·rcases List.mem_cons.1 hj with rfl | hj
       ·exact (Ad.block _ (by omega)).trans h.kD
       ·refine (Ad.block _ (fun e => ?_)).trans (h.old j hj)
        subst e;have:=h.kL;rw [h.old _ hj] at this;cases this)
     clear Ad c6 z6 hm Bi Ak A1 c1 z1
     gi_wp2
     refine ⟨?_,?_⟩
     ·exact ⟨k + 1,(N + 1) :: ks,_,_,_,_,_,_,_,by omega,HU.out,rfl⟩
     ·simp [intOf];omega
  ·have Bk:k=l.length:=by omega
   have A4:¬ (k:Int) < (l.length:Int):=by omega
   obtain ⟨B0,Ab⟩:∃ B0,B0=l.flatMap Tess.putL:=⟨_,rfl⟩
   have Aj:=string_k w.heap.size B0 wr (by rw [Ab];have:=HS.out.kb;rwa [Bk,List.take_length] at this) (by
    rw [Ab]
    intro e
    cases l with
    | nil=>exact h0 rfl
    | cons x l=>exact putl_ne x (List.flatMap_eq_nil_iff.1 e x (by simp)))
   have Bf:=Hd Aj
   clear Aj
   gi_wp2_with (refine ⟨trivial,?_⟩;gi_at_call 43;refine (callsIn_wide.2 Bf.out).mono ?_;rintro e w8 ⟨rfl,A9,Bd⟩;have Bo:=Hd A9;have Bm:=Hd Bd;clear A9 Bd)
   refine lc2 ks w8 HS.out.nd (fun j hj=>Bm.out _ _ (HS.out.old j hj) (fun e => ?_) (fun _ _ e=>by cases e)) fun w9 h1 h2 h3 h4 h5 => ?_
   ·cases e
    rcases HS.out.kb with ⟨_,v,h1,_⟩ | ⟨_,v,h1,_⟩
    ·have:=HS.out.old _ hj;rw [h1] at this;cases this
    ·have:=HS.out.old _ hj;rw [h1] at this;cases this
   refine ⟨_,results_tmp rfl _ _ _,rfl,?_⟩
   refine (HS.out.below.trans Bo.out).trans ⟨h1,h2,h3,Nat.le_of_eq h4.symm,fun j hj=>h5 j fun e => ?_⟩
   have:=HS.out.gt j e
   omega
end Go.Proofs.YtjdccifdkjnknaaGreatDoor
namespace Tess
theorem ds5:∀ (l:List Int) (last:Int) (k:Nat),k < l.length→∀ (pre:List Nat) (x:Int),pre ++ (di x (l.drop k)).map tN=(di last l).map tN→(pre ++ [tN (Go.RowKit.wrap64 (l.getD k 0 - x))]) ++ (di (l.getD k 0) (l.drop (k + 1))).map tN=(di last l).map tN:=by
 intro l last k hk pre x h
 rw [← h,List.drop_eq_getElem_cons hk,List.getD_eq_getElem?_getD,List.getElem?_eq_getElem hk]
 simp [di]
theorem packL_flat (l:List Int):(l.length :: (di 0 l).map tN).flatMap putL=pL2 l:=by
 unfold pL2
 rw [List.flatMap_cons,List.flatMap_map]
end Tess
namespace Go.Proofs.YtjdccifdkjnknaaGreatDoor
open Go.RowKit Go.Sort
set_option maxRecDepth 100000 in
set_option maxHeartbeats 2000000 in
theorem pack_any (v:Value) (l:List Int) (w:World) (h:SlOf w v (l.map (.int .i64))) (hr:Tess.I64s l) (hl:l.length≤1000) :
  Calls Tryz.prog 118 #[v] w fun e w'=>e = .returned (.tuple #[.string (Tess.mk (Tess.pL2 l)),.int .i64 0])∧Below w.heap.size w w':=by
 obtain ⟨a,c,rfl,_,hc⟩:=so3 _ h
 have HC:=Hd hc
 have HR:=Hd hr
 have Ay:decide ((1000:Int) < (l.length:Int))=false:=decide_eq_false (by omega)
 have At:¬ (1000:Int) < (l.length:Int):=by omega
 obtain ⟨i0,hi,Ao,Ap,As⟩:=info_parts (P:=Tryz.prog) (e:=92) (z:=.int .u64 0) (size:=1) (bytes:=8) (by kernel_rfl)
 clear h hr hc
 go_enter Tryz.func118,Tryz.ntmps118
 go_wp2
 go_loopw [4,5,17] (fun vo vl vi wr => ∃ (k:Nat) (pre:List Nat) (Aa:Int),k≤l.length∧vi = .int .i64 k∧vl = .int .i64 Aa∧pre.length=k∧pre ++ (Tess.di Aa (l.drop k)).map Tess.tN=(Tess.di 0 l).map Tess.tN∧(-9223372036854775808≤Aa∧Aa≤9223372036854775807)∧wr.ownsRow w.heap.size 92 1 vo (1 + k) ((l.length :: pre).map fun n => .int .u64 (n:Nat))∧Below w.heap.size w wr) (fun _ _ vi _=>l.length - (intOf vi).toNat)
 case atStart=>
  refine ⟨0,[],0,Nat.zero_le _,rfl,rfl,rfl,rfl,by omega,?_,(Below.refl _ _).alloc (Nat.le_refl _) _⟩
  have:=World.ownsRow_lit (base:=w.heap.size) (e:=92) (size:=1) w #[.int .u64 (l.length:Nat)] 1 (Nat.le_refl _) (by unfold maxLen;omega) rfl
  exact this
 case round=>
  obtain ⟨k,pre,Aa,hk,rfl,rfl,Ah,Ab,Ax,Ag,hB⟩:=hrel
  have HO:=Hd Ag
  have HB:=Hd hB
  clear Ag
  by_cases hlt:k < l.length
  ·obtain ⟨b,Am,rfl,hb,Aj⟩:=HC.out wr hB k hlt
   have Av:(k:Int) < (l.length:Int):=by omega
   have Ak:=Hd (Tess.ds5 l 0 k hlt pre Aa Ab)
   rw [List.getD_eq_getElem?_getD,List.getElem?_eq_getElem hlt,Option.getD_some] at Ak
   have hx:=HR.out _ (List.getElem_mem hlt)
   generalize l[k]=x at *
   have ht:=fun W=>turn_any (wrap64 (x - Aa)) W (Tess.wr5 _)
   have HT:=Hd ht
   have An:=Hd Ah
   have hw:=wrap_i64 (x - Aa)
   clear hB Ab Ah ht
   go_wp2_with (first
    | (go_at_call 155;refine (HT.out _).mono ?_;rintro e w2 ⟨rfl,rfl⟩)
    | (at_builtin;refine wpList_append_own _ rfl _ _ 196 rfl w.heap.size 92 i0 (.int .u64 0) 1 8 Tryz.underlying196 hi Ao Ap As rfl (by decide) _ _ _ rfl (HO.out.alloc _) ⟨w2.heap.size,0,none⟩ 1 1 [.int .u64 (Tess.tN (wrap64 (x - Aa)):Nat)] rfl rfl (cell_one_new _ _ _) (by simp [Value.oneCell']) (by unfold maxLen;omega) (by omega) (by have:=HB.out.size;simp;omega) ?_))
   intro v' w3 Ae Ad _
   have Aw:=Hd ((HB.out.alloc HB.out.size _).grown Ad (by have:=HB.out.size;simp;omega) (fun j e=>(HO.out.lt j e).1))
   have Au:=Hd Ae
   clear Ae Ad
   go_wp2
   go_roundw
   case rel=>exact ⟨k + 1,pre ++ [Tess.tN (wrap64 (x - Aa))],x,by omega,by go_num,rfl,by simp [An.out],Ak.out,hx,by have:=Au.out;rw [← List.cons_append,List.map_append];exact this,Aw.out⟩
   case measure=>simp [intOf];omega
  ·have Av:¬ (k:Int) < (l.length:Int):=by omega
   obtain rfl:k=l.length:=by omega
   rw [List.drop_length] at Ab
   have Ab:pre=(Tess.di 0 l).map Tess.tN:=by rw [← Ab];simp [Tess.di]
   obtain ⟨P,hP⟩:∃ P,P=l.length :: pre:=⟨_,rfl⟩
   have Ar:P.length=1 + l.length:=by rw [hP,List.length_cons,Ah];omega
   have Ac:=Tess.packL_flat l
   rw [← Ab,← hP] at Ac
   rw [← hP] at HO
   obtain ⟨a3,c3,rfl,_,Al⟩:=so3 (fun n:Nat=>Value.int .u64 (n:Nat)) (SlOf.owned HO.out)
   have Af:=putl_any P a3 c3 wr (fun W hW j hj=>let ⟨b,Am,h1,_,h2⟩:=Al W hW j hj;⟨b,Am,h1,h2⟩) (fun y hy=>by
    rw [hP] at hy
    rcases List.mem_cons.1 hy with rfl | hy
    ·omega
    ·rw [Ab] at hy
     obtain ⟨d,hd,rfl⟩:=List.mem_map.1 hy
     exact Tess.turn_lt d (Tess.dr2 l 0 d hd)) (by omega) (by rw [hP];simp)
   rw [Ac] at Af
   have Ai:=Hd Af
   clear Af Ab Al Ac hP Ar Ah
   go_wp2_with (go_at_call 93;refine Ai.out.mono ?_;rintro e w2 ⟨rfl,Aq⟩)
   go_ret2
   exact ⟨rfl,HB.out.trans (Aq.mono HB.out.size)⟩
end Go.Proofs.YtjdccifdkjnknaaGreatDoor
namespace Tess
def lB4 (C:List (CK×Pay)) (gs:List (CK×Pay→Int)):List UInt8:=gs.flatMap fun g=>pL2 (C.map g)
theorem listsB_take (C:List (CK×Pay)) (gs:List (CK×Pay→Int)) (k:Nat) (h:k < gs.length):lB4 C (gs.take (k + 1))=lB4 C (gs.take k) ++ pL2 (C.map gs[k]):=by
 unfold lB4
 rw [List.take_succ_eq_append_getElem h,List.flatMap_append]
 simp
theorem listsB_len (C:List (CK×Pay)) (gs:List (CK×Pay→Int)) (hC:C.length≤1000):(lB4 C gs).length≤gs.length * 10010:=fl2 _ 10010 gs fun g _=>by
 have:=pLf (C.map g) (by simpa using hC)
 rw [List.length_map] at this
 omega
def toldL (C:List (CK×Pay)) (g:CK×Pay→Int) (k:Nat):List Int:=(C.take k).map g
theorem toldL_succ (C:List (CK×Pay)) (g:CK×Pay→Int) (k:Nat) (h:k < C.length):toldL C g (k + 1)=toldL C g k ++ [g C[k]]:=by
 unfold toldL
 rw [List.take_succ_eq_append_getElem h,List.map_append]
 rfl
end Tess
namespace Go.Proofs.YtjdccifdkjnknaaGreatDoor
open Go.RowKit Go.Sort
open Tess (CK Pay)
def Tells (p:Nat→Prop) (w:World) (C:List (CK×Pay)) (id:Nat) (caps:Array Value) (g:CK×Pay→Int):Prop:=
 (∀ args W,(callFunc id args).run Tryz.prog W = .ok (.enter id args) W)∧(∀ x ∈ C,I64 (g x)) ∧
  ∀ W,Below w.heap.size w W→∀ x ∈ C,∀ ad cd a3 c3 a4 c4 a5 c5,PayAt p W (.slice a3 x.2.sums.length c3) (.slice a4 x.2.mins.length c4) (.slice a5 x.2.maxs.length c5) x.2 →
    Calls Tryz.prog id (#[.agg #[.int .i64 x.1.1,.slice ad x.1.2.length cd,.int .i64 x.2.n,.slice a3 x.2.sums.length c3,.slice a4 x.2.mins.length c4,.slice a5 x.2.maxs.length c5]] ++ caps) W fun e w'=>e = .returned (.int .i64 (g x))∧Below W.heap.size W w'
set_option maxRecDepth 100000 in
set_option maxHeartbeats 4000000 in
theorem la4 (p:Nat→Prop) (vl:Value) (C:List (CK×Pay)) (fs:List (Nat×Array Value)) (gs:List (CK×Pay→Int)) (af:Option Addr) (cf:Nat) (w:World) (hv:CA2 p w vl C) (hC:C.length≤1000) (hgl:gs.length=fs.length) (hfl:fs.length≤10)
  (hf:∀ W,Below w.heap.size w W→∀ j (hj:j < fs.length),∃ b off,af=some ⟨b,off,none⟩∧W.cell? ⟨b,off + j,none⟩=some (.func (.func fs[j].1) #[] fs[j].2))
  (ht:∀ j (hj:j < fs.length) (hj':j < gs.length),Tells p w C fs[j].1 fs[j].2 gs[j]) :
  Calls Tryz.prog 66 #[vl,.slice af fs.length cf] w fun e w'=>e = .returned (.string (Tess.mk (Tess.lB4 C gs)))∧Below w.heap.size w w':=by
 obtain ⟨a,Be,rfl,hl,hc⟩:=hv.opened
 have HC:=Hd hc
 have HF:=Hd hf
 have HT:=Hd ht
 have Aq:=Hd hgl
 obtain ⟨i0,A7,Ax,Az,A5⟩:=info_parts (P:=Tryz.prog) (e:=2) (z:=.int .i64 0) (size:=1) (bytes:=8) (by kernel_rfl)
 clear hc hv hf ht hgl
 go_enter Tryz.func66,Tryz.ntmps66
 go_wp2
 go_loopw [5,15] (fun v j wr => ∃ k:Nat,k≤fs.length∧j = .int .i64 k∧v = .string (Tess.mk (Tess.lB4 C (gs.take k)))∧Below w.heap.size w wr) (fun _ j _=>fs.length - (intOf j).toNat)
 case atStart=>exact ⟨0,Nat.zero_le _,rfl,rfl,Below.refl _ _⟩
 case round=>
  obtain ⟨j,hj,rfl,rfl,hB⟩:=hrel
  by_cases hlt:j < fs.length
  ·obtain ⟨b,off,rfl,Ac⟩:=HF.out wr hB j hlt
   have A4:(j:Int) < (fs.length:Int):=by omega
   have Am:j < gs.length:=by rw [Aq.out];exact hlt
   have Ak:=Hd (HT.out j hlt Am)
   have HL:=Hd (Tess.listsB_take C gs j Am)
   have As:=Tess.listsB_len C (gs.take j) hC
   rw [List.length_take] at As
   generalize gs[j]=g at *
   generalize fs[j]=f at *
   obtain ⟨id,Ay⟩:=f
   dsimp only at Ac Ak
   have Bd:=Ak.out.1
   obtain ⟨A,hA⟩:∃ A,A=Tess.mk (Tess.lB4 C (gs.take j)):=⟨_,rfl⟩
   have A8:A.size≤100100:=by rw [hA,Tess.ms2];omega
   rw [← hA]
   have HA:=Hd hA
   have HB:=Hd hB
   obtain ⟨wa,A9⟩:∃ wa,wa=wr:=⟨_,rfl⟩
   subst A9
   clear hA As Am hB
   go_wp2_with (fail)
   go_loopw [8,21] (fun v i wr => ∃ k:Nat,k≤C.length∧i = .int .i64 k∧wr.ownsRow w.heap.size 2 1 v k ((Tess.toldL C g k).map (.int .i64))∧Below w.heap.size w wr) (fun _ i _=>C.length - (intOf i).toNat)
   case atStart=>exact ⟨0,Nat.zero_le _,rfl,World.ownsRow_nil _ _ _ _,HB.out⟩
   case round=>
    obtain ⟨k,hk,rfl,Ae,Aj⟩:=hrel
    have HO:=Hd Ae
    have Ao:=Hd Aj
    clear Ae
    by_cases hkl:k < C.length
    ·obtain ⟨b1,o1,ad,cd,a3,c3,a4,c4,a5,c5,rfl,At,⟨q0,q1,q2,q3,q4,q5⟩,_,Af⟩:=HC.out wr Aj k hkl
     have Aw:(k:Int) < (C.length:Int):=by omega
     have HM:=Hd (show C[k] ∈ C from List.getElem_mem hkl)
     have HW:=Hd (Tess.toldL_succ C g k hkl)
     generalize C[k]=x at *
     obtain ⟨W3,A2⟩:∃ W3,wr.alloc (.cells #[.int .i64 x.1.1,.slice ad x.1.2.length cd,.int .i64 x.2.n,.slice a3 x.2.sums.length c3,.slice a4 x.2.mins.length c4,.slice a5 x.2.maxs.length c5] 56)=W3:=⟨_,rfl⟩
     obtain ⟨k1,kS,kB⟩:=la2 wr (.cells #[.int .i64 x.1.1,.slice ad x.1.2.length cd,.int .i64 x.2.n,.slice a3 x.2.sums.length c3,.slice a4 x.2.mins.length c4,.slice a5 x.2.maxs.length c5] 56)
     rw [A2] at k1 kS kB
     obtain ⟨⟨r0,r1,r2,r3,r4,r5⟩,_⟩:=can6 k1
     have A3:=Hd kB
     have Ad:=Hd (Ak.out.2.2 W3 (Bt Ao.out kB) x HM.out ad cd a3 c3 a4 c4 a5 c5 (Af.ag (Ag.new p kB)))
     have A6:=Hd (ob2 HO.out kB)
     clear kS k1 kB At Aj Af
     go_wp2_with (fail)
     refine Ad.out.mono ?_
     rintro e w4 ⟨rfl,An⟩
     have Ah:=Hd (Bt Ao.out (Bt A3.out An))
     have Ar:=Hd (ob2 A6.out An)
     clear An q0 q1 q2 q3 q4 q5 r0 r1 r2 r3 r4 r5
     go_wp2_with (at_builtin;refine wpList_append_own _ rfl _ _ 49 rfl w.heap.size 2 i0 (.int .i64 0) 1 8 Tryz.underlying49 A7 Ax Az A5 rfl (by decide) _ _ _ rfl (Ar.out.alloc _) ⟨w4.heap.size,0,none⟩ 1 1 [.int .i64 (g x)] rfl rfl (cell_one_new _ _ _) (by simp [Value.oneCell']) (by unfold maxLen;omega) (by omega) (by have:=Ah.out.size;simp;omega) ?_)
     intro v' w5 Ab Aa _
     have Bc:=Hd ((Ah.out.alloc Ah.out.size (.cells #[.int .i64 (g x)] 2)).grown Aa (by have:=Ah.out.size;simp;omega) (fun m e=>(Ar.out.lt m e).1))
     have Av:=Hd Ab
     clear Ab Aa
     go_wp2_with (fail)
     go_roundw
     case rel=>exact ⟨k + 1,by omega,by go_num,by rw [HW.out,List.map_append];exact Av.out,Bc.out⟩
     case measure=>simp [intOf];omega
    ·have Aw:¬ (k:Int) < (C.length:Int):=by omega
     obtain rfl:k=C.length:=by omega
     have Al:=pack_any _ (C.map g) wr (by have h:=SlOf.owned HO.out;unfold Tess.toldL at h;rw [List.take_length] at h;exact h) (fun z hz=>by
      obtain ⟨x,hx,rfl⟩:=List.mem_map.1 hz
      exact Ak.out.2.1 x hx) (by rw [List.length_map];exact hC)
     obtain ⟨B,Ai⟩:∃ B,B=Tess.mk (Tess.pL2 (C.map g)):=⟨_,rfl⟩
     rw [← Ai] at Al
     have A1:B.size≤10010:=by
      rw [Ai,Tess.ms2]
      have:=Tess.pLf (C.map g) (by simpa using hC)
      rw [List.length_map] at this
      omega
     have Ba:A.size + B.size≤9223372036854775807:=by omega
     have Au:=Hd Al
     have Bb:=Hd Ai
     clear Al Ai A1 A8 Aj
     go_wp2_with (go_at_call 118;refine Au.out.mono ?_;rintro e w6 ⟨rfl,Ap⟩;have A0:=Hd (Bt Ao.out Ap);clear Ap)
     go_roundw
     case rel=>exact ⟨j + 1,by omega,by go_num,by rw [HL.out,HA.out,Bb.out,Tess.ma2],A0.out⟩
     case measure=>simp [intOf];omega
  ·have A4:¬ (j:Int) < (fs.length:Int):=by omega
   obtain rfl:j=fs.length:=by omega
   rw [List.take_of_length_le (by rw [Aq.out];exact Nat.le_refl _)]
   go_wp2_with (fail)
   go_ret
   exact ⟨rfl,hB⟩
end Go.Proofs.YtjdccifdkjnknaaGreatDoor
namespace Tess
open Go Go.RowKit Go.Proofs.YtjdccifdkjnknaaGreatDoor
theorem listsT (C:List (CK×Pay)):lB4 C [fun x=>x.1.1,fun x=>x.2.n]=colT C:=by
 unfold lB4 colT
 simp only [List.flatMap_cons,List.flatMap_nil,List.append_nil]
theorem listsM (C:List (CK×Pay)) (m:Nat):lB4 C [fun x=>wHi (x.2.sums.getD m 0),fun x=>wrap64 (wLo (x.2.sums.getD m 0)),fun x=>x.2.mins.getD m 0,fun x=>x.2.maxs.getD m 0]=colM C m:=by
 unfold lB4 colM
 simp only [List.flatMap_cons,List.flatMap_nil,List.append_nil]
end Tess
namespace Go.Proofs.YtjdccifdkjnknaaGreatDoor
open Go.RowKit Go.Sort
open Tess (CK Pay)
section
variable {p:Nat→Prop} {w:World} {C:List (CK×Pay)}
theorem tells1 (h:∀ x ∈ C,I64 x.1.1):Tells p w C 67 #[] (fun x=>x.1.1):=
 ⟨enters_of Tryz.func67 (by kernel_rfl) rfl,h,fun W _ x _ _ _ _ _ _ _ _ _ _=>col1_any x.1.1 _ _ _ _ _ W⟩
theorem tells2 (h:∀ x ∈ C,I64 x.2.n):Tells p w C 68 #[] (fun x=>x.2.n):=
 ⟨enters_of Tryz.func68 (by kernel_rfl) rfl,h,fun W _ x _ _ _ _ _ _ _ _ _ _=>col2_any x.2.n _ _ _ _ _ W⟩
variable {bi m:Nat} (hb:w.cell? ⟨bi,0,none⟩=some (.int .i64 (m:Int)))
include hb
theorem tells3 (hm:∀ x ∈ C,m < x.2.sums.length) (h:∀ x ∈ C,I64 (wHi (x.2.sums.getD m 0))):Tells p w C 73 #[.pointer (some ⟨bi,0,none⟩)] (fun x=>wHi (x.2.sums.getD m 0)):=
 ⟨enters_of Tryz.func73 (by kernel_rfl) rfl,h,fun W hW x hx ad cd a3 c3 a4 c4 a5 c5 hp=>col3_any p x.1.1 (.slice ad x.1.2.length cd) a3 a4 a5 c3 c4 c5 bi m x.2 W hp (hm x hx) ((hW.cell (p:=⟨bi,0,none⟩) (World.block_lt_of_cell? _ _ hb)).trans hb)⟩
theorem tells4 (hm:∀ x ∈ C,m < x.2.sums.length):Tells p w C 74 #[.pointer (some ⟨bi,0,none⟩)] (fun x=>wrap64 (wLo (x.2.sums.getD m 0))):=
 ⟨enters_of Tryz.func74 (by kernel_rfl) rfl,fun _ _=>Tess.wr5 _,fun W hW x hx ad cd a3 c3 a4 c4 a5 c5 hp=>col4_any p x.1.1 (.slice ad x.1.2.length cd) a3 a4 a5 c3 c4 c5 bi m x.2 W hp (hm x hx) ((hW.cell (p:=⟨bi,0,none⟩) (World.block_lt_of_cell? _ _ hb)).trans hb)⟩
theorem tells5 (hm:∀ x ∈ C,m < x.2.mins.length) (h:∀ x ∈ C,I64 (x.2.mins.getD m 0)):Tells p w C 75 #[.pointer (some ⟨bi,0,none⟩)] (fun x=>x.2.mins.getD m 0):=
 ⟨enters_of Tryz.func75 (by kernel_rfl) rfl,h,fun W hW x hx ad cd a3 c3 a4 c4 a5 c5 hp=>col5_any p x.1.1 (.slice ad x.1.2.length cd) a3 a4 a5 c3 c4 c5 bi m x.2 W hp (hm x hx) ((hW.cell (p:=⟨bi,0,none⟩) (World.block_lt_of_cell? _ _ hb)).trans hb)⟩
theorem tells6 (hm:∀ x ∈ C,m < x.2.maxs.length) (h:∀ x ∈ C,I64 (x.2.maxs.getD m 0)):Tells p w C 76 #[.pointer (some ⟨bi,0,none⟩)] (fun x=>x.2.maxs.getD m 0):=
 ⟨enters_of Tryz.func76 (by kernel_rfl) rfl,h,fun W hW x hx ad cd a3 c3 a4 c4 a5 c5 hp=>col6_any p x.1.1 (.slice ad x.1.2.length cd) a3 a4 a5 c3 c4 c5 bi m x.2 W hp (hm x hx) ((hW.cell (p:=⟨bi,0,none⟩) (World.block_lt_of_cell? _ _ hb)).trans hb)⟩
end
theorem colT_any (p:Nat→Prop) (vl:Value) (C:List (CK×Pay)) (b cf T:Nat) (w:World) (hv:CA2 p w vl C) (hC:C.length≤1000)
  (hb:w.heap[b]? = some (.cells #[.func (.func 67) #[] #[],.func (.func 68) #[] #[]] T (0,0)))
  (h1:∀ x ∈ C,I64 x.1.1) (h2:∀ x ∈ C,I64 x.2.n) :
  Calls Tryz.prog 66 #[vl,.slice (some ⟨b,0,none⟩) 2 cf] w fun e w'=>e = .returned (.string (Tess.mk (Tess.colT C)))∧Below w.heap.size w w':=by
 rw [← Tess.listsT]
 refine la4 p vl C [(67,#[]),(68,#[])] _ (some ⟨b,0,none⟩) cf w hv hC rfl (by decide) (fun W hW j hj=>⟨b,0,rfl,?_⟩) (fun j hj hj' => ?_)
 ·have hk:=(hW.block b (Array.getElem?_eq_some_iff.1 hb).1).trans hb
  have e:=cell_of_row _ _ (0 + j) _ _ _ hk
  rw [e]
  match j,hj with
  | 0,_=>rfl
  | 1,_=>rfl
 ·match j,hj,hj' with
  | 0,_,_=>exact tells1 h1
  | 1,_,_=>exact tells2 h2
theorem colM_any (p:Nat→Prop) (vl:Value) (C:List (CK×Pay)) (b bi m cf T:Nat) (w:World) (hv:CA2 p w vl C) (hC:C.length≤1000)
  (hb:w.heap[b]? = some (.cells #[.func (.func 73) #[] #[.pointer (some ⟨bi,0,none⟩)],.func (.func 74) #[] #[.pointer (some ⟨bi,0,none⟩)],.func (.func 75) #[] #[.pointer (some ⟨bi,0,none⟩)],.func (.func 76) #[] #[.pointer (some ⟨bi,0,none⟩)]] T (0,0)))
  (hbi:w.cell? ⟨bi,0,none⟩=some (.int .i64 (m:Int))) (hm:∀ x ∈ C,m < x.2.sums.length∧m < x.2.mins.length∧m < x.2.maxs.length)
  (h3:∀ x ∈ C,I64 (wHi (x.2.sums.getD m 0))) (h5:∀ x ∈ C,I64 (x.2.mins.getD m 0)) (h6:∀ x ∈ C,I64 (x.2.maxs.getD m 0)) :
  Calls Tryz.prog 66 #[vl,.slice (some ⟨b,0,none⟩) 4 cf] w fun e w'=>e = .returned (.string (Tess.mk (Tess.colM C m)))∧Below w.heap.size w w':=by
 rw [← Tess.listsM]
 refine la4 p vl C [(73,#[.pointer (some ⟨bi,0,none⟩)]),(74,#[.pointer (some ⟨bi,0,none⟩)]),(75,#[.pointer (some ⟨bi,0,none⟩)]),(76,#[.pointer (some ⟨bi,0,none⟩)])] _ (some ⟨b,0,none⟩) cf w hv hC rfl (by simp) (fun W hW j hj=>⟨b,0,rfl,?_⟩) (fun j hj hj' => ?_)
 ·have hk:=(hW.block b (Array.getElem?_eq_some_iff.1 hb).1).trans hb
  have e:=cell_of_row _ _ (0 + j) _ _ _ hk
  rw [e]
  match j,hj with
  | 0,_=>rfl
  | 1,_=>rfl
  | 2,_=>rfl
  | 3,_=>rfl
 ·match j,hj,hj' with
  | 0,_,_=>exact tells3 hbi (fun x hx=>(hm x hx).1) h3
  | 1,_,_=>exact tells4 hbi (fun x hx=>(hm x hx).1)
  | 2,_,_=>exact tells5 hbi (fun x hx=>(hm x hx).2.1) h5
  | 3,_,_=>exact tells6 hbi (fun x hx=>(hm x hx).2.2) h6
end Go.Proofs.YtjdccifdkjnknaaGreatDoor
