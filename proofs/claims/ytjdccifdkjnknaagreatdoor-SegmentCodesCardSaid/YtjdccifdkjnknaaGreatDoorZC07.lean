/- Joined. -/
import Derived.Shelf.Small.Bits
import Derived.Shelf.Small.Strs
import Derived.Shelf.Sort.Plain
import Derived.Shelf.Bits.Mul64
import Derived.Shelf.Strings.BuilderCap
import Derived.Shelf.Slices.Turned
import Derived.Shelf.Slices.Cells
import Derived.Shelf.Slices.In.SortNone
import Derived.Test.YtjdccifdkjnknaaGreatDoorZC03
import Derived.Stop.Asserts
set_option maxRecDepth 100000
set_option maxHeartbeats 2000000
set_option linter.defProp false
def yd:=@Go.Proofs.enters_of
namespace Go.Proofs
open Go.Shelf
def Tryz.lr3:Go.Shelf.Ren:=⟨fun|169=>43|n=>n,fun|70=>85|9=>9|0=>0|72=>88|37=>86|127=>138|3=>3|5=>5|n=>n,fun|n=>n⟩
theorem Tryz.la6:Go.Proofs.Lays.n169 Tryz.prog Tryz.lr3:={
 mixed:=by kernel_rfl
 f169:=Tryz.func43.trans (zM some (by kernel_rfl))
 t0:=Tryz.underlying0
 a0:=Tryz.isAgg0
 z0:=Tryz.sizeOf0
 v0:=Tryz.zeroValue0
 t3:=Tryz.underlying3
 a3:=Tryz.isAgg3
 z3:=Tryz.sizeOf3
 v3:=Tryz.zeroValue3
 t9:=Tryz.underlying9
 a9:=Tryz.isAgg9
 z9:=Tryz.sizeOf9
 v9:=Tryz.zeroValue9
 t37:=Tryz.underlying86
 a37:=Tryz.isAgg86
 z37:=Tryz.sizeOf86
 v37:=Tryz.zeroValue86
 t70:=Tryz.underlying85
 a70:=Tryz.isAgg85
 z70:=Tryz.sizeOf85
 v70:=Tryz.zeroValue85
 t72:=Tryz.underlying88
 a72:=Tryz.isAgg88
 z72:=Tryz.sizeOf88
 v72:=Tryz.zeroValue88
 t127:=Tryz.underlying138
 a127:=Tryz.isAgg138
 z127:=Tryz.sizeOf138
 v127:=Tryz.zeroValue138 }
theorem Tryz.BE1:Builder.Extra Tryz.prog Tryz.lr3:={
 sizeBuilder:=by kernel_rfl
 liesBuilder:=by kernel_rfl
 t5:=Tryz.underlying5
 a5:=Tryz.isAgg5
 z5:=Tryz.sizeOf5
 v5:=Tryz.zeroValue5
 infoByte:=by kernel_rfl
 cellsByte:=by kernel_rfl
 sizeByte:=by kernel_rfl
 neB5:=by decide }
def Tryz.lr5:Go.Shelf.Ren:=⟨fun|125=>163|128=>203|129=>204|n=>n,fun|46=>161|3=>3|51=>119|53=>92|4=>4|5=>5|9=>9|n=>n,fun|n=>n⟩
theorem Tryz.la13:Go.Proofs.Lays.n125 Tryz.prog Tryz.lr5:={
 mixed:=by kernel_rfl
 f125:=Tryz.func163.trans (zM some (by kernel_rfl))
 f128:=Tryz.func203.trans (zM some (by kernel_rfl))
 f129:=Tryz.func204.trans (zM some (by kernel_rfl))
 t3:=Tryz.underlying3
 a3:=Tryz.isAgg3
 z3:=Tryz.sizeOf3
 v3:=Tryz.zeroValue3
 t4:=Tryz.underlying4
 a4:=Tryz.isAgg4
 z4:=Tryz.sizeOf4
 v4:=Tryz.zeroValue4
 t5:=Tryz.underlying5
 a5:=Tryz.isAgg5
 z5:=Tryz.sizeOf5
 v5:=Tryz.zeroValue5
 t9:=Tryz.underlying9
 a9:=Tryz.isAgg9
 z9:=Tryz.sizeOf9
 v9:=Tryz.zeroValue9
 t46:=Tryz.underlying161
 a46:=Tryz.isAgg161
 z46:=Tryz.sizeOf161
 v46:=Tryz.zeroValue161
 t51:=Tryz.underlying119
 a51:=Tryz.isAgg119
 z51:=Tryz.sizeOf119
 v51:=Tryz.zeroValue119
 t53:=Tryz.underlying92
 a53:=Tryz.isAgg92
 z53:=Tryz.sizeOf92
 v53:=Tryz.zeroValue92 }
theorem Tryz.bits_Len(x:Int)(w:World)(h0:0<=x)(h1:x<=18446744073709551615) :
  Calls Tryz.prog 163 #[.int .u64 x] w fun e w'=>e = .returned (.int .i64 (Lib.bitLen x.toNat))/\w'=w:=Any.bits_Len Tryz.la13 x w h0 h1
def Tryz.lr7:Go.Shelf.Ren:=⟨fun|106=>185|213=>214|265=>232|n=>n,fun|9=>9|3=>3|n=>n,fun|n=>n⟩
theorem Tryz.la10:Go.Proofs.Lays.n106 Tryz.prog Tryz.lr7:={
 mixed:=by kernel_rfl
 f106:=Tryz.func185.trans (zM some (by kernel_rfl))
 f213:=Tryz.func214.trans (zM some (by kernel_rfl))
 f265:=Tryz.func232.trans (zM some (by kernel_rfl))
 t3:=Tryz.underlying3
 a3:=Tryz.isAgg3
 z3:=Tryz.sizeOf3
 v3:=Tryz.zeroValue3
 t9:=Tryz.underlying9
 a9:=Tryz.isAgg9
 z9:=Tryz.sizeOf9
 v9:=Tryz.zeroValue9 }
open Go.RowKit in
theorem Tryz.strings_Compare(a b:ByteArray)(w:World) :
  Calls Tryz.prog 185 #[.string a,.string b] w fun e w'=>e = .returned (.int .i64 (Lib.compareBytes a.data.toList b.data.toList))/\w'=w:=Any.strings_Compare Tryz.la10 a b w
open Go.RowKit in
theorem Tryz.Builder_String_k(B b:Nat)(l:List UInt8)(w:World)(h:Lib.IsBuilderF 88 5 B b (Lib.byteCells l) w)(h0:l≠[]) :
  Calls Tryz.prog 43 #[.pointer (some ⟨b,0,none⟩)] w fun e w'=>e = .returned (.string ⟨l.toArray⟩)/\(Lib.IsBuilderF 88 5 B b (Lib.byteCells l) w'/\Below B w w'/\Lib.OthersKept 5 (some b) w w'):=Any.Builder_String_k Tryz.la6 Tryz.BE1 B b l w h h0
def Tryz.lr6:Go.Shelf.Ren:=⟨fun|190=>158|125=>163|258=>200|128=>203|129=>204|302=>218|303=>219|304=>220|305=>221|306=>222|307=>223|308=>205|309=>224|310=>225|333=>233|329=>234|330=>235|334=>236|335=>237|336=>226|344=>240|n=>n,fun|31=>22|9=>9|3=>3|46=>161|0=>0|51=>119|53=>92|4=>4|183=>286|182=>285|131=>142|5=>5|218=>301|222=>304|228=>311|229=>312|n=>n,fun|n=>n⟩
theorem Tryz.la11:Go.Proofs.Lays.n190 Tryz.prog Tryz.lr6:={
 mixed:=by kernel_rfl
 f125:=Tryz.func163.trans (zM some (by kernel_rfl))
 f128:=Tryz.func203.trans (zM some (by kernel_rfl))
 f129:=Tryz.func204.trans (zM some (by kernel_rfl))
 f190:=Tryz.func158.trans (zM some (by kernel_rfl))
 f258:=Tryz.func200.trans (zM some (by kernel_rfl))
 f302:=Tryz.func218.trans (zM some (by kernel_rfl))
 f303:=Tryz.func219.trans (zM some (by kernel_rfl))
 f304:=Tryz.func220.trans (zM some (by kernel_rfl))
 f305:=Tryz.func221.trans (zM some (by kernel_rfl))
 f306:=Tryz.func222.trans (zM some (by kernel_rfl))
 f307:=Tryz.func223.trans (zM some (by kernel_rfl))
 f308:=Tryz.func205.trans (zM some (by kernel_rfl))
 f309:=Tryz.func224.trans (zM some (by kernel_rfl))
 f310:=Tryz.func225.trans (zM some (by kernel_rfl))
 f329:=Tryz.func234.trans (zM some (by kernel_rfl))
 f330:=Tryz.func235.trans (zM some (by kernel_rfl))
 f333:=Tryz.func233.trans (zM some (by kernel_rfl))
 f334:=Tryz.func236.trans (zM some (by kernel_rfl))
 f335:=Tryz.func237.trans (zM some (by kernel_rfl))
 f336:=Tryz.func226.trans (zM some (by kernel_rfl))
 f344:=Tryz.func240.trans (zM some (by kernel_rfl))
 t0:=Tryz.underlying0
 a0:=Tryz.isAgg0
 z0:=Tryz.sizeOf0
 v0:=Tryz.zeroValue0
 t3:=Tryz.underlying3
 a3:=Tryz.isAgg3
 z3:=Tryz.sizeOf3
 v3:=Tryz.zeroValue3
 t4:=Tryz.underlying4
 a4:=Tryz.isAgg4
 z4:=Tryz.sizeOf4
 v4:=Tryz.zeroValue4
 t5:=Tryz.underlying5
 a5:=Tryz.isAgg5
 z5:=Tryz.sizeOf5
 v5:=Tryz.zeroValue5
 t9:=Tryz.underlying9
 a9:=Tryz.isAgg9
 z9:=Tryz.sizeOf9
 v9:=Tryz.zeroValue9
 t31:=Tryz.underlying22
 a31:=Tryz.isAgg22
 z31:=Tryz.sizeOf22
 v31:=Tryz.zeroValue22
 t46:=Tryz.underlying161
 a46:=Tryz.isAgg161
 z46:=Tryz.sizeOf161
 v46:=Tryz.zeroValue161
 t51:=Tryz.underlying119
 a51:=Tryz.isAgg119
 z51:=Tryz.sizeOf119
 v51:=Tryz.zeroValue119
 t53:=Tryz.underlying92
 a53:=Tryz.isAgg92
 z53:=Tryz.sizeOf92
 v53:=Tryz.zeroValue92
 t131:=Tryz.underlying142
 a131:=Tryz.isAgg142
 z131:=Tryz.sizeOf142
 v131:=Tryz.zeroValue142
 t182:=Tryz.underlying285
 a182:=Tryz.isAgg285
 z182:=Tryz.sizeOf285
 v182:=Tryz.zeroValue285
 t183:=Tryz.underlying286
 a183:=Tryz.isAgg286
 z183:=Tryz.sizeOf286
 v183:=Tryz.zeroValue286
 t218:=Tryz.underlying301
 a218:=Tryz.isAgg301
 z218:=Tryz.sizeOf301
 v218:=Tryz.zeroValue301
 t222:=Tryz.underlying304
 a222:=Tryz.isAgg304
 z222:=Tryz.sizeOf304
 v222:=Tryz.zeroValue304
 t228:=Tryz.underlying311
 a228:=Tryz.isAgg311
 z228:=Tryz.sizeOf311
 v228:=Tryz.zeroValue311
 t229:=Tryz.underlying312
 a229:=Tryz.isAgg312
 z229:=Tryz.sizeOf312
 v229:=Tryz.zeroValue312 }
def Tryz.lr9:Go.Shelf.Ren:=⟨fun|264=>181|n=>n,fun|53=>92|46=>161|n=>n,fun|n=>n⟩
theorem Tryz.la8:Go.Proofs.Lays.n264 Tryz.prog Tryz.lr9:={
 mixed:=by kernel_rfl
 f264:=Tryz.func181.trans (zM some (by kernel_rfl))
 t46:=Tryz.underlying161
 a46:=Tryz.isAgg161
 z46:=Tryz.sizeOf161
 v46:=Tryz.zeroValue161
 t53:=Tryz.underlying92
 a53:=Tryz.isAgg92
 z53:=Tryz.sizeOf92
 v53:=Tryz.zeroValue92 }
open Go.RowKit Go.Lib in
theorem Tryz.bits_Mul64(x y:Nat)(hx:x<18446744073709551616)(hy:y<18446744073709551616)(w:World) :
  Calls Tryz.prog 181 #[.int .u64 x,.int .u64 y] w fun e w'=>e = .returned (.tuple #[.int .u64 ((x*y/18446744073709551616:Nat):Int),.int .u64 ((x*y%18446744073709551616:Nat):Int)])/\w'=w:=Any.bits_Mul64 Tryz.la8 x y hx hy w
def Tryz.lr4:Go.Shelf.Ren:=⟨fun|113=>164|n=>n,fun|28=>96|3=>3|4=>4|9=>9|20=>20|0=>0|n=>n,fun|n=>n⟩
theorem Tryz.la12:Go.Proofs.Lays.n113 Tryz.prog Tryz.lr4:={
 mixed:=by kernel_rfl
 f113:=Tryz.func164.trans (zM some (by kernel_rfl))
 t0:=Tryz.underlying0
 a0:=Tryz.isAgg0
 z0:=Tryz.sizeOf0
 v0:=Tryz.zeroValue0
 t3:=Tryz.underlying3
 a3:=Tryz.isAgg3
 z3:=Tryz.sizeOf3
 v3:=Tryz.zeroValue3
 t4:=Tryz.underlying4
 a4:=Tryz.isAgg4
 z4:=Tryz.sizeOf4
 v4:=Tryz.zeroValue4
 t9:=Tryz.underlying9
 a9:=Tryz.isAgg9
 z9:=Tryz.sizeOf9
 v9:=Tryz.zeroValue9
 t20:=Tryz.underlying20
 a20:=Tryz.isAgg20
 z20:=Tryz.sizeOf20
 v20:=Tryz.zeroValue20
 t28:=Tryz.underlying96
 a28:=Tryz.isAgg96
 z28:=Tryz.sizeOf96
 v28:=Tryz.zeroValue96 }
open Go.Lib in
theorem Tryz.slices_Max_int(b off n c:Nat)(zs:List Int)(w:World)(hn:0<n)(hz:n<=zs.length)(hbig:n<=9223372036854775807)(hc:∀j,j<zs.length->w.cell? ⟨b,off+j,none⟩=some (.int .i64 (zs.getD j 0))) :
  Calls Tryz.prog 164 #[.slice (some ⟨b,off,none⟩) n c] w fun e w'=>e = .returned (.int .i64 (Lib.maxOf (zs.take n)))/\w'=w:=Any.slices_Max_int Tryz.la12 b off n c zs w hn hz hbig hc
def Tryz.lr8:Go.Shelf.Ren:=⟨fun|194=>159|n=>n,fun|31=>22|9=>9|3=>3|4=>4|0=>0|n=>n,fun|n=>n⟩
theorem Tryz.la9:Go.Proofs.Lays.n194 Tryz.prog Tryz.lr8:={
 mixed:=by kernel_rfl
 f194:=Tryz.func159.trans (zM some (by kernel_rfl))
 t0:=Tryz.underlying0
 a0:=Tryz.isAgg0
 z0:=Tryz.sizeOf0
 v0:=Tryz.zeroValue0
 t3:=Tryz.underlying3
 a3:=Tryz.isAgg3
 z3:=Tryz.sizeOf3
 v3:=Tryz.zeroValue3
 t4:=Tryz.underlying4
 a4:=Tryz.isAgg4
 z4:=Tryz.sizeOf4
 v4:=Tryz.zeroValue4
 t9:=Tryz.underlying9
 a9:=Tryz.isAgg9
 z9:=Tryz.sizeOf9
 v9:=Tryz.zeroValue9
 t31:=Tryz.underlying22
 a31:=Tryz.isAgg22
 z31:=Tryz.sizeOf22
 v31:=Tryz.zeroValue22 }
open Go.RowKit Go.Lib Go.Sort in
theorem Tryz.slices_Compact_string(blk off cap:Nat)(zs:List (List UInt8))(w:World)(hH:Holds encStr w blk off zs.toArray)(hsz:zs.length<=9223372036854775807)(hcap:zs.length<=cap) :
  Calls Tryz.prog 159 #[.slice (some ⟨blk,off,none⟩) zs.length cap] w fun e w'=>e = .returned (.slice (some ⟨blk,off,none⟩) (Lib.compact zs).length cap)/\∃q,w'=putRow encStr (Sort.ahead w q) blk off (Lib.compact zs++List.replicate (zs.length-(Lib.compact zs).length) []).toArray:=Any.slices_Compact_string Tryz.la9 blk off cap zs w hH hsz hcap
end Go.Proofs
namespace Go.Proofs.Q9
open Go.RowKit Go.Sort Go.Shelf
attribute [local go_sem] jK
theorem dco{W:World}{B:Nat}{v:Value}{t:TypeId}(h:W.heap[B]?=some (.cells #[v] t (0,0))):W.cell? ⟨B,0,none⟩=some v/\W.frozen? ⟨B,0,none⟩=false:=by constructor<;>simp[World.cell?,World.frozen?,h]
theorem dhs{W:World}{B:Nat}{v:Value}{t:TypeId}(v':Value)(h:W.heap[B]?=some (.cells #[v] t (0,0))):(W.setCell ⟨B,0,none⟩ v').heap[B]?=some (.cells #[v'] t (0,0)):=by obtain⟨Aa,hk⟩:=qA.1 h;show(W.heap.modify B _)[B]?=_;rw[yB (by rw[Array.size_modify];exact Aa),Array.getElem_modify_self,hk];rfl
theorem dhn{W:World}{B k:Nat}{u:Value}(h:k≠B):(W.setCell ⟨B,0,none⟩ u).heap[k]?=W.heap[k]?:=yE _ _ _ _ h
theorem dgB(W:World)(l:Nat)(o:Obj):W.grownBy (W.putObj l o) (some l):=
 ⟨rfl,rfl,rfl,by simp,fun k _ hk=>xH (fun e=>hk (by rw[e]))⟩
structure Rp(w:World)(rec:Loop)(v:Value)(e:Bool)(W:World):Prop where
 k0:W.heap[w.heap.size]?=some (.cells #[.bool e] 4 (0,0))
 k1:W.heap[w.heap.size+1]?=some (.cells #[v] 22 (0,0))
 kD:W.heap[w.heap.size+2]?=some (.deferred (some []))
 kL:W.heap[w.heap.size+3]?=some (.loop rec)
 below:Below w.heap.size w W
section
variable {w W W':World} {rec rec':Loop} {v:Value} {e e':Bool}
theorem Rp.set0(h:Rp w rec v e W)(e':Bool):Rp w rec v e' (W.setCell ⟨w.heap.size,0,none⟩ (.bool e')):=
 ⟨dhs _ h.k0,(dhn (by omega)).trans h.k1,(dhn (by omega)).trans h.kD,(dhn (by omega)).trans h.kL,h.below.setCell (qC _) _⟩
theorem Rp.but(h:Rp w rec v e W)(hs:Rf.SB (w.heap.size+2+1) W W')(hl:W'.heap[w.heap.size+2+1]?=some (.loop rec')):Rp w rec' v e W':=
 ⟨(hs.block _ (by omega)).trans h.k0,(hs.block _ (by omega)).trans h.k1,(hs.block _ (by omega)).trans h.kD,hl,h.below.trans (hs.below (by omega))⟩
theorem Rp.later(h:Rp w rec v e W)(hB:Below W.heap.size W W'):Rp w rec v e W':=
 ⟨(hB.block _ (qA.1 h.k0).1).trans h.k0,(hB.block _ (qA.1 h.k1).1).trans h.k1,(hB.block _ (qA.1 h.kD).1).trans h.kD,(hB.block _ (qA.1 h.kL).1).trans h.kL,h.below.trans (hB.mono h.below.size)⟩
end
theorem dra(v:Value)(l:List ByteArray)(w:World)(hv:SlOf w v (l.map .string)) :
  Calls Tryz.prog 120 #[v] w fun e w'=>e = .returned (.bool (Tess.right l))/\Below w.heap.size w w':=by
 have Ba:=Hd (dcl v l w hv);have HP:=Hd (Tess.rp2 l);obtain⟨a,Ai,rfl,Br,hc⟩:=so2 hv;have HC:=Hd hc;clear hc hv;refine(qZ (n:=5)).1 ?_;refine jL Tryz.func120 rfl trivial ?_ rfl;simp only[Tryz.ntmps120,qu,qU,zE,Nat.reduceAdd,Nat.reduceSub,qv,qw,zO,zC,qr,qk];gi_wp2;refine Rf.wIs ?_;by_cases h1000:l.length<=1000
 ·have Bj:(l.length:Int)<=1000:=by omega
  have Bq:decide ((l.length:Int)<=1000)=true:=decide_eq_true Bj;have hp:=HP.out;rw[decide_eq_true h1000,zl]at hp;have HP:=Hd hp;clear hp;cases hany:l.any Tess.diL
  ·rw[hany]at Ba HP;have Ay:RowKit.Hid (Tess.right l=Tess.chainTo l l.length):=Hd (by rw[HP.out];rfl);clear HP;gi_wp2_with (refine⟨trivial,?_⟩;gi_at_call 156;refine(qZ.2 Ba.out).mono ?_;rintro e w1 ⟨rfl,Aj⟩;have HB:=Hd Aj;clear Aj);refine qAm ?_;gi_wp2_with (refine⟨trivial,?_⟩;gi_at_call 160;refine(qZ.2 (dpa2 _ _ _ _)).mono ?_;rintro e w' ⟨rfl,rfl⟩)
   obtain⟨w0,Ak⟩:=XQ (((w1.alloc (.cells #[.bool true] 4)).alloc (.cells #[.slice a l.length Ai] 22)))
   have hA:w0.heap.size=w1.heap.size+2:=by rw[<-Ak];simp
   have A1:Below w1.heap.size w1 w0:=by rw[<-Ak];exact((qJ _ _).alloc (qC _) _).alloc (by simp) _
   have h0:w0.heap[w1.heap.size]?=some (.cells #[.bool true] 4 (0,0)):=by rw[<-Ak];exact(zu _ _ _ (by simp)).trans (zS w1 _)
   have h1:w0.heap[w1.heap.size+1]?=some (.cells #[.slice a l.length Ai] 22 (0,0)):=by rw[<-Ak];have:=zS (w1.alloc (.cells #[.bool true] 4)) (.cells #[.slice a l.length Ai] 22);rwa [yH]at this
   rw[Ak];clear Ak;refine Rf.rw3 (gf:=201) (lb:=#[.pointer (some ⟨w1.heap.size+1,0,none⟩)]) rfl (yd Tryz.func201 (by kernel_rfl) rfl) ?_;intro fn W2 hL hD Aj A8;rw[hA]at hL hD A8⊢;obtain⟨Ad,Af,hL⟩:∃Ad:Loop,Ad=_/\W2.heap[w1.heap.size+2+1]?=some (.loop Ad):=⟨_,rfl,hL⟩
   have Aq:=Hd Af;have As:Ad.state = .ready/\Ad.params.size=2/\Ad.pending=none:=by rw[Af];exact⟨rfl,rfl,rfl⟩
   clear Af;obtain⟨As,A2,Bf⟩:=As;have hI:Rp w1 Ad (.slice a l.length Ai) true W2:=⟨(Aj.block _ (by omega)).trans h0,(Aj.block _ (by omega)).trans h1,hD,hL,Bt A1 Aj⟩
   clear A1 Aj h0 h1 hD hL;refine yg Tryz.func201 rfl trivial ?_ rfl;simp only[Tryz.ntmps201,qu,qU,zE,Nat.reduceAdd,Nat.reduceSub,qv,qw,zO,zC,qr,qk];gi_wp2;gi_loopw [3] (fun i wr=>∃k:Nat,1<=k/\k<=max 1 l.length/\i = .int .i64 k/\Tess.chainTo l k=true/\Rp w1 Ad (.slice a l.length Ai) true wr) (fun i _=>l.length-(intOf i).toNat)
   case atStart=>exact⟨1,qC _,by omega,rfl,rfl,hI⟩
   case round=>
    obtain⟨k,Bn,hk,rfl,Au,hS⟩:=hrel;have Az:=Hd Au;have HS:=Hd hS;clear Au hS;obtain⟨c1,z1⟩:=dco HS.out.k1;by_cases hlt:k<l.length
    ·obtain⟨j,rfl⟩:∃j,k=j+1:=⟨k-1,by omega⟩
     have hj:j<l.length:=by omega
     obtain⟨b,A6,rfl,hb,Ae⟩:=HC.out (j+1) hlt;obtain⟨b',Aa,Av,Be,Ac⟩:=HC.out j hj;obtain⟨rfl,rfl⟩:b'=b/\Aa=A6:=by cases Av;exact⟨rfl,rfl⟩
     have Ao:=Bt HB.out HS.out.below;have Ar:wr.cell? ⟨b',Aa+(j+1),none⟩=some (.string l[j+1]):=(Ao.cell (p:=⟨b',Aa+(j+1),none⟩) hb).trans Ae;have Ap:wr.cell? ⟨b',Aa+j,none⟩=some (.string l[j]):=(Ao.cell (p:=⟨b',Aa+j,none⟩) Be).trans Ac;have A0:b'<wr.heap.size:=qF hb Ao.size;have Ax:w1.heap.size+1<wr.heap.size:=(qA.1 HS.out.k1).1
     have Ab:Tess.ord l (j+1)=Tess.bl l[j] l[j+1]:=by unfold Tess.ord;rw[yx,Tess.getD_lt l j hj,Tess.getD_lt l (j+1) hlt];rfl
     obtain⟨x,hx⟩:=Xq (l[j])
     obtain⟨y,hy⟩:=Xq (l[j+1])
     rw[<-hx,<-hy]at Ab;rw[<-hx]at Ap;rw[<-hy]at Ar;have A4:(j:Int)+1<(l.length:Int):=by omega
     have Bm:(0:Int)<=(j:Int)+1:=by omega
     have Bb:(j:Int)+1-1=(j:Int):=by omega
     have Bl:(j:Int)<(l.length:Int):=by omega
     have Bo:IntKind.i64.wrap (j:Int)=(j:Int):=by go_bits;trivial
     have Bc:IntKind.i64.wrap ((j:Int)+1)=(j:Int)+1:=by go_bits;trivial
     have A7:=Hd (fun w2 (hw2:Below wr.heap.size wr w2)=>xJ (P:=Tryz.prog) (w:=w2) (l:=w1.heap.size+2+1) (r:=Ad) (args:=#[.string x,.string y]) (HS.out.later hw2).kL (by rw[A2];rfl));have A9:=Hd Ar;have Bh:=Hd Ap;clear hx hy Ae Ac Av Ao Ar Ap;gi_wp2;have Aw:=Hd c1;clear c1 z1
     refine Flow.wIr 10 (Flow.sp3 [.inl (.func (.yield (w1.heap.size+2+1)) #[] #[]),.inl (.slice (some ⟨b',Aa,none⟩) l.length Ai),.inl (.int .i64 ((j:Int)+1)),.inl (.int .i64 j),.inl (.pointer (some ⟨b',Aa+j,none⟩)),.inl (.string x),.inl (.slice (some ⟨b',Aa,none⟩) l.length Ai),.inl (.int .i64 ((j:Int)+1)),.inl (.pointer (some ⟨b',Aa+(j+1),none⟩)),.inl (.string y)]) (by kernel_rfl) (by kernel_rfl) ?_ ?_
     ·apply Flow.sm2;intro s hs;simp only[qm,zG,jr]at hs;rcases hs with rfl|rfl|rfl|rfl|rfl|rfl|rfl|rfl|rfl|rfl
      all_goals exact Flow.mi _
     iterate 1 (refine Flow.tvK rfl (fun K hK=>⟨fun w hw hG=>?_,?_⟩);(clear hG hw;unfold Flow.Runs Flow.yields;go_simp);go_simp;refine hK _ ?_;clear hK K)
     (refine Flow.tvK rfl (fun K hK=>⟨fun w hw hG=>?_,?_⟩);(have At:=(hw.cell (p:=⟨w1.heap.size+1,0,none⟩) Ax).trans Aw.out;clear hG hw;unfold Flow.Runs Flow.yields;go_simp);go_simp;refine hK _ ?_;clear hK K)
     iterate 3 (refine Flow.tvK rfl (fun K hK=>⟨fun w hw hG=>?_,?_⟩);(clear hG hw;unfold Flow.Runs Flow.yields;go_simp);go_simp;refine hK _ ?_;clear hK K)
     (refine Flow.tvK rfl (fun K hK=>⟨fun w hw hG=>?_,?_⟩);(have At:=(hw.cell (p:=⟨b',Aa+j,none⟩) A0).trans Bh.out;clear hG hw;unfold Flow.Runs Flow.yields;go_simp);go_simp;refine hK _ ?_;clear hK K)
     (refine Flow.tvK rfl (fun K hK=>⟨fun w hw hG=>?_,?_⟩);(have At:=(hw.cell (p:=⟨w1.heap.size+1,0,none⟩) Ax).trans Aw.out;clear hG hw;unfold Flow.Runs Flow.yields;go_simp);go_simp;refine hK _ ?_;clear hK K)
     iterate 2 (refine Flow.tvK rfl (fun K hK=>⟨fun w hw hG=>?_,?_⟩);(clear hG hw;unfold Flow.Runs Flow.yields;go_simp);go_simp;refine hK _ ?_;clear hK K)
     (refine Flow.tvK rfl (fun K hK=>⟨fun w hw hG=>?_,?_⟩);(have At:=(hw.cell (p:=⟨b',Aa+(j+1),none⟩) A0).trans A9.out;clear hG hw;unfold Flow.Runs Flow.yields;go_simp);go_simp;refine hK _ ?_;clear hK K)
     refine Flow.tn2 fun w2 hw2 hG=>?_;clear hG;have An:=Hd (HS.out.later hw2);have Bd:=A7.out w2 hw2;clear hw2 HS;simp only[qM,qV];gi_wp2;refine Rf.rw2 (r:=Ad) ?_;have Bg:=Aq.out;subst Bg;dsimp only;gi_wp2_with (rw[zK _ _ _ (fun c h=>by cases h)];go_simp;try go_bits);refine⟨An.out.kL,fun W4 hs4 hl4=>?_⟩;have Ah:=Hd (An.out.but hs4 hl4);clear hs4 hl4 Bd hL;cases hxy:Tess.bl x y
     ·have A5:Op.bytesLess x.toList y.toList=false:=hxy;rw[hxy]at Ab;have HO:=Hd (Tess.cTn l (j+1) hlt Ab);clear hxy Ab;obtain⟨c0,z0⟩:=dco Ah.out.k0;gi_wp2_with (rw[zK _ _ _ (fun c h=>by cases h)];go_simp;try go_bits);refine⟨(Ah.out.set0 false).kL,fun W5 hs5 hl5=>?_⟩;have Ag:=Hd ((Ah.out.set0 false).but hs5 hl5);clear hs5 hl5 Ah An c0 z0;dsimp only;gi_wp2;refine jW (qBj (by rfl) _ _ _) rfl ?_
      refine⟨⟨_,rfl⟩,_,Ag.out.kL,by simp,?_⟩;intro W6 Al;dsimp only;obtain⟨q0,y0⟩:=dco ((Al.block w1.heap.size (by omega)).trans Ag.out.k0);have Bi:=(Al.block (w1.heap.size+2) (by omega)).trans Ag.out.kD;gi_wp2;refine⟨by simp,.inl ⟨_,_,rfl,jD Bi,?_⟩⟩;refine⟨_,qAn rfl _ _ _,by rw[Ay.out,HO.out];rfl,?_⟩
      exact Bt HB.out ((Ag.out.below.trans (Al.below (by omega))).grown (dgB W6 (w1.heap.size+2) (.deferred none)) (by have:=Ag.out.below.size;rw[Al.size];omega) (fun k e=>by cases e;omega))
     ·have A5:Op.bytesLess x.toList y.toList=true:=hxy;rw[hxy]at Ab;have HO:=Hd (Tess.cTs l (j+1) Az.out Ab);clear hxy Ab;gi_wp2_with (rw[zK _ _ _ (fun c h=>by cases h)];go_simp;try go_bits);refine⟨Ah.out.kL,fun W5 hs5 hl5=>?_⟩;have Ag:=Hd (Ah.out.but hs5 hl5);clear hs5 hl5 Ah An;dsimp only;gi_wp2;go_roundw
      case rel=>exact⟨j+1+1,by omega,by omega,by go_num,HO.out,Ag.out⟩
      case measure=>simp[intOf];omega
    ·have A4:¬(k:Int)<(l.length:Int):=by omega
     have HN:=Hd (Tess.ce3 l k Az.out hk hlt);gi_wp2;go_end0;refine⟨⟨_,rfl⟩,Ad,HS.out.kL,by rw[As];decide,?_⟩;intro W4 Am;rw[Bf];dsimp only;obtain⟨q0,y0⟩:=dco ((Am.block w1.heap.size (by omega)).trans HS.out.k0);have A3:=(Am.block (w1.heap.size+2) (by omega)).trans HS.out.kD;gi_wp2;refine⟨by simp,.inl ⟨_,_,rfl,jD A3,?_⟩⟩;refine⟨_,qAn rfl _ _ _,by rw[Ay.out,HN.out];rfl,?_⟩
     exact Bt HB.out ((HS.out.below.trans (Am.below (by omega))).grown (dgB W4 (w1.heap.size+2) (.deferred none)) (by have:=HS.out.below.size;rw[Am.size];omega) (fun k e=>by cases e;omega))
  ·rw[hany]at Ba HP;have Ay:RowKit.Hid (Tess.right l=false):=Hd (by rw[HP.out];rfl);clear HP;gi_wp2_with (refine⟨trivial,?_⟩;gi_at_call 156;refine(qZ.2 Ba.out).mono ?_;rintro e w1 ⟨rfl,Aj⟩;have HB:=Hd Aj;clear Aj);refine qAm ?_;gi_wp2_with (refine⟨trivial,?_⟩;gi_at_call 160;refine(qZ.2 (dpa2 _ _ _ _)).mono ?_;rintro e w' ⟨rfl,rfl⟩)
   obtain⟨w0,Ak⟩:=XQ (((w1.alloc (.cells #[.bool false] 4)).alloc (.cells #[.slice a l.length Ai] 22)))
   have hA:w0.heap.size=w1.heap.size+2:=by rw[<-Ak];simp
   have A1:Below w1.heap.size w1 w0:=by rw[<-Ak];exact((qJ _ _).alloc (qC _) _).alloc (by simp) _
   have h0:w0.heap[w1.heap.size]?=some (.cells #[.bool false] 4 (0,0)):=by rw[<-Ak];exact(zu _ _ _ (by simp)).trans (zS w1 _)
   have h1:w0.heap[w1.heap.size+1]?=some (.cells #[.slice a l.length Ai] 22 (0,0)):=by rw[<-Ak];have:=zS (w1.alloc (.cells #[.bool false] 4)) (.cells #[.slice a l.length Ai] 22);rwa [yH]at this
   rw[Ak];clear Ak;refine Rf.rw3 (gf:=201) (lb:=#[.pointer (some ⟨w1.heap.size+1,0,none⟩)]) rfl (yd Tryz.func201 (by kernel_rfl) rfl) ?_;intro fn W2 hL hD Aj A8;rw[hA]at hL hD A8⊢;obtain⟨Ad,Af,hL⟩:∃Ad:Loop,Ad=_/\W2.heap[w1.heap.size+2+1]?=some (.loop Ad):=⟨_,rfl,hL⟩
   have Aq:=Hd Af;have As:Ad.state = .ready/\Ad.params.size=2/\Ad.pending=none:=by rw[Af];exact⟨rfl,rfl,rfl⟩
   clear Af;obtain⟨As,A2,Bf⟩:=As;have hI:Rp w1 Ad (.slice a l.length Ai) false W2:=⟨(Aj.block _ (by omega)).trans h0,(Aj.block _ (by omega)).trans h1,hD,hL,Bt A1 Aj⟩
   clear A1 Aj h0 h1 hD hL;refine yg Tryz.func201 rfl trivial ?_ rfl;simp only[Tryz.ntmps201,qu,qU,zE,Nat.reduceAdd,Nat.reduceSub,qv,qw,zO,zC,qr,qk];gi_wp2;gi_loopw [3] (fun i wr=>∃k:Nat,1<=k/\k<=max 1 l.length/\i = .int .i64 k/\Tess.chainTo l k=true/\Rp w1 Ad (.slice a l.length Ai) false wr) (fun i _=>l.length-(intOf i).toNat)
   case atStart=>exact⟨1,qC _,by omega,rfl,rfl,hI⟩
   case round=>
    obtain⟨k,Bn,hk,rfl,Au,hS⟩:=hrel;have Az:=Hd Au;have HS:=Hd hS;clear Au hS;obtain⟨c1,z1⟩:=dco HS.out.k1;by_cases hlt:k<l.length
    ·obtain⟨j,rfl⟩:∃j,k=j+1:=⟨k-1,by omega⟩
     have hj:j<l.length:=by omega
     obtain⟨b,A6,rfl,hb,Ae⟩:=HC.out (j+1) hlt;obtain⟨b',Aa,Av,Be,Ac⟩:=HC.out j hj;obtain⟨rfl,rfl⟩:b'=b/\Aa=A6:=by cases Av;exact⟨rfl,rfl⟩
     have Ao:=Bt HB.out HS.out.below;have Ar:wr.cell? ⟨b',Aa+(j+1),none⟩=some (.string l[j+1]):=(Ao.cell (p:=⟨b',Aa+(j+1),none⟩) hb).trans Ae;have Ap:wr.cell? ⟨b',Aa+j,none⟩=some (.string l[j]):=(Ao.cell (p:=⟨b',Aa+j,none⟩) Be).trans Ac;have A0:b'<wr.heap.size:=qF hb Ao.size;have Ax:w1.heap.size+1<wr.heap.size:=(qA.1 HS.out.k1).1
     have Ab:Tess.ord l (j+1)=Tess.bl l[j] l[j+1]:=by unfold Tess.ord;rw[yx,Tess.getD_lt l j hj,Tess.getD_lt l (j+1) hlt];rfl
     obtain⟨x,hx⟩:=Xq (l[j])
     obtain⟨y,hy⟩:=Xq (l[j+1])
     rw[<-hx,<-hy]at Ab;rw[<-hx]at Ap;rw[<-hy]at Ar;have A4:(j:Int)+1<(l.length:Int):=by omega
     have Bm:(0:Int)<=(j:Int)+1:=by omega
     have Bb:(j:Int)+1-1=(j:Int):=by omega
     have Bl:(j:Int)<(l.length:Int):=by omega
     have Bo:IntKind.i64.wrap (j:Int)=(j:Int):=by go_bits;trivial
     have Bc:IntKind.i64.wrap ((j:Int)+1)=(j:Int)+1:=by go_bits;trivial
     have A7:=Hd (fun w2 (hw2:Below wr.heap.size wr w2)=>xJ (P:=Tryz.prog) (w:=w2) (l:=w1.heap.size+2+1) (r:=Ad) (args:=#[.string x,.string y]) (HS.out.later hw2).kL (by rw[A2];rfl));have A9:=Hd Ar;have Bh:=Hd Ap;clear hx hy Ae Ac Av Ao Ar Ap;gi_wp2;have Aw:=Hd c1;clear c1 z1
     refine Flow.wIr 10 (Flow.sp3 [.inl (.func (.yield (w1.heap.size+2+1)) #[] #[]),.inl (.slice (some ⟨b',Aa,none⟩) l.length Ai),.inl (.int .i64 ((j:Int)+1)),.inl (.int .i64 j),.inl (.pointer (some ⟨b',Aa+j,none⟩)),.inl (.string x),.inl (.slice (some ⟨b',Aa,none⟩) l.length Ai),.inl (.int .i64 ((j:Int)+1)),.inl (.pointer (some ⟨b',Aa+(j+1),none⟩)),.inl (.string y)]) (by kernel_rfl) (by kernel_rfl) ?_ ?_
     ·apply Flow.sm2;intro s hs;simp only[qm,zG,jr]at hs;rcases hs with rfl|rfl|rfl|rfl|rfl|rfl|rfl|rfl|rfl|rfl
      all_goals exact Flow.mi _
     iterate 1 (refine Flow.tvK rfl (fun K hK=>⟨fun w hw hG=>?_,?_⟩);(clear hG hw;unfold Flow.Runs Flow.yields;go_simp);go_simp;refine hK _ ?_;clear hK K)
     (refine Flow.tvK rfl (fun K hK=>⟨fun w hw hG=>?_,?_⟩);(have At:=(hw.cell (p:=⟨w1.heap.size+1,0,none⟩) Ax).trans Aw.out;clear hG hw;unfold Flow.Runs Flow.yields;go_simp);go_simp;refine hK _ ?_;clear hK K)
     iterate 3 (refine Flow.tvK rfl (fun K hK=>⟨fun w hw hG=>?_,?_⟩);(clear hG hw;unfold Flow.Runs Flow.yields;go_simp);go_simp;refine hK _ ?_;clear hK K)
     (refine Flow.tvK rfl (fun K hK=>⟨fun w hw hG=>?_,?_⟩);(have At:=(hw.cell (p:=⟨b',Aa+j,none⟩) A0).trans Bh.out;clear hG hw;unfold Flow.Runs Flow.yields;go_simp);go_simp;refine hK _ ?_;clear hK K)
     (refine Flow.tvK rfl (fun K hK=>⟨fun w hw hG=>?_,?_⟩);(have At:=(hw.cell (p:=⟨w1.heap.size+1,0,none⟩) Ax).trans Aw.out;clear hG hw;unfold Flow.Runs Flow.yields;go_simp);go_simp;refine hK _ ?_;clear hK K)
     iterate 2 (refine Flow.tvK rfl (fun K hK=>⟨fun w hw hG=>?_,?_⟩);(clear hG hw;unfold Flow.Runs Flow.yields;go_simp);go_simp;refine hK _ ?_;clear hK K)
     (refine Flow.tvK rfl (fun K hK=>⟨fun w hw hG=>?_,?_⟩);(have At:=(hw.cell (p:=⟨b',Aa+(j+1),none⟩) A0).trans A9.out;clear hG hw;unfold Flow.Runs Flow.yields;go_simp);go_simp;refine hK _ ?_;clear hK K)
     refine Flow.tn2 fun w2 hw2 hG=>?_;clear hG;have An:=Hd (HS.out.later hw2);have Bd:=A7.out w2 hw2;clear hw2 HS;simp only[qM,qV];gi_wp2;refine Rf.rw2 (r:=Ad) ?_;have Bg:=Aq.out;subst Bg;dsimp only;gi_wp2_with (rw[zK _ _ _ (fun c h=>by cases h)];go_simp;try go_bits);refine⟨An.out.kL,fun W4 hs4 hl4=>?_⟩;have Ah:=Hd (An.out.but hs4 hl4);clear hs4 hl4 Bd hL;cases hxy:Tess.bl x y
     ·have A5:Op.bytesLess x.toList y.toList=false:=hxy;rw[hxy]at Ab;have HO:=Hd (Tess.cTn l (j+1) hlt Ab);clear hxy Ab;obtain⟨c0,z0⟩:=dco Ah.out.k0;gi_wp2_with (rw[zK _ _ _ (fun c h=>by cases h)];go_simp;try go_bits);refine⟨(Ah.out.set0 false).kL,fun W5 hs5 hl5=>?_⟩;have Ag:=Hd ((Ah.out.set0 false).but hs5 hl5);clear hs5 hl5 Ah An c0 z0;dsimp only;gi_wp2;refine jW (qBj (by rfl) _ _ _) rfl ?_
      refine⟨⟨_,rfl⟩,_,Ag.out.kL,by simp,?_⟩;intro W6 Al;dsimp only;obtain⟨q0,y0⟩:=dco ((Al.block w1.heap.size (by omega)).trans Ag.out.k0);have Bi:=(Al.block (w1.heap.size+2) (by omega)).trans Ag.out.kD;gi_wp2;refine⟨by simp,.inl ⟨_,_,rfl,jD Bi,?_⟩⟩;refine⟨_,qAn rfl _ _ _,by rw[Ay.out];rfl,?_⟩
      exact Bt HB.out ((Ag.out.below.trans (Al.below (by omega))).grown (dgB W6 (w1.heap.size+2) (.deferred none)) (by have:=Ag.out.below.size;rw[Al.size];omega) (fun k e=>by cases e;omega))
     ·have A5:Op.bytesLess x.toList y.toList=true:=hxy;rw[hxy]at Ab;have HO:=Hd (Tess.cTs l (j+1) Az.out Ab);clear hxy Ab;gi_wp2_with (rw[zK _ _ _ (fun c h=>by cases h)];go_simp;try go_bits);refine⟨Ah.out.kL,fun W5 hs5 hl5=>?_⟩;have Ag:=Hd (Ah.out.but hs5 hl5);clear hs5 hl5 Ah An;dsimp only;gi_wp2;go_roundw
      case rel=>exact⟨j+1+1,by omega,by omega,by go_num,HO.out,Ag.out⟩
      case measure=>simp[intOf];omega
    ·have A4:¬(k:Int)<(l.length:Int):=by omega
     have HN:=Hd (Tess.ce3 l k Az.out hk hlt);gi_wp2;go_end0;refine⟨⟨_,rfl⟩,Ad,HS.out.kL,by rw[As];decide,?_⟩;intro W4 Am;rw[Bf];dsimp only;obtain⟨q0,y0⟩:=dco ((Am.block w1.heap.size (by omega)).trans HS.out.k0);have A3:=(Am.block (w1.heap.size+2) (by omega)).trans HS.out.kD;gi_wp2;refine⟨by simp,.inl ⟨_,_,rfl,jD A3,?_⟩⟩;refine⟨_,qAn rfl _ _ _,by rw[Ay.out];rfl,?_⟩
     exact Bt HB.out ((HS.out.below.trans (Am.below (by omega))).grown (dgB W4 (w1.heap.size+2) (.deferred none)) (by have:=HS.out.below.size;rw[Am.size];omega) (fun k e=>by cases e;omega))
 ·have Bj:¬(l.length:Int)<=1000:=by omega
  have Bq:decide ((l.length:Int)<=1000)=false:=qG Bj;have Ay:RowKit.Hid (Tess.right l=false):=Hd (by rw[HP.out,qG h1000];rfl);clear HP Ba;obtain⟨w1,Bk⟩:=Xq w
  have HB:=Hd (show Below w.heap.size w w1 by rw[Bk];exact qJ _ _);have Bp:=Hd Bk;clear Bk;gi_wp2;refine⟨trivial,?_⟩;gi_wp2;rw[<-Bp.out];refine qAm ?_;gi_wp2_with (refine⟨trivial,?_⟩;gi_at_call 160;refine(qZ.2 (dpa2 _ _ _ _)).mono ?_;rintro e w' ⟨rfl,rfl⟩);obtain⟨w0,Ak⟩:=XQ (((w1.alloc (.cells #[.bool false] 4)).alloc (.cells #[.slice a l.length Ai] 22)))
  have hA:w0.heap.size=w1.heap.size+2:=by rw[<-Ak];simp
  have A1:Below w1.heap.size w1 w0:=by rw[<-Ak];exact((qJ _ _).alloc (qC _) _).alloc (by simp) _
  have h0:w0.heap[w1.heap.size]?=some (.cells #[.bool false] 4 (0,0)):=by rw[<-Ak];exact(zu _ _ _ (by simp)).trans (zS w1 _)
  have h1:w0.heap[w1.heap.size+1]?=some (.cells #[.slice a l.length Ai] 22 (0,0)):=by rw[<-Ak];have:=zS (w1.alloc (.cells #[.bool false] 4)) (.cells #[.slice a l.length Ai] 22);rwa [yH]at this
  rw[Ak];clear Ak;refine Rf.rw3 (gf:=201) (lb:=#[.pointer (some ⟨w1.heap.size+1,0,none⟩)]) rfl (yd Tryz.func201 (by kernel_rfl) rfl) ?_;intro fn W2 hL hD Aj A8;rw[hA]at hL hD A8⊢;obtain⟨Ad,Af,hL⟩:∃Ad:Loop,Ad=_/\W2.heap[w1.heap.size+2+1]?=some (.loop Ad):=⟨_,rfl,hL⟩
  have Aq:=Hd Af;have As:Ad.state = .ready/\Ad.params.size=2/\Ad.pending=none:=by rw[Af];exact⟨rfl,rfl,rfl⟩
  clear Af;obtain⟨As,A2,Bf⟩:=As;have hI:Rp w1 Ad (.slice a l.length Ai) false W2:=⟨(Aj.block _ (by omega)).trans h0,(Aj.block _ (by omega)).trans h1,hD,hL,Bt A1 Aj⟩
  clear A1 Aj h0 h1 hD hL;refine yg Tryz.func201 rfl trivial ?_ rfl;simp only[Tryz.ntmps201,qu,qU,zE,Nat.reduceAdd,Nat.reduceSub,qv,qw,zO,zC,qr,qk];gi_wp2;gi_loopw [3] (fun i wr=>∃k:Nat,1<=k/\k<=max 1 l.length/\i = .int .i64 k/\Tess.chainTo l k=true/\Rp w1 Ad (.slice a l.length Ai) false wr) (fun i _=>l.length-(intOf i).toNat)
  case atStart=>exact⟨1,qC _,by omega,rfl,rfl,hI⟩
  case round=>
   obtain⟨k,Bn,hk,rfl,Au,hS⟩:=hrel;have Az:=Hd Au;have HS:=Hd hS;clear Au hS;obtain⟨c1,z1⟩:=dco HS.out.k1;by_cases hlt:k<l.length
   ·obtain⟨j,rfl⟩:∃j,k=j+1:=⟨k-1,by omega⟩
    have hj:j<l.length:=by omega
    obtain⟨b,A6,rfl,hb,Ae⟩:=HC.out (j+1) hlt;obtain⟨b',Aa,Av,Be,Ac⟩:=HC.out j hj;obtain⟨rfl,rfl⟩:b'=b/\Aa=A6:=by cases Av;exact⟨rfl,rfl⟩
    have Ao:=Bt HB.out HS.out.below;have Ar:wr.cell? ⟨b',Aa+(j+1),none⟩=some (.string l[j+1]):=(Ao.cell (p:=⟨b',Aa+(j+1),none⟩) hb).trans Ae;have Ap:wr.cell? ⟨b',Aa+j,none⟩=some (.string l[j]):=(Ao.cell (p:=⟨b',Aa+j,none⟩) Be).trans Ac;have A0:b'<wr.heap.size:=qF hb Ao.size;have Ax:w1.heap.size+1<wr.heap.size:=(qA.1 HS.out.k1).1
    have Ab:Tess.ord l (j+1)=Tess.bl l[j] l[j+1]:=by unfold Tess.ord;rw[yx,Tess.getD_lt l j hj,Tess.getD_lt l (j+1) hlt];rfl
    obtain⟨x,hx⟩:=Xq (l[j])
    obtain⟨y,hy⟩:=Xq (l[j+1])
    rw[<-hx,<-hy]at Ab;rw[<-hx]at Ap;rw[<-hy]at Ar;have A4:(j:Int)+1<(l.length:Int):=by omega
    have Bm:(0:Int)<=(j:Int)+1:=by omega
    have Bb:(j:Int)+1-1=(j:Int):=by omega
    have Bl:(j:Int)<(l.length:Int):=by omega
    have Bo:IntKind.i64.wrap (j:Int)=(j:Int):=by go_bits;trivial
    have Bc:IntKind.i64.wrap ((j:Int)+1)=(j:Int)+1:=by go_bits;trivial
    have A7:=Hd (fun w2 (hw2:Below wr.heap.size wr w2)=>xJ (P:=Tryz.prog) (w:=w2) (l:=w1.heap.size+2+1) (r:=Ad) (args:=#[.string x,.string y]) (HS.out.later hw2).kL (by rw[A2];rfl));have A9:=Hd Ar;have Bh:=Hd Ap;clear hx hy Ae Ac Av Ao Ar Ap;gi_wp2;have Aw:=Hd c1;clear c1 z1
    refine Flow.wIr 10 (Flow.sp3 [.inl (.func (.yield (w1.heap.size+2+1)) #[] #[]),.inl (.slice (some ⟨b',Aa,none⟩) l.length Ai),.inl (.int .i64 ((j:Int)+1)),.inl (.int .i64 j),.inl (.pointer (some ⟨b',Aa+j,none⟩)),.inl (.string x),.inl (.slice (some ⟨b',Aa,none⟩) l.length Ai),.inl (.int .i64 ((j:Int)+1)),.inl (.pointer (some ⟨b',Aa+(j+1),none⟩)),.inl (.string y)]) (by kernel_rfl) (by kernel_rfl) ?_ ?_
    ·apply Flow.sm2;intro s hs;simp only[qm,zG,jr]at hs;rcases hs with rfl|rfl|rfl|rfl|rfl|rfl|rfl|rfl|rfl|rfl
     all_goals exact Flow.mi _
    iterate 1 (refine Flow.tvK rfl (fun K hK=>⟨fun w hw hG=>?_,?_⟩);(clear hG hw;unfold Flow.Runs Flow.yields;go_simp);go_simp;refine hK _ ?_;clear hK K)
    (refine Flow.tvK rfl (fun K hK=>⟨fun w hw hG=>?_,?_⟩);(have At:=(hw.cell (p:=⟨w1.heap.size+1,0,none⟩) Ax).trans Aw.out;clear hG hw;unfold Flow.Runs Flow.yields;go_simp);go_simp;refine hK _ ?_;clear hK K)
    iterate 3 (refine Flow.tvK rfl (fun K hK=>⟨fun w hw hG=>?_,?_⟩);(clear hG hw;unfold Flow.Runs Flow.yields;go_simp);go_simp;refine hK _ ?_;clear hK K)
    (refine Flow.tvK rfl (fun K hK=>⟨fun w hw hG=>?_,?_⟩);(have At:=(hw.cell (p:=⟨b',Aa+j,none⟩) A0).trans Bh.out;clear hG hw;unfold Flow.Runs Flow.yields;go_simp);go_simp;refine hK _ ?_;clear hK K)
    (refine Flow.tvK rfl (fun K hK=>⟨fun w hw hG=>?_,?_⟩);(have At:=(hw.cell (p:=⟨w1.heap.size+1,0,none⟩) Ax).trans Aw.out;clear hG hw;unfold Flow.Runs Flow.yields;go_simp);go_simp;refine hK _ ?_;clear hK K)
    iterate 2 (refine Flow.tvK rfl (fun K hK=>⟨fun w hw hG=>?_,?_⟩);(clear hG hw;unfold Flow.Runs Flow.yields;go_simp);go_simp;refine hK _ ?_;clear hK K)
    (refine Flow.tvK rfl (fun K hK=>⟨fun w hw hG=>?_,?_⟩);(have At:=(hw.cell (p:=⟨b',Aa+(j+1),none⟩) A0).trans A9.out;clear hG hw;unfold Flow.Runs Flow.yields;go_simp);go_simp;refine hK _ ?_;clear hK K)
    refine Flow.tn2 fun w2 hw2 hG=>?_;clear hG;have An:=Hd (HS.out.later hw2);have Bd:=A7.out w2 hw2;clear hw2 HS;simp only[qM,qV];gi_wp2;refine Rf.rw2 (r:=Ad) ?_;have Bg:=Aq.out;subst Bg;dsimp only;gi_wp2_with (rw[zK _ _ _ (fun c h=>by cases h)];go_simp;try go_bits);refine⟨An.out.kL,fun W4 hs4 hl4=>?_⟩;have Ah:=Hd (An.out.but hs4 hl4);clear hs4 hl4 Bd hL;cases hxy:Tess.bl x y
    ·have A5:Op.bytesLess x.toList y.toList=false:=hxy;rw[hxy]at Ab;have HO:=Hd (Tess.cTn l (j+1) hlt Ab);clear hxy Ab;obtain⟨c0,z0⟩:=dco Ah.out.k0;gi_wp2_with (rw[zK _ _ _ (fun c h=>by cases h)];go_simp;try go_bits);refine⟨(Ah.out.set0 false).kL,fun W5 hs5 hl5=>?_⟩;have Ag:=Hd ((Ah.out.set0 false).but hs5 hl5);clear hs5 hl5 Ah An c0 z0;dsimp only;gi_wp2;refine jW (qBj (by rfl) _ _ _) rfl ?_
     refine⟨⟨_,rfl⟩,_,Ag.out.kL,by simp,?_⟩;intro W6 Al;dsimp only;obtain⟨q0,y0⟩:=dco ((Al.block w1.heap.size (by omega)).trans Ag.out.k0);have Bi:=(Al.block (w1.heap.size+2) (by omega)).trans Ag.out.kD;gi_wp2;refine⟨by simp,.inl ⟨_,_,rfl,jD Bi,?_⟩⟩;refine⟨_,qAn rfl _ _ _,by rw[Ay.out];rfl,?_⟩
     exact Bt HB.out ((Ag.out.below.trans (Al.below (by omega))).grown (dgB W6 (w1.heap.size+2) (.deferred none)) (by have:=Ag.out.below.size;rw[Al.size];omega) (fun k e=>by cases e;omega))
    ·have A5:Op.bytesLess x.toList y.toList=true:=hxy;rw[hxy]at Ab;have HO:=Hd (Tess.cTs l (j+1) Az.out Ab);clear hxy Ab;gi_wp2_with (rw[zK _ _ _ (fun c h=>by cases h)];go_simp;try go_bits);refine⟨Ah.out.kL,fun W5 hs5 hl5=>?_⟩;have Ag:=Hd (Ah.out.but hs5 hl5);clear hs5 hl5 Ah An;dsimp only;gi_wp2;go_roundw
     case rel=>exact⟨j+1+1,by omega,by omega,by go_num,HO.out,Ag.out⟩
     case measure=>simp[intOf];omega
   ·have A4:¬(k:Int)<(l.length:Int):=by omega
    have HN:=Hd (Tess.ce3 l k Az.out hk hlt);gi_wp2;go_end0;refine⟨⟨_,rfl⟩,Ad,HS.out.kL,by rw[As];decide,?_⟩;intro W4 Am;rw[Bf];dsimp only;obtain⟨q0,y0⟩:=dco ((Am.block w1.heap.size (by omega)).trans HS.out.k0);have A3:=(Am.block (w1.heap.size+2) (by omega)).trans HS.out.kD;gi_wp2;refine⟨by simp,.inl ⟨_,_,rfl,jD A3,?_⟩⟩;refine⟨_,qAn rfl _ _ _,by rw[Ay.out];rfl,?_⟩
    exact Bt HB.out ((HS.out.below.trans (Am.below (by omega))).grown (dgB W4 (w1.heap.size+2) (.deferred none)) (by have:=HS.out.below.size;rw[Am.size];omega) (fun k e=>by cases e;omega))
end Go.Proofs.Q9
namespace Tess
namespace Fil
def run(s:Sch):List (Nat×Fil)->Nat->Bool->Option (Nat×Bool)
 |[],k,g=>some (k,g)
 |(d,x)::r,k,g=>if k+1>40||d>6 || !own s x then none else run s r (k+1) (g||bG s x)
end Fil
end Tess
namespace Go.Proofs.Q9
open Go.RowKit Go.Sort Go.Shelf
open Tess (Fil)
attribute [local go_sem] jK
theorem rIa{n m:Nat}{P:Program}{l:Nat}{f:FuncId}{tmps:Array Value}{assign body:Code}{w:World}{R:Ending->World->Prop}(h:RoundIn Fence.wide n P l f tmps assign body w R):RoundIn Fence.wide m P l f tmps assign body w R:=
 ⟨h.1,fun c cs _=>h.2 c cs (room_wide _)⟩
attribute [local go_sem] jK
theorem cob{W:World}{B:Nat}{v:Value}{t:TypeId}(h:W.heap[B]?=some (.cells #[v] t (0,0))):W.cell? ⟨B,0,none⟩=some v/\W.frozen? ⟨B,0,none⟩=false:=by constructor<;>simp[World.cell?,World.frozen?,h]
section
variable {w W W':World} {sbx:Array Value} {rec rec':Loop} {ev ev':Value} {k k':Nat}
end
