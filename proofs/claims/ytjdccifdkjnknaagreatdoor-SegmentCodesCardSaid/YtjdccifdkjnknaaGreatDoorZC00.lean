/- Joined. -/
import Derived.Laws.DeepNot64
import Derived.Lib.OthersKept
import Derived.RangeFuncRecord
import Derived.ProofKit
set_option linter.defProp false
def qA:=@Array.getElem?_eq_some_iff
def qC:=@Nat.le_refl
def qD:=@List.getElem?_eq_getElem
def qE:=@List.getD_eq_getElem?_getD
def qF:=@Nat.lt_of_lt_of_le
def qG:=@decide_eq_false
def qH:=@if_neg
def qI:=@List.length_append
def qJ:=@Go.RowKit.Below.refl
def qK:=@Go.World.block_lt_of_cell?
def qL:=@List.take_succ_cons
def qM:=@List.drop_succ_cons
def qN:=@Nat.zero_le
def qO:=@Go.heap_setCell_same
def qP:=@List.getElem_mem
def qQ:=@List.take_succ_eq_append_getElem
def qR:=@if_pos
def qT:=@Go.cell_of_row
def qU:=@List.length_cons
def qV:=@List.drop_zero
def qW:=@Go.heap_setCell_other
def qX:=@List.length_map
def qY:=@List.take_zero
def qZ:=@Go.callsIn_wide
def qb:=@Bool.and_eq_true
def qd:=@List.mem_map
def qg:=@Go.World.ownsRow_nil
def qh:=@List.take_of_length_le
def qi:=@beq_eq_false_iff_ne
def qj:=@Nat.zero_add
def qk:=@List.cons_append
def qm:=@List.mem_cons
def qn:=@decide_eq_true_eq
def qo:=@Bool.false_and
def qp:=@List.getElem?_map
def qq:=@Go.wpList_append_own
def qr:=@List.nil_append
def qs:=@List.map_append
def qt:=@Nat.le_trans
def qu:=@List.size_toArray
def qv:=@Array.replicate_succ
def qw:=@Array.replicate_zero
def qx:=@List.all_eq_true
def qy:=@List.length_take
def zC:=@List.append_toArray
def zE:=@List.length_nil
def zF:=@Go.info_parts
def zG:=@List.not_mem_nil
def zH:=@Nat.not_lt_zero
def zJ:=@List.mem_singleton
def zK:=@Go.Oper.semAt_eq
def zL:=@List.getElem_map
def zM:=@congrArg
def zN:=@List.append_assoc
def zO:=@List.push_toArray
def zP:=@UInt8.toNat_ofNat'
def zQ:=@Nat.lt_succ_self
def zR:=@List.getElem_cons_succ
def zS:=@Go.World.alloc_heap_new
def zT:=@of_decide_eq_true
def zU:=@Go.IntKind.wrap_i64
def zV:=@List.mem_range
def zW:=@List.getElem?_eq_some_iff
def zX:=@List.length_singleton
def zY:=@Go.frozen_of_row
def zZ:=@List.append_nil
def zf:=@Nat.pow_le_pow_right
def zg:=@bne_eq_false_iff_eq
def zj:=@bne_iff_ne
def zk:=@List.mem_append
def zl:=@Bool.true_and
def zn:=@List.length_drop
def zo:=@List.getElem_cons_zero
def zp:=@List.flatMap_cons
def zq:=@List.getElem_of_mem
def zr:=@Option.some.inj
def zt:=@Array.getElem?_setIfInBounds
def zu:=@Go.RowKit.Below.heap_alloc
def zv:=@List.drop_eq_getElem_cons
def zy:=@Go.IntKind.wrap_u64
def jA:=@Option.bind_some
def jC:=@Nat.lt_irrefl
def jD:=@Go.run_takeDeferred
def jF:=@Go.Lib.cell_of_heap
def jG:=@Bool.and_eq_true_iff
def jH:=@if_true
def jI:=@Nat.eq_zero_or_pos
def jJ:=@List.foldl_cons
def jL:=@Go.callsIn_of_wp_marks
def jM:=@Option.map_eq_some_iff
def jN:=@List.map_cons
def jO:=@Nat.mul_le_mul_right
def jQ:=@List.eq_nil_of_length_eq_zero
def jU:=@List.getElem?_cons_zero
def jV:=@List.getElem?_cons_succ
def jW:=@Go.bodyPost_ret
def jX:=@List.getElem?_append_left
def jY:=@Go.heap_alloc_new
def jb:=@Nat.lt_or_ge
def jc:=@Go.World.cell?_alloc_lt
def jd:=@Nat.add_mul
def je:=@List.length_filterMap_le
def jf:=@Nat.mod_eq_of_lt
def jg:=@List.flatMap_nil
def jh:=@Nat.two_pow_pos
def ji:=@Option.map_some
def jk:=@List.getElem?_append_right
def jl:=@Array.getElem?_modify
def jm:=@List.take_append_drop
def jn:=@Go.ByteArray.toList_eq
def jp:=@List.mem_of_mem_take
def jq:=@Nat.add_assoc
def jr:=@or_false
def js:=@List.getElem?_toArray
def jt:=@Go.RowKit.ownsRow_setCell_below
def ju:=@Array.length_toList
def jw:=@decide_eq_false_iff_not
def jx:=@Int.mul_le_mul_of_nonneg_right
def jy:=@List.take_length
def jz:=@Go.World.cell?_of_block
def yA:=@Go.Lib.byteCells_length
def yB:=@Array.getElem?_eq_getElem
def yC:=@Go.World.cell?_setCell_other
def yD:=@Nat.add_zero
def yE:=@Go.RowKit.Below.heap_setCell
def yF:=@ByteArray.ext
def yG:=@Array.toList_inj
def yH:=@Go.World.size_alloc
def yI:=@List.map_congr_left
def yJ:=@ByteArray.size_append
def yL:=@List.getElem?_eq_none
def yM:=@List.cons_lt_cons_iff
def yN:=@Nat.pow_succ
def yO:=@Nat.add_comm
def yP:=@List.getElem_take
def yQ:=@Go.Value.slice.injEq
def yR:=@Nat.mod_two_eq_zero_or_one
def yU:=@List.getElem_range
def yV:=@Nat.le_of_lt
def yW:=@List.extract_eq_take_drop
def yX:=@Nat.mod_lt
def yY:=@Nat.mul_one
def yZ:=@Nat.pow_add
def ya:=@Nat.one_mul
def ye:=@Array.setIfInBounds_comm
def yg:=@Go.callsIn_of_wp
def yh:=@Nat.mul_le_mul
def yi:=@decide_eq_decide
def yj:=@List.any_eq_true
def yk:=@List.mem_cons_of_mem
def yl:=@List.length_eq_zero_iff
def yp:=@Bool.and_false
def yq:=@ByteArray.data_extract
def yr:=@List.foldl_append
def yt:=@List.flatMap_append
def yv:=@Bool.and_eq_false_iff
def yw:=@List.singleton_append
def yx:=@Nat.add_sub_cancel
def yz:=@Option.getD_some
def xA:=@List.ext_getElem
def xB:=@Nat.mul_comm
def xC:=@Nat.mul_assoc
def xD:=@Go.CallsIn.mono
def xE:=@List.getElem_append_left
def xF:=@List.mem_of_getElem?
def xG:=@Array.toList_extract
def xH:=@Go.World.putObj_heap_other
def xI:=@List.any_eq_false
def xJ:=@Go.run_yield
def xK:=@List.length_range
def xL:=@Go.Calls.mono
def xM:=@beq_iff_eq
def xO:=@List.drop_eq_nil_of_le
def xR:=@Ne.symm
def xS:=@Go.World.cell?_setCell_same'
def xU:=@List.pairwise_iff_getElem
def xV:=@List.getElem_append_right
def xW:=@UInt8.toNat_inj
def xX:=@List.range_succ
def xY:=@UInt8.lt_irrefl
def xZ:=@Int.natCast_mul
def xd:=@Bool.not_eq_true'
def xe:=@List.map_map
def xf:=@Option.some.injEq
def xg:=@Go.results_tmp2
def xi:=@List.pairwise_map
def xj:=@Int.toNat_natCast
def xk:=@Function.comp_def
def xo:=@List.getElem?_take_of_lt
def xp:=@Array.size_setIfInBounds
def xq:=@Array.toList_append
def xr:=@List.getD_cons_succ
def xt:=@Go.wpIn_wide
def xu:=@Nat.div_eq_of_lt
def xv:=@Go.World.frozen?_alloc_old
def xw:=@Go.fenced_calm
def xz:=@Go.Sem.run_bind
def qAa:=@List.findIdx_le_length
def qAb:=@List.mem_cons_self
def qAc:=@Go.Lib.frozen_of_heap
def qAd:=@Go.stepR_loop
def qAe:=@Bool.or_eq_true
def qAf:=@List.cons.injEq
def qAg:=@Nat.xor_assoc
def qAh:=@Go.StepsIn.trans
def qAj:=@List.map_take
def qAk:=@ByteArray.data_append
def qAm:=@Go.wpIn_label
def qAn:=@Go.results_tmp
def qAo:=@Int.tdiv_eq_ediv_of_nonneg
def qAp:=@List.mem_iff_getElem
def qAq:=@true_and
def qAs:=@Nat.succ_mul
def qAt:=@List.map_nil
def qAu:=@Nat.ne_of_lt
def qAv:=@Nat.lt_trans
def qAw:=@List.length_pos_iff
def qAx:=@List.take_left'
def qAz:=@of_decide_eq_false
def qBa:=@List.pairwise_cons
def qBb:=@List.mem_filterMap
def qBc:=@List.set_cons_zero
def qBd:=@Nat.add_sub_cancel_left
def qBf:=@List.pairwise_singleton
def qBg:=@Bool.eq_false_iff
def qBi:=@if_false
def qBj:=@Go.results_none
def qBk:=@List.take_left
def qBl:=@Nat.zero_mul
def qBm:=@Nat.div_div_eq_div_mul
def qBn:=@List.mapM_cons
def qBo:=@List.drop_of_length_le
def qBp:=@List.length_replicate
def qBq:=@List.drop_length
def qBr:=@List.flatMap_def
def qBs:=@List.getElem_set
def qBt:=@Int.mul_add
def qBu:=@Int.mul_one
def qBv:=@List.mem_of_mem_drop
def qBw:=@List.drop_left'
def qBx:=@List.mem_filter
def qBy:=@eq_comm
namespace Go
theorem wrap_i64(x:Int):IntKind.i64.wrap x=RowKit.wrap64 x:=by unfold IntKind.wrap RowKit.wrap64 IntKind.bits IntKind.signed;simp;split<;>omega
theorem wrap_u64(x:Int):IntKind.u64.wrap x=x%18446744073709551616:=by unfold IntKind.wrap;rfl
theorem xa3(a:Nat)(ha:a<18446744073709551616):bits .xor .u64 (a:Int) 18446744073709551615=((18446744073709551615-a:Nat):Int):=by
 have h:=u64_xor_nat a 18446744073709551615 ha (by decide)
 have e:a ^^^ 18446744073709551615=18446744073709551615-a:=by
  have h2:=BitVec.xor_allOnes (x:=BitVec.ofNat 64 a);have h3:=zM BitVec.toNat h2;rw[BitVec.toNat_xor,BitVec.toNat_not,BitVec.toNat_allOnes,BitVec.toNat_ofNat,jf ha]at h3;have h4:(2:Nat)^64-1=18446744073709551615:=by decide
  rw[h4]at h3;rw[h3]
 rw[<-e];exact h
theorem xn(a:Nat)(ha:a<18446744073709551616):bits .xor .u64 (a:Int) 0=(a:Int):=by have h:=u64_xor_nat a 0 ha (by decide);rw[Nat.xor_zero]at h;exact h
theorem ixm(a:Nat)(ha:a<9223372036854775808):bits .xor .i64 (a:Int) (-1) = -1-(a:Int):=by show IntKind.i64.wrap ((BitVec.ofInt 64 (a:Int) ^^^ BitVec.ofInt 64 (-1)).toNat:Int)=_;rw[BitVec.xor_comm];exact i64_not a ha
theorem ix0(a:Nat)(ha:a<9223372036854775808):bits .xor .i64 (a:Int) 0=(a:Int):=by
 show IntKind.i64.wrap ((BitVec.ofInt 64 (a:Int) ^^^ BitVec.ofInt 64 0).toNat:Int)=_;have h0:BitVec.ofInt 64 0=0#64:=by decide
 rw[h0,BitVec.xor_zero,ofInt_u64 a (by omega)];simp[IntKind.wrap,IntKind.bits,IntKind.signed];omega
def coll(k:Nat):Deferred:={ target:=.collected k,args:=#[] }
theorem lc2{F:Fence}{n:Nat}{P:Program}{fn:Func}{tmps:Array Value}{R:Ending->World->Prop}:∀(ks:List Nat) (w:World),ks.Nodup->(∀k∈ks,w.heap[k]?=some (.deferred (some []))) ->
  (∀w',w'.os=w.os->w'.tape=w.tape->w'.output=w.output->w'.heap.size=w.heap.size->(∀k,k∉ks->w'.heap[k]?=w.heap[k]?)->LeavesInM F n P fn tmps R [] .returning w')->LeavesInM F n P fn tmps R (ks.map coll) .returning w
 |[],w,_,_,h=>h w rfl rfl rfl rfl fun _ _=>rfl
 |k::ks,w,hn,hk,h=>by
   have hn':=List.nodup_cons.1 hn;refine⟨by simp,.inl ⟨k,_,rfl,jD (hk k (by simp)),?_⟩⟩;refine lc2 ks _ hn'.2 (fun j hj=>?_) fun w' h1 h2 h3 h4 h5=>?_
   ·rw[xH (fun e=>hn'.1 (by rw[<-e];exact hj))];exact hk j (by simp[hj])
   ·refine h w' h1 h2 h3 (h4.trans (by simp)) fun j hj=>?_;rw[h5 j (fun e=>hj (by simp[e]))];exact xH (fun e=>hj (by simp[e]))
end Go
namespace Go.Lib
open Go.RowKit
end Go.Lib
namespace Tess
def cs3(n:Nat):Nat:=if n%2=1 then(n/2) ^^^ 3988292384 else n/2
def cN2:Nat->Nat->Nat
 |0,n=>n
 |k+1,n=>cs3 (cN2 k n)
def crc1(n:Nat)(c:UInt8):Nat:=cN2 8 (n ^^^ c.toNat)
def crcs(l:List UInt8):Nat:=l.foldl crc1 4294967295
def csum(l:List UInt8):Nat:=crcs l ^^^ 4294967295
theorem cNs2(k:Nat)(n:Nat):cN2 (k+1) n=cs3 (cN2 k n):=rfl
theorem xl2(a b:Nat)(ha:a<4294967296)(hb:b<4294967296):a ^^^ b<4294967296:=Nat.xor_lt_two_pow (n:=32) ha hb
theorem cl5(n:Nat)(h:n<4294967296):cs3 n<4294967296:=by
 unfold cs3;split
 ·exact xl2 _ _ (by omega) (by omega)
 ·omega
theorem cNl(k n:Nat)(h:n<4294967296):cN2 k n<4294967296:=by
 induction k with
 |zero=>exact h
 |succ k ih=>exact cl5 _ ih
theorem cl6(n:Nat)(c:UInt8)(h:n<4294967296):crc1 n c<4294967296:=
 cNl _ _ (xl2 _ _ h (by have:=c.toNat_lt;omega))
theorem cs4(l:List UInt8)(c:UInt8):crcs (l++[c])=crc1 (crcs l) c:=by simp[crcs]
theorem fl5(l:List UInt8):∀n,n<4294967296->l.foldl crc1 n<4294967296:=by
 induction l with
 |nil=>exact fun n h=>h
 |cons c l ih=>exact fun n h=>ih _ (cl6 n c h)
theorem cl3(l:List UInt8):crcs l<4294967296:=fl5 l _ (by omega)
theorem cl2(l:List UInt8):csum l<4294967296:=xl2 _ _ (cl3 l) (by omega)
theorem ts2(s:ByteArray)(k:Nat)(h:k<s.size):s.data.toList.take (k+1)=s.data.toList.take k++[s[k]]:=by rw[qQ (by simpa using h)];rfl
theorem ct2(s:ByteArray)(k:Nat)(h:k<s.size):crcs (s.data.toList.take (k+1))=cN2 8 (crcs (s.data.toList.take k) ^^^ s[k].toNat):=by rw[ts2 s k h,cs4];rfl
theorem xh2(a b:Nat):(a ^^^ b)/2=a/2 ^^^ b/2:=Nat.xor_div_two ..
theorem xo3(a b:Nat):(a ^^^ b)%2=(a%2+b%2)%2:=by have h:=Nat.xor_mod_two_pow (a:=a) (b:=b) (n:=1);rw[Nat.pow_one]at h;rw[h];rcases yR a with ha|ha<;>rcases yR b with hb|hb<;>rw[ha,hb]<;>rfl
theorem x42(a b p:Nat):a ^^^ b=(a ^^^ p) ^^^ (b ^^^ p):=by rw[qAg,<-qAg p b p,Nat.xor_comm p b,qAg b p p,Nat.xor_self,Nat.xor_zero]
theorem cx2(a b:Nat):cs3 (a ^^^ b)=cs3 a ^^^ cs3 b:=by
 unfold cs3;rw[xh2,xo3];rcases yR a with ha|ha<;>rcases yR b with hb|hb<;>simp[ha,hb]
 ·rw[qAg]
 ·rw[qAg,qAg,Nat.xor_comm (b/2)]
 ·exact x42 _ _ _
theorem cNx(k a b:Nat):cN2 k (a ^^^ b)=cN2 k a ^^^ cN2 k b:=by
 induction k with
 |zero=>rfl
 |succ k ih=>rw[cN2,ih,cx2];rfl
theorem ce4(q:Nat):cs3 (2*q)=q:=by unfold cs3;rw[qH (by omega)];omega
theorem cN22(q:Nat):cN2 8 (256*q)=q:=by rw[show 256*q=2*(2*(2*(2*(2*(2*(2*(2*q)))))))from by omega];simp only[cN2,ce4]
theorem s22(n:Nat):n=(256*(n/256)) ^^^ (n%256):=by
 apply Nat.eq_of_testBit_eq;intro i;rw[Nat.testBit_xor,show(256:Nat)=2^8 from rfl,Nat.testBit_two_pow_mul,Nat.testBit_mod_two_pow,Nat.testBit_div_two_pow];by_cases h:i<8
 ·have:¬8<=i:=by omega
  simp[h,this]
 ·have h8:8<=i:=by omega
  simp[h,h8,show i-8+8=i from by omega]
theorem ct3(n c:Nat):(n/256) ^^^ cN2 8 ((n%256) ^^^ c)=cN2 8 (n ^^^ c):=by
 conv=>rhs;rw[s22 n]
 rw[qAg,cNx 8 (256*(n/256)),cN22]
def num4(l:List UInt8):Nat:=l.foldl (fun n c=>n*256+c.toNat) 0
def be4(n:Nat):ByteArray:=⟨#[UInt8.ofNat (n/16777216%256),UInt8.ofNat (n/65536%256),UInt8.ofNat (n/256%256),UInt8.ofNat (n%256)]⟩
theorem ns4(l:List UInt8)(c:UInt8):num4 (l++[c])=num4 l*256+c.toNat:=by simp[num4]
theorem nt2(s:ByteArray)(k:Nat)(h:k<s.size):num4 (s.data.toList.take (k+1))=num4 (s.data.toList.take k)*256+s[k].toNat:=by rw[ts2 s k h,ns4]
theorem nl5(l:List UInt8):num4 l<256^l.length:=by
 suffices h:∀(l:List UInt8) (n:Nat),l.foldl (fun n c=>n*256+c.toNat) n<(n+1)*256^l.length by have:=h l 0;simpa[num4]using this
 intro l
 induction l with
 |nil=>intro n;simp
 |cons c l ih=>
   intro n;have h1:=ih (n*256+c.toNat);have h2:=c.toNat_lt;simp only[jJ,qU,yN];refine qF h1 ?_;rw[xB (256^l.length) 256,<-xC];exact jO _ (by omega)
theorem nl6(l:List UInt8)(h:l.length<=3):num4 l<16777216:=by have h1:=nl5 l;have h2:256^l.length<=256^3:=zf (by omega) h;omega
theorem nl3(l:List UInt8)(h:l.length<=4):num4 l<4294967296:=by have h1:=nl5 l;have h2:256^l.length<=256^4:=zf (by omega) h;omega
theorem nt3(s:ByteArray)(h:4<=s.size):num4 (s.data.toList.take 4)=((s[0].toNat*256+s[1].toNat)*256+s[2].toNat)*256+s[3].toNat:=by rw[nt2 s 3 (by omega),nt2 s 2 (by omega),nt2 s 1 (by omega),nt2 s 0 (by omega)];simp[num4]
def mkf(s:ByteArray):ByteArray:=be4 s.size++be4 (csum s.data.toList)++s
def frm(s:ByteArray)(k:Nat):ByteArray:=s.extract k s.size
def rd(s:ByteArray):ByteArray×ByteArray×Nat:=
 if s.size<8 then(⟨#[]⟩,s,21)
 else if 60000<num4 (s.data.toList.take 4)then(⟨#[]⟩,s,30)
 else if s.size<8+num4 (s.data.toList.take 4)then(⟨#[]⟩,s,21)
 else if csum (s.extract 8 (8+num4 (s.data.toList.take 4))).data.toList=num4 ((frm s 4).data.toList.take 4)then(s.extract 8 (8+num4 (s.data.toList.take 4)),frm s (8+num4 (s.data.toList.take 4)),0)
 else(⟨#[]⟩,s,31)
theorem bn(n:Nat)(h:n<4294967296):num4 (be4 n).data.toList=n:=by simp[num4,be4];omega
theorem ml3(c:ByteArray):(mkf c).data.toList=(be4 c.size).data.toList++((be4 (csum c.data.toList)).data.toList++c.data.toList):=by simp[mkf]
theorem ms3(c:ByteArray):(mkf c).size=8+c.size:=by simp only[mkf,yJ];show 4+4+c.size=8+c.size;omega
theorem bl2(n:Nat):(be4 n).data.toList.length=4:=rfl
theorem ext_list(s:ByteArray)(a b:Nat):(s.extract a b).data.toList=(s.data.toList.drop a).take (b-a):=by simp[List.extract]
theorem sl5(s:ByteArray):s.data.toList.length=s.size:=by simp
theorem mn4(c:ByteArray)(h:c.size<=60000)(t:List UInt8):num4 (((mkf c).data.toList++t).take 4)=c.size:=by rw[ml3,zN,qAx (bl2 _),bn _ (by omega)]
theorem rm7(c t:ByteArray)(h:c.size<=60000):rd (mkf c++t)=(c,t,0):=by
 have hl:(mkf c++t).data.toList=(mkf c).data.toList++t.data.toList:=by simp
 have hs:(mkf c++t).size=8+c.size+t.size:=by rw[yJ,ms3]
 have hn:num4 ((mkf c++t).data.toList.take 4)=c.size:=by rw[hl];exact mn4 c h _
 have h8:(be4 c.size++be4 (csum c.data.toList)).size=8:=rfl
 have e1:(mkf c++t).extract 8 (8+c.size)=c:=by apply yF;apply yG.1;rw[ext_list,hl,ml3,<-zN,zN _ c.data.toList,qBw (by rw[qI];rfl),qBd,qAx (sl5 c)]
 have e2:frm (mkf c++t) (8+c.size)=t:=by apply yF;apply yG.1;unfold frm;rw[ext_list,hl,qBw (by rw[sl5,ms3]),hs,qh (by rw[sl5];omega)]
 have e3:num4 ((frm (mkf c++t) 4).data.toList.take 4)=csum c.data.toList:=by unfold frm;rw[ext_list,hl,ml3,zN,qBw (bl2 _),List.take_take,Nat.min_eq_left (by omega),zN,qAx (bl2 _),bn _ (cl2 _)]
 unfold rd;rw[hn,hs,qH (by omega),qH (by omega),qH (by omega),e1,e2,e3,qR rfl]
def joinL(l:List ByteArray):ByteArray:=l.foldl (fun o s=>o++mkf s) ⟨#[]⟩
theorem jLs2(l:List ByteArray)(s:ByteArray):joinL (l++[s])=joinL l++mkf s:=by simp[joinL]
theorem jLt(l:List ByteArray)(k:Nat)(h:k<l.length):joinL (l.take (k+1))=joinL (l.take k)++mkf l[k]:=by rw[qQ h,jLs2]
def sF:Nat->List ByteArray->ByteArray->List ByteArray×Nat
 |0,out,_=>(out,0)
 |f+1,out,s=>if s.size=0 then(out,0)else if(rd s).2.2=0 then sF f (out++[(rd s).1]) (rd s).2.1 else([],(rd s).2.2)
theorem rr2(s:ByteArray)(h:(rd s).2.2=0):(rd s).2.1.size+8<=s.size/\(rd s).1.size<=s.size:=by
 unfold rd at h⊢;split
 ·rename_i h1;rw[qR h1]at h;cases h
 ·rename_i h1;rw[qH h1]at h;split
  ·rename_i h2;rw[qR h2]at h;cases h
  ·rename_i h2;rw[qH h2]at h;split
   ·rename_i h3;rw[qR h3]at h;cases h
   ·rename_i h3;rw[qH h3]at h;split
    ·simp only[frm,ByteArray.size_extract];omega
    ·rename_i h4;rw[qH h4]at h;cases h
theorem sFz(f:Nat)(out:List ByteArray)(s:ByteArray)(h:s.size=0):sF f out s=(out,0):=by
 cases f with
 |zero=>rfl
 |succ f=>rw[sF,qR h]
theorem sFe(f:Nat)(out:List ByteArray)(s:ByteArray)(h:s.size≠0)(hf:s.size<=f)(he:(rd s).2.2≠0):sF f out s=([],(rd s).2.2):=by
 cases f with
 |zero=>omega
 |succ f=>rw[sF,qH h,qH he]
theorem sFs2(f:Nat)(out:List ByteArray)(s:ByteArray)(h:s.size≠0)(hf:s.size<=f)(he:(rd s).2.2=0):∃f',(rd s).2.1.size<=f'/\sF f out s=sF f' (out++[(rd s).1]) (rd s).2.1:=by
 cases f with
 |zero=>omega
 |succ f=>
   refine⟨f,?_,by rw[sF,qH h,qR he]⟩;have:=(rr2 s he).1;omega
theorem jLf(l:List ByteArray):∀o:ByteArray,l.foldl (fun o s=>o++mkf s) o=o++joinL l:=by
 induction l with
 |nil=>intro o;exact(ByteArray.append_empty).symm
 |cons s l ih=>
   intro o;have e:joinL (s::l)=(⟨#[]⟩++mkf s)++joinL l:=ih _;rw[jJ,ih,e,show(⟨#[]⟩:ByteArray)++mkf s=mkf s from ByteArray.empty_append,ByteArray.append_assoc]
theorem jLc(s:ByteArray)(l:List ByteArray):joinL (s::l)=mkf s++joinL l:=by rw[joinL,jJ,jLf,show(⟨#[]⟩:ByteArray)++mkf s=mkf s from ByteArray.empty_append]
end Tess
namespace Tess.Kl
structure Sto{K:Type}(lt:K->K->Bool):Prop where
 irr:∀a,lt a a=false
 trans:∀{a b c},lt a b=true->lt b c=true->lt a c=true
 tri:∀{a b},lt a b=false->lt b a=false->a=b
section lex
variable {α:Type} (lt:α->α->Bool)
def lex:List α->List α->Bool
 |_,[]=>false
 |[],_::_=>true
 |a::l,b::m=>lt a b||(!lt b a&&lex l m)
theorem ls3{lt:α->α->Bool}(h:Sto lt):Sto (lex lt) where
 irr l:=by
  induction l with
  |nil=>rfl
  |cons a l ih=>simp[lex,h.irr,ih]
 trans {l m n}:=by
  induction l generalizing m n with
  |nil=>cases m<;>cases n<;>simp[lex]
  |cons a l ih=>
    cases m with
    |nil=>simp[lex]
    |cons b m=>
      cases n with
      |nil=>simp[lex]
      |cons c n=>
        simp only[lex,qAe,qb,xd];rintro(h1|⟨h1,h2⟩) (h3|⟨h3,h4⟩)
        ·exact Or.inl (h.trans h1 h3)
        ·cases hbc:lt b c
         ·obtain rfl:=h.tri hbc h3;exact Or.inl h1
         ·exact Or.inl (h.trans h1 hbc)
        ·cases hab:lt a b
         ·obtain rfl:=h.tri hab h1;exact Or.inl h3
         ·exact Or.inl (h.trans hab h3)
        ·cases hab:lt a b
         ·obtain rfl:=h.tri hab h1;exact Or.inr ⟨h3,ih h2 h4⟩
         ·cases hbc:lt b c
          ·obtain rfl:=h.tri hbc h3;exact Or.inl hab
          ·exact Or.inl (h.trans hab hbc)
 tri {l m}:=by
  induction l generalizing m with
  |nil=>cases m<;>simp[lex]
  |cons a l ih=>
    cases m with
    |nil=>simp[lex]
    |cons b m=>
      simp only[lex,Bool.or_eq_false_iff,yv,Bool.not_eq_false'];rintro⟨h1,h2⟩ ⟨h3,h4⟩;obtain rfl:=h.tri h1 h3;rcases h2 with h2|h2
      ·rw[h.irr]at h2;cases h2
      rcases h4 with h4|h4
      ·rw[h.irr]at h4;cases h4
      rw[ih h2 h4]
def pair{β:Type}(lt':β->β->Bool)(x y:α×β):Bool:=lt x.1 y.1||(!lt y.1 x.1&&lt' x.2 y.2)
theorem ps6{β:Type}{lt:α->α->Bool}{lt':β->β->Bool}(h:Sto lt)(h':Sto lt'):Sto (pair lt lt') where
 irr x:=by simp[pair,h.irr,h'.irr]
 trans {x y z}:=by
  obtain⟨a,l⟩:=x;obtain⟨b,m⟩:=y;obtain⟨c,n⟩:=z;simp only[pair,qAe,qb,xd];rintro(h1|⟨h1,h2⟩) (h3|⟨h3,h4⟩)
  ·exact Or.inl (h.trans h1 h3)
  ·cases hbc:lt b c
   ·obtain rfl:=h.tri hbc h3;exact Or.inl h1
   ·exact Or.inl (h.trans h1 hbc)
  ·cases hab:lt a b
   ·obtain rfl:=h.tri hab h1;exact Or.inl h3
   ·exact Or.inl (h.trans hab h3)
  ·cases hab:lt a b
   ·obtain rfl:=h.tri hab h1;exact Or.inr ⟨h3,h'.trans h2 h4⟩
   ·cases hbc:lt b c
    ·obtain rfl:=h.tri hbc h3;exact Or.inl hab
    ·exact Or.inl (h.trans hab hbc)
 tri {x y}:=by
  obtain⟨a,l⟩:=x;obtain⟨b,m⟩:=y;simp only[pair,Bool.or_eq_false_iff,yv,Bool.not_eq_false'];rintro⟨h1,h2⟩ ⟨h3,h4⟩;obtain rfl:=h.tri h1 h3;rcases h2 with h2|h2
  ·rw[h.irr]at h2;cases h2
  rcases h4 with h4|h4
  ·rw[h.irr]at h4;cases h4
  rw[h'.tri h2 h4]
end lex
section keyed
variable {K P:Type} {lt:K->K->Bool} {add:P->P->P}
def ins(lt:K->K->Bool)(add:P->P->P)(x:K×P):List (K×P)->List (K×P)
 |[]=>[x]
 |y::r=>if lt y.1 x.1 then y::ins lt add x r else if lt x.1 y.1 then x::y::r else(y.1,add y.2 x.2)::r
def fold(lt:K->K->Bool)(add:P->P->P)(l:List (K×P)):List (K×P):=l.foldl (fun m x=>ins lt add x m) []
def oadd(add:P->P->P):Option P->Option P->Option P
 |none,b=>b
 |a,none=>a
 |some a,some b=>some (add a b)
def sum(add:P->P->P)(c:K->Bool):List (K×P)->Option P
 |[]=>none
 |x::r=>oadd add (if c x.1 then some x.2 else none) (sum add c r)
def Asc(lt:K->K->Bool)(l:List (K×P)):Prop:=l.Pairwise fun a b=>lt a.1 b.1=true
def at'(lt:K->K->Bool)(k:K)(x:K):Bool:= !lt x k && !lt k x
end keyed
section regroup
variable {K L P:Type} {lt:K->K->Bool} {lt':L->L->Bool} {add:P->P->P}
end regroup
