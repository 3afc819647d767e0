/- The law QueryBlanks: walked. -/
import Derived.Test.YtmfnhjdeoklnlaaGreatDoorYQI
namespace Go.Proofs.YtmfnhjdeoklnlaaGreatDoor
open Go.RowKit Go.Sort
open Tess (Tok Fil Que)
def blk (k:Nat):ByteArray:=⟨(List.replicate k (32:UInt8)).toArray⟩
theorem blk_size (k:Nat):(blk k).size=k:=by simp [blk,ByteArray.size]
theorem blk_succ (k:Nat):blk (k + 1)=blk k ++ ⟨#[32]⟩:=by
 apply ByteArray.ext
 apply Array.ext'
 simp [blk,List.replicate_succ',ByteArray.data_append]
def sizeOfV:Value→Nat
 | .string s=>s.size
 | _=>0
theorem blk_list (a b:Nat) (s:ByteArray):((blk a ++ s) ++ blk b).data.toList=List.replicate a 32 ++ (s.data.toList ++ List.replicate b 32):=by simp [blk,ByteArray.data_append]
theorem cut2000' (x:ByteArray):(x.extract 0 (min (x.size:Int) 2000).toNat).size≤2000:=by
 have:(x.extract 0 (min (x.size:Int) 2000).toNat).size≤(min (x.size:Int) 2000).toNat:=by simp;omega
 omega
set_option maxRecDepth 100000 in
set_option maxHeartbeats 8000000 in
theorem QueryBlanks_any (s:ByteArray) (a b:Int) (w:World) (hV:Vy w) (hs:s.size≤maxLen) (hwa:(Lit.int .i64 a).wf=true) (hwb:(Lit.int .i64 b).wf=true):Calls Tryz.prog 5 #[.string s,.int .i64 a,.int .i64 b] w fun e w'=>e = .returned (.bool true)∧Below w.heap.size w w':=by
 unfold maxLen at hs
 have hSz:=cut2000' s
 have HSH:=Lib.hid (fun W (h:Below w.heap.size w W)=>shown15_any W (hV.below h))
 by_cases h1:a < 0
 ·clear hV
  go_enter Tryz.func5,Tryz.ntmps5
  go_wp2_with (fail)
  go_at_call 9
  refine (HSH.out _ (Below.refl _ _)).mono ?_
  rintro e w0 ⟨rfl,hB0⟩
  have HB0:=Lib.hid hB0
  clear hB0
  go_wp2
  go_ret
  exact ⟨rfl,HB0.out⟩
 by_cases h2:b < 0
 ·clear hV
  go_enter Tryz.func5,Tryz.ntmps5
  go_wp2_with (fail)
  go_at_call 9
  refine (HSH.out _ (Below.refl _ _)).mono ?_
  rintro e w0 ⟨rfl,hB0⟩
  have HB0:=Lib.hid hB0
  clear hB0
  go_wp2
  go_ret
  exact ⟨rfl,HB0.out⟩
 by_cases h3:20 < a
 ·clear hV
  go_enter Tryz.func5,Tryz.ntmps5
  go_wp2_with (fail)
  go_at_call 9
  refine (HSH.out _ (Below.refl _ _)).mono ?_
  rintro e w0 ⟨rfl,hB0⟩
  have HB0:=Lib.hid hB0
  clear hB0
  go_wp2
  go_ret
  exact ⟨rfl,HB0.out⟩
 by_cases h4:20 < b
 ·clear hV
  go_enter Tryz.func5,Tryz.ntmps5
  go_wp2_with (fail)
  go_at_call 9
  refine (HSH.out _ (Below.refl _ _)).mono ?_
  rintro e w0 ⟨rfl,hB0⟩
  have HB0:=Lib.hid hB0
  clear hB0
  go_wp2
  go_ret
  exact ⟨rfl,HB0.out⟩
 obtain ⟨A,rfl⟩:∃ A:Nat,a=A:=⟨a.toNat,by omega⟩
 obtain ⟨B,rfl⟩:∃ B:Nat,b=B:=⟨b.toNat,by omega⟩
 have hA:A≤20:=by omega
 have hB:B≤20:=by omega
 have h3n:¬ 20 < A:=by omega
 have h4n:¬ 20 < B:=by omega
 have HP1:=Lib.hid (fun W (h:Below w.heap.size w W)=>parse_any (s.extract 0 (min (s.size:Int) 2000).toNat) W (hV.below h) (by omega))
 have HP2:=Lib.hid (fun W (h:Below w.heap.size w W)=>parse_any ((blk A ++ s.extract 0 (min (s.size:Int) 2000).toNat) ++ blk B) W (hV.below h) (by rw [ByteArray.size_append,ByteArray.size_append,blk_size,blk_size];omega))
 unfold ParsePost at HP1 HP2
 obtain ⟨S,hS⟩:∃ S,s.extract 0 (min (s.size:Int) 2000).toNat=S:=⟨_,rfl⟩
 rw [hS] at HP1 HP2 hSz
 have hPB:=Tess.Prs.parse_blanks (blk_list A B S) hSz hA hB
 have HS:=Lib.hid hS
 clear hV hS
 rcases hPB with ⟨q,hp1,hp2⟩ | ⟨p,hp,hp1,hp2⟩
 ·rw [hp1] at HP1
  rw [hp2] at HP2
  simp only at HP1 HP2
  clear hp1 hp2
  go_enter Tryz.func5,Tryz.ntmps5
  go_wp2_with (fail)
  go_at_call 9
  refine (HSH.out _ (Below.refl _ _)).mono ?_
  rintro e w0 ⟨rfl,hB0⟩
  have HB0:=Lib.hid hB0
  clear hB0
  go_wp2_with (fail)
  rw [HS.out]
  go_loopw [8] (fun i wr=>wr=w0∧∃ k:Nat,k≤A∧i = .string (blk k)) (fun i _=>A - sizeOfV i)
  case atStart=>exact ⟨rfl,0,Nat.zero_le _,rfl⟩
  case round=>
   obtain ⟨hwr,k,hk,rfl⟩:=hrel
   obtain rfl:=hwr.symm
   obtain ⟨XA,hX⟩:∃ XA,blk k=XA:=⟨_,rfl⟩
   have hXs:XA.size=k:=by rw [← hX];exact blk_size k
   have HX:=Lib.hid hX
   rw [hX]
   clear hX
   by_cases h1:k < A
   ·have h1i:(XA.size:Int) < (A:Int):=by omega
    have h1n:XA.size < A:=by omega
    have HS:=Lib.hid hXs
    have H1:=Lib.hid h1
    clear hXs h1
    go_wp2
    go_roundw
    case rel=>exact ⟨trivial,k + 1,H1.out,by rw [← HX.out];exact congrArg Value.string (blk_succ k).symm⟩
    case measure=>have h1:=HS.out;have h2:=H1.out;exact (show A - (XA ++ ⟨#[32]⟩:ByteArray).size < A - XA.size by rw [ByteArray.size_append];show A - (XA.size + 1) < A - XA.size;omega)
   ·have h1i:¬ (XA.size:Int) < (A:Int):=by omega
    have h1n:¬ XA.size < A:=by omega
    obtain rfl:A=k:=by omega
    have HXA:=Lib.hid HX.out
    have hxA:XA.size≤20:=by omega
    clear hXs h1 hk HX
    go_wp2_with (fail)
    go_loopw [9] (fun i wr=>wr=w0∧∃ k:Nat,k≤B∧i = .string (blk k)) (fun i _=>B - sizeOfV i)
    case atStart=>exact ⟨rfl,0,Nat.zero_le _,rfl⟩
    case round=>
     obtain ⟨hwr,k,hk,rfl⟩:=hrel
     obtain rfl:=hwr.symm
     obtain ⟨XB,hX⟩:∃ XB,blk k=XB:=⟨_,rfl⟩
     have hXs:XB.size=k:=by rw [← hX];exact blk_size k
     have HX:=Lib.hid hX
     rw [hX]
     clear hX
     by_cases h1:k < B
     ·have h1i:(XB.size:Int) < (B:Int):=by omega
      have h1n:XB.size < B:=by omega
      have HS:=Lib.hid hXs
      have H1:=Lib.hid h1
      clear hXs h1
      go_wp2
      go_roundw
      case rel=>exact ⟨trivial,k + 1,H1.out,by rw [← HX.out];exact congrArg Value.string (blk_succ k).symm⟩
      case measure=>have h1:=HS.out;have h2:=H1.out;exact (show B - (XB ++ ⟨#[32]⟩:ByteArray).size < B - XB.size by rw [ByteArray.size_append];show B - (XB.size + 1) < B - XB.size;omega)
     ·have h1i:¬ (XB.size:Int) < (B:Int):=by omega
      have h1n:¬ XB.size < B:=by omega
      obtain rfl:B=k:=by omega
      have HXB:=Lib.hid HX.out
      have hxB:XB.size≤20:=by omega
      clear hXs h1 hk HX
      go_wp2_with (fail)
      go_at_call 12
      refine (HP1.out _ HB0.out).mono ?_
      rintro e w1 ⟨u0,u1,u2,u3,u4,u5,u6,u7,u8,u9,ua,rfl,hq1,hB1⟩
      have HQ1:=Lib.hid hq1
      obtain ⟨a1,ac1,a2,ac2,a3,ac3,a4,an4,ac4,a5,ac5,a6,ac6,a7,ac7,rfl,rfl,rfl,rfl,rfl,rfl,rfl,rfl,rfl,rfl,rfl⟩:=hq1.shapesS
      obtain ⟨m1,m2,m3⟩:=laid1 w1 (.cells #[.slice a1 q.aggs.length ac1,.slice a2 q.names.length ac2,.int .i64 q.mode,.slice a3 q.sets.length ac3,.int .i64 q.every,.int .i64 q.fil.kind,.string q.fil.name,.slice a4 an4 ac4,.int .i64 q.fil.frm,.int .i64 q.fil.to,.slice a5 q.fil.l.length ac5,.slice a6 q.conds.length ac6,.slice a7 q.keys.length ac7,.int .i64 q.limit] 33)
      obtain ⟨W1,hW1⟩:∃ W1,w1.alloc (.cells #[.slice a1 q.aggs.length ac1,.slice a2 q.names.length ac2,.int .i64 q.mode,.slice a3 q.sets.length ac3,.int .i64 q.every,.int .i64 q.fil.kind,.string q.fil.name,.slice a4 an4 ac4,.int .i64 q.fil.frm,.int .i64 q.fil.to,.slice a5 q.fil.l.length ac5,.slice a6 q.conds.length ac6,.slice a7 q.keys.length ac7,.int .i64 q.limit] 33)=W1:=⟨_,rfl⟩
      rw [hW1] at m1 m2 m3
      have HK1:=Lib.hid m1
      have HB1:=Lib.hid (Bt HB0.out (hB1))
      have HC1:=Lib.hid (Bt HB1.out m3)
      have HM1:=Lib.hid m3
      clear hq1 hB1 m1 m2 m3
      go_wp2_with (fail)
      rw [← HXA.out,← HXB.out]
      go_at_call 12
      refine (HP2.out _ HC1.out).mono ?_
      rintro e w4 ⟨u0,u1,u2,u3,u4,u5,u6,u7,u8,u9,ua,rfl,hq4,hB4⟩
      have HQ4:=Lib.hid hq4
      obtain ⟨b1,bc1,b2,bc2,b3,bc3,b4,bn4,bc4,b5,bc5,b6,bc6,b7,bc7,rfl,rfl,rfl,rfl,rfl,rfl,rfl,rfl,rfl,rfl,rfl⟩:=hq4.shapesS
      obtain ⟨m1,m2,m3⟩:=laid1 w4 (.cells #[.slice b1 q.aggs.length bc1,.slice b2 q.names.length bc2,.int .i64 q.mode,.slice b3 q.sets.length bc3,.int .i64 q.every,.int .i64 q.fil.kind,.string q.fil.name,.slice b4 bn4 bc4,.int .i64 q.fil.frm,.int .i64 q.fil.to,.slice b5 q.fil.l.length bc5,.slice b6 q.conds.length bc6,.slice b7 q.keys.length bc7,.int .i64 q.limit] 33)
      obtain ⟨W4,hW4⟩:∃ W4,w4.alloc (.cells #[.slice b1 q.aggs.length bc1,.slice b2 q.names.length bc2,.int .i64 q.mode,.slice b3 q.sets.length bc3,.int .i64 q.every,.int .i64 q.fil.kind,.string q.fil.name,.slice b4 bn4 bc4,.int .i64 q.fil.frm,.int .i64 q.fil.to,.slice b5 q.fil.l.length bc5,.slice b6 q.conds.length bc6,.slice b7 q.keys.length bc7,.int .i64 q.limit] 33)=W4:=⟨_,rfl⟩
      rw [hW4] at m1 m2 m3
      have HK4:=Lib.hid m1
      have hBX:=hB4
      have HB4:=Lib.hid (Bt HC1.out (hB4))
      have HC4:=Lib.hid (Bt HB4.out m3)
      have HB4k:=Lib.hid (Bt hBX m3)
      clear hBX
      have HM4:=Lib.hid m3
      clear hq4 hB4 m1 m2 m3
      have hK1:=(HB4k.out.block _ (Array.getElem?_eq_some_iff.1 HK1.out).1).trans HK1.out
      have hM14:=Bt HM1.out HB4k.out
      obtain ⟨⟨c0,c1,c2,c3,c4,c5,c6,c7,c8,c9,ca,cb,cc,cd⟩,_⟩:=can14 HK4.out
      obtain ⟨⟨d0,d1,d2,d3,d4,d5,d6,d7,d8,d9,da,db,dd,dd⟩,_⟩:=can14 hK1
      have HSM:=Lib.hid (qsame_any _ _ 1000000 1000000 _ _ q q _ _ _ _ _ _ _ _ _ _ _ _ _ _ _ _ _ _ _ _ _ _ W4 (HQ4.out.ag (Ag.new _ HM4.out)) (HQ1.out.ag (Ag.new _ hM14)))
      rw [sameQ_true rfl] at HSM
      clear hK1 hM14
      go_wp2_with (go_at_call 13;refine HSM.out.mono ?_;rintro e w6 ⟨rfl,hb6⟩;have HB6:=Lib.hid (Bt HC4.out hb6);clear hb6)
      go_ret
      exact ⟨rfl,HB6.out⟩
 ·rw [hp1] at HP1
  rw [hp2] at HP2
  have hz0:Tess.Prs.noQue.aggs.length=0:=rfl
  generalize hK2:A + (if p=S.size then S.size + B else p)=K2 at *
  simp only at HP1 HP2
  clear hp1 hp2 hz0
  generalize Tess.Prs.noQue=q at *
  have hSI:(S.size:Int)≤2000:=by omega
  by_cases hpS:p=S.size
  ·rw [if_pos hpS] at hK2
   have f1:((K2:Int) == (p:Int) + (A:Int))=decide (B=0):=by by_cases hb:B=0 <;> simp [hb] <;> omega
   have f2:((K2:Int) == (p:Int) + (A:Int) + (B:Int))=true:=by simp;omega
   have f3:((p:Int) == (S.size:Int))=true:=by simp;omega
   have f4:(decide ((p:Int) < (S.size:Int)))=false:=by simp;omega
   have f5:(decide (p < S.size))=false:=by simp;omega
   by_cases hb0:B=0
   ·rw [decide_eq_true hb0] at f1
    have HH:=Lib.hid (And.intro hpS (And.intro hK2 hb0))
    clear hpS hK2 hb0
    go_enter Tryz.func5,Tryz.ntmps5
    go_wp2_with (fail)
    go_at_call 9
    refine (HSH.out _ (Below.refl _ _)).mono ?_
    rintro e w0 ⟨rfl,hB0⟩
    have HB0:=Lib.hid hB0
    clear hB0
    go_wp2_with (fail)
    rw [HS.out]
    go_loopw [8] (fun i wr=>wr=w0∧∃ k:Nat,k≤A∧i = .string (blk k)) (fun i _=>A - sizeOfV i)
    case atStart=>exact ⟨rfl,0,Nat.zero_le _,rfl⟩
    case round=>
     obtain ⟨hwr,k,hk,rfl⟩:=hrel
     obtain rfl:=hwr.symm
     obtain ⟨XA,hX⟩:∃ XA,blk k=XA:=⟨_,rfl⟩
     have hXs:XA.size=k:=by rw [← hX];exact blk_size k
     have HX:=Lib.hid hX
     rw [hX]
     clear hX
     by_cases h1:k < A
     ·have h1i:(XA.size:Int) < (A:Int):=by omega
      have h1n:XA.size < A:=by omega
      have HS:=Lib.hid hXs
      have H1:=Lib.hid h1
      clear hXs h1
      go_wp2
      go_roundw
      case rel=>exact ⟨trivial,k + 1,H1.out,by rw [← HX.out];exact congrArg Value.string (blk_succ k).symm⟩
      case measure=>have h1:=HS.out;have h2:=H1.out;exact (show A - (XA ++ ⟨#[32]⟩:ByteArray).size < A - XA.size by rw [ByteArray.size_append];show A - (XA.size + 1) < A - XA.size;omega)
     ·have h1i:¬ (XA.size:Int) < (A:Int):=by omega
      have h1n:¬ XA.size < A:=by omega
      obtain rfl:A=k:=by omega
      have HXA:=Lib.hid HX.out
      have hxA:XA.size≤20:=by omega
      clear hXs h1 hk HX
      go_wp2_with (fail)
      go_loopw [9] (fun i wr=>wr=w0∧∃ k:Nat,k≤B∧i = .string (blk k)) (fun i _=>B - sizeOfV i)
      case atStart=>exact ⟨rfl,0,Nat.zero_le _,rfl⟩
      case round=>
       obtain ⟨hwr,k,hk,rfl⟩:=hrel
       obtain rfl:=hwr.symm
       obtain ⟨XB,hX⟩:∃ XB,blk k=XB:=⟨_,rfl⟩
       have hXs:XB.size=k:=by rw [← hX];exact blk_size k
       have HX:=Lib.hid hX
       rw [hX]
       clear hX
       by_cases h1:k < B
       ·have h1i:(XB.size:Int) < (B:Int):=by omega
        have h1n:XB.size < B:=by omega
        have HS:=Lib.hid hXs
        have H1:=Lib.hid h1
        clear hXs h1
        go_wp2
        go_roundw
        case rel=>exact ⟨trivial,k + 1,H1.out,by rw [← HX.out];exact congrArg Value.string (blk_succ k).symm⟩
        case measure=>have h1:=HS.out;have h2:=H1.out;exact (show B - (XB ++ ⟨#[32]⟩:ByteArray).size < B - XB.size by rw [ByteArray.size_append];show B - (XB.size + 1) < B - XB.size;omega)
       ·have h1i:¬ (XB.size:Int) < (B:Int):=by omega
        have h1n:¬ XB.size < B:=by omega
        obtain rfl:B=k:=by omega
        have HXB:=Lib.hid HX.out
        have hxB:XB.size≤20:=by omega
        clear hXs h1 hk HX
        go_wp2_with (fail)
        go_at_call 12
        refine (HP1.out _ HB0.out).mono ?_
        rintro e w1 ⟨u0,u1,u2,u3,u4,u5,u6,u7,u8,u9,ua,rfl,hq1,hB1⟩
        have HQ1:=Lib.hid hq1
        obtain ⟨a1,ac1,a2,ac2,a3,ac3,a4,an4,ac4,a5,ac5,a6,ac6,a7,ac7,rfl,rfl,rfl,rfl,rfl,rfl,rfl,rfl,rfl,rfl,rfl⟩:=hq1.shapesS
        obtain ⟨m1,m2,m3⟩:=laid1 w1 (.cells #[.slice a1 q.aggs.length ac1,.slice a2 q.names.length ac2,.int .i64 q.mode,.slice a3 q.sets.length ac3,.int .i64 q.every,.int .i64 q.fil.kind,.string q.fil.name,.slice a4 an4 ac4,.int .i64 q.fil.frm,.int .i64 q.fil.to,.slice a5 q.fil.l.length ac5,.slice a6 q.conds.length ac6,.slice a7 q.keys.length ac7,.int .i64 q.limit] 33)
        obtain ⟨W1,hW1⟩:∃ W1,w1.alloc (.cells #[.slice a1 q.aggs.length ac1,.slice a2 q.names.length ac2,.int .i64 q.mode,.slice a3 q.sets.length ac3,.int .i64 q.every,.int .i64 q.fil.kind,.string q.fil.name,.slice a4 an4 ac4,.int .i64 q.fil.frm,.int .i64 q.fil.to,.slice a5 q.fil.l.length ac5,.slice a6 q.conds.length ac6,.slice a7 q.keys.length ac7,.int .i64 q.limit] 33)=W1:=⟨_,rfl⟩
        rw [hW1] at m1 m2 m3
        have HK1:=Lib.hid m1
        have HB1:=Lib.hid (Bt HB0.out (hB1))
        have HC1:=Lib.hid (Bt HB1.out m3)
        have HM1:=Lib.hid m3
        clear hq1 hB1 m1 m2 m3
        go_wp2_with (fail)
        rw [← HXA.out,← HXB.out]
        go_at_call 12
        refine (HP2.out _ HC1.out).mono ?_
        rintro e w4 ⟨u0,u1,u2,u3,u4,u5,u6,u7,u8,u9,ua,rfl,hq4,hB4⟩
        have HQ4:=Lib.hid hq4
        obtain ⟨b1,bc1,b2,bc2,b3,bc3,b4,bn4,bc4,b5,bc5,b6,bc6,b7,bc7,rfl,rfl,rfl,rfl,rfl,rfl,rfl,rfl,rfl,rfl,rfl⟩:=hq4.shapesS
        obtain ⟨m1,m2,m3⟩:=laid1 w4 (.cells #[.slice b1 q.aggs.length bc1,.slice b2 q.names.length bc2,.int .i64 q.mode,.slice b3 q.sets.length bc3,.int .i64 q.every,.int .i64 q.fil.kind,.string q.fil.name,.slice b4 bn4 bc4,.int .i64 q.fil.frm,.int .i64 q.fil.to,.slice b5 q.fil.l.length bc5,.slice b6 q.conds.length bc6,.slice b7 q.keys.length bc7,.int .i64 q.limit] 33)
        obtain ⟨W4,hW4⟩:∃ W4,w4.alloc (.cells #[.slice b1 q.aggs.length bc1,.slice b2 q.names.length bc2,.int .i64 q.mode,.slice b3 q.sets.length bc3,.int .i64 q.every,.int .i64 q.fil.kind,.string q.fil.name,.slice b4 bn4 bc4,.int .i64 q.fil.frm,.int .i64 q.fil.to,.slice b5 q.fil.l.length bc5,.slice b6 q.conds.length bc6,.slice b7 q.keys.length bc7,.int .i64 q.limit] 33)=W4:=⟨_,rfl⟩
        rw [hW4] at m1 m2 m3
        have HK4:=Lib.hid m1
        have hBX:=hB4
        have HB4:=Lib.hid (Bt HC1.out (hB4))
        have HC4:=Lib.hid (Bt HB4.out m3)
        have HB4k:=Lib.hid (Bt hBX m3)
        clear hBX
        have HM4:=Lib.hid m3
        clear hq4 hB4 m1 m2 m3
        have hK1:=(HB4k.out.block _ (Array.getElem?_eq_some_iff.1 HK1.out).1).trans HK1.out
        have hM14:=Bt HM1.out HB4k.out
        obtain ⟨⟨c0,c1,c2,c3,c4,c5,c6,c7,c8,c9,ca,cb,cc,cd⟩,_⟩:=can14 HK4.out
        obtain ⟨⟨d0,d1,d2,d3,d4,d5,d6,d7,d8,d9,da,db,dd,dd⟩,_⟩:=can14 hK1
        clear hK1 hM14
        go_wp2
        go_ret
        exact ⟨rfl,HC4.out⟩
   ·rw [decide_eq_false hb0] at f1
    have HH:=Lib.hid (And.intro hpS (And.intro hK2 hb0))
    clear hpS hK2 hb0
    go_enter Tryz.func5,Tryz.ntmps5
    go_wp2_with (fail)
    go_at_call 9
    refine (HSH.out _ (Below.refl _ _)).mono ?_
    rintro e w0 ⟨rfl,hB0⟩
    have HB0:=Lib.hid hB0
    clear hB0
    go_wp2_with (fail)
    rw [HS.out]
    go_loopw [8] (fun i wr=>wr=w0∧∃ k:Nat,k≤A∧i = .string (blk k)) (fun i _=>A - sizeOfV i)
    case atStart=>exact ⟨rfl,0,Nat.zero_le _,rfl⟩
    case round=>
     obtain ⟨hwr,k,hk,rfl⟩:=hrel
     obtain rfl:=hwr.symm
     obtain ⟨XA,hX⟩:∃ XA,blk k=XA:=⟨_,rfl⟩
     have hXs:XA.size=k:=by rw [← hX];exact blk_size k
     have HX:=Lib.hid hX
     rw [hX]
     clear hX
     by_cases h1:k < A
     ·have h1i:(XA.size:Int) < (A:Int):=by omega
      have h1n:XA.size < A:=by omega
      have HS:=Lib.hid hXs
      have H1:=Lib.hid h1
      clear hXs h1
      go_wp2
      go_roundw
      case rel=>exact ⟨trivial,k + 1,H1.out,by rw [← HX.out];exact congrArg Value.string (blk_succ k).symm⟩
      case measure=>have h1:=HS.out;have h2:=H1.out;exact (show A - (XA ++ ⟨#[32]⟩:ByteArray).size < A - XA.size by rw [ByteArray.size_append];show A - (XA.size + 1) < A - XA.size;omega)
     ·have h1i:¬ (XA.size:Int) < (A:Int):=by omega
      have h1n:¬ XA.size < A:=by omega
      obtain rfl:A=k:=by omega
      have HXA:=Lib.hid HX.out
      have hxA:XA.size≤20:=by omega
      clear hXs h1 hk HX
      go_wp2_with (fail)
      go_loopw [9] (fun i wr=>wr=w0∧∃ k:Nat,k≤B∧i = .string (blk k)) (fun i _=>B - sizeOfV i)
      case atStart=>exact ⟨rfl,0,Nat.zero_le _,rfl⟩
      case round=>
       obtain ⟨hwr,k,hk,rfl⟩:=hrel
       obtain rfl:=hwr.symm
       obtain ⟨XB,hX⟩:∃ XB,blk k=XB:=⟨_,rfl⟩
       have hXs:XB.size=k:=by rw [← hX];exact blk_size k
       have HX:=Lib.hid hX
       rw [hX]
       clear hX
       by_cases h1:k < B
       ·have h1i:(XB.size:Int) < (B:Int):=by omega
        have h1n:XB.size < B:=by omega
        have HS:=Lib.hid hXs
        have H1:=Lib.hid h1
        clear hXs h1
        go_wp2
        go_roundw
        case rel=>exact ⟨trivial,k + 1,H1.out,by rw [← HX.out];exact congrArg Value.string (blk_succ k).symm⟩
        case measure=>have h1:=HS.out;have h2:=H1.out;exact (show B - (XB ++ ⟨#[32]⟩:ByteArray).size < B - XB.size by rw [ByteArray.size_append];show B - (XB.size + 1) < B - XB.size;omega)
       ·have h1i:¬ (XB.size:Int) < (B:Int):=by omega
        have h1n:¬ XB.size < B:=by omega
        obtain rfl:B=k:=by omega
        have HXB:=Lib.hid HX.out
        have hxB:XB.size≤20:=by omega
        clear hXs h1 hk HX
        go_wp2_with (fail)
        go_at_call 12
        refine (HP1.out _ HB0.out).mono ?_
        rintro e w1 ⟨u0,u1,u2,u3,u4,u5,u6,u7,u8,u9,ua,rfl,hq1,hB1⟩
        have HQ1:=Lib.hid hq1
        obtain ⟨a1,ac1,a2,ac2,a3,ac3,a4,an4,ac4,a5,ac5,a6,ac6,a7,ac7,rfl,rfl,rfl,rfl,rfl,rfl,rfl,rfl,rfl,rfl,rfl⟩:=hq1.shapesS
        obtain ⟨m1,m2,m3⟩:=laid1 w1 (.cells #[.slice a1 q.aggs.length ac1,.slice a2 q.names.length ac2,.int .i64 q.mode,.slice a3 q.sets.length ac3,.int .i64 q.every,.int .i64 q.fil.kind,.string q.fil.name,.slice a4 an4 ac4,.int .i64 q.fil.frm,.int .i64 q.fil.to,.slice a5 q.fil.l.length ac5,.slice a6 q.conds.length ac6,.slice a7 q.keys.length ac7,.int .i64 q.limit] 33)
        obtain ⟨W1,hW1⟩:∃ W1,w1.alloc (.cells #[.slice a1 q.aggs.length ac1,.slice a2 q.names.length ac2,.int .i64 q.mode,.slice a3 q.sets.length ac3,.int .i64 q.every,.int .i64 q.fil.kind,.string q.fil.name,.slice a4 an4 ac4,.int .i64 q.fil.frm,.int .i64 q.fil.to,.slice a5 q.fil.l.length ac5,.slice a6 q.conds.length ac6,.slice a7 q.keys.length ac7,.int .i64 q.limit] 33)=W1:=⟨_,rfl⟩
        rw [hW1] at m1 m2 m3
        have HK1:=Lib.hid m1
        have HB1:=Lib.hid (Bt HB0.out (hB1))
        have HC1:=Lib.hid (Bt HB1.out m3)
        have HM1:=Lib.hid m3
        clear hq1 hB1 m1 m2 m3
        go_wp2_with (fail)
        rw [← HXA.out,← HXB.out]
        go_at_call 12
        refine (HP2.out _ HC1.out).mono ?_
        rintro e w4 ⟨u0,u1,u2,u3,u4,u5,u6,u7,u8,u9,ua,rfl,hq4,hB4⟩
        have HQ4:=Lib.hid hq4
        obtain ⟨b1,bc1,b2,bc2,b3,bc3,b4,bn4,bc4,b5,bc5,b6,bc6,b7,bc7,rfl,rfl,rfl,rfl,rfl,rfl,rfl,rfl,rfl,rfl,rfl⟩:=hq4.shapesS
        obtain ⟨m1,m2,m3⟩:=laid1 w4 (.cells #[.slice b1 q.aggs.length bc1,.slice b2 q.names.length bc2,.int .i64 q.mode,.slice b3 q.sets.length bc3,.int .i64 q.every,.int .i64 q.fil.kind,.string q.fil.name,.slice b4 bn4 bc4,.int .i64 q.fil.frm,.int .i64 q.fil.to,.slice b5 q.fil.l.length bc5,.slice b6 q.conds.length bc6,.slice b7 q.keys.length bc7,.int .i64 q.limit] 33)
        obtain ⟨W4,hW4⟩:∃ W4,w4.alloc (.cells #[.slice b1 q.aggs.length bc1,.slice b2 q.names.length bc2,.int .i64 q.mode,.slice b3 q.sets.length bc3,.int .i64 q.every,.int .i64 q.fil.kind,.string q.fil.name,.slice b4 bn4 bc4,.int .i64 q.fil.frm,.int .i64 q.fil.to,.slice b5 q.fil.l.length bc5,.slice b6 q.conds.length bc6,.slice b7 q.keys.length bc7,.int .i64 q.limit] 33)=W4:=⟨_,rfl⟩
        rw [hW4] at m1 m2 m3
        have HK4:=Lib.hid m1
        have hBX:=hB4
        have HB4:=Lib.hid (Bt HC1.out (hB4))
        have HC4:=Lib.hid (Bt HB4.out m3)
        have HB4k:=Lib.hid (Bt hBX m3)
        clear hBX
        have HM4:=Lib.hid m3
        clear hq4 hB4 m1 m2 m3
        have hK1:=(HB4k.out.block _ (Array.getElem?_eq_some_iff.1 HK1.out).1).trans HK1.out
        have hM14:=Bt HM1.out HB4k.out
        obtain ⟨⟨c0,c1,c2,c3,c4,c5,c6,c7,c8,c9,ca,cb,cc,cd⟩,_⟩:=can14 HK4.out
        obtain ⟨⟨d0,d1,d2,d3,d4,d5,d6,d7,d8,d9,da,db,dd,dd⟩,_⟩:=can14 hK1
        clear hK1 hM14
        go_wp2
        go_ret
        exact ⟨rfl,HC4.out⟩
  ·rw [if_neg hpS] at hK2
   have f1:((K2:Int) == (p:Int) + (A:Int))=true:=by simp;omega
   have f4:(decide ((p:Int) < (S.size:Int)))=true:=by simp;omega
   have f5:(decide (p < S.size))=true:=by simp;omega
   have HH:=Lib.hid (And.intro hpS hK2)
   clear hpS hK2
   go_enter Tryz.func5,Tryz.ntmps5
   go_wp2_with (fail)
   go_at_call 9
   refine (HSH.out _ (Below.refl _ _)).mono ?_
   rintro e w0 ⟨rfl,hB0⟩
   have HB0:=Lib.hid hB0
   clear hB0
   go_wp2_with (fail)
   rw [HS.out]
   go_loopw [8] (fun i wr=>wr=w0∧∃ k:Nat,k≤A∧i = .string (blk k)) (fun i _=>A - sizeOfV i)
   case atStart=>exact ⟨rfl,0,Nat.zero_le _,rfl⟩
   case round=>
    obtain ⟨hwr,k,hk,rfl⟩:=hrel
    obtain rfl:=hwr.symm
    obtain ⟨XA,hX⟩:∃ XA,blk k=XA:=⟨_,rfl⟩
    have hXs:XA.size=k:=by rw [← hX];exact blk_size k
    have HX:=Lib.hid hX
    rw [hX]
    clear hX
    by_cases h1:k < A
    ·have h1i:(XA.size:Int) < (A:Int):=by omega
     have h1n:XA.size < A:=by omega
     have HS:=Lib.hid hXs
     have H1:=Lib.hid h1
     clear hXs h1
     go_wp2
     go_roundw
     case rel=>exact ⟨trivial,k + 1,H1.out,by rw [← HX.out];exact congrArg Value.string (blk_succ k).symm⟩
     case measure=>have h1:=HS.out;have h2:=H1.out;exact (show A - (XA ++ ⟨#[32]⟩:ByteArray).size < A - XA.size by rw [ByteArray.size_append];show A - (XA.size + 1) < A - XA.size;omega)
    ·have h1i:¬ (XA.size:Int) < (A:Int):=by omega
     have h1n:¬ XA.size < A:=by omega
     obtain rfl:A=k:=by omega
     have HXA:=Lib.hid HX.out
     have hxA:XA.size≤20:=by omega
     clear hXs h1 hk HX
     go_wp2_with (fail)
     go_loopw [9] (fun i wr=>wr=w0∧∃ k:Nat,k≤B∧i = .string (blk k)) (fun i _=>B - sizeOfV i)
     case atStart=>exact ⟨rfl,0,Nat.zero_le _,rfl⟩
     case round=>
      obtain ⟨hwr,k,hk,rfl⟩:=hrel
      obtain rfl:=hwr.symm
      obtain ⟨XB,hX⟩:∃ XB,blk k=XB:=⟨_,rfl⟩
      have hXs:XB.size=k:=by rw [← hX];exact blk_size k
      have HX:=Lib.hid hX
      rw [hX]
      clear hX
      by_cases h1:k < B
      ·have h1i:(XB.size:Int) < (B:Int):=by omega
       have h1n:XB.size < B:=by omega
       have HS:=Lib.hid hXs
       have H1:=Lib.hid h1
       clear hXs h1
       go_wp2
       go_roundw
       case rel=>exact ⟨trivial,k + 1,H1.out,by rw [← HX.out];exact congrArg Value.string (blk_succ k).symm⟩
       case measure=>have h1:=HS.out;have h2:=H1.out;exact (show B - (XB ++ ⟨#[32]⟩:ByteArray).size < B - XB.size by rw [ByteArray.size_append];show B - (XB.size + 1) < B - XB.size;omega)
      ·have h1i:¬ (XB.size:Int) < (B:Int):=by omega
       have h1n:¬ XB.size < B:=by omega
       obtain rfl:B=k:=by omega
       have HXB:=Lib.hid HX.out
       have hxB:XB.size≤20:=by omega
       clear hXs h1 hk HX
       go_wp2_with (fail)
       go_at_call 12
       refine (HP1.out _ HB0.out).mono ?_
       rintro e w1 ⟨u0,u1,u2,u3,u4,u5,u6,u7,u8,u9,ua,rfl,hq1,hB1⟩
       have HQ1:=Lib.hid hq1
       obtain ⟨a1,ac1,a2,ac2,a3,ac3,a4,an4,ac4,a5,ac5,a6,ac6,a7,ac7,rfl,rfl,rfl,rfl,rfl,rfl,rfl,rfl,rfl,rfl,rfl⟩:=hq1.shapesS
       obtain ⟨m1,m2,m3⟩:=laid1 w1 (.cells #[.slice a1 q.aggs.length ac1,.slice a2 q.names.length ac2,.int .i64 q.mode,.slice a3 q.sets.length ac3,.int .i64 q.every,.int .i64 q.fil.kind,.string q.fil.name,.slice a4 an4 ac4,.int .i64 q.fil.frm,.int .i64 q.fil.to,.slice a5 q.fil.l.length ac5,.slice a6 q.conds.length ac6,.slice a7 q.keys.length ac7,.int .i64 q.limit] 33)
       obtain ⟨W1,hW1⟩:∃ W1,w1.alloc (.cells #[.slice a1 q.aggs.length ac1,.slice a2 q.names.length ac2,.int .i64 q.mode,.slice a3 q.sets.length ac3,.int .i64 q.every,.int .i64 q.fil.kind,.string q.fil.name,.slice a4 an4 ac4,.int .i64 q.fil.frm,.int .i64 q.fil.to,.slice a5 q.fil.l.length ac5,.slice a6 q.conds.length ac6,.slice a7 q.keys.length ac7,.int .i64 q.limit] 33)=W1:=⟨_,rfl⟩
       rw [hW1] at m1 m2 m3
       have HK1:=Lib.hid m1
       have HB1:=Lib.hid (Bt HB0.out (hB1))
       have HC1:=Lib.hid (Bt HB1.out m3)
       have HM1:=Lib.hid m3
       clear hq1 hB1 m1 m2 m3
       go_wp2_with (fail)
       rw [← HXA.out,← HXB.out]
       go_at_call 12
       refine (HP2.out _ HC1.out).mono ?_
       rintro e w4 ⟨u0,u1,u2,u3,u4,u5,u6,u7,u8,u9,ua,rfl,hq4,hB4⟩
       have HQ4:=Lib.hid hq4
       obtain ⟨b1,bc1,b2,bc2,b3,bc3,b4,bn4,bc4,b5,bc5,b6,bc6,b7,bc7,rfl,rfl,rfl,rfl,rfl,rfl,rfl,rfl,rfl,rfl,rfl⟩:=hq4.shapesS
       obtain ⟨m1,m2,m3⟩:=laid1 w4 (.cells #[.slice b1 q.aggs.length bc1,.slice b2 q.names.length bc2,.int .i64 q.mode,.slice b3 q.sets.length bc3,.int .i64 q.every,.int .i64 q.fil.kind,.string q.fil.name,.slice b4 bn4 bc4,.int .i64 q.fil.frm,.int .i64 q.fil.to,.slice b5 q.fil.l.length bc5,.slice b6 q.conds.length bc6,.slice b7 q.keys.length bc7,.int .i64 q.limit] 33)
       obtain ⟨W4,hW4⟩:∃ W4,w4.alloc (.cells #[.slice b1 q.aggs.length bc1,.slice b2 q.names.length bc2,.int .i64 q.mode,.slice b3 q.sets.length bc3,.int .i64 q.every,.int .i64 q.fil.kind,.string q.fil.name,.slice b4 bn4 bc4,.int .i64 q.fil.frm,.int .i64 q.fil.to,.slice b5 q.fil.l.length bc5,.slice b6 q.conds.length bc6,.slice b7 q.keys.length bc7,.int .i64 q.limit] 33)=W4:=⟨_,rfl⟩
       rw [hW4] at m1 m2 m3
       have HK4:=Lib.hid m1
       have hBX:=hB4
       have HB4:=Lib.hid (Bt HC1.out (hB4))
       have HC4:=Lib.hid (Bt HB4.out m3)
       have HB4k:=Lib.hid (Bt hBX m3)
       clear hBX
       have HM4:=Lib.hid m3
       clear hq4 hB4 m1 m2 m3
       have hK1:=(HB4k.out.block _ (Array.getElem?_eq_some_iff.1 HK1.out).1).trans HK1.out
       have hM14:=Bt HM1.out HB4k.out
       obtain ⟨⟨c0,c1,c2,c3,c4,c5,c6,c7,c8,c9,ca,cb,cc,cd⟩,_⟩:=can14 HK4.out
       obtain ⟨⟨d0,d1,d2,d3,d4,d5,d6,d7,d8,d9,da,db,dd,dd⟩,_⟩:=can14 hK1
       clear hK1 hM14
       go_wp2
       go_ret
       exact ⟨rfl,HC4.out⟩
end Go.Proofs.YtmfnhjdeoklnlaaGreatDoor
