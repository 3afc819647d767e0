/- Joined by mergeQ.py: Q28, Q29, Q30, Q31, Q32 -/
import Derived.Test.YtbbgjjjeecfnoaaGreatDoorXQ27
namespace Go.Proofs.YtbbgjjjeecfnoaaGreatDoor
open Go.RowKit Go.Sort
open Tess (Tok)
set_option maxRecDepth 100000 in
set_option maxHeartbeats 8000000 in
theorem read_a (s:ByteArray) (w:World) (hV:Vz w) (hs:s.size≤1099511627776) (hpos:0 < s.size) (c:UInt8) (r:List UInt8) (hr:s.data.toList=c :: r) (hc:s[0]=c) (hw0:Tok.whileL Tok.pWord 0 (c :: r)=0) (hTail:Tok.read s.data.toList=Tok.tail s.data.toList) (c36:c=36) (hbad:Tok.whileL Tok.pName 0 r=0) :
  Calls Tryz.prog 135 #[.string s] w fun e w'=>e = .returned (tkV (Tok.read s.data.toList))∧Below w.heap.size w w':=by
 obtain ⟨l1,l2,l3⟩:=laid1 w tk0
 have HS0:RowKit.Hid (RdAt w (w.alloc tk0)):=Lib.hid ⟨l3,l1⟩
 have HV0:RowKit.Hid (Vz (w.alloc tk0)):=Lib.hid (hV.below l3)
 clear l1 l2 l3 hV
 obtain ⟨W0,hW0⟩:∃ W0,w.alloc tk0=W0:=⟨_,rfl⟩
 rw [hW0] at HS0 HV0
 have hne:=str_ne s hpos
 have hlr:r.length + 1=s.size:=by
  have:=congrArg List.length hr
  rw [Array.length_toList] at this
  exact this.symm
 have hWW:=fun W=>while_word s W
 have hd1:(s.extract 1 s.size).data.toList=r:=by rw [data_drop,hr];rfl
 rw [hr,hw0] at hWW
 have HW:=Lib.hid hWW
 clear hWW
 have hNum:=fun W h=>number_any s W h (by omega)
 have hsi:(1:Int)≤(s.size:Int):=by omega
 subst c36
 have hNN:=fun W=>while_name (s.extract 1 s.size) W
 rw [hd1] at hNN
 have hnl:=Tok.whileL_le Tok.pName r 0
 have HN:=Lib.hid hNN
 clear hNN hr hd1 hw0
 generalize Tok.whileL Tok.pName 0 r=m at *
 subst hbad
 have hbi:decide ((0:Int) < ((0:Nat):Int))=false:=by decide
 cases hNn:Tok.number s.data.toList with
 | some p=>
   obtain ⟨sz,n⟩:=p
   rw [hNn] at hNum
   have HNUM:=Lib.hid hNum
   have HE:=Lib.hid (hTail.trans (show Tok.tail s.data.toList=⟨3,0,sz,ByteArray.empty,n⟩ by unfold Tok.tail;rw [hNn]))
   clear hNum hTail hNn
   generalize Tok.read s.data.toList=T at *
   go_enter Tryz.func135,Tryz.ntmps135
   go_wp2_with (fail)
   (go_at_call 133;with_reducible refine (HW.out _).mono ?_;rintro e w1 ⟨rfl,hB1⟩;have HS1:=Lib.hid (HS0.out.below hB1);have HV1:=Lib.hid (HV0.out.below hB1);clear hB1)
   go_wp2_with (fail)
   (go_at_call 133;with_reducible refine (HN.out _).mono ?_;rintro e w2 ⟨rfl,hB2⟩;have HS2:=Lib.hid (HS1.out.below hB2);have HV2:=Lib.hid (HV1.out.below hB2);clear hB2)
   go_wp2_with (fail)
   go_at_call 209
   refine (HNUM.out _ HV2.out).mono ?_
   rintro e w6 ⟨hB6,t,rfl,htk,hN⟩
   obtain rfl:=hN sz n rfl
   have HS6:=Lib.hid (HS2.out.below hB6)
   clear hB6 htk hN
   unfold tkV tkF
   obtain ⟨W7,hW7⟩:∃ W7,w6.alloc (.cells #[.int .i64 3,.int .i64 0,.int .i64 sz,.string ByteArray.empty,.int .i64 n] 128)=W7:=⟨_,rfl⟩
   obtain ⟨m1,m2,m3⟩:=laid1 w6 (.cells #[.int .i64 3,.int .i64 0,.int .i64 sz,.string ByteArray.empty,.int .i64 n] 128)
   rw [hW7] at m1 m2 m3
   have HS7:=Lib.hid (HS6.out.below m3)
   obtain ⟨⟨j0,j1,j2,j3,j4⟩,_⟩:=can5 m1
   obtain ⟨W3,hW3,hB3,q0,q1,q2,q3,q4⟩:=HS7.out.done (.int .i64 3) (.int .i64 0) (.int .i64 sz) (.string ByteArray.empty) (.int .i64 n)
   have HB3:=Lib.hid hB3
   have HQ:=Lib.hid (And.intro q0 (And.intro q1 (And.intro q2 (And.intro q3 q4))))
   clear hB3 q0 q1 q2 q3 q4
   obtain ⟨⟨_,_,_,_,_⟩,k0,k1,k2,k3,k4⟩:=can5 HS7.out.k
   go_wp2
   obtain ⟨q0,q1,q2,q3,q4⟩:=HQ.out
   refine bodyPost_ret (v:=tkV ⟨3,0,sz,ByteArray.empty,n⟩) (by simp [results,Tryz.results135,go_sem,q0,q1,q2,q3,q4,tkV,tkF]) rfl ⟨by rw [HE.out],HB3.out⟩
 | none=>
   rw [hNn] at hNum
   have HNUM:=Lib.hid hNum
   have HSG:=Lib.hid signs_any
   have HHP:=Lib.hid (fun x W=>Tryz.strings_HasPrefix s x W)
   obtain ⟨F,hF⟩:∃ F,F=Tok.signs.find? (fun x=>x.isPrefixOf s.data.toList):=⟨_,rfl⟩
   have HF:=Lib.hid hF
   have HE0:=Lib.hid (hTail.trans (show Tok.tail s.data.toList=Tok.signTok F by unfold Tok.tail;rw [hNn,hF]))
   clear hNum hTail hNn hF
   generalize Tok.read s.data.toList=T at *
   go_enter Tryz.func135,Tryz.ntmps135
   go_wp2_with (fail)
   (go_at_call 133;with_reducible refine (HW.out _).mono ?_;rintro e w1 ⟨rfl,hB1⟩;have HS1:=Lib.hid (HS0.out.below hB1);have HV1:=Lib.hid (HV0.out.below hB1);clear hB1)
   go_wp2_with (fail)
   (go_at_call 133;with_reducible refine (HN.out _).mono ?_;rintro e w2 ⟨rfl,hB2⟩;have HS2:=Lib.hid (HS1.out.below hB2);have HV2:=Lib.hid (HV1.out.below hB2);clear hB2)
   go_wp2_with (fail)
   go_at_call 209
   refine (HNUM.out _ HV2.out).mono ?_
   rintro e w6 ⟨hB6,t,rfl,htk,hN⟩
   have HS6:=Lib.hid (HS2.out.below hB6)
   clear hB6 htk hN
   obtain ⟨tk,tp,tz,tx,tn⟩:=t
   unfold tkV tkF
   obtain ⟨W7,hW7⟩:∃ W7,w6.alloc (.cells #[.int .i64 tk,.int .i64 tp,.int .i64 tz,.string tx,.int .i64 tn] 128)=W7:=⟨_,rfl⟩
   obtain ⟨m1,m2,m3⟩:=laid1 w6 (.cells #[.int .i64 tk,.int .i64 tp,.int .i64 tz,.string tx,.int .i64 tn] 128)
   rw [hW7] at m1 m2 m3
   have HS7:=Lib.hid (HS6.out.below m3)
   obtain ⟨⟨j0,j1,j2,j3,j4⟩,_⟩:=can5 m1
   go_wp2_with (fail)
   go_at_call 210
   refine (HSG.out _).mono ?_
   rintro e w8 ⟨rfl,hB8,hc8⟩
   have HS8:=Lib.hid (HS7.out.below hB8)
   simp only [m2] at hc8
   have HC8:=Lib.hid hc8
   clear hB8 hc8 j0 j1 j2 j3 j4
   go_wp2
   go_loopw [61] (fun x wr=>wr=w8∧∃ i:Nat,x = .int .i64 i∧i≤12∧∀ j (h:j < 12),j < i→(Tok.signs[j]'h).isPrefixOf s.data.toList=false) (fun x _=>12 - (intOf x).toNat)
   case atStart=>exact ⟨rfl,0,rfl,by omega,fun j h hj=>absurd hj (by omega)⟩
   case round=>
    obtain ⟨rfl,i,rfl,hi,hno⟩:=hrel
    by_cases hlt:i < 12
    ·have hc:=HC8.out i hlt
     have hsg:=sign_at i hlt
     have hlti:(i:Int) < 12:=by omega
     obtain ⟨X,hX⟩:∃ X,X=signsB[i]'hlt:=⟨_,rfl⟩
     rw [← hX] at hc hsg
     have HP:=Lib.hid (HHP.out X)
     cases hp:(Tok.signs[i]'hlt).isPrefixOf s.data.toList with
     | true=>
       have hpl:Lib.hasPrefix s.data.toList X.data.toList=true:=by rw [hsg,ofL_data];exact hp
       rw [hpl] at HP
       have HE:=Lib.hid (HE0.out.trans (show _=(⟨5,0,X.size,X,0⟩:Tok) by
        rw [show F=some (Tok.signs[i]'hlt) from HF.out.trans (Tok.find_at (fun x=>x.isPrefixOf s.data.toList) Tok.signs i hlt hp (fun j hj hji=>hno j hj hji)),hsg,ofL_size];rfl))
       clear hno hp hpl hX hsg
       obtain ⟨W3,hW3,hB3,q0,q1,q2,q3,q4⟩:=HS8.out.done (.int .i64 5) (.int .i64 0) (.int .i64 X.size) (.string X) (.int .i64 0)
       have HB3:=Lib.hid hB3
       have HQ:=Lib.hid (And.intro q0 (And.intro q1 (And.intro q2 (And.intro q3 q4))))
       clear hB3 q0 q1 q2 q3 q4
       obtain ⟨⟨_,_,_,_,_⟩,k0,k1,k2,k3,k4⟩:=can5 HS8.out.k
       go_wp2_with (go_at_call 211;refine (HP.out _).mono ?_;rintro e w9 ⟨rfl,rfl⟩)
       obtain ⟨q0,q1,q2,q3,q4⟩:=HQ.out
       refine bodyPost_ret (v:=tkV ⟨5,0,X.size,X,0⟩) (by simp [results,Tryz.results135,go_sem,q0,q1,q2,q3,q4,tkV,tkF]) rfl ⟨by rw [HE.out],HB3.out⟩
     | false=>
       have hpl:Lib.hasPrefix s.data.toList X.data.toList=false:=by rw [hsg,ofL_data];exact hp
       rw [hpl] at HP
       have HNO:=Lib.hid (show ∀ j (h:j < 12),j < i + 1→(Tok.signs[j]'h).isPrefixOf s.data.toList=false from fun j h hj=>by
        rcases Nat.lt_or_ge j i with hji | hji
        ·exact hno j h hji
        ·obtain rfl:j=i:=by omega
         exact hp)
       clear hno hp hpl hX hsg
       go_wp2_with (go_at_call 211;refine (HP.out _).mono ?_;rintro e w9 ⟨rfl,rfl⟩)
       go_roundw
       case rel=>exact ⟨by first | trivial | rfl,i + 1,by go_num,by omega,HNO.out⟩
       case measure=>simp [intOf];omega
    ·obtain rfl:i=12:=by omega
     have HE:=Lib.hid (HE0.out.trans (show _=(⟨0,0,0,ByteArray.empty,0⟩:Tok) by
      rw [show F=none from HF.out.trans (List.find?_eq_none.2 fun x hx=>by
       obtain ⟨j,hj,rfl⟩:=List.getElem_of_mem hx
       rw [hno j hj hj];decide)];rfl))
     clear hno
     obtain ⟨W3,hW3,hB3,q0,q1,q2,q3,q4⟩:=HS8.out.done (.int .i64 0) (.int .i64 0) (.int .i64 0) (.string ⟨#[]⟩) (.int .i64 0)
     have HB3:=Lib.hid hB3
     have HQ:=Lib.hid (And.intro q0 (And.intro q1 (And.intro q2 (And.intro q3 q4))))
     clear hB3 q0 q1 q2 q3 q4
     obtain ⟨⟨_,_,_,_,_⟩,k0,k1,k2,k3,k4⟩:=can5 HS8.out.k
     go_wp2
     obtain ⟨q0,q1,q2,q3,q4⟩:=HQ.out
     refine bodyPost_ret (v:=tkV ⟨0,0,0,ByteArray.empty,0⟩) (by simp [results,Tryz.results135,go_sem,q0,q1,q2,q3,q4,tkV,tkF];rfl) rfl ⟨by rw [HE.out],HB3.out⟩
end Go.Proofs.YtbbgjjjeecfnoaaGreatDoor
namespace Go.Proofs.YtbbgjjjeecfnoaaGreatDoor
open Go.RowKit Go.Sort
open Tess (Tok)
set_option maxRecDepth 100000 in
set_option maxHeartbeats 8000000 in
theorem read_b (s:ByteArray) (w:World) (hV:Vz w) (hs:s.size≤1099511627776) (hpos:0 < s.size) (c:UInt8) (r:List UInt8) (hr:s.data.toList=c :: r) (hc:s[0]=c) (hw0:Tok.whileL Tok.pWord 0 (c :: r)=0) (hTail:Tok.read s.data.toList=Tok.tail s.data.toList) (c36:c=36) (hbad:20 < Tok.whileL Tok.pName 0 r) :
  Calls Tryz.prog 135 #[.string s] w fun e w'=>e = .returned (tkV (Tok.read s.data.toList))∧Below w.heap.size w w':=by
 obtain ⟨l1,l2,l3⟩:=laid1 w tk0
 have HS0:RowKit.Hid (RdAt w (w.alloc tk0)):=Lib.hid ⟨l3,l1⟩
 have HV0:RowKit.Hid (Vz (w.alloc tk0)):=Lib.hid (hV.below l3)
 clear l1 l2 l3 hV
 obtain ⟨W0,hW0⟩:∃ W0,w.alloc tk0=W0:=⟨_,rfl⟩
 rw [hW0] at HS0 HV0
 have hne:=str_ne s hpos
 have hlr:r.length + 1=s.size:=by
  have:=congrArg List.length hr
  rw [Array.length_toList] at this
  exact this.symm
 have hWW:=fun W=>while_word s W
 have hd1:(s.extract 1 s.size).data.toList=r:=by rw [data_drop,hr];rfl
 rw [hr,hw0] at hWW
 have HW:=Lib.hid hWW
 clear hWW
 have hNum:=fun W h=>number_any s W h (by omega)
 have hsi:(1:Int)≤(s.size:Int):=by omega
 subst c36
 have hNN:=fun W=>while_name (s.extract 1 s.size) W
 rw [hd1] at hNN
 have hnl:=Tok.whileL_le Tok.pName r 0
 have HN:=Lib.hid hNN
 clear hNN hr hd1 hw0
 generalize Tok.whileL Tok.pName 0 r=m at *
 have hb1:(0:Int) < (m:Int):=by omega
 have hb2:decide ((m:Int)≤20)=false:=decide_eq_false (by omega)
 have hb3:¬ ((m:Int)≤20):=by omega
 cases hNn:Tok.number s.data.toList with
 | some p=>
   obtain ⟨sz,n⟩:=p
   rw [hNn] at hNum
   have HNUM:=Lib.hid hNum
   have HE:=Lib.hid (hTail.trans (show Tok.tail s.data.toList=⟨3,0,sz,ByteArray.empty,n⟩ by unfold Tok.tail;rw [hNn]))
   clear hNum hTail hNn
   generalize Tok.read s.data.toList=T at *
   go_enter Tryz.func135,Tryz.ntmps135
   go_wp2_with (fail)
   (go_at_call 133;with_reducible refine (HW.out _).mono ?_;rintro e w1 ⟨rfl,hB1⟩;have HS1:=Lib.hid (HS0.out.below hB1);have HV1:=Lib.hid (HV0.out.below hB1);clear hB1)
   go_wp2_with (fail)
   (go_at_call 133;with_reducible refine (HN.out _).mono ?_;rintro e w2 ⟨rfl,hB2⟩;have HS2:=Lib.hid (HS1.out.below hB2);have HV2:=Lib.hid (HV1.out.below hB2);clear hB2)
   go_wp2_with (fail)
   go_at_call 209
   refine (HNUM.out _ HV2.out).mono ?_
   rintro e w6 ⟨hB6,t,rfl,htk,hN⟩
   obtain rfl:=hN sz n rfl
   have HS6:=Lib.hid (HS2.out.below hB6)
   clear hB6 htk hN
   unfold tkV tkF
   obtain ⟨W7,hW7⟩:∃ W7,w6.alloc (.cells #[.int .i64 3,.int .i64 0,.int .i64 sz,.string ByteArray.empty,.int .i64 n] 128)=W7:=⟨_,rfl⟩
   obtain ⟨m1,m2,m3⟩:=laid1 w6 (.cells #[.int .i64 3,.int .i64 0,.int .i64 sz,.string ByteArray.empty,.int .i64 n] 128)
   rw [hW7] at m1 m2 m3
   have HS7:=Lib.hid (HS6.out.below m3)
   obtain ⟨⟨j0,j1,j2,j3,j4⟩,_⟩:=can5 m1
   obtain ⟨W3,hW3,hB3,q0,q1,q2,q3,q4⟩:=HS7.out.done (.int .i64 3) (.int .i64 0) (.int .i64 sz) (.string ByteArray.empty) (.int .i64 n)
   have HB3:=Lib.hid hB3
   have HQ:=Lib.hid (And.intro q0 (And.intro q1 (And.intro q2 (And.intro q3 q4))))
   clear hB3 q0 q1 q2 q3 q4
   obtain ⟨⟨_,_,_,_,_⟩,k0,k1,k2,k3,k4⟩:=can5 HS7.out.k
   go_wp2
   obtain ⟨q0,q1,q2,q3,q4⟩:=HQ.out
   refine bodyPost_ret (v:=tkV ⟨3,0,sz,ByteArray.empty,n⟩) (by simp [results,Tryz.results135,go_sem,q0,q1,q2,q3,q4,tkV,tkF]) rfl ⟨by rw [HE.out],HB3.out⟩
 | none=>
   rw [hNn] at hNum
   have HNUM:=Lib.hid hNum
   have HSG:=Lib.hid signs_any
   have HHP:=Lib.hid (fun x W=>Tryz.strings_HasPrefix s x W)
   obtain ⟨F,hF⟩:∃ F,F=Tok.signs.find? (fun x=>x.isPrefixOf s.data.toList):=⟨_,rfl⟩
   have HF:=Lib.hid hF
   have HE0:=Lib.hid (hTail.trans (show Tok.tail s.data.toList=Tok.signTok F by unfold Tok.tail;rw [hNn,hF]))
   clear hNum hTail hNn hF
   generalize Tok.read s.data.toList=T at *
   go_enter Tryz.func135,Tryz.ntmps135
   go_wp2_with (fail)
   (go_at_call 133;with_reducible refine (HW.out _).mono ?_;rintro e w1 ⟨rfl,hB1⟩;have HS1:=Lib.hid (HS0.out.below hB1);have HV1:=Lib.hid (HV0.out.below hB1);clear hB1)
   go_wp2_with (fail)
   (go_at_call 133;with_reducible refine (HN.out _).mono ?_;rintro e w2 ⟨rfl,hB2⟩;have HS2:=Lib.hid (HS1.out.below hB2);have HV2:=Lib.hid (HV1.out.below hB2);clear hB2)
   go_wp2_with (fail)
   go_at_call 209
   refine (HNUM.out _ HV2.out).mono ?_
   rintro e w6 ⟨hB6,t,rfl,htk,hN⟩
   have HS6:=Lib.hid (HS2.out.below hB6)
   clear hB6 htk hN
   obtain ⟨tk,tp,tz,tx,tn⟩:=t
   unfold tkV tkF
   obtain ⟨W7,hW7⟩:∃ W7,w6.alloc (.cells #[.int .i64 tk,.int .i64 tp,.int .i64 tz,.string tx,.int .i64 tn] 128)=W7:=⟨_,rfl⟩
   obtain ⟨m1,m2,m3⟩:=laid1 w6 (.cells #[.int .i64 tk,.int .i64 tp,.int .i64 tz,.string tx,.int .i64 tn] 128)
   rw [hW7] at m1 m2 m3
   have HS7:=Lib.hid (HS6.out.below m3)
   obtain ⟨⟨j0,j1,j2,j3,j4⟩,_⟩:=can5 m1
   go_wp2_with (fail)
   go_at_call 210
   refine (HSG.out _).mono ?_
   rintro e w8 ⟨rfl,hB8,hc8⟩
   have HS8:=Lib.hid (HS7.out.below hB8)
   simp only [m2] at hc8
   have HC8:=Lib.hid hc8
   clear hB8 hc8 j0 j1 j2 j3 j4
   go_wp2
   go_loopw [61] (fun x wr=>wr=w8∧∃ i:Nat,x = .int .i64 i∧i≤12∧∀ j (h:j < 12),j < i→(Tok.signs[j]'h).isPrefixOf s.data.toList=false) (fun x _=>12 - (intOf x).toNat)
   case atStart=>exact ⟨rfl,0,rfl,by omega,fun j h hj=>absurd hj (by omega)⟩
   case round=>
    obtain ⟨rfl,i,rfl,hi,hno⟩:=hrel
    by_cases hlt:i < 12
    ·have hc:=HC8.out i hlt
     have hsg:=sign_at i hlt
     have hlti:(i:Int) < 12:=by omega
     obtain ⟨X,hX⟩:∃ X,X=signsB[i]'hlt:=⟨_,rfl⟩
     rw [← hX] at hc hsg
     have HP:=Lib.hid (HHP.out X)
     cases hp:(Tok.signs[i]'hlt).isPrefixOf s.data.toList with
     | true=>
       have hpl:Lib.hasPrefix s.data.toList X.data.toList=true:=by rw [hsg,ofL_data];exact hp
       rw [hpl] at HP
       have HE:=Lib.hid (HE0.out.trans (show _=(⟨5,0,X.size,X,0⟩:Tok) by
        rw [show F=some (Tok.signs[i]'hlt) from HF.out.trans (Tok.find_at (fun x=>x.isPrefixOf s.data.toList) Tok.signs i hlt hp (fun j hj hji=>hno j hj hji)),hsg,ofL_size];rfl))
       clear hno hp hpl hX hsg
       obtain ⟨W3,hW3,hB3,q0,q1,q2,q3,q4⟩:=HS8.out.done (.int .i64 5) (.int .i64 0) (.int .i64 X.size) (.string X) (.int .i64 0)
       have HB3:=Lib.hid hB3
       have HQ:=Lib.hid (And.intro q0 (And.intro q1 (And.intro q2 (And.intro q3 q4))))
       clear hB3 q0 q1 q2 q3 q4
       obtain ⟨⟨_,_,_,_,_⟩,k0,k1,k2,k3,k4⟩:=can5 HS8.out.k
       go_wp2_with (go_at_call 211;refine (HP.out _).mono ?_;rintro e w9 ⟨rfl,rfl⟩)
       obtain ⟨q0,q1,q2,q3,q4⟩:=HQ.out
       refine bodyPost_ret (v:=tkV ⟨5,0,X.size,X,0⟩) (by simp [results,Tryz.results135,go_sem,q0,q1,q2,q3,q4,tkV,tkF]) rfl ⟨by rw [HE.out],HB3.out⟩
     | false=>
       have hpl:Lib.hasPrefix s.data.toList X.data.toList=false:=by rw [hsg,ofL_data];exact hp
       rw [hpl] at HP
       have HNO:=Lib.hid (show ∀ j (h:j < 12),j < i + 1→(Tok.signs[j]'h).isPrefixOf s.data.toList=false from fun j h hj=>by
        rcases Nat.lt_or_ge j i with hji | hji
        ·exact hno j h hji
        ·obtain rfl:j=i:=by omega
         exact hp)
       clear hno hp hpl hX hsg
       go_wp2_with (go_at_call 211;refine (HP.out _).mono ?_;rintro e w9 ⟨rfl,rfl⟩)
       go_roundw
       case rel=>exact ⟨by first | trivial | rfl,i + 1,by go_num,by omega,HNO.out⟩
       case measure=>simp [intOf];omega
    ·obtain rfl:i=12:=by omega
     have HE:=Lib.hid (HE0.out.trans (show _=(⟨0,0,0,ByteArray.empty,0⟩:Tok) by
      rw [show F=none from HF.out.trans (List.find?_eq_none.2 fun x hx=>by
       obtain ⟨j,hj,rfl⟩:=List.getElem_of_mem hx
       rw [hno j hj hj];decide)];rfl))
     clear hno
     obtain ⟨W3,hW3,hB3,q0,q1,q2,q3,q4⟩:=HS8.out.done (.int .i64 0) (.int .i64 0) (.int .i64 0) (.string ⟨#[]⟩) (.int .i64 0)
     have HB3:=Lib.hid hB3
     have HQ:=Lib.hid (And.intro q0 (And.intro q1 (And.intro q2 (And.intro q3 q4))))
     clear hB3 q0 q1 q2 q3 q4
     obtain ⟨⟨_,_,_,_,_⟩,k0,k1,k2,k3,k4⟩:=can5 HS8.out.k
     go_wp2
     obtain ⟨q0,q1,q2,q3,q4⟩:=HQ.out
     refine bodyPost_ret (v:=tkV ⟨0,0,0,ByteArray.empty,0⟩) (by simp [results,Tryz.results135,go_sem,q0,q1,q2,q3,q4,tkV,tkF];rfl) rfl ⟨by rw [HE.out],HB3.out⟩
end Go.Proofs.YtbbgjjjeecfnoaaGreatDoor
namespace Go.Proofs.YtbbgjjjeecfnoaaGreatDoor
open Go.RowKit Go.Sort
open Tess (Tok)
set_option maxRecDepth 100000 in
set_option maxHeartbeats 8000000 in
theorem read_c (s:ByteArray) (w:World) (hV:Vz w) (hs:s.size≤1099511627776) (hpos:0 < s.size) (c:UInt8) (r:List UInt8) (hr:s.data.toList=c :: r) (hc:s[0]=c) (hw0:Tok.whileL Tok.pWord 0 (c :: r)=0) (hTail:Tok.read s.data.toList=Tok.tail s.data.toList) (c34:c=34) (hst:Tok.strF (r.length + 1) 1 [] r=none) :
  Calls Tryz.prog 135 #[.string s] w fun e w'=>e = .returned (tkV (Tok.read s.data.toList))∧Below w.heap.size w w':=by
 obtain ⟨l1,l2,l3⟩:=laid1 w tk0
 have HS0:RowKit.Hid (RdAt w (w.alloc tk0)):=Lib.hid ⟨l3,l1⟩
 have HV0:RowKit.Hid (Vz (w.alloc tk0)):=Lib.hid (hV.below l3)
 clear l1 l2 l3 hV
 obtain ⟨W0,hW0⟩:∃ W0,w.alloc tk0=W0:=⟨_,rfl⟩
 rw [hW0] at HS0 HV0
 have hne:=str_ne s hpos
 have hlr:r.length + 1=s.size:=by
  have:=congrArg List.length hr
  rw [Array.length_toList] at this
  exact this.symm
 have hWW:=fun W=>while_word s W
 have hd1:(s.extract 1 s.size).data.toList=r:=by rw [data_drop,hr];rfl
 rw [hr,hw0] at hWW
 have HW:=Lib.hid hWW
 clear hWW
 have hNum:=fun W h=>number_any s W h (by omega)
 have hsi:(1:Int)≤(s.size:Int):=by omega
 subst c34
 have hTT:=fun W h=>str_any s W h hs hpos
 rw [hr,List.drop_succ_cons,List.drop_zero,← hlr,hst,strV_none] at hTT
 have HT:=Lib.hid hTT
 clear hTT hr hd1 hw0 hst
 cases hNn:Tok.number s.data.toList with
 | some p=>
   obtain ⟨sz,n⟩:=p
   rw [hNn] at hNum
   have HNUM:=Lib.hid hNum
   have HE:=Lib.hid (hTail.trans (show Tok.tail s.data.toList=⟨3,0,sz,ByteArray.empty,n⟩ by unfold Tok.tail;rw [hNn]))
   clear hNum hTail hNn
   generalize Tok.read s.data.toList=T at *
   go_enter Tryz.func135,Tryz.ntmps135
   go_wp2_with (fail)
   (go_at_call 133;with_reducible refine (HW.out _).mono ?_;rintro e w1 ⟨rfl,hB1⟩;have HS1:=Lib.hid (HS0.out.below hB1);have HV1:=Lib.hid (HV0.out.below hB1);clear hB1)
   go_wp2_with (fail)
   (go_at_call 208;refine (HT.out _ HV1.out).mono ?_;rintro e w2 ⟨rfl,hB2⟩;have HS2:=Lib.hid (HS1.out.below hB2);have HV2:=Lib.hid (HV1.out.below hB2);clear hB2)
   obtain ⟨W5,hW5⟩:∃ W5,w2.alloc (.cells #[.int .i64 0,.int .i64 0,.int .i64 0,.string ⟨#[]⟩,.int .i64 0] 128)=W5:=⟨_,rfl⟩
   obtain ⟨m1,m2,m3⟩:=laid1 w2 (.cells #[.int .i64 0,.int .i64 0,.int .i64 0,.string ⟨#[]⟩,.int .i64 0] 128)
   rw [hW5] at m1 m2 m3
   have HS5:=Lib.hid (HS2.out.below m3)
   obtain ⟨⟨j0,j1,j2,j3,j4⟩,_⟩:=can5 m1
   have t0:=set_stay (o:=0) (v:=.int .i64 0) m1 rfl
   have t1:=set_stay (o:=1) (v:=.int .i64 0) m1 rfl
   have t2:=set_stay (o:=2) (v:=.int .i64 0) m1 rfl
   have t3:=set_stay (o:=3) (v:=.string ⟨#[]⟩) m1 rfl
   have t4:=set_stay (o:=4) (v:=.int .i64 0) m1 rfl
   have HV5:=Lib.hid (HV2.out.below m3)
   clear m1 m2 m3
   go_wp2_with (fail)
   go_at_call 209
   refine (HNUM.out _ HV5.out).mono ?_
   rintro e w6 ⟨hB6,t,rfl,htk,hN⟩
   obtain rfl:=hN sz n rfl
   have HS6:=Lib.hid (HS5.out.below hB6)
   clear hB6 htk hN
   unfold tkV tkF
   obtain ⟨W7,hW7⟩:∃ W7,w6.alloc (.cells #[.int .i64 3,.int .i64 0,.int .i64 sz,.string ByteArray.empty,.int .i64 n] 128)=W7:=⟨_,rfl⟩
   obtain ⟨m1,m2,m3⟩:=laid1 w6 (.cells #[.int .i64 3,.int .i64 0,.int .i64 sz,.string ByteArray.empty,.int .i64 n] 128)
   rw [hW7] at m1 m2 m3
   have HS7:=Lib.hid (HS6.out.below m3)
   obtain ⟨⟨j0,j1,j2,j3,j4⟩,_⟩:=can5 m1
   obtain ⟨W3,hW3,hB3,q0,q1,q2,q3,q4⟩:=HS7.out.done (.int .i64 3) (.int .i64 0) (.int .i64 sz) (.string ByteArray.empty) (.int .i64 n)
   have HB3:=Lib.hid hB3
   have HQ:=Lib.hid (And.intro q0 (And.intro q1 (And.intro q2 (And.intro q3 q4))))
   clear hB3 q0 q1 q2 q3 q4
   obtain ⟨⟨_,_,_,_,_⟩,k0,k1,k2,k3,k4⟩:=can5 HS7.out.k
   go_wp2
   obtain ⟨q0,q1,q2,q3,q4⟩:=HQ.out
   refine bodyPost_ret (v:=tkV ⟨3,0,sz,ByteArray.empty,n⟩) (by simp [results,Tryz.results135,go_sem,q0,q1,q2,q3,q4,tkV,tkF]) rfl ⟨by rw [HE.out],HB3.out⟩
 | none=>
   rw [hNn] at hNum
   have HNUM:=Lib.hid hNum
   have HSG:=Lib.hid signs_any
   have HHP:=Lib.hid (fun x W=>Tryz.strings_HasPrefix s x W)
   obtain ⟨F,hF⟩:∃ F,F=Tok.signs.find? (fun x=>x.isPrefixOf s.data.toList):=⟨_,rfl⟩
   have HF:=Lib.hid hF
   have HE0:=Lib.hid (hTail.trans (show Tok.tail s.data.toList=Tok.signTok F by unfold Tok.tail;rw [hNn,hF]))
   clear hNum hTail hNn hF
   generalize Tok.read s.data.toList=T at *
   go_enter Tryz.func135,Tryz.ntmps135
   go_wp2_with (fail)
   (go_at_call 133;with_reducible refine (HW.out _).mono ?_;rintro e w1 ⟨rfl,hB1⟩;have HS1:=Lib.hid (HS0.out.below hB1);have HV1:=Lib.hid (HV0.out.below hB1);clear hB1)
   go_wp2_with (fail)
   (go_at_call 208;refine (HT.out _ HV1.out).mono ?_;rintro e w2 ⟨rfl,hB2⟩;have HS2:=Lib.hid (HS1.out.below hB2);have HV2:=Lib.hid (HV1.out.below hB2);clear hB2)
   obtain ⟨W5,hW5⟩:∃ W5,w2.alloc (.cells #[.int .i64 0,.int .i64 0,.int .i64 0,.string ⟨#[]⟩,.int .i64 0] 128)=W5:=⟨_,rfl⟩
   obtain ⟨m1,m2,m3⟩:=laid1 w2 (.cells #[.int .i64 0,.int .i64 0,.int .i64 0,.string ⟨#[]⟩,.int .i64 0] 128)
   rw [hW5] at m1 m2 m3
   have HS5:=Lib.hid (HS2.out.below m3)
   obtain ⟨⟨j0,j1,j2,j3,j4⟩,_⟩:=can5 m1
   have t0:=set_stay (o:=0) (v:=.int .i64 0) m1 rfl
   have t1:=set_stay (o:=1) (v:=.int .i64 0) m1 rfl
   have t2:=set_stay (o:=2) (v:=.int .i64 0) m1 rfl
   have t3:=set_stay (o:=3) (v:=.string ⟨#[]⟩) m1 rfl
   have t4:=set_stay (o:=4) (v:=.int .i64 0) m1 rfl
   have HV5:=Lib.hid (HV2.out.below m3)
   clear m1 m2 m3
   go_wp2_with (fail)
   go_at_call 209
   refine (HNUM.out _ HV5.out).mono ?_
   rintro e w6 ⟨hB6,t,rfl,htk,hN⟩
   have HS6:=Lib.hid (HS5.out.below hB6)
   clear hB6 htk hN
   obtain ⟨tk,tp,tz,tx,tn⟩:=t
   unfold tkV tkF
   obtain ⟨W7,hW7⟩:∃ W7,w6.alloc (.cells #[.int .i64 tk,.int .i64 tp,.int .i64 tz,.string tx,.int .i64 tn] 128)=W7:=⟨_,rfl⟩
   obtain ⟨m1,m2,m3⟩:=laid1 w6 (.cells #[.int .i64 tk,.int .i64 tp,.int .i64 tz,.string tx,.int .i64 tn] 128)
   rw [hW7] at m1 m2 m3
   have HS7:=Lib.hid (HS6.out.below m3)
   obtain ⟨⟨j0,j1,j2,j3,j4⟩,_⟩:=can5 m1
   go_wp2_with (fail)
   go_at_call 210
   refine (HSG.out _).mono ?_
   rintro e w8 ⟨rfl,hB8,hc8⟩
   have HS8:=Lib.hid (HS7.out.below hB8)
   simp only [m2] at hc8
   have HC8:=Lib.hid hc8
   clear hB8 hc8 j0 j1 j2 j3 j4
   go_wp2
   go_loopw [61] (fun x wr=>wr=w8∧∃ i:Nat,x = .int .i64 i∧i≤12∧∀ j (h:j < 12),j < i→(Tok.signs[j]'h).isPrefixOf s.data.toList=false) (fun x _=>12 - (intOf x).toNat)
   case atStart=>exact ⟨rfl,0,rfl,by omega,fun j h hj=>absurd hj (by omega)⟩
   case round=>
    obtain ⟨rfl,i,rfl,hi,hno⟩:=hrel
    by_cases hlt:i < 12
    ·have hc:=HC8.out i hlt
     have hsg:=sign_at i hlt
     have hlti:(i:Int) < 12:=by omega
     obtain ⟨X,hX⟩:∃ X,X=signsB[i]'hlt:=⟨_,rfl⟩
     rw [← hX] at hc hsg
     have HP:=Lib.hid (HHP.out X)
     cases hp:(Tok.signs[i]'hlt).isPrefixOf s.data.toList with
     | true=>
       have hpl:Lib.hasPrefix s.data.toList X.data.toList=true:=by rw [hsg,ofL_data];exact hp
       rw [hpl] at HP
       have HE:=Lib.hid (HE0.out.trans (show _=(⟨5,0,X.size,X,0⟩:Tok) by
        rw [show F=some (Tok.signs[i]'hlt) from HF.out.trans (Tok.find_at (fun x=>x.isPrefixOf s.data.toList) Tok.signs i hlt hp (fun j hj hji=>hno j hj hji)),hsg,ofL_size];rfl))
       clear hno hp hpl hX hsg
       obtain ⟨W3,hW3,hB3,q0,q1,q2,q3,q4⟩:=HS8.out.done (.int .i64 5) (.int .i64 0) (.int .i64 X.size) (.string X) (.int .i64 0)
       have HB3:=Lib.hid hB3
       have HQ:=Lib.hid (And.intro q0 (And.intro q1 (And.intro q2 (And.intro q3 q4))))
       clear hB3 q0 q1 q2 q3 q4
       obtain ⟨⟨_,_,_,_,_⟩,k0,k1,k2,k3,k4⟩:=can5 HS8.out.k
       go_wp2_with (go_at_call 211;refine (HP.out _).mono ?_;rintro e w9 ⟨rfl,rfl⟩)
       obtain ⟨q0,q1,q2,q3,q4⟩:=HQ.out
       refine bodyPost_ret (v:=tkV ⟨5,0,X.size,X,0⟩) (by simp [results,Tryz.results135,go_sem,q0,q1,q2,q3,q4,tkV,tkF]) rfl ⟨by rw [HE.out],HB3.out⟩
     | false=>
       have hpl:Lib.hasPrefix s.data.toList X.data.toList=false:=by rw [hsg,ofL_data];exact hp
       rw [hpl] at HP
       have HNO:=Lib.hid (show ∀ j (h:j < 12),j < i + 1→(Tok.signs[j]'h).isPrefixOf s.data.toList=false from fun j h hj=>by
        rcases Nat.lt_or_ge j i with hji | hji
        ·exact hno j h hji
        ·obtain rfl:j=i:=by omega
         exact hp)
       clear hno hp hpl hX hsg
       go_wp2_with (go_at_call 211;refine (HP.out _).mono ?_;rintro e w9 ⟨rfl,rfl⟩)
       go_roundw
       case rel=>exact ⟨by first | trivial | rfl,i + 1,by go_num,by omega,HNO.out⟩
       case measure=>simp [intOf];omega
    ·obtain rfl:i=12:=by omega
     have HE:=Lib.hid (HE0.out.trans (show _=(⟨0,0,0,ByteArray.empty,0⟩:Tok) by
      rw [show F=none from HF.out.trans (List.find?_eq_none.2 fun x hx=>by
       obtain ⟨j,hj,rfl⟩:=List.getElem_of_mem hx
       rw [hno j hj hj];decide)];rfl))
     clear hno
     obtain ⟨W3,hW3,hB3,q0,q1,q2,q3,q4⟩:=HS8.out.done (.int .i64 0) (.int .i64 0) (.int .i64 0) (.string ⟨#[]⟩) (.int .i64 0)
     have HB3:=Lib.hid hB3
     have HQ:=Lib.hid (And.intro q0 (And.intro q1 (And.intro q2 (And.intro q3 q4))))
     clear hB3 q0 q1 q2 q3 q4
     obtain ⟨⟨_,_,_,_,_⟩,k0,k1,k2,k3,k4⟩:=can5 HS8.out.k
     go_wp2
     obtain ⟨q0,q1,q2,q3,q4⟩:=HQ.out
     refine bodyPost_ret (v:=tkV ⟨0,0,0,ByteArray.empty,0⟩) (by simp [results,Tryz.results135,go_sem,q0,q1,q2,q3,q4,tkV,tkF];rfl) rfl ⟨by rw [HE.out],HB3.out⟩
end Go.Proofs.YtbbgjjjeecfnoaaGreatDoor
namespace Go.Proofs.YtbbgjjjeecfnoaaGreatDoor
open Go.RowKit Go.Sort
open Tess (Tok)
set_option maxRecDepth 100000 in
set_option maxHeartbeats 8000000 in
theorem read_d (s:ByteArray) (w:World) (hV:Vz w) (hs:s.size≤1099511627776) (hpos:0 < s.size) (c:UInt8) (r:List UInt8) (hr:s.data.toList=c :: r) (hc:s[0]=c) (hw0:Tok.whileL Tok.pWord 0 (c :: r)=0) (hTail:Tok.read s.data.toList=Tok.tail s.data.toList) (c36:c≠36) (c34:c≠34) :
  Calls Tryz.prog 135 #[.string s] w fun e w'=>e = .returned (tkV (Tok.read s.data.toList))∧Below w.heap.size w w':=by
 obtain ⟨l1,l2,l3⟩:=laid1 w tk0
 have HS0:RowKit.Hid (RdAt w (w.alloc tk0)):=Lib.hid ⟨l3,l1⟩
 have HV0:RowKit.Hid (Vz (w.alloc tk0)):=Lib.hid (hV.below l3)
 clear l1 l2 l3 hV
 obtain ⟨W0,hW0⟩:∃ W0,w.alloc tk0=W0:=⟨_,rfl⟩
 rw [hW0] at HS0 HV0
 have hne:=str_ne s hpos
 have hlr:r.length + 1=s.size:=by
  have:=congrArg List.length hr
  rw [Array.length_toList] at this
  exact this.symm
 have hWW:=fun W=>while_word s W
 have hd1:(s.extract 1 s.size).data.toList=r:=by rw [data_drop,hr];rfl
 rw [hr,hw0] at hWW
 have HW:=Lib.hid hWW
 clear hWW
 have hNum:=fun W h=>number_any s W h (by omega)
 have hsi:(1:Int)≤(s.size:Int):=by omega
 have n36:c.toNat≠36:=fun e=>c36 (UInt8.toNat_inj.1 e)
 have n34:c.toNat≠34:=fun e=>c34 (UInt8.toNat_inj.1 e)
 have e36:((c.toNat:Int) == 36)=false:=by rw [beq_eq_false_iff_ne];omega
 have e34:((c.toNat:Int) == 34)=false:=by rw [beq_eq_false_iff_ne];omega
 clear hr hd1 hw0 c36 c34
 generalize hC:c.toNat=C at *
 cases hNn:Tok.number s.data.toList with
 | some p=>
   obtain ⟨sz,n⟩:=p
   rw [hNn] at hNum
   have HNUM:=Lib.hid hNum
   have HE:=Lib.hid (hTail.trans (show Tok.tail s.data.toList=⟨3,0,sz,ByteArray.empty,n⟩ by unfold Tok.tail;rw [hNn]))
   clear hNum hTail hNn
   generalize Tok.read s.data.toList=T at *
   go_enter Tryz.func135,Tryz.ntmps135
   go_wp2_with (fail)
   (go_at_call 133;with_reducible refine (HW.out _).mono ?_;rintro e w1 ⟨rfl,hB1⟩;have HS1:=Lib.hid (HS0.out.below hB1);have HV1:=Lib.hid (HV0.out.below hB1);clear hB1)
   go_wp2_with (fail)
   go_at_call 209
   refine (HNUM.out _ HV1.out).mono ?_
   rintro e w6 ⟨hB6,t,rfl,htk,hN⟩
   obtain rfl:=hN sz n rfl
   have HS6:=Lib.hid (HS1.out.below hB6)
   clear hB6 htk hN
   unfold tkV tkF
   obtain ⟨W7,hW7⟩:∃ W7,w6.alloc (.cells #[.int .i64 3,.int .i64 0,.int .i64 sz,.string ByteArray.empty,.int .i64 n] 128)=W7:=⟨_,rfl⟩
   obtain ⟨m1,m2,m3⟩:=laid1 w6 (.cells #[.int .i64 3,.int .i64 0,.int .i64 sz,.string ByteArray.empty,.int .i64 n] 128)
   rw [hW7] at m1 m2 m3
   have HS7:=Lib.hid (HS6.out.below m3)
   obtain ⟨⟨j0,j1,j2,j3,j4⟩,_⟩:=can5 m1
   obtain ⟨W3,hW3,hB3,q0,q1,q2,q3,q4⟩:=HS7.out.done (.int .i64 3) (.int .i64 0) (.int .i64 sz) (.string ByteArray.empty) (.int .i64 n)
   have HB3:=Lib.hid hB3
   have HQ:=Lib.hid (And.intro q0 (And.intro q1 (And.intro q2 (And.intro q3 q4))))
   clear hB3 q0 q1 q2 q3 q4
   obtain ⟨⟨_,_,_,_,_⟩,k0,k1,k2,k3,k4⟩:=can5 HS7.out.k
   go_wp2
   obtain ⟨q0,q1,q2,q3,q4⟩:=HQ.out
   refine bodyPost_ret (v:=tkV ⟨3,0,sz,ByteArray.empty,n⟩) (by simp [results,Tryz.results135,go_sem,q0,q1,q2,q3,q4,tkV,tkF]) rfl ⟨by rw [HE.out],HB3.out⟩
 | none=>
   rw [hNn] at hNum
   have HNUM:=Lib.hid hNum
   have HSG:=Lib.hid signs_any
   have HHP:=Lib.hid (fun x W=>Tryz.strings_HasPrefix s x W)
   obtain ⟨F,hF⟩:∃ F,F=Tok.signs.find? (fun x=>x.isPrefixOf s.data.toList):=⟨_,rfl⟩
   have HF:=Lib.hid hF
   have HE0:=Lib.hid (hTail.trans (show Tok.tail s.data.toList=Tok.signTok F by unfold Tok.tail;rw [hNn,hF]))
   clear hNum hTail hNn hF
   generalize Tok.read s.data.toList=T at *
   go_enter Tryz.func135,Tryz.ntmps135
   go_wp2_with (fail)
   (go_at_call 133;with_reducible refine (HW.out _).mono ?_;rintro e w1 ⟨rfl,hB1⟩;have HS1:=Lib.hid (HS0.out.below hB1);have HV1:=Lib.hid (HV0.out.below hB1);clear hB1)
   go_wp2_with (fail)
   go_at_call 209
   refine (HNUM.out _ HV1.out).mono ?_
   rintro e w6 ⟨hB6,t,rfl,htk,hN⟩
   have HS6:=Lib.hid (HS1.out.below hB6)
   clear hB6 htk hN
   obtain ⟨tk,tp,tz,tx,tn⟩:=t
   unfold tkV tkF
   obtain ⟨W7,hW7⟩:∃ W7,w6.alloc (.cells #[.int .i64 tk,.int .i64 tp,.int .i64 tz,.string tx,.int .i64 tn] 128)=W7:=⟨_,rfl⟩
   obtain ⟨m1,m2,m3⟩:=laid1 w6 (.cells #[.int .i64 tk,.int .i64 tp,.int .i64 tz,.string tx,.int .i64 tn] 128)
   rw [hW7] at m1 m2 m3
   have HS7:=Lib.hid (HS6.out.below m3)
   obtain ⟨⟨j0,j1,j2,j3,j4⟩,_⟩:=can5 m1
   go_wp2_with (fail)
   go_at_call 210
   refine (HSG.out _).mono ?_
   rintro e w8 ⟨rfl,hB8,hc8⟩
   have HS8:=Lib.hid (HS7.out.below hB8)
   simp only [m2] at hc8
   have HC8:=Lib.hid hc8
   clear hB8 hc8 j0 j1 j2 j3 j4
   go_wp2
   go_loopw [61] (fun x wr=>wr=w8∧∃ i:Nat,x = .int .i64 i∧i≤12∧∀ j (h:j < 12),j < i→(Tok.signs[j]'h).isPrefixOf s.data.toList=false) (fun x _=>12 - (intOf x).toNat)
   case atStart=>exact ⟨rfl,0,rfl,by omega,fun j h hj=>absurd hj (by omega)⟩
   case round=>
    obtain ⟨rfl,i,rfl,hi,hno⟩:=hrel
    by_cases hlt:i < 12
    ·have hc:=HC8.out i hlt
     have hsg:=sign_at i hlt
     have hlti:(i:Int) < 12:=by omega
     obtain ⟨X,hX⟩:∃ X,X=signsB[i]'hlt:=⟨_,rfl⟩
     rw [← hX] at hc hsg
     have HP:=Lib.hid (HHP.out X)
     cases hp:(Tok.signs[i]'hlt).isPrefixOf s.data.toList with
     | true=>
       have hpl:Lib.hasPrefix s.data.toList X.data.toList=true:=by rw [hsg,ofL_data];exact hp
       rw [hpl] at HP
       have HE:=Lib.hid (HE0.out.trans (show _=(⟨5,0,X.size,X,0⟩:Tok) by
        rw [show F=some (Tok.signs[i]'hlt) from HF.out.trans (Tok.find_at (fun x=>x.isPrefixOf s.data.toList) Tok.signs i hlt hp (fun j hj hji=>hno j hj hji)),hsg,ofL_size];rfl))
       clear hno hp hpl hX hsg
       obtain ⟨W3,hW3,hB3,q0,q1,q2,q3,q4⟩:=HS8.out.done (.int .i64 5) (.int .i64 0) (.int .i64 X.size) (.string X) (.int .i64 0)
       have HB3:=Lib.hid hB3
       have HQ:=Lib.hid (And.intro q0 (And.intro q1 (And.intro q2 (And.intro q3 q4))))
       clear hB3 q0 q1 q2 q3 q4
       obtain ⟨⟨_,_,_,_,_⟩,k0,k1,k2,k3,k4⟩:=can5 HS8.out.k
       go_wp2_with (go_at_call 211;refine (HP.out _).mono ?_;rintro e w9 ⟨rfl,rfl⟩)
       obtain ⟨q0,q1,q2,q3,q4⟩:=HQ.out
       refine bodyPost_ret (v:=tkV ⟨5,0,X.size,X,0⟩) (by simp [results,Tryz.results135,go_sem,q0,q1,q2,q3,q4,tkV,tkF]) rfl ⟨by rw [HE.out],HB3.out⟩
     | false=>
       have hpl:Lib.hasPrefix s.data.toList X.data.toList=false:=by rw [hsg,ofL_data];exact hp
       rw [hpl] at HP
       have HNO:=Lib.hid (show ∀ j (h:j < 12),j < i + 1→(Tok.signs[j]'h).isPrefixOf s.data.toList=false from fun j h hj=>by
        rcases Nat.lt_or_ge j i with hji | hji
        ·exact hno j h hji
        ·obtain rfl:j=i:=by omega
         exact hp)
       clear hno hp hpl hX hsg
       go_wp2_with (go_at_call 211;refine (HP.out _).mono ?_;rintro e w9 ⟨rfl,rfl⟩)
       go_roundw
       case rel=>exact ⟨by first | trivial | rfl,i + 1,by go_num,by omega,HNO.out⟩
       case measure=>simp [intOf];omega
    ·obtain rfl:i=12:=by omega
     have HE:=Lib.hid (HE0.out.trans (show _=(⟨0,0,0,ByteArray.empty,0⟩:Tok) by
      rw [show F=none from HF.out.trans (List.find?_eq_none.2 fun x hx=>by
       obtain ⟨j,hj,rfl⟩:=List.getElem_of_mem hx
       rw [hno j hj hj];decide)];rfl))
     clear hno
     obtain ⟨W3,hW3,hB3,q0,q1,q2,q3,q4⟩:=HS8.out.done (.int .i64 0) (.int .i64 0) (.int .i64 0) (.string ⟨#[]⟩) (.int .i64 0)
     have HB3:=Lib.hid hB3
     have HQ:=Lib.hid (And.intro q0 (And.intro q1 (And.intro q2 (And.intro q3 q4))))
     clear hB3 q0 q1 q2 q3 q4
     obtain ⟨⟨_,_,_,_,_⟩,k0,k1,k2,k3,k4⟩:=can5 HS8.out.k
     go_wp2
     obtain ⟨q0,q1,q2,q3,q4⟩:=HQ.out
     refine bodyPost_ret (v:=tkV ⟨0,0,0,ByteArray.empty,0⟩) (by simp [results,Tryz.results135,go_sem,q0,q1,q2,q3,q4,tkV,tkF];rfl) rfl ⟨by rw [HE.out],HB3.out⟩
end Go.Proofs.YtbbgjjjeecfnoaaGreatDoor
namespace Go.Proofs.YtbbgjjjeecfnoaaGreatDoor
open Go.RowKit Go.Sort
open Tess (Tok)
theorem read_any (s:ByteArray) (w:World) (hV:Vz w) (hs:s.size≤1099511627776) :
  Calls Tryz.prog 135 #[.string s] w fun e w'=>e = .returned (tkV (Tok.read s.data.toList))∧Below w.heap.size w w':=by
 refine read_easy (fun s w hV hs hpos c r hr hc hw0 hT h36 h34 => ?_) s w hV hs
 by_cases c36:c=36
 ·rcases Nat.eq_zero_or_pos (Tok.whileL Tok.pName 0 r) with h | h
  ·exact read_a s w hV hs hpos c r hr hc hw0 hT c36 h
  ·rcases Nat.lt_or_ge 20 (Tok.whileL Tok.pName 0 r) with h2 | h2
   ·exact read_b s w hV hs hpos c r hr hc hw0 hT c36 h2
   ·exact absurd ⟨c36,h,h2⟩ h36
 ·by_cases c34:c=34
  ·refine read_c s w hV hs hpos c r hr hc hw0 hT c34 ?_
   cases hx:Tok.strF (r.length + 1) 1 [] r with
   | none=>rfl
   | some p=>exact absurd ⟨c34,p,hx⟩ h34
  ·exact read_d s w hV hs hpos c r hr hc hw0 hT c36 c34
end Go.Proofs.YtbbgjjjeecfnoaaGreatDoor
