/- The parser's list, at each of its readers: walked. Written by genQ6.py. -/
import Derived.Test.YtmfnhjdeoklnlaaGreatDoorYQ5
namespace Go.Proofs.YtmfnhjdeoklnlaaGreatDoor
open Go.RowKit Go.Sort
open Tess (Fil Tok Prs.next Prs.skip Prs.isT Prs.Endd Prs.Keeps)
set_option maxRecDepth 100000 in
set_option maxHeartbeats 2000000 in
theorem list_names {α:Type} {p:Nat→Prop} {B:Nat} {ts:List Tok} {v:Value} {qs:List Value} (sign:ByteArray) (rd:List Tok→Tess.Prs.R α) (c0 c1:Value) (Ex:List α→List Value→World→Prop) (Fx:World→Prop) (L:Nat) (w0 w:World)
  (h:PsAt p B ts v qs w) (he:Prs.Endd ts) (hk:Prs.Keeps rd) (hG:w0.grownBy w (some B)) (hE:Ex [] qs w) (hL:ts.length≤L) (hst:∀ acc,Steady B w0 (Ex acc)) (hR:Reads 220 #[c0,c1] p B w0 rd Ex Fx L) :
  Calls Tryz.prog 71 #[.pointer (some ⟨B,0,none⟩),.string sign,.func (.func 220) #[] #[c0,c1]] w fun e W'=>w0.grownBy W' (some B) ∧
   ((∃ l r v' qs',Tess.Prs.list sign rd ts.length ts = .ok (l,r)∧e = .returned .nilIface∧PsAt p B r v' qs' W'∧Ex l qs' W')∨(∃ k,Tess.Prs.list sign rd ts.length ts = .error k∧e = .returned (errF k)∧Fx W'∧∃ ts' v' qs',PsAt p B ts' v' qs' W')):=by
 unfold Reads errF at hR
 have HR:=Lib.hid hR
 have HK:=Lib.hid hk
 have HS:=Lib.hid hst
 clear hR hk hst
 have HI:RowKit.Hid (∀ (ts:List Tok) (v:Value) (qs:List Value) (W:World),PsAt p B ts v qs W→_):=Lib.hid fun ts v qs W (h:PsAt p B ts v qs W)=>pis_any (.slice (some ⟨W.heap.size,0,none⟩) 1 1) [sign] (W.alloc (.cells #[.string sign] 9)) (h.below ((Below.refl _ _).alloc (Nat.le_refl _) _)) (one_text sign B W h.lt)
 go_enter Tryz.func71,Tryz.ntmps71
 go_wp2
 go_loopw [] (fun wr => ∃ (acc:List α) (us:List Tok) (v:Value) (qs:List Value),PsAt p B us v qs wr∧Prs.Endd us∧w0.grownBy wr (some B)∧Ex acc qs wr∧acc.length + us.length≤L∧Tess.Prs.list sign rd ts.length ts=ahead acc (Tess.Prs.list sign rd us.length us)) (fun wr=>restLen B wr)
 case atStart=>exact ⟨[],ts,v,qs,h,he,hG,hE,by simpa using hL,(ahead_nil _).symm⟩
 case round=>
  clear h he hG hE hL
  obtain ⟨acc,us,v,qs,h,he,hG,hE,hL,hQ⟩:=hrel
  have hrl:=h.rest
  have HE:=Lib.hid he
  have HQ:=Lib.hid hQ
  have HL:=Lib.hid hL
  have HC:=Lib.hid (HR.out acc us v qs wr h he hG hE hL)
  clear h he hG hE hL hQ
  go_wp2_with (go_at_call 220;refine HC.out.mono ?_;rintro e w2 ⟨hG2,⟨x,r,v2,qs2,hr,rfl,hP2,hE2⟩ | ⟨k,hr,rfl,hF,hP⟩⟩)
  ·have HI2:=Lib.hid (HI.out r v2 qs2 w2 hP2)
   have HG2:=Lib.hid hG2
   have HX2:=Lib.hid hE2
   have HRR:=Lib.hid hr
   clear hG2 hE2 hr hP2
   cases hT:Prs.isT [sign] r with
   | some r'=>
     have HT:=Lib.hid hT
     rw [hT] at HI2
     clear hT
     go_wp2_with (go_at_call 74;refine HI2.out.mono ?_;rintro e w3 ⟨rfl,hP3⟩;have HP3:=Lib.hid hP3;clear hP3)
     have hk2:=HK.out us x r HE.out HRR.out
     have hk3:=hk2.1.isT HT.out
     have hk4:=hk2.2.length_le
     obtain ⟨v3,hP3,hG3⟩:=HP3.out
     have hP3:PsAt p B r' v3 qs2 _:=hP3
     have hG3':=(grB_below (B:=B) ((Below.refl w2.heap.size w2).alloc (Nat.le_refl _) (.cells #[.string sign] 9))).transB hG3
     have hL3:=HL.out
     go_roundw
     case rel=>
      exact ⟨acc ++ [x],r',v3,qs2,hP3,hk3.1,HG2.out.transB hG3',HS.out _ _ _ _ HG2.out HX2.out hG3',by have:=hk3.2.1;simp only [List.length_append,List.length_cons,List.length_nil];omega,HQ.out.trans (ahead_more HK.out HE.out acc HRR.out HT.out)⟩
     case measure=>rw [hP3.rest,hrl];have:=hk3.2.1;omega
   | none=>
     have HT:=Lib.hid hT
     rw [hT] at HI2
     clear hT
     go_wp2_with (go_at_call 74;refine HI2.out.mono ?_;rintro e w3 ⟨rfl,hP3⟩;have HP3:=Lib.hid hP3;clear hP3)
     go_ret
     obtain ⟨v3,hP3,hG3⟩:=HP3.out
     have hG3':=(grB_below (B:=B) ((Below.refl w2.heap.size w2).alloc (Nat.le_refl _) (.cells #[.string sign] 9))).transB hG3
     exact ⟨HG2.out.transB hG3',Or.inl ⟨acc ++ [x],r,v3,qs2,HQ.out.trans (ahead_last HK.out HE.out acc HRR.out HT.out),rfl,hP3,HS.out _ _ _ _ HG2.out HX2.out hG3'⟩⟩
  ·have HQ2:=Lib.hid (HQ.out.trans (ahead_err HK.out HE.out acc hr))
   have HF:=Lib.hid hF
   have HP:=Lib.hid hP
   have HG2:=Lib.hid hG2
   clear hr hF hP hG2
   go_ret
   exact ⟨HG2.out,Or.inr ⟨k,HQ2.out,rfl,HF.out,HP.out⟩⟩
set_option maxRecDepth 100000 in
set_option maxHeartbeats 2000000 in
theorem list_words {α:Type} {p:Nat→Prop} {B:Nat} {ts:List Tok} {v:Value} {qs:List Value} (sign:ByteArray) (rd:List Tok→Tess.Prs.R α) (c0 c1:Value) (Ex:List α→List Value→World→Prop) (Fx:World→Prop) (L:Nat) (w0 w:World)
  (h:PsAt p B ts v qs w) (he:Prs.Endd ts) (hk:Prs.Keeps rd) (hG:w0.grownBy w (some B)) (hE:Ex [] qs w) (hL:ts.length≤L) (hst:∀ acc,Steady B w0 (Ex acc)) (hR:Reads 259 #[c0,c1] p B w0 rd Ex Fx L) :
  Calls Tryz.prog 71 #[.pointer (some ⟨B,0,none⟩),.string sign,.func (.func 259) #[] #[c0,c1]] w fun e W'=>w0.grownBy W' (some B) ∧
   ((∃ l r v' qs',Tess.Prs.list sign rd ts.length ts = .ok (l,r)∧e = .returned .nilIface∧PsAt p B r v' qs' W'∧Ex l qs' W')∨(∃ k,Tess.Prs.list sign rd ts.length ts = .error k∧e = .returned (errF k)∧Fx W'∧∃ ts' v' qs',PsAt p B ts' v' qs' W')):=by
 unfold Reads errF at hR
 have HR:=Lib.hid hR
 have HK:=Lib.hid hk
 have HS:=Lib.hid hst
 clear hR hk hst
 have HI:RowKit.Hid (∀ (ts:List Tok) (v:Value) (qs:List Value) (W:World),PsAt p B ts v qs W→_):=Lib.hid fun ts v qs W (h:PsAt p B ts v qs W)=>pis_any (.slice (some ⟨W.heap.size,0,none⟩) 1 1) [sign] (W.alloc (.cells #[.string sign] 9)) (h.below ((Below.refl _ _).alloc (Nat.le_refl _) _)) (one_text sign B W h.lt)
 go_enter Tryz.func71,Tryz.ntmps71
 go_wp2
 go_loopw [] (fun wr => ∃ (acc:List α) (us:List Tok) (v:Value) (qs:List Value),PsAt p B us v qs wr∧Prs.Endd us∧w0.grownBy wr (some B)∧Ex acc qs wr∧acc.length + us.length≤L∧Tess.Prs.list sign rd ts.length ts=ahead acc (Tess.Prs.list sign rd us.length us)) (fun wr=>restLen B wr)
 case atStart=>exact ⟨[],ts,v,qs,h,he,hG,hE,by simpa using hL,(ahead_nil _).symm⟩
 case round=>
  clear h he hG hE hL
  obtain ⟨acc,us,v,qs,h,he,hG,hE,hL,hQ⟩:=hrel
  have hrl:=h.rest
  have HE:=Lib.hid he
  have HQ:=Lib.hid hQ
  have HL:=Lib.hid hL
  have HC:=Lib.hid (HR.out acc us v qs wr h he hG hE hL)
  clear h he hG hE hL hQ
  go_wp2_with (go_at_call 259;refine HC.out.mono ?_;rintro e w2 ⟨hG2,⟨x,r,v2,qs2,hr,rfl,hP2,hE2⟩ | ⟨k,hr,rfl,hF,hP⟩⟩)
  ·have HI2:=Lib.hid (HI.out r v2 qs2 w2 hP2)
   have HG2:=Lib.hid hG2
   have HX2:=Lib.hid hE2
   have HRR:=Lib.hid hr
   clear hG2 hE2 hr hP2
   cases hT:Prs.isT [sign] r with
   | some r'=>
     have HT:=Lib.hid hT
     rw [hT] at HI2
     clear hT
     go_wp2_with (go_at_call 74;refine HI2.out.mono ?_;rintro e w3 ⟨rfl,hP3⟩;have HP3:=Lib.hid hP3;clear hP3)
     have hk2:=HK.out us x r HE.out HRR.out
     have hk3:=hk2.1.isT HT.out
     have hk4:=hk2.2.length_le
     obtain ⟨v3,hP3,hG3⟩:=HP3.out
     have hP3:PsAt p B r' v3 qs2 _:=hP3
     have hG3':=(grB_below (B:=B) ((Below.refl w2.heap.size w2).alloc (Nat.le_refl _) (.cells #[.string sign] 9))).transB hG3
     have hL3:=HL.out
     go_roundw
     case rel=>
      exact ⟨acc ++ [x],r',v3,qs2,hP3,hk3.1,HG2.out.transB hG3',HS.out _ _ _ _ HG2.out HX2.out hG3',by have:=hk3.2.1;simp only [List.length_append,List.length_cons,List.length_nil];omega,HQ.out.trans (ahead_more HK.out HE.out acc HRR.out HT.out)⟩
     case measure=>rw [hP3.rest,hrl];have:=hk3.2.1;omega
   | none=>
     have HT:=Lib.hid hT
     rw [hT] at HI2
     clear hT
     go_wp2_with (go_at_call 74;refine HI2.out.mono ?_;rintro e w3 ⟨rfl,hP3⟩;have HP3:=Lib.hid hP3;clear hP3)
     go_ret
     obtain ⟨v3,hP3,hG3⟩:=HP3.out
     have hG3':=(grB_below (B:=B) ((Below.refl w2.heap.size w2).alloc (Nat.le_refl _) (.cells #[.string sign] 9))).transB hG3
     exact ⟨HG2.out.transB hG3',Or.inl ⟨acc ++ [x],r,v3,qs2,HQ.out.trans (ahead_last HK.out HE.out acc HRR.out HT.out),rfl,hP3,HS.out _ _ _ _ HG2.out HX2.out hG3'⟩⟩
  ·have HQ2:=Lib.hid (HQ.out.trans (ahead_err HK.out HE.out acc hr))
   have HF:=Lib.hid hF
   have HP:=Lib.hid hP
   have HG2:=Lib.hid hG2
   clear hr hF hP hG2
   go_ret
   exact ⟨HG2.out,Or.inr ⟨k,HQ2.out,rfl,HF.out,HP.out⟩⟩
set_option maxRecDepth 100000 in
set_option maxHeartbeats 2000000 in
theorem list_several {α:Type} {p:Nat→Prop} {B:Nat} {ts:List Tok} {v:Value} {qs:List Value} (sign:ByteArray) (rd:List Tok→Tess.Prs.R α) (c0 c1:Value) (Ex:List α→List Value→World→Prop) (Fx:World→Prop) (L:Nat) (w0 w:World)
  (h:PsAt p B ts v qs w) (he:Prs.Endd ts) (hk:Prs.Keeps rd) (hG:w0.grownBy w (some B)) (hE:Ex [] qs w) (hL:ts.length≤L) (hst:∀ acc,Steady B w0 (Ex acc)) (hR:Reads 243 #[c0,c1] p B w0 rd Ex Fx L) :
  Calls Tryz.prog 71 #[.pointer (some ⟨B,0,none⟩),.string sign,.func (.func 243) #[] #[c0,c1]] w fun e W'=>w0.grownBy W' (some B) ∧
   ((∃ l r v' qs',Tess.Prs.list sign rd ts.length ts = .ok (l,r)∧e = .returned .nilIface∧PsAt p B r v' qs' W'∧Ex l qs' W')∨(∃ k,Tess.Prs.list sign rd ts.length ts = .error k∧e = .returned (errF k)∧Fx W'∧∃ ts' v' qs',PsAt p B ts' v' qs' W')):=by
 unfold Reads errF at hR
 have HR:=Lib.hid hR
 have HK:=Lib.hid hk
 have HS:=Lib.hid hst
 clear hR hk hst
 have HI:RowKit.Hid (∀ (ts:List Tok) (v:Value) (qs:List Value) (W:World),PsAt p B ts v qs W→_):=Lib.hid fun ts v qs W (h:PsAt p B ts v qs W)=>pis_any (.slice (some ⟨W.heap.size,0,none⟩) 1 1) [sign] (W.alloc (.cells #[.string sign] 9)) (h.below ((Below.refl _ _).alloc (Nat.le_refl _) _)) (one_text sign B W h.lt)
 go_enter Tryz.func71,Tryz.ntmps71
 go_wp2
 go_loopw [] (fun wr => ∃ (acc:List α) (us:List Tok) (v:Value) (qs:List Value),PsAt p B us v qs wr∧Prs.Endd us∧w0.grownBy wr (some B)∧Ex acc qs wr∧acc.length + us.length≤L∧Tess.Prs.list sign rd ts.length ts=ahead acc (Tess.Prs.list sign rd us.length us)) (fun wr=>restLen B wr)
 case atStart=>exact ⟨[],ts,v,qs,h,he,hG,hE,by simpa using hL,(ahead_nil _).symm⟩
 case round=>
  clear h he hG hE hL
  obtain ⟨acc,us,v,qs,h,he,hG,hE,hL,hQ⟩:=hrel
  have hrl:=h.rest
  have HE:=Lib.hid he
  have HQ:=Lib.hid hQ
  have HL:=Lib.hid hL
  have HC:=Lib.hid (HR.out acc us v qs wr h he hG hE hL)
  clear h he hG hE hL hQ
  go_wp2_with (go_at_call 243;refine HC.out.mono ?_;rintro e w2 ⟨hG2,⟨x,r,v2,qs2,hr,rfl,hP2,hE2⟩ | ⟨k,hr,rfl,hF,hP⟩⟩)
  ·have HI2:=Lib.hid (HI.out r v2 qs2 w2 hP2)
   have HG2:=Lib.hid hG2
   have HX2:=Lib.hid hE2
   have HRR:=Lib.hid hr
   clear hG2 hE2 hr hP2
   cases hT:Prs.isT [sign] r with
   | some r'=>
     have HT:=Lib.hid hT
     rw [hT] at HI2
     clear hT
     go_wp2_with (go_at_call 74;refine HI2.out.mono ?_;rintro e w3 ⟨rfl,hP3⟩;have HP3:=Lib.hid hP3;clear hP3)
     have hk2:=HK.out us x r HE.out HRR.out
     have hk3:=hk2.1.isT HT.out
     have hk4:=hk2.2.length_le
     obtain ⟨v3,hP3,hG3⟩:=HP3.out
     have hP3:PsAt p B r' v3 qs2 _:=hP3
     have hG3':=(grB_below (B:=B) ((Below.refl w2.heap.size w2).alloc (Nat.le_refl _) (.cells #[.string sign] 9))).transB hG3
     have hL3:=HL.out
     go_roundw
     case rel=>
      exact ⟨acc ++ [x],r',v3,qs2,hP3,hk3.1,HG2.out.transB hG3',HS.out _ _ _ _ HG2.out HX2.out hG3',by have:=hk3.2.1;simp only [List.length_append,List.length_cons,List.length_nil];omega,HQ.out.trans (ahead_more HK.out HE.out acc HRR.out HT.out)⟩
     case measure=>rw [hP3.rest,hrl];have:=hk3.2.1;omega
   | none=>
     have HT:=Lib.hid hT
     rw [hT] at HI2
     clear hT
     go_wp2_with (go_at_call 74;refine HI2.out.mono ?_;rintro e w3 ⟨rfl,hP3⟩;have HP3:=Lib.hid hP3;clear hP3)
     go_ret
     obtain ⟨v3,hP3,hG3⟩:=HP3.out
     have hG3':=(grB_below (B:=B) ((Below.refl w2.heap.size w2).alloc (Nat.le_refl _) (.cells #[.string sign] 9))).transB hG3
     exact ⟨HG2.out.transB hG3',Or.inl ⟨acc ++ [x],r,v3,qs2,HQ.out.trans (ahead_last HK.out HE.out acc HRR.out HT.out),rfl,hP3,HS.out _ _ _ _ HG2.out HX2.out hG3'⟩⟩
  ·have HQ2:=Lib.hid (HQ.out.trans (ahead_err HK.out HE.out acc hr))
   have HF:=Lib.hid hF
   have HP:=Lib.hid hP
   have HG2:=Lib.hid hG2
   clear hr hF hP hG2
   go_ret
   exact ⟨HG2.out,Or.inr ⟨k,HQ2.out,rfl,HF.out,HP.out⟩⟩
set_option maxRecDepth 100000 in
set_option maxHeartbeats 2000000 in
theorem list_agg {α:Type} {p:Nat→Prop} {B:Nat} {ts:List Tok} {v:Value} {qs:List Value} (sign:ByteArray) (rd:List Tok→Tess.Prs.R α) (Ex:List α→List Value→World→Prop) (Fx:World→Prop) (L:Nat) (w0 w:World)
  (h:PsAt p B ts v qs w) (he:Prs.Endd ts) (hk:Prs.Keeps rd) (hG:w0.grownBy w (some B)) (hE:Ex [] qs w) (hL:ts.length≤L) (hst:∀ acc,Steady B w0 (Ex acc)) (hR:Reads 72 #[.pointer (some ⟨B,0,none⟩)] p B w0 rd Ex Fx L) :
  Calls Tryz.prog 71 #[.pointer (some ⟨B,0,none⟩),.string sign,.func (.func 72) #[.pointer (some ⟨B,0,none⟩)] #[]] w fun e W'=>w0.grownBy W' (some B) ∧
   ((∃ l r v' qs',Tess.Prs.list sign rd ts.length ts = .ok (l,r)∧e = .returned .nilIface∧PsAt p B r v' qs' W'∧Ex l qs' W')∨(∃ k,Tess.Prs.list sign rd ts.length ts = .error k∧e = .returned (errF k)∧Fx W'∧∃ ts' v' qs',PsAt p B ts' v' qs' W')):=by
 unfold Reads errF at hR
 have HR:=Lib.hid hR
 have HK:=Lib.hid hk
 have HS:=Lib.hid hst
 clear hR hk hst
 have HI:RowKit.Hid (∀ (ts:List Tok) (v:Value) (qs:List Value) (W:World),PsAt p B ts v qs W→_):=Lib.hid fun ts v qs W (h:PsAt p B ts v qs W)=>pis_any (.slice (some ⟨W.heap.size,0,none⟩) 1 1) [sign] (W.alloc (.cells #[.string sign] 9)) (h.below ((Below.refl _ _).alloc (Nat.le_refl _) _)) (one_text sign B W h.lt)
 go_enter Tryz.func71,Tryz.ntmps71
 go_wp2
 go_loopw [] (fun wr => ∃ (acc:List α) (us:List Tok) (v:Value) (qs:List Value),PsAt p B us v qs wr∧Prs.Endd us∧w0.grownBy wr (some B)∧Ex acc qs wr∧acc.length + us.length≤L∧Tess.Prs.list sign rd ts.length ts=ahead acc (Tess.Prs.list sign rd us.length us)) (fun wr=>restLen B wr)
 case atStart=>exact ⟨[],ts,v,qs,h,he,hG,hE,by simpa using hL,(ahead_nil _).symm⟩
 case round=>
  clear h he hG hE hL
  obtain ⟨acc,us,v,qs,h,he,hG,hE,hL,hQ⟩:=hrel
  have hrl:=h.rest
  have HE:=Lib.hid he
  have HQ:=Lib.hid hQ
  have HL:=Lib.hid hL
  have HC:=Lib.hid (HR.out acc us v qs wr h he hG hE hL)
  clear h he hG hE hL hQ
  go_wp2_with (go_at_call 72;refine HC.out.mono ?_;rintro e w2 ⟨hG2,⟨x,r,v2,qs2,hr,rfl,hP2,hE2⟩ | ⟨k,hr,rfl,hF,hP⟩⟩)
  ·have HI2:=Lib.hid (HI.out r v2 qs2 w2 hP2)
   have HG2:=Lib.hid hG2
   have HX2:=Lib.hid hE2
   have HRR:=Lib.hid hr
   clear hG2 hE2 hr hP2
   cases hT:Prs.isT [sign] r with
   | some r'=>
     have HT:=Lib.hid hT
     rw [hT] at HI2
     clear hT
     go_wp2_with (go_at_call 74;refine HI2.out.mono ?_;rintro e w3 ⟨rfl,hP3⟩;have HP3:=Lib.hid hP3;clear hP3)
     have hk2:=HK.out us x r HE.out HRR.out
     have hk3:=hk2.1.isT HT.out
     have hk4:=hk2.2.length_le
     obtain ⟨v3,hP3,hG3⟩:=HP3.out
     have hP3:PsAt p B r' v3 qs2 _:=hP3
     have hG3':=(grB_below (B:=B) ((Below.refl w2.heap.size w2).alloc (Nat.le_refl _) (.cells #[.string sign] 9))).transB hG3
     have hL3:=HL.out
     go_roundw
     case rel=>
      exact ⟨acc ++ [x],r',v3,qs2,hP3,hk3.1,HG2.out.transB hG3',HS.out _ _ _ _ HG2.out HX2.out hG3',by have:=hk3.2.1;simp only [List.length_append,List.length_cons,List.length_nil];omega,HQ.out.trans (ahead_more HK.out HE.out acc HRR.out HT.out)⟩
     case measure=>rw [hP3.rest,hrl];have:=hk3.2.1;omega
   | none=>
     have HT:=Lib.hid hT
     rw [hT] at HI2
     clear hT
     go_wp2_with (go_at_call 74;refine HI2.out.mono ?_;rintro e w3 ⟨rfl,hP3⟩;have HP3:=Lib.hid hP3;clear hP3)
     go_ret
     obtain ⟨v3,hP3,hG3⟩:=HP3.out
     have hG3':=(grB_below (B:=B) ((Below.refl w2.heap.size w2).alloc (Nat.le_refl _) (.cells #[.string sign] 9))).transB hG3
     exact ⟨HG2.out.transB hG3',Or.inl ⟨acc ++ [x],r,v3,qs2,HQ.out.trans (ahead_last HK.out HE.out acc HRR.out HT.out),rfl,hP3,HS.out _ _ _ _ HG2.out HX2.out hG3'⟩⟩
  ·have HQ2:=Lib.hid (HQ.out.trans (ahead_err HK.out HE.out acc hr))
   have HF:=Lib.hid hF
   have HP:=Lib.hid hP
   have HG2:=Lib.hid hG2
   clear hr hF hP hG2
   go_ret
   exact ⟨HG2.out,Or.inr ⟨k,HQ2.out,rfl,HF.out,HP.out⟩⟩
set_option maxRecDepth 100000 in
set_option maxHeartbeats 2000000 in
theorem list_set {α:Type} {p:Nat→Prop} {B:Nat} {ts:List Tok} {v:Value} {qs:List Value} (sign:ByteArray) (rd:List Tok→Tess.Prs.R α) (Ex:List α→List Value→World→Prop) (Fx:World→Prop) (L:Nat) (w0 w:World)
  (h:PsAt p B ts v qs w) (he:Prs.Endd ts) (hk:Prs.Keeps rd) (hG:w0.grownBy w (some B)) (hE:Ex [] qs w) (hL:ts.length≤L) (hst:∀ acc,Steady B w0 (Ex acc)) (hR:Reads 185 #[.pointer (some ⟨B,0,none⟩)] p B w0 rd Ex Fx L) :
  Calls Tryz.prog 71 #[.pointer (some ⟨B,0,none⟩),.string sign,.func (.func 185) #[.pointer (some ⟨B,0,none⟩)] #[]] w fun e W'=>w0.grownBy W' (some B) ∧
   ((∃ l r v' qs',Tess.Prs.list sign rd ts.length ts = .ok (l,r)∧e = .returned .nilIface∧PsAt p B r v' qs' W'∧Ex l qs' W')∨(∃ k,Tess.Prs.list sign rd ts.length ts = .error k∧e = .returned (errF k)∧Fx W'∧∃ ts' v' qs',PsAt p B ts' v' qs' W')):=by
 unfold Reads errF at hR
 have HR:=Lib.hid hR
 have HK:=Lib.hid hk
 have HS:=Lib.hid hst
 clear hR hk hst
 have HI:RowKit.Hid (∀ (ts:List Tok) (v:Value) (qs:List Value) (W:World),PsAt p B ts v qs W→_):=Lib.hid fun ts v qs W (h:PsAt p B ts v qs W)=>pis_any (.slice (some ⟨W.heap.size,0,none⟩) 1 1) [sign] (W.alloc (.cells #[.string sign] 9)) (h.below ((Below.refl _ _).alloc (Nat.le_refl _) _)) (one_text sign B W h.lt)
 go_enter Tryz.func71,Tryz.ntmps71
 go_wp2
 go_loopw [] (fun wr => ∃ (acc:List α) (us:List Tok) (v:Value) (qs:List Value),PsAt p B us v qs wr∧Prs.Endd us∧w0.grownBy wr (some B)∧Ex acc qs wr∧acc.length + us.length≤L∧Tess.Prs.list sign rd ts.length ts=ahead acc (Tess.Prs.list sign rd us.length us)) (fun wr=>restLen B wr)
 case atStart=>exact ⟨[],ts,v,qs,h,he,hG,hE,by simpa using hL,(ahead_nil _).symm⟩
 case round=>
  clear h he hG hE hL
  obtain ⟨acc,us,v,qs,h,he,hG,hE,hL,hQ⟩:=hrel
  have hrl:=h.rest
  have HE:=Lib.hid he
  have HQ:=Lib.hid hQ
  have HL:=Lib.hid hL
  have HC:=Lib.hid (HR.out acc us v qs wr h he hG hE hL)
  clear h he hG hE hL hQ
  go_wp2_with (go_at_call 185;refine HC.out.mono ?_;rintro e w2 ⟨hG2,⟨x,r,v2,qs2,hr,rfl,hP2,hE2⟩ | ⟨k,hr,rfl,hF,hP⟩⟩)
  ·have HI2:=Lib.hid (HI.out r v2 qs2 w2 hP2)
   have HG2:=Lib.hid hG2
   have HX2:=Lib.hid hE2
   have HRR:=Lib.hid hr
   clear hG2 hE2 hr hP2
   cases hT:Prs.isT [sign] r with
   | some r'=>
     have HT:=Lib.hid hT
     rw [hT] at HI2
     clear hT
     go_wp2_with (go_at_call 74;refine HI2.out.mono ?_;rintro e w3 ⟨rfl,hP3⟩;have HP3:=Lib.hid hP3;clear hP3)
     have hk2:=HK.out us x r HE.out HRR.out
     have hk3:=hk2.1.isT HT.out
     have hk4:=hk2.2.length_le
     obtain ⟨v3,hP3,hG3⟩:=HP3.out
     have hP3:PsAt p B r' v3 qs2 _:=hP3
     have hG3':=(grB_below (B:=B) ((Below.refl w2.heap.size w2).alloc (Nat.le_refl _) (.cells #[.string sign] 9))).transB hG3
     have hL3:=HL.out
     go_roundw
     case rel=>
      exact ⟨acc ++ [x],r',v3,qs2,hP3,hk3.1,HG2.out.transB hG3',HS.out _ _ _ _ HG2.out HX2.out hG3',by have:=hk3.2.1;simp only [List.length_append,List.length_cons,List.length_nil];omega,HQ.out.trans (ahead_more HK.out HE.out acc HRR.out HT.out)⟩
     case measure=>rw [hP3.rest,hrl];have:=hk3.2.1;omega
   | none=>
     have HT:=Lib.hid hT
     rw [hT] at HI2
     clear hT
     go_wp2_with (go_at_call 74;refine HI2.out.mono ?_;rintro e w3 ⟨rfl,hP3⟩;have HP3:=Lib.hid hP3;clear hP3)
     go_ret
     obtain ⟨v3,hP3,hG3⟩:=HP3.out
     have hG3':=(grB_below (B:=B) ((Below.refl w2.heap.size w2).alloc (Nat.le_refl _) (.cells #[.string sign] 9))).transB hG3
     exact ⟨HG2.out.transB hG3',Or.inl ⟨acc ++ [x],r,v3,qs2,HQ.out.trans (ahead_last HK.out HE.out acc HRR.out HT.out),rfl,hP3,HS.out _ _ _ _ HG2.out HX2.out hG3'⟩⟩
  ·have HQ2:=Lib.hid (HQ.out.trans (ahead_err HK.out HE.out acc hr))
   have HF:=Lib.hid hF
   have HP:=Lib.hid hP
   have HG2:=Lib.hid hG2
   clear hr hF hP hG2
   go_ret
   exact ⟨HG2.out,Or.inr ⟨k,HQ2.out,rfl,HF.out,HP.out⟩⟩
set_option maxRecDepth 100000 in
set_option maxHeartbeats 2000000 in
theorem list_cond {α:Type} {p:Nat→Prop} {B:Nat} {ts:List Tok} {v:Value} {qs:List Value} (sign:ByteArray) (rd:List Tok→Tess.Prs.R α) (Ex:List α→List Value→World→Prop) (Fx:World→Prop) (L:Nat) (w0 w:World)
  (h:PsAt p B ts v qs w) (he:Prs.Endd ts) (hk:Prs.Keeps rd) (hG:w0.grownBy w (some B)) (hE:Ex [] qs w) (hL:ts.length≤L) (hst:∀ acc,Steady B w0 (Ex acc)) (hR:Reads 188 #[.pointer (some ⟨B,0,none⟩)] p B w0 rd Ex Fx L) :
  Calls Tryz.prog 71 #[.pointer (some ⟨B,0,none⟩),.string sign,.func (.func 188) #[.pointer (some ⟨B,0,none⟩)] #[]] w fun e W'=>w0.grownBy W' (some B) ∧
   ((∃ l r v' qs',Tess.Prs.list sign rd ts.length ts = .ok (l,r)∧e = .returned .nilIface∧PsAt p B r v' qs' W'∧Ex l qs' W')∨(∃ k,Tess.Prs.list sign rd ts.length ts = .error k∧e = .returned (errF k)∧Fx W'∧∃ ts' v' qs',PsAt p B ts' v' qs' W')):=by
 unfold Reads errF at hR
 have HR:=Lib.hid hR
 have HK:=Lib.hid hk
 have HS:=Lib.hid hst
 clear hR hk hst
 have HI:RowKit.Hid (∀ (ts:List Tok) (v:Value) (qs:List Value) (W:World),PsAt p B ts v qs W→_):=Lib.hid fun ts v qs W (h:PsAt p B ts v qs W)=>pis_any (.slice (some ⟨W.heap.size,0,none⟩) 1 1) [sign] (W.alloc (.cells #[.string sign] 9)) (h.below ((Below.refl _ _).alloc (Nat.le_refl _) _)) (one_text sign B W h.lt)
 go_enter Tryz.func71,Tryz.ntmps71
 go_wp2
 go_loopw [] (fun wr => ∃ (acc:List α) (us:List Tok) (v:Value) (qs:List Value),PsAt p B us v qs wr∧Prs.Endd us∧w0.grownBy wr (some B)∧Ex acc qs wr∧acc.length + us.length≤L∧Tess.Prs.list sign rd ts.length ts=ahead acc (Tess.Prs.list sign rd us.length us)) (fun wr=>restLen B wr)
 case atStart=>exact ⟨[],ts,v,qs,h,he,hG,hE,by simpa using hL,(ahead_nil _).symm⟩
 case round=>
  clear h he hG hE hL
  obtain ⟨acc,us,v,qs,h,he,hG,hE,hL,hQ⟩:=hrel
  have hrl:=h.rest
  have HE:=Lib.hid he
  have HQ:=Lib.hid hQ
  have HL:=Lib.hid hL
  have HC:=Lib.hid (HR.out acc us v qs wr h he hG hE hL)
  clear h he hG hE hL hQ
  go_wp2_with (go_at_call 188;refine HC.out.mono ?_;rintro e w2 ⟨hG2,⟨x,r,v2,qs2,hr,rfl,hP2,hE2⟩ | ⟨k,hr,rfl,hF,hP⟩⟩)
  ·have HI2:=Lib.hid (HI.out r v2 qs2 w2 hP2)
   have HG2:=Lib.hid hG2
   have HX2:=Lib.hid hE2
   have HRR:=Lib.hid hr
   clear hG2 hE2 hr hP2
   cases hT:Prs.isT [sign] r with
   | some r'=>
     have HT:=Lib.hid hT
     rw [hT] at HI2
     clear hT
     go_wp2_with (go_at_call 74;refine HI2.out.mono ?_;rintro e w3 ⟨rfl,hP3⟩;have HP3:=Lib.hid hP3;clear hP3)
     have hk2:=HK.out us x r HE.out HRR.out
     have hk3:=hk2.1.isT HT.out
     have hk4:=hk2.2.length_le
     obtain ⟨v3,hP3,hG3⟩:=HP3.out
     have hP3:PsAt p B r' v3 qs2 _:=hP3
     have hG3':=(grB_below (B:=B) ((Below.refl w2.heap.size w2).alloc (Nat.le_refl _) (.cells #[.string sign] 9))).transB hG3
     have hL3:=HL.out
     go_roundw
     case rel=>
      exact ⟨acc ++ [x],r',v3,qs2,hP3,hk3.1,HG2.out.transB hG3',HS.out _ _ _ _ HG2.out HX2.out hG3',by have:=hk3.2.1;simp only [List.length_append,List.length_cons,List.length_nil];omega,HQ.out.trans (ahead_more HK.out HE.out acc HRR.out HT.out)⟩
     case measure=>rw [hP3.rest,hrl];have:=hk3.2.1;omega
   | none=>
     have HT:=Lib.hid hT
     rw [hT] at HI2
     clear hT
     go_wp2_with (go_at_call 74;refine HI2.out.mono ?_;rintro e w3 ⟨rfl,hP3⟩;have HP3:=Lib.hid hP3;clear hP3)
     go_ret
     obtain ⟨v3,hP3,hG3⟩:=HP3.out
     have hG3':=(grB_below (B:=B) ((Below.refl w2.heap.size w2).alloc (Nat.le_refl _) (.cells #[.string sign] 9))).transB hG3
     exact ⟨HG2.out.transB hG3',Or.inl ⟨acc ++ [x],r,v3,qs2,HQ.out.trans (ahead_last HK.out HE.out acc HRR.out HT.out),rfl,hP3,HS.out _ _ _ _ HG2.out HX2.out hG3'⟩⟩
  ·have HQ2:=Lib.hid (HQ.out.trans (ahead_err HK.out HE.out acc hr))
   have HF:=Lib.hid hF
   have HP:=Lib.hid hP
   have HG2:=Lib.hid hG2
   clear hr hF hP hG2
   go_ret
   exact ⟨HG2.out,Or.inr ⟨k,HQ2.out,rfl,HF.out,HP.out⟩⟩
set_option maxRecDepth 100000 in
set_option maxHeartbeats 2000000 in
theorem list_key {α:Type} {p:Nat→Prop} {B:Nat} {ts:List Tok} {v:Value} {qs:List Value} (sign:ByteArray) (rd:List Tok→Tess.Prs.R α) (Ex:List α→List Value→World→Prop) (Fx:World→Prop) (L:Nat) (w0 w:World)
  (h:PsAt p B ts v qs w) (he:Prs.Endd ts) (hk:Prs.Keeps rd) (hG:w0.grownBy w (some B)) (hE:Ex [] qs w) (hL:ts.length≤L) (hst:∀ acc,Steady B w0 (Ex acc)) (hR:Reads 189 #[.pointer (some ⟨B,0,none⟩)] p B w0 rd Ex Fx L) :
  Calls Tryz.prog 71 #[.pointer (some ⟨B,0,none⟩),.string sign,.func (.func 189) #[.pointer (some ⟨B,0,none⟩)] #[]] w fun e W'=>w0.grownBy W' (some B) ∧
   ((∃ l r v' qs',Tess.Prs.list sign rd ts.length ts = .ok (l,r)∧e = .returned .nilIface∧PsAt p B r v' qs' W'∧Ex l qs' W')∨(∃ k,Tess.Prs.list sign rd ts.length ts = .error k∧e = .returned (errF k)∧Fx W'∧∃ ts' v' qs',PsAt p B ts' v' qs' W')):=by
 unfold Reads errF at hR
 have HR:=Lib.hid hR
 have HK:=Lib.hid hk
 have HS:=Lib.hid hst
 clear hR hk hst
 have HI:RowKit.Hid (∀ (ts:List Tok) (v:Value) (qs:List Value) (W:World),PsAt p B ts v qs W→_):=Lib.hid fun ts v qs W (h:PsAt p B ts v qs W)=>pis_any (.slice (some ⟨W.heap.size,0,none⟩) 1 1) [sign] (W.alloc (.cells #[.string sign] 9)) (h.below ((Below.refl _ _).alloc (Nat.le_refl _) _)) (one_text sign B W h.lt)
 go_enter Tryz.func71,Tryz.ntmps71
 go_wp2
 go_loopw [] (fun wr => ∃ (acc:List α) (us:List Tok) (v:Value) (qs:List Value),PsAt p B us v qs wr∧Prs.Endd us∧w0.grownBy wr (some B)∧Ex acc qs wr∧acc.length + us.length≤L∧Tess.Prs.list sign rd ts.length ts=ahead acc (Tess.Prs.list sign rd us.length us)) (fun wr=>restLen B wr)
 case atStart=>exact ⟨[],ts,v,qs,h,he,hG,hE,by simpa using hL,(ahead_nil _).symm⟩
 case round=>
  clear h he hG hE hL
  obtain ⟨acc,us,v,qs,h,he,hG,hE,hL,hQ⟩:=hrel
  have hrl:=h.rest
  have HE:=Lib.hid he
  have HQ:=Lib.hid hQ
  have HL:=Lib.hid hL
  have HC:=Lib.hid (HR.out acc us v qs wr h he hG hE hL)
  clear h he hG hE hL hQ
  go_wp2_with (go_at_call 189;refine HC.out.mono ?_;rintro e w2 ⟨hG2,⟨x,r,v2,qs2,hr,rfl,hP2,hE2⟩ | ⟨k,hr,rfl,hF,hP⟩⟩)
  ·have HI2:=Lib.hid (HI.out r v2 qs2 w2 hP2)
   have HG2:=Lib.hid hG2
   have HX2:=Lib.hid hE2
   have HRR:=Lib.hid hr
   clear hG2 hE2 hr hP2
   cases hT:Prs.isT [sign] r with
   | some r'=>
     have HT:=Lib.hid hT
     rw [hT] at HI2
     clear hT
     go_wp2_with (go_at_call 74;refine HI2.out.mono ?_;rintro e w3 ⟨rfl,hP3⟩;have HP3:=Lib.hid hP3;clear hP3)
     have hk2:=HK.out us x r HE.out HRR.out
     have hk3:=hk2.1.isT HT.out
     have hk4:=hk2.2.length_le
     obtain ⟨v3,hP3,hG3⟩:=HP3.out
     have hP3:PsAt p B r' v3 qs2 _:=hP3
     have hG3':=(grB_below (B:=B) ((Below.refl w2.heap.size w2).alloc (Nat.le_refl _) (.cells #[.string sign] 9))).transB hG3
     have hL3:=HL.out
     go_roundw
     case rel=>
      exact ⟨acc ++ [x],r',v3,qs2,hP3,hk3.1,HG2.out.transB hG3',HS.out _ _ _ _ HG2.out HX2.out hG3',by have:=hk3.2.1;simp only [List.length_append,List.length_cons,List.length_nil];omega,HQ.out.trans (ahead_more HK.out HE.out acc HRR.out HT.out)⟩
     case measure=>rw [hP3.rest,hrl];have:=hk3.2.1;omega
   | none=>
     have HT:=Lib.hid hT
     rw [hT] at HI2
     clear hT
     go_wp2_with (go_at_call 74;refine HI2.out.mono ?_;rintro e w3 ⟨rfl,hP3⟩;have HP3:=Lib.hid hP3;clear hP3)
     go_ret
     obtain ⟨v3,hP3,hG3⟩:=HP3.out
     have hG3':=(grB_below (B:=B) ((Below.refl w2.heap.size w2).alloc (Nat.le_refl _) (.cells #[.string sign] 9))).transB hG3
     exact ⟨HG2.out.transB hG3',Or.inl ⟨acc ++ [x],r,v3,qs2,HQ.out.trans (ahead_last HK.out HE.out acc HRR.out HT.out),rfl,hP3,HS.out _ _ _ _ HG2.out HX2.out hG3'⟩⟩
  ·have HQ2:=Lib.hid (HQ.out.trans (ahead_err HK.out HE.out acc hr))
   have HF:=Lib.hid hF
   have HP:=Lib.hid hP
   have HG2:=Lib.hid hG2
   clear hr hF hP hG2
   go_ret
   exact ⟨HG2.out,Or.inr ⟨k,HQ2.out,rfl,HF.out,HP.out⟩⟩
end Go.Proofs.YtmfnhjdeoklnlaaGreatDoor
