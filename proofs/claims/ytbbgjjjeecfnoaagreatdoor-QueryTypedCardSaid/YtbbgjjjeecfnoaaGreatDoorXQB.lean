/- Joined by mergeQ.py: Q5, Q6, Q7, Q8 -/
import Derived.Test.YtbbgjjjeecfnoaaGreatDoorXQA
import Derived.Test.YtbbgjjjeecfnoaaGreatDoorXPB
namespace Go.Proofs.YtbbgjjjeecfnoaaGreatDoor
open Go.RowKit Go.Sort
open Tess (Fil Tok Prs.next Prs.skip Prs.isT Prs.Endd Prs.Keeps)
def restLen (B:Nat) (w:World):Nat:=match w.cell? ⟨B,0,none⟩ with | some (.slice _ n _)=>n | _=>0
theorem PsAt.rest {p:Nat→Prop} {B:Nat} {ts:List Tok} {v:Value} {qs:List Value} {w:World} (h:PsAt p B ts v qs w):restLen B w=ts.length:=by
 obtain ⟨b,off,cap,rfl,_⟩:=h.open
 have cb:=cell_of_row w B 0 _ _ _ h.k
 simp only [List.getElem?_toArray,List.getElem?_cons_zero] at cb
 unfold restLen
 rw [cb]
def Steady (B:Nat) (w0:World) (Ex:List Value→World→Prop):Prop:=∀ qs W W',w0.grownBy W (some B)→Ex qs W→W.grownBy W' (some B)→Ex qs W'
def Reads {α:Type} (g:Nat) (cs:Array Value) (p:Nat→Prop) (B:Nat) (w0:World) (rd:List Tok→Tess.Prs.R α) (Ex:List α→List Value→World→Prop) (Fx:World→Prop) (L:Nat):Prop:=
 ∀ (acc:List α) (ts:List Tok) (v:Value) (qs:List Value) (W:World),PsAt p B ts v qs W→Prs.Endd ts→w0.grownBy W (some B)→Ex acc qs W→acc.length + ts.length≤L →
   Calls Tryz.prog g cs W fun e W'=>w0.grownBy W' (some B) ∧
    ((∃ x r v' qs',rd ts = .ok (x,r)∧e = .returned .nilIface∧PsAt p B r v' qs' W'∧Ex (acc ++ [x]) qs' W')∨(∃ k,rd ts = .error k∧e = .returned (errF k)∧Fx W'∧∃ ts' v' qs',PsAt p B ts' v' qs' W'))
theorem bindR_ok {α β:Type} {x:Tess.Prs.R α} {a:α} {r:List Tok} {k:α→List Tok→Tess.Prs.R β} (h:x = .ok (a,r)):Tess.Prs.bindR x k=k a r:=by rw [h];rfl
theorem bindR_err {α β:Type} {x:Tess.Prs.R α} {n:Nat} {k:α→List Tok→Tess.Prs.R β} (h:x = .error n):Tess.Prs.bindR x k = .error n:=by rw [h];rfl
def ahead {α:Type} (acc:List α) (x:Tess.Prs.R (List α)):Tess.Prs.R (List α):=match x with | .ok (l,r) => .ok (acc ++ l,r) | .error e => .error e
theorem ahead_nil {α:Type} (x:Tess.Prs.R (List α)):ahead [] x=x:=by
 cases x with
 | error e=>rfl
 | ok p=>rfl
section
variable {α:Type} {sign:ByteArray} {rd:List Tok→Tess.Prs.R α} (h:Prs.Keeps rd) {ts:List Tok} (he:Prs.Endd ts) (acc:List α)
include h he
theorem ahead_err {k:Nat} (e:rd ts = .error k):ahead acc (Tess.Prs.list sign rd ts.length ts) = .error k:=by
 rw [Tess.Prs.list_round sign h he,bindR_err e];rfl
theorem ahead_last {x:α} {r:List Tok} (e:rd ts = .ok (x,r)) (ht:Prs.isT [sign] r=none):ahead acc (Tess.Prs.list sign rd ts.length ts) = .ok (acc ++ [x],r):=by
 rw [Tess.Prs.list_round sign h he,bindR_ok e]
 unfold Tess.Prs.isR
 rw [ht];rfl
theorem ahead_more {x:α} {r r':List Tok} (e:rd ts = .ok (x,r)) (ht:Prs.isT [sign] r=some r'):ahead acc (Tess.Prs.list sign rd ts.length ts)=ahead (acc ++ [x]) (Tess.Prs.list sign rd r'.length r'):=by
 rw [Tess.Prs.list_round sign h he,bindR_ok e]
 unfold Tess.Prs.isR
 rw [ht]
 simp only
 cases Tess.Prs.list sign rd r'.length r' with
 | error e=>rfl
 | ok p=>obtain ⟨l,r2⟩:=p;show Except.ok (acc ++ x :: l,r2)=Except.ok (acc ++ [x] ++ l,r2);simp
end
end Go.Proofs.YtbbgjjjeecfnoaaGreatDoor
namespace Go.Proofs.YtbbgjjjeecfnoaaGreatDoor
open Go.RowKit Go.Sort
open Tess (Fil Tok Prs.next Prs.skip Prs.isT Prs.Endd Prs.Keeps)
set_option maxRecDepth 100000 in
set_option maxHeartbeats 2000000 in
theorem list_names {α:Type} {p:Nat→Prop} {B:Nat} {ts:List Tok} {v:Value} {qs:List Value} (sign:ByteArray) (rd:List Tok→Tess.Prs.R α) (c0 c1:Value) (Ex:List α→List Value→World→Prop) (Fx:World→Prop) (L:Nat) (w0 w:World)
  (h:PsAt p B ts v qs w) (he:Prs.Endd ts) (hk:Prs.Keeps rd) (hG:w0.grownBy w (some B)) (hE:Ex [] qs w) (hL:ts.length≤L) (hst:∀ acc,Steady B w0 (Ex acc)) (hR:Reads 297 #[c0,c1] p B w0 rd Ex Fx L) :
  Calls Tryz.prog 141 #[.pointer (some ⟨B,0,none⟩),.string sign,.func (.func 297) #[] #[c0,c1]] w fun e W'=>w0.grownBy W' (some B) ∧
   ((∃ l r v' qs',Tess.Prs.list sign rd ts.length ts = .ok (l,r)∧e = .returned .nilIface∧PsAt p B r v' qs' W'∧Ex l qs' W')∨(∃ k,Tess.Prs.list sign rd ts.length ts = .error k∧e = .returned (errF k)∧Fx W'∧∃ ts' v' qs',PsAt p B ts' v' qs' W')):=by
 unfold Reads errF at hR
 have HR:=Lib.hid hR
 have HK:=Lib.hid hk
 have HS:=Lib.hid hst
 clear hR hk hst
 have HI:RowKit.Hid (∀ (ts:List Tok) (v:Value) (qs:List Value) (W:World),PsAt p B ts v qs W→_):=Lib.hid fun ts v qs W (h:PsAt p B ts v qs W)=>pis_any (.slice (some ⟨W.heap.size,0,none⟩) 1 1) [sign] (W.alloc (.cells #[.string sign] 9)) (h.below ((Below.refl _ _).alloc (Nat.le_refl _) _)) (one_text sign B W h.lt)
 go_enter Tryz.func141,Tryz.ntmps141
 go_wp2
 go_loopw [] (fun wr => ∃ (acc:List α) (us:List Tok) (v:Value) (qs:List Value),PsAt p B us v qs wr∧Prs.Endd us∧w0.grownBy wr (some B)∧Ex acc qs wr∧acc.length + us.length≤L∧Tess.Prs.list sign rd ts.length ts=ahead acc (Tess.Prs.list sign rd us.length us)) (fun wr=>restLen B wr)
 case atStart=>exact ⟨[],ts,v,qs,h,he,hG,hE,by simpa using hL,(ahead_nil _).symm⟩
 case round=>
  clear h he hG hE hL
  obtain ⟨acc,us,v,qs,h,he,hG,hE,hL,hQ⟩:=hrel
  have hrl:=h.rest
  have HE:=Lib.hid he
  have HQ:=Lib.hid hQ
  have HL:=Lib.hid hL
  have HC:=Lib.hid (HR.out acc us v qs wr h he hG hE hL)
  clear h he hG hE hL hQ
  go_wp2_with (go_at_call 297;refine HC.out.mono ?_;rintro e w2 ⟨hG2,⟨x,r,v2,qs2,hr,rfl,hP2,hE2⟩ | ⟨k,hr,rfl,hF,hP⟩⟩)
  ·have HI2:=Lib.hid (HI.out r v2 qs2 w2 hP2)
   have HG2:=Lib.hid hG2
   have HX2:=Lib.hid hE2
   have HRR:=Lib.hid hr
   clear hG2 hE2 hr hP2
   cases hT:Prs.isT [sign] r with
   | some r'=>
     have HT:=Lib.hid hT
     rw [hT] at HI2
     clear hT
     go_wp2_with (go_at_call 144;refine HI2.out.mono ?_;rintro e w3 ⟨rfl,hP3⟩;have HP3:=Lib.hid hP3;clear hP3)
     have hk2:=HK.out us x r HE.out HRR.out
     have hk3:=hk2.1.isT HT.out
     have hk4:=hk2.2.length_le
     obtain ⟨v3,hP3,hG3⟩:=HP3.out
     have hP3:PsAt p B r' v3 qs2 _:=hP3
     have hG3':=(grB_below (B:=B) ((Below.refl w2.heap.size w2).alloc (Nat.le_refl _) (.cells #[.string sign] 9))).transB hG3
     have hL3:=HL.out
     go_roundw
     case rel=>
      exact ⟨acc ++ [x],r',v3,qs2,hP3,hk3.1,HG2.out.transB hG3',HS.out _ _ _ _ HG2.out HX2.out hG3',by have:=hk3.2.1;simp only [List.length_append,List.length_cons,List.length_nil];omega,HQ.out.trans (ahead_more HK.out HE.out acc HRR.out HT.out)⟩
     case measure=>rw [hP3.rest,hrl];have:=hk3.2.1;omega
   | none=>
     have HT:=Lib.hid hT
     rw [hT] at HI2
     clear hT
     go_wp2_with (go_at_call 144;refine HI2.out.mono ?_;rintro e w3 ⟨rfl,hP3⟩;have HP3:=Lib.hid hP3;clear hP3)
     go_ret
     obtain ⟨v3,hP3,hG3⟩:=HP3.out
     have hG3':=(grB_below (B:=B) ((Below.refl w2.heap.size w2).alloc (Nat.le_refl _) (.cells #[.string sign] 9))).transB hG3
     exact ⟨HG2.out.transB hG3',Or.inl ⟨acc ++ [x],r,v3,qs2,HQ.out.trans (ahead_last HK.out HE.out acc HRR.out HT.out),rfl,hP3,HS.out _ _ _ _ HG2.out HX2.out hG3'⟩⟩
  ·have HQ2:=Lib.hid (HQ.out.trans (ahead_err HK.out HE.out acc hr))
   have HF:=Lib.hid hF
   have HP:=Lib.hid hP
   have HG2:=Lib.hid hG2
   clear hr hF hP hG2
   go_ret
   exact ⟨HG2.out,Or.inr ⟨k,HQ2.out,rfl,HF.out,HP.out⟩⟩
set_option maxRecDepth 100000 in
set_option maxHeartbeats 2000000 in
theorem list_words {α:Type} {p:Nat→Prop} {B:Nat} {ts:List Tok} {v:Value} {qs:List Value} (sign:ByteArray) (rd:List Tok→Tess.Prs.R α) (c0 c1:Value) (Ex:List α→List Value→World→Prop) (Fx:World→Prop) (L:Nat) (w0 w:World)
  (h:PsAt p B ts v qs w) (he:Prs.Endd ts) (hk:Prs.Keeps rd) (hG:w0.grownBy w (some B)) (hE:Ex [] qs w) (hL:ts.length≤L) (hst:∀ acc,Steady B w0 (Ex acc)) (hR:Reads 345 #[c0,c1] p B w0 rd Ex Fx L) :
  Calls Tryz.prog 141 #[.pointer (some ⟨B,0,none⟩),.string sign,.func (.func 345) #[] #[c0,c1]] w fun e W'=>w0.grownBy W' (some B) ∧
   ((∃ l r v' qs',Tess.Prs.list sign rd ts.length ts = .ok (l,r)∧e = .returned .nilIface∧PsAt p B r v' qs' W'∧Ex l qs' W')∨(∃ k,Tess.Prs.list sign rd ts.length ts = .error k∧e = .returned (errF k)∧Fx W'∧∃ ts' v' qs',PsAt p B ts' v' qs' W')):=by
 unfold Reads errF at hR
 have HR:=Lib.hid hR
 have HK:=Lib.hid hk
 have HS:=Lib.hid hst
 clear hR hk hst
 have HI:RowKit.Hid (∀ (ts:List Tok) (v:Value) (qs:List Value) (W:World),PsAt p B ts v qs W→_):=Lib.hid fun ts v qs W (h:PsAt p B ts v qs W)=>pis_any (.slice (some ⟨W.heap.size,0,none⟩) 1 1) [sign] (W.alloc (.cells #[.string sign] 9)) (h.below ((Below.refl _ _).alloc (Nat.le_refl _) _)) (one_text sign B W h.lt)
 go_enter Tryz.func141,Tryz.ntmps141
 go_wp2
 go_loopw [] (fun wr => ∃ (acc:List α) (us:List Tok) (v:Value) (qs:List Value),PsAt p B us v qs wr∧Prs.Endd us∧w0.grownBy wr (some B)∧Ex acc qs wr∧acc.length + us.length≤L∧Tess.Prs.list sign rd ts.length ts=ahead acc (Tess.Prs.list sign rd us.length us)) (fun wr=>restLen B wr)
 case atStart=>exact ⟨[],ts,v,qs,h,he,hG,hE,by simpa using hL,(ahead_nil _).symm⟩
 case round=>
  clear h he hG hE hL
  obtain ⟨acc,us,v,qs,h,he,hG,hE,hL,hQ⟩:=hrel
  have hrl:=h.rest
  have HE:=Lib.hid he
  have HQ:=Lib.hid hQ
  have HL:=Lib.hid hL
  have HC:=Lib.hid (HR.out acc us v qs wr h he hG hE hL)
  clear h he hG hE hL hQ
  go_wp2_with (go_at_call 345;refine HC.out.mono ?_;rintro e w2 ⟨hG2,⟨x,r,v2,qs2,hr,rfl,hP2,hE2⟩ | ⟨k,hr,rfl,hF,hP⟩⟩)
  ·have HI2:=Lib.hid (HI.out r v2 qs2 w2 hP2)
   have HG2:=Lib.hid hG2
   have HX2:=Lib.hid hE2
   have HRR:=Lib.hid hr
   clear hG2 hE2 hr hP2
   cases hT:Prs.isT [sign] r with
   | some r'=>
     have HT:=Lib.hid hT
     rw [hT] at HI2
     clear hT
     go_wp2_with (go_at_call 144;refine HI2.out.mono ?_;rintro e w3 ⟨rfl,hP3⟩;have HP3:=Lib.hid hP3;clear hP3)
     have hk2:=HK.out us x r HE.out HRR.out
     have hk3:=hk2.1.isT HT.out
     have hk4:=hk2.2.length_le
     obtain ⟨v3,hP3,hG3⟩:=HP3.out
     have hP3:PsAt p B r' v3 qs2 _:=hP3
     have hG3':=(grB_below (B:=B) ((Below.refl w2.heap.size w2).alloc (Nat.le_refl _) (.cells #[.string sign] 9))).transB hG3
     have hL3:=HL.out
     go_roundw
     case rel=>
      exact ⟨acc ++ [x],r',v3,qs2,hP3,hk3.1,HG2.out.transB hG3',HS.out _ _ _ _ HG2.out HX2.out hG3',by have:=hk3.2.1;simp only [List.length_append,List.length_cons,List.length_nil];omega,HQ.out.trans (ahead_more HK.out HE.out acc HRR.out HT.out)⟩
     case measure=>rw [hP3.rest,hrl];have:=hk3.2.1;omega
   | none=>
     have HT:=Lib.hid hT
     rw [hT] at HI2
     clear hT
     go_wp2_with (go_at_call 144;refine HI2.out.mono ?_;rintro e w3 ⟨rfl,hP3⟩;have HP3:=Lib.hid hP3;clear hP3)
     go_ret
     obtain ⟨v3,hP3,hG3⟩:=HP3.out
     have hG3':=(grB_below (B:=B) ((Below.refl w2.heap.size w2).alloc (Nat.le_refl _) (.cells #[.string sign] 9))).transB hG3
     exact ⟨HG2.out.transB hG3',Or.inl ⟨acc ++ [x],r,v3,qs2,HQ.out.trans (ahead_last HK.out HE.out acc HRR.out HT.out),rfl,hP3,HS.out _ _ _ _ HG2.out HX2.out hG3'⟩⟩
  ·have HQ2:=Lib.hid (HQ.out.trans (ahead_err HK.out HE.out acc hr))
   have HF:=Lib.hid hF
   have HP:=Lib.hid hP
   have HG2:=Lib.hid hG2
   clear hr hF hP hG2
   go_ret
   exact ⟨HG2.out,Or.inr ⟨k,HQ2.out,rfl,HF.out,HP.out⟩⟩
set_option maxRecDepth 100000 in
set_option maxHeartbeats 2000000 in
theorem list_several {α:Type} {p:Nat→Prop} {B:Nat} {ts:List Tok} {v:Value} {qs:List Value} (sign:ByteArray) (rd:List Tok→Tess.Prs.R α) (c0 c1:Value) (Ex:List α→List Value→World→Prop) (Fx:World→Prop) (L:Nat) (w0 w:World)
  (h:PsAt p B ts v qs w) (he:Prs.Endd ts) (hk:Prs.Keeps rd) (hG:w0.grownBy w (some B)) (hE:Ex [] qs w) (hL:ts.length≤L) (hst:∀ acc,Steady B w0 (Ex acc)) (hR:Reads 325 #[c0,c1] p B w0 rd Ex Fx L) :
  Calls Tryz.prog 141 #[.pointer (some ⟨B,0,none⟩),.string sign,.func (.func 325) #[] #[c0,c1]] w fun e W'=>w0.grownBy W' (some B) ∧
   ((∃ l r v' qs',Tess.Prs.list sign rd ts.length ts = .ok (l,r)∧e = .returned .nilIface∧PsAt p B r v' qs' W'∧Ex l qs' W')∨(∃ k,Tess.Prs.list sign rd ts.length ts = .error k∧e = .returned (errF k)∧Fx W'∧∃ ts' v' qs',PsAt p B ts' v' qs' W')):=by
 unfold Reads errF at hR
 have HR:=Lib.hid hR
 have HK:=Lib.hid hk
 have HS:=Lib.hid hst
 clear hR hk hst
 have HI:RowKit.Hid (∀ (ts:List Tok) (v:Value) (qs:List Value) (W:World),PsAt p B ts v qs W→_):=Lib.hid fun ts v qs W (h:PsAt p B ts v qs W)=>pis_any (.slice (some ⟨W.heap.size,0,none⟩) 1 1) [sign] (W.alloc (.cells #[.string sign] 9)) (h.below ((Below.refl _ _).alloc (Nat.le_refl _) _)) (one_text sign B W h.lt)
 go_enter Tryz.func141,Tryz.ntmps141
 go_wp2
 go_loopw [] (fun wr => ∃ (acc:List α) (us:List Tok) (v:Value) (qs:List Value),PsAt p B us v qs wr∧Prs.Endd us∧w0.grownBy wr (some B)∧Ex acc qs wr∧acc.length + us.length≤L∧Tess.Prs.list sign rd ts.length ts=ahead acc (Tess.Prs.list sign rd us.length us)) (fun wr=>restLen B wr)
 case atStart=>exact ⟨[],ts,v,qs,h,he,hG,hE,by simpa using hL,(ahead_nil _).symm⟩
 case round=>
  clear h he hG hE hL
  obtain ⟨acc,us,v,qs,h,he,hG,hE,hL,hQ⟩:=hrel
  have hrl:=h.rest
  have HE:=Lib.hid he
  have HQ:=Lib.hid hQ
  have HL:=Lib.hid hL
  have HC:=Lib.hid (HR.out acc us v qs wr h he hG hE hL)
  clear h he hG hE hL hQ
  go_wp2_with (go_at_call 325;refine HC.out.mono ?_;rintro e w2 ⟨hG2,⟨x,r,v2,qs2,hr,rfl,hP2,hE2⟩ | ⟨k,hr,rfl,hF,hP⟩⟩)
  ·have HI2:=Lib.hid (HI.out r v2 qs2 w2 hP2)
   have HG2:=Lib.hid hG2
   have HX2:=Lib.hid hE2
   have HRR:=Lib.hid hr
   clear hG2 hE2 hr hP2
   cases hT:Prs.isT [sign] r with
   | some r'=>
     have HT:=Lib.hid hT
     rw [hT] at HI2
     clear hT
     go_wp2_with (go_at_call 144;refine HI2.out.mono ?_;rintro e w3 ⟨rfl,hP3⟩;have HP3:=Lib.hid hP3;clear hP3)
     have hk2:=HK.out us x r HE.out HRR.out
     have hk3:=hk2.1.isT HT.out
     have hk4:=hk2.2.length_le
     obtain ⟨v3,hP3,hG3⟩:=HP3.out
     have hP3:PsAt p B r' v3 qs2 _:=hP3
     have hG3':=(grB_below (B:=B) ((Below.refl w2.heap.size w2).alloc (Nat.le_refl _) (.cells #[.string sign] 9))).transB hG3
     have hL3:=HL.out
     go_roundw
     case rel=>
      exact ⟨acc ++ [x],r',v3,qs2,hP3,hk3.1,HG2.out.transB hG3',HS.out _ _ _ _ HG2.out HX2.out hG3',by have:=hk3.2.1;simp only [List.length_append,List.length_cons,List.length_nil];omega,HQ.out.trans (ahead_more HK.out HE.out acc HRR.out HT.out)⟩
     case measure=>rw [hP3.rest,hrl];have:=hk3.2.1;omega
   | none=>
     have HT:=Lib.hid hT
     rw [hT] at HI2
     clear hT
     go_wp2_with (go_at_call 144;refine HI2.out.mono ?_;rintro e w3 ⟨rfl,hP3⟩;have HP3:=Lib.hid hP3;clear hP3)
     go_ret
     obtain ⟨v3,hP3,hG3⟩:=HP3.out
     have hG3':=(grB_below (B:=B) ((Below.refl w2.heap.size w2).alloc (Nat.le_refl _) (.cells #[.string sign] 9))).transB hG3
     exact ⟨HG2.out.transB hG3',Or.inl ⟨acc ++ [x],r,v3,qs2,HQ.out.trans (ahead_last HK.out HE.out acc HRR.out HT.out),rfl,hP3,HS.out _ _ _ _ HG2.out HX2.out hG3'⟩⟩
  ·have HQ2:=Lib.hid (HQ.out.trans (ahead_err HK.out HE.out acc hr))
   have HF:=Lib.hid hF
   have HP:=Lib.hid hP
   have HG2:=Lib.hid hG2
   clear hr hF hP hG2
   go_ret
   exact ⟨HG2.out,Or.inr ⟨k,HQ2.out,rfl,HF.out,HP.out⟩⟩
set_option maxRecDepth 100000 in
set_option maxHeartbeats 2000000 in
theorem list_agg {α:Type} {p:Nat→Prop} {B:Nat} {ts:List Tok} {v:Value} {qs:List Value} (sign:ByteArray) (rd:List Tok→Tess.Prs.R α) (Ex:List α→List Value→World→Prop) (Fx:World→Prop) (L:Nat) (w0 w:World)
  (h:PsAt p B ts v qs w) (he:Prs.Endd ts) (hk:Prs.Keeps rd) (hG:w0.grownBy w (some B)) (hE:Ex [] qs w) (hL:ts.length≤L) (hst:∀ acc,Steady B w0 (Ex acc)) (hR:Reads 142 #[.pointer (some ⟨B,0,none⟩)] p B w0 rd Ex Fx L) :
  Calls Tryz.prog 141 #[.pointer (some ⟨B,0,none⟩),.string sign,.func (.func 142) #[.pointer (some ⟨B,0,none⟩)] #[]] w fun e W'=>w0.grownBy W' (some B) ∧
   ((∃ l r v' qs',Tess.Prs.list sign rd ts.length ts = .ok (l,r)∧e = .returned .nilIface∧PsAt p B r v' qs' W'∧Ex l qs' W')∨(∃ k,Tess.Prs.list sign rd ts.length ts = .error k∧e = .returned (errF k)∧Fx W'∧∃ ts' v' qs',PsAt p B ts' v' qs' W')):=by
 unfold Reads errF at hR
 have HR:=Lib.hid hR
 have HK:=Lib.hid hk
 have HS:=Lib.hid hst
 clear hR hk hst
 have HI:RowKit.Hid (∀ (ts:List Tok) (v:Value) (qs:List Value) (W:World),PsAt p B ts v qs W→_):=Lib.hid fun ts v qs W (h:PsAt p B ts v qs W)=>pis_any (.slice (some ⟨W.heap.size,0,none⟩) 1 1) [sign] (W.alloc (.cells #[.string sign] 9)) (h.below ((Below.refl _ _).alloc (Nat.le_refl _) _)) (one_text sign B W h.lt)
 go_enter Tryz.func141,Tryz.ntmps141
 go_wp2
 go_loopw [] (fun wr => ∃ (acc:List α) (us:List Tok) (v:Value) (qs:List Value),PsAt p B us v qs wr∧Prs.Endd us∧w0.grownBy wr (some B)∧Ex acc qs wr∧acc.length + us.length≤L∧Tess.Prs.list sign rd ts.length ts=ahead acc (Tess.Prs.list sign rd us.length us)) (fun wr=>restLen B wr)
 case atStart=>exact ⟨[],ts,v,qs,h,he,hG,hE,by simpa using hL,(ahead_nil _).symm⟩
 case round=>
  clear h he hG hE hL
  obtain ⟨acc,us,v,qs,h,he,hG,hE,hL,hQ⟩:=hrel
  have hrl:=h.rest
  have HE:=Lib.hid he
  have HQ:=Lib.hid hQ
  have HL:=Lib.hid hL
  have HC:=Lib.hid (HR.out acc us v qs wr h he hG hE hL)
  clear h he hG hE hL hQ
  go_wp2_with (go_at_call 142;refine HC.out.mono ?_;rintro e w2 ⟨hG2,⟨x,r,v2,qs2,hr,rfl,hP2,hE2⟩ | ⟨k,hr,rfl,hF,hP⟩⟩)
  ·have HI2:=Lib.hid (HI.out r v2 qs2 w2 hP2)
   have HG2:=Lib.hid hG2
   have HX2:=Lib.hid hE2
   have HRR:=Lib.hid hr
   clear hG2 hE2 hr hP2
   cases hT:Prs.isT [sign] r with
   | some r'=>
     have HT:=Lib.hid hT
     rw [hT] at HI2
     clear hT
     go_wp2_with (go_at_call 144;refine HI2.out.mono ?_;rintro e w3 ⟨rfl,hP3⟩;have HP3:=Lib.hid hP3;clear hP3)
     have hk2:=HK.out us x r HE.out HRR.out
     have hk3:=hk2.1.isT HT.out
     have hk4:=hk2.2.length_le
     obtain ⟨v3,hP3,hG3⟩:=HP3.out
     have hP3:PsAt p B r' v3 qs2 _:=hP3
     have hG3':=(grB_below (B:=B) ((Below.refl w2.heap.size w2).alloc (Nat.le_refl _) (.cells #[.string sign] 9))).transB hG3
     have hL3:=HL.out
     go_roundw
     case rel=>
      exact ⟨acc ++ [x],r',v3,qs2,hP3,hk3.1,HG2.out.transB hG3',HS.out _ _ _ _ HG2.out HX2.out hG3',by have:=hk3.2.1;simp only [List.length_append,List.length_cons,List.length_nil];omega,HQ.out.trans (ahead_more HK.out HE.out acc HRR.out HT.out)⟩
     case measure=>rw [hP3.rest,hrl];have:=hk3.2.1;omega
   | none=>
     have HT:=Lib.hid hT
     rw [hT] at HI2
     clear hT
     go_wp2_with (go_at_call 144;refine HI2.out.mono ?_;rintro e w3 ⟨rfl,hP3⟩;have HP3:=Lib.hid hP3;clear hP3)
     go_ret
     obtain ⟨v3,hP3,hG3⟩:=HP3.out
     have hG3':=(grB_below (B:=B) ((Below.refl w2.heap.size w2).alloc (Nat.le_refl _) (.cells #[.string sign] 9))).transB hG3
     exact ⟨HG2.out.transB hG3',Or.inl ⟨acc ++ [x],r,v3,qs2,HQ.out.trans (ahead_last HK.out HE.out acc HRR.out HT.out),rfl,hP3,HS.out _ _ _ _ HG2.out HX2.out hG3'⟩⟩
  ·have HQ2:=Lib.hid (HQ.out.trans (ahead_err HK.out HE.out acc hr))
   have HF:=Lib.hid hF
   have HP:=Lib.hid hP
   have HG2:=Lib.hid hG2
   clear hr hF hP hG2
   go_ret
   exact ⟨HG2.out,Or.inr ⟨k,HQ2.out,rfl,HF.out,HP.out⟩⟩
set_option maxRecDepth 100000 in
set_option maxHeartbeats 2000000 in
theorem list_set {α:Type} {p:Nat→Prop} {B:Nat} {ts:List Tok} {v:Value} {qs:List Value} (sign:ByteArray) (rd:List Tok→Tess.Prs.R α) (Ex:List α→List Value→World→Prop) (Fx:World→Prop) (L:Nat) (w0 w:World)
  (h:PsAt p B ts v qs w) (he:Prs.Endd ts) (hk:Prs.Keeps rd) (hG:w0.grownBy w (some B)) (hE:Ex [] qs w) (hL:ts.length≤L) (hst:∀ acc,Steady B w0 (Ex acc)) (hR:Reads 267 #[.pointer (some ⟨B,0,none⟩)] p B w0 rd Ex Fx L) :
  Calls Tryz.prog 141 #[.pointer (some ⟨B,0,none⟩),.string sign,.func (.func 267) #[.pointer (some ⟨B,0,none⟩)] #[]] w fun e W'=>w0.grownBy W' (some B) ∧
   ((∃ l r v' qs',Tess.Prs.list sign rd ts.length ts = .ok (l,r)∧e = .returned .nilIface∧PsAt p B r v' qs' W'∧Ex l qs' W')∨(∃ k,Tess.Prs.list sign rd ts.length ts = .error k∧e = .returned (errF k)∧Fx W'∧∃ ts' v' qs',PsAt p B ts' v' qs' W')):=by
 unfold Reads errF at hR
 have HR:=Lib.hid hR
 have HK:=Lib.hid hk
 have HS:=Lib.hid hst
 clear hR hk hst
 have HI:RowKit.Hid (∀ (ts:List Tok) (v:Value) (qs:List Value) (W:World),PsAt p B ts v qs W→_):=Lib.hid fun ts v qs W (h:PsAt p B ts v qs W)=>pis_any (.slice (some ⟨W.heap.size,0,none⟩) 1 1) [sign] (W.alloc (.cells #[.string sign] 9)) (h.below ((Below.refl _ _).alloc (Nat.le_refl _) _)) (one_text sign B W h.lt)
 go_enter Tryz.func141,Tryz.ntmps141
 go_wp2
 go_loopw [] (fun wr => ∃ (acc:List α) (us:List Tok) (v:Value) (qs:List Value),PsAt p B us v qs wr∧Prs.Endd us∧w0.grownBy wr (some B)∧Ex acc qs wr∧acc.length + us.length≤L∧Tess.Prs.list sign rd ts.length ts=ahead acc (Tess.Prs.list sign rd us.length us)) (fun wr=>restLen B wr)
 case atStart=>exact ⟨[],ts,v,qs,h,he,hG,hE,by simpa using hL,(ahead_nil _).symm⟩
 case round=>
  clear h he hG hE hL
  obtain ⟨acc,us,v,qs,h,he,hG,hE,hL,hQ⟩:=hrel
  have hrl:=h.rest
  have HE:=Lib.hid he
  have HQ:=Lib.hid hQ
  have HL:=Lib.hid hL
  have HC:=Lib.hid (HR.out acc us v qs wr h he hG hE hL)
  clear h he hG hE hL hQ
  go_wp2_with (go_at_call 267;refine HC.out.mono ?_;rintro e w2 ⟨hG2,⟨x,r,v2,qs2,hr,rfl,hP2,hE2⟩ | ⟨k,hr,rfl,hF,hP⟩⟩)
  ·have HI2:=Lib.hid (HI.out r v2 qs2 w2 hP2)
   have HG2:=Lib.hid hG2
   have HX2:=Lib.hid hE2
   have HRR:=Lib.hid hr
   clear hG2 hE2 hr hP2
   cases hT:Prs.isT [sign] r with
   | some r'=>
     have HT:=Lib.hid hT
     rw [hT] at HI2
     clear hT
     go_wp2_with (go_at_call 144;refine HI2.out.mono ?_;rintro e w3 ⟨rfl,hP3⟩;have HP3:=Lib.hid hP3;clear hP3)
     have hk2:=HK.out us x r HE.out HRR.out
     have hk3:=hk2.1.isT HT.out
     have hk4:=hk2.2.length_le
     obtain ⟨v3,hP3,hG3⟩:=HP3.out
     have hP3:PsAt p B r' v3 qs2 _:=hP3
     have hG3':=(grB_below (B:=B) ((Below.refl w2.heap.size w2).alloc (Nat.le_refl _) (.cells #[.string sign] 9))).transB hG3
     have hL3:=HL.out
     go_roundw
     case rel=>
      exact ⟨acc ++ [x],r',v3,qs2,hP3,hk3.1,HG2.out.transB hG3',HS.out _ _ _ _ HG2.out HX2.out hG3',by have:=hk3.2.1;simp only [List.length_append,List.length_cons,List.length_nil];omega,HQ.out.trans (ahead_more HK.out HE.out acc HRR.out HT.out)⟩
     case measure=>rw [hP3.rest,hrl];have:=hk3.2.1;omega
   | none=>
     have HT:=Lib.hid hT
     rw [hT] at HI2
     clear hT
     go_wp2_with (go_at_call 144;refine HI2.out.mono ?_;rintro e w3 ⟨rfl,hP3⟩;have HP3:=Lib.hid hP3;clear hP3)
     go_ret
     obtain ⟨v3,hP3,hG3⟩:=HP3.out
     have hG3':=(grB_below (B:=B) ((Below.refl w2.heap.size w2).alloc (Nat.le_refl _) (.cells #[.string sign] 9))).transB hG3
     exact ⟨HG2.out.transB hG3',Or.inl ⟨acc ++ [x],r,v3,qs2,HQ.out.trans (ahead_last HK.out HE.out acc HRR.out HT.out),rfl,hP3,HS.out _ _ _ _ HG2.out HX2.out hG3'⟩⟩
  ·have HQ2:=Lib.hid (HQ.out.trans (ahead_err HK.out HE.out acc hr))
   have HF:=Lib.hid hF
   have HP:=Lib.hid hP
   have HG2:=Lib.hid hG2
   clear hr hF hP hG2
   go_ret
   exact ⟨HG2.out,Or.inr ⟨k,HQ2.out,rfl,HF.out,HP.out⟩⟩
set_option maxRecDepth 100000 in
set_option maxHeartbeats 2000000 in
theorem list_cond {α:Type} {p:Nat→Prop} {B:Nat} {ts:List Tok} {v:Value} {qs:List Value} (sign:ByteArray) (rd:List Tok→Tess.Prs.R α) (Ex:List α→List Value→World→Prop) (Fx:World→Prop) (L:Nat) (w0 w:World)
  (h:PsAt p B ts v qs w) (he:Prs.Endd ts) (hk:Prs.Keeps rd) (hG:w0.grownBy w (some B)) (hE:Ex [] qs w) (hL:ts.length≤L) (hst:∀ acc,Steady B w0 (Ex acc)) (hR:Reads 270 #[.pointer (some ⟨B,0,none⟩)] p B w0 rd Ex Fx L) :
  Calls Tryz.prog 141 #[.pointer (some ⟨B,0,none⟩),.string sign,.func (.func 270) #[.pointer (some ⟨B,0,none⟩)] #[]] w fun e W'=>w0.grownBy W' (some B) ∧
   ((∃ l r v' qs',Tess.Prs.list sign rd ts.length ts = .ok (l,r)∧e = .returned .nilIface∧PsAt p B r v' qs' W'∧Ex l qs' W')∨(∃ k,Tess.Prs.list sign rd ts.length ts = .error k∧e = .returned (errF k)∧Fx W'∧∃ ts' v' qs',PsAt p B ts' v' qs' W')):=by
 unfold Reads errF at hR
 have HR:=Lib.hid hR
 have HK:=Lib.hid hk
 have HS:=Lib.hid hst
 clear hR hk hst
 have HI:RowKit.Hid (∀ (ts:List Tok) (v:Value) (qs:List Value) (W:World),PsAt p B ts v qs W→_):=Lib.hid fun ts v qs W (h:PsAt p B ts v qs W)=>pis_any (.slice (some ⟨W.heap.size,0,none⟩) 1 1) [sign] (W.alloc (.cells #[.string sign] 9)) (h.below ((Below.refl _ _).alloc (Nat.le_refl _) _)) (one_text sign B W h.lt)
 go_enter Tryz.func141,Tryz.ntmps141
 go_wp2
 go_loopw [] (fun wr => ∃ (acc:List α) (us:List Tok) (v:Value) (qs:List Value),PsAt p B us v qs wr∧Prs.Endd us∧w0.grownBy wr (some B)∧Ex acc qs wr∧acc.length + us.length≤L∧Tess.Prs.list sign rd ts.length ts=ahead acc (Tess.Prs.list sign rd us.length us)) (fun wr=>restLen B wr)
 case atStart=>exact ⟨[],ts,v,qs,h,he,hG,hE,by simpa using hL,(ahead_nil _).symm⟩
 case round=>
  clear h he hG hE hL
  obtain ⟨acc,us,v,qs,h,he,hG,hE,hL,hQ⟩:=hrel
  have hrl:=h.rest
  have HE:=Lib.hid he
  have HQ:=Lib.hid hQ
  have HL:=Lib.hid hL
  have HC:=Lib.hid (HR.out acc us v qs wr h he hG hE hL)
  clear h he hG hE hL hQ
  go_wp2_with (go_at_call 270;refine HC.out.mono ?_;rintro e w2 ⟨hG2,⟨x,r,v2,qs2,hr,rfl,hP2,hE2⟩ | ⟨k,hr,rfl,hF,hP⟩⟩)
  ·have HI2:=Lib.hid (HI.out r v2 qs2 w2 hP2)
   have HG2:=Lib.hid hG2
   have HX2:=Lib.hid hE2
   have HRR:=Lib.hid hr
   clear hG2 hE2 hr hP2
   cases hT:Prs.isT [sign] r with
   | some r'=>
     have HT:=Lib.hid hT
     rw [hT] at HI2
     clear hT
     go_wp2_with (go_at_call 144;refine HI2.out.mono ?_;rintro e w3 ⟨rfl,hP3⟩;have HP3:=Lib.hid hP3;clear hP3)
     have hk2:=HK.out us x r HE.out HRR.out
     have hk3:=hk2.1.isT HT.out
     have hk4:=hk2.2.length_le
     obtain ⟨v3,hP3,hG3⟩:=HP3.out
     have hP3:PsAt p B r' v3 qs2 _:=hP3
     have hG3':=(grB_below (B:=B) ((Below.refl w2.heap.size w2).alloc (Nat.le_refl _) (.cells #[.string sign] 9))).transB hG3
     have hL3:=HL.out
     go_roundw
     case rel=>
      exact ⟨acc ++ [x],r',v3,qs2,hP3,hk3.1,HG2.out.transB hG3',HS.out _ _ _ _ HG2.out HX2.out hG3',by have:=hk3.2.1;simp only [List.length_append,List.length_cons,List.length_nil];omega,HQ.out.trans (ahead_more HK.out HE.out acc HRR.out HT.out)⟩
     case measure=>rw [hP3.rest,hrl];have:=hk3.2.1;omega
   | none=>
     have HT:=Lib.hid hT
     rw [hT] at HI2
     clear hT
     go_wp2_with (go_at_call 144;refine HI2.out.mono ?_;rintro e w3 ⟨rfl,hP3⟩;have HP3:=Lib.hid hP3;clear hP3)
     go_ret
     obtain ⟨v3,hP3,hG3⟩:=HP3.out
     have hG3':=(grB_below (B:=B) ((Below.refl w2.heap.size w2).alloc (Nat.le_refl _) (.cells #[.string sign] 9))).transB hG3
     exact ⟨HG2.out.transB hG3',Or.inl ⟨acc ++ [x],r,v3,qs2,HQ.out.trans (ahead_last HK.out HE.out acc HRR.out HT.out),rfl,hP3,HS.out _ _ _ _ HG2.out HX2.out hG3'⟩⟩
  ·have HQ2:=Lib.hid (HQ.out.trans (ahead_err HK.out HE.out acc hr))
   have HF:=Lib.hid hF
   have HP:=Lib.hid hP
   have HG2:=Lib.hid hG2
   clear hr hF hP hG2
   go_ret
   exact ⟨HG2.out,Or.inr ⟨k,HQ2.out,rfl,HF.out,HP.out⟩⟩
set_option maxRecDepth 100000 in
set_option maxHeartbeats 2000000 in
theorem list_key {α:Type} {p:Nat→Prop} {B:Nat} {ts:List Tok} {v:Value} {qs:List Value} (sign:ByteArray) (rd:List Tok→Tess.Prs.R α) (Ex:List α→List Value→World→Prop) (Fx:World→Prop) (L:Nat) (w0 w:World)
  (h:PsAt p B ts v qs w) (he:Prs.Endd ts) (hk:Prs.Keeps rd) (hG:w0.grownBy w (some B)) (hE:Ex [] qs w) (hL:ts.length≤L) (hst:∀ acc,Steady B w0 (Ex acc)) (hR:Reads 271 #[.pointer (some ⟨B,0,none⟩)] p B w0 rd Ex Fx L) :
  Calls Tryz.prog 141 #[.pointer (some ⟨B,0,none⟩),.string sign,.func (.func 271) #[.pointer (some ⟨B,0,none⟩)] #[]] w fun e W'=>w0.grownBy W' (some B) ∧
   ((∃ l r v' qs',Tess.Prs.list sign rd ts.length ts = .ok (l,r)∧e = .returned .nilIface∧PsAt p B r v' qs' W'∧Ex l qs' W')∨(∃ k,Tess.Prs.list sign rd ts.length ts = .error k∧e = .returned (errF k)∧Fx W'∧∃ ts' v' qs',PsAt p B ts' v' qs' W')):=by
 unfold Reads errF at hR
 have HR:=Lib.hid hR
 have HK:=Lib.hid hk
 have HS:=Lib.hid hst
 clear hR hk hst
 have HI:RowKit.Hid (∀ (ts:List Tok) (v:Value) (qs:List Value) (W:World),PsAt p B ts v qs W→_):=Lib.hid fun ts v qs W (h:PsAt p B ts v qs W)=>pis_any (.slice (some ⟨W.heap.size,0,none⟩) 1 1) [sign] (W.alloc (.cells #[.string sign] 9)) (h.below ((Below.refl _ _).alloc (Nat.le_refl _) _)) (one_text sign B W h.lt)
 go_enter Tryz.func141,Tryz.ntmps141
 go_wp2
 go_loopw [] (fun wr => ∃ (acc:List α) (us:List Tok) (v:Value) (qs:List Value),PsAt p B us v qs wr∧Prs.Endd us∧w0.grownBy wr (some B)∧Ex acc qs wr∧acc.length + us.length≤L∧Tess.Prs.list sign rd ts.length ts=ahead acc (Tess.Prs.list sign rd us.length us)) (fun wr=>restLen B wr)
 case atStart=>exact ⟨[],ts,v,qs,h,he,hG,hE,by simpa using hL,(ahead_nil _).symm⟩
 case round=>
  clear h he hG hE hL
  obtain ⟨acc,us,v,qs,h,he,hG,hE,hL,hQ⟩:=hrel
  have hrl:=h.rest
  have HE:=Lib.hid he
  have HQ:=Lib.hid hQ
  have HL:=Lib.hid hL
  have HC:=Lib.hid (HR.out acc us v qs wr h he hG hE hL)
  clear h he hG hE hL hQ
  go_wp2_with (go_at_call 271;refine HC.out.mono ?_;rintro e w2 ⟨hG2,⟨x,r,v2,qs2,hr,rfl,hP2,hE2⟩ | ⟨k,hr,rfl,hF,hP⟩⟩)
  ·have HI2:=Lib.hid (HI.out r v2 qs2 w2 hP2)
   have HG2:=Lib.hid hG2
   have HX2:=Lib.hid hE2
   have HRR:=Lib.hid hr
   clear hG2 hE2 hr hP2
   cases hT:Prs.isT [sign] r with
   | some r'=>
     have HT:=Lib.hid hT
     rw [hT] at HI2
     clear hT
     go_wp2_with (go_at_call 144;refine HI2.out.mono ?_;rintro e w3 ⟨rfl,hP3⟩;have HP3:=Lib.hid hP3;clear hP3)
     have hk2:=HK.out us x r HE.out HRR.out
     have hk3:=hk2.1.isT HT.out
     have hk4:=hk2.2.length_le
     obtain ⟨v3,hP3,hG3⟩:=HP3.out
     have hP3:PsAt p B r' v3 qs2 _:=hP3
     have hG3':=(grB_below (B:=B) ((Below.refl w2.heap.size w2).alloc (Nat.le_refl _) (.cells #[.string sign] 9))).transB hG3
     have hL3:=HL.out
     go_roundw
     case rel=>
      exact ⟨acc ++ [x],r',v3,qs2,hP3,hk3.1,HG2.out.transB hG3',HS.out _ _ _ _ HG2.out HX2.out hG3',by have:=hk3.2.1;simp only [List.length_append,List.length_cons,List.length_nil];omega,HQ.out.trans (ahead_more HK.out HE.out acc HRR.out HT.out)⟩
     case measure=>rw [hP3.rest,hrl];have:=hk3.2.1;omega
   | none=>
     have HT:=Lib.hid hT
     rw [hT] at HI2
     clear hT
     go_wp2_with (go_at_call 144;refine HI2.out.mono ?_;rintro e w3 ⟨rfl,hP3⟩;have HP3:=Lib.hid hP3;clear hP3)
     go_ret
     obtain ⟨v3,hP3,hG3⟩:=HP3.out
     have hG3':=(grB_below (B:=B) ((Below.refl w2.heap.size w2).alloc (Nat.le_refl _) (.cells #[.string sign] 9))).transB hG3
     exact ⟨HG2.out.transB hG3',Or.inl ⟨acc ++ [x],r,v3,qs2,HQ.out.trans (ahead_last HK.out HE.out acc HRR.out HT.out),rfl,hP3,HS.out _ _ _ _ HG2.out HX2.out hG3'⟩⟩
  ·have HQ2:=Lib.hid (HQ.out.trans (ahead_err HK.out HE.out acc hr))
   have HF:=Lib.hid hF
   have HP:=Lib.hid hP
   have HG2:=Lib.hid hG2
   clear hr hF hP hG2
   go_ret
   exact ⟨HG2.out,Or.inr ⟨k,HQ2.out,rfl,HF.out,HP.out⟩⟩
end Go.Proofs.YtbbgjjjeecfnoaaGreatDoor
namespace Go.Proofs.YtbbgjjjeecfnoaaGreatDoor
open Go.RowKit Go.Sort
open Tess (Fil Tok Prs.next Prs.skip Prs.isT Prs.Endd Prs.Keeps)
section
variable {p:Nat→Prop} {B N:Nat} {ts:List Tok} {v:Value} {qs:List Value} {w w' W:World}
theorem PsAt.later (h:PsAt p B ts v qs w) (hp:∀ b,p b→b < N) (hB:B < N) {row:Option Nat} (k:w.grownBy w' row) (hr:∀ j,row=some j→N≤j):PsAt p B ts v qs w':=
 ⟨(k.block _ h.lt (by intro e;have:=hr _ e.symm;omega)).trans h.k,h.n,h.t.ag (Ag.grown k fun j e hpj=>by have h1:=hr _ e;have h2:=hp _ hpj;omega),h.ok,h.ne,h.b⟩
theorem _root_.Go.World.grownBy.row (h:w.grownBy W (some B)) {row:Option Nat} (k:W.grownBy w' row) (hr:∀ j,row=some j→w.heap.size≤j):w.grownBy w' (some B):=
 ⟨k.os.trans h.os,k.tape.trans h.tape,k.output.trans h.output,Nat.le_trans h.size k.size,fun i hi e=>(k.block i (Nat.lt_of_lt_of_le hi h.size) (by intro e2;have:=hr _ e2.symm;omega)).trans (h.block i hi e)⟩
theorem grB_alloc (w:World) (o:Obj) (B:Nat):w.grownBy (w.alloc o) (some B):=grB_below ((Below.refl _ _).alloc (Nat.le_refl _) _)
end
theorem take1_any {p:Nat→Prop} {B:Nat} {ts:List Tok} {v:Value} {qs:List Value} (K:Nat) (w:World) (h:PsAt p B ts v qs w) :
  Calls Tryz.prog 145 #[.pointer (some ⟨B,0,none⟩),.int .i64 K] w fun e w' => ∃ x0 x1 x2 x3 x4 err r v',e = .returned (.tuple #[.agg #[.int .i64 x0,.int .i64 x1,.int .i64 x2,.string x3,.int .i64 x4],err])∧PsAt p B r v' qs w'∧w.grownBy w' (some B)∧x3.size≤maxLen ∧
   ((Tess.Prs.take K ts = .ok (x3,r)∧err = .nilIface)∨(∃ k,Tess.Prs.take K ts = .error k∧err=errF k)):=by
 refine (take_any K w h).mono ?_
 have hx:(Prs.next ts).text.size≤maxLen:=by
  have hne:=h.ne
  cases ts with
  | nil=>exact absurd rfl hne
  | cons a r=>exact (h.ok a List.mem_cons_self).2.2.2.1
 rintro e w' (⟨hk,rfl,v',hP,hG⟩ | ⟨hk,rfl,hP,hG⟩)
 ·exact ⟨_,_,_,_,_,_,_,v',rfl,hP,hG,hx,Or.inl ⟨by unfold Tess.Prs.take;rw [if_pos hk],rfl⟩⟩
 ·exact ⟨_,_,_,_,_,_,_,_,rfl,hP,hG,by decide,Or.inr ⟨_,by unfold Tess.Prs.take;rw [if_neg hk];rfl,rfl⟩⟩
structure NmEx (a O B:Nat) (qs0:List Value) (acc:List ByteArray) (qs:List Value) (W:World):Prop where
 q:qs=qs0
 a:W.heap[a]? = some (.cells #[.pointer (some ⟨B,0,none⟩)] 124 (0,0))
 o:∃ va,W.heap[O]? = some (.cells #[va] 22 (0,0))∧W.ownsRow (O + 1) 9 1 va acc.length (acc.map .string)∧(acc=[]→va = .slice none 0 0)
 s:∀ x ∈ acc,x.size≤maxLen
theorem NmEx.steady {a O B:Nat} {qs0:List Value} {w0:World} (ha:B < a) (hO:a < O) (acc:List ByteArray):Steady B w0 (NmEx a O B qs0 acc):=by
 intro qs W W' _ h hg
 obtain ⟨va,h1,h2,h3⟩:=h.o
 refine ⟨h.q,(hg.block a (Array.getElem?_eq_some_iff.1 h.a).1 (by intro e;have:=Option.some.inj e;omega)).trans h.a,⟨va,(hg.block O (Array.getElem?_eq_some_iff.1 h1).1 (by intro e;have:=Option.some.inj e;omega)).trans h1,?_,h3⟩,h.s⟩
 refine h2.kept hg ?_
 cases hv:va.ownBlock with
 | none=>exact Or.inl rfl
 | some k=>refine Or.inr ?_;intro e;have:=(h2.lt k hv).1;have:=Option.some.inj e;omega
set_option maxRecDepth 100000 in
set_option maxHeartbeats 2000000 in
theorem names1_any {p:Nat→Prop} {B a O:Nat} {qs0:List Value} {L:Nat} (w0:World) (hp:∀ b,p b→b < w0.heap.size) (hB:B < w0.heap.size) (ha:w0.heap.size≤a) (hO:a < O) (hL:L≤1000000) :
  Reads 297 #[.pointer (some ⟨a,0,none⟩),.pointer (some ⟨O,0,none⟩)] p B w0 (Tess.Prs.take 2) (NmEx a O B qs0) (fun W => ∃ x n c,W.heap[O]? = some (.cells #[.slice x n c] 22 (0,0))) L:=by
 intro acc ts v qs W h _ hG hE hlen
 obtain ⟨i0,hi,hz0,hz1,hz2⟩:=info_parts infoStr
 obtain ⟨rfl,hca,⟨va,hco,hown,hnil⟩,hsz⟩:=hE
 have hWs:=hG.size
 have hNW:O < W.heap.size∧a < W.heap.size:=⟨(Array.getElem?_eq_some_iff.1 hco).1,(Array.getElem?_eq_some_iff.1 hca).1⟩
 have c1:=cell_of_row W a 0 _ _ _ hca
 simp only [List.getElem?_toArray,List.getElem?_cons_zero] at c1
 have HT:=Lib.hid (take1_any 2 W h)
 have HG:=Lib.hid hG
 have HW:=Lib.hid hown
 have HN:=Lib.hid hnil
 have HA:=Lib.hid hca
 have HO:=Lib.hid hco
 have hp0:=h.ne
 have hl0:0 < ts.length:=List.length_pos_iff.2 hp0
 clear hG hown hnil hca hco h
 have HK:=Lib.hid (show ∀ w2:World,W.grownBy w2 (some B)→w2.ownsRow (O + 1) 9 1 va acc.length (acc.map .string) from fun w2 hg=>HW.out.kept hg (by
  cases hv:va.ownBlock with
  | none=>exact Or.inl rfl
  | some k=>refine Or.inr ?_;intro e;have:=(HW.out.lt k hv).1;have:=Option.some.inj e;omega))
 go_enter Tryz.func297,Tryz.ntmps297
 go_wp2_with (first
  | (go_at_call 145;refine HT.out.mono ?_;rintro e w2 ⟨x0,x1,x2,x3,x4,err,r,v2,rfl,hP2,hG2,hx3,hres⟩;
      have HP2:=Lib.hid hP2;have HG2:=Lib.hid hG2;have HR:=Lib.hid hres;
      have co2:=(hG2.block O hNW.1 (by intro e;have:=Option.some.inj e;omega)).trans HO.out;
      have k2:=cell_of_row w2 O 0 _ _ _ co2;
      simp only [List.getElem?_toArray,List.getElem?_cons_zero] at k2;
      have h2s:O < w2.heap.size:=(Array.getElem?_eq_some_iff.1 co2).1;
      have HL:=Lib.hid (laid2 w2 (.cells #[.int .i64 x0,.int .i64 x1,.int .i64 x2,.string x3,.int .i64 x4] 128) (.cells #[.string x3] 9));
      clear hP2 hG2 hres)
  | (at_builtin;refine wpList_append_own _ rfl _ _ 22 rfl (O + 1) 9 i0 (.string ByteArray.empty) 1 16 Tryz.underlying22 hi hz0 hz1 hz2 rfl (by decide) _ _ _ rfl (owns_below (HK.out w2 HG2.out) HL.out.2.2.2) ⟨w2.heap.size + 1,0,none⟩ 1 1 [.string x3] rfl rfl ?c1 (by simp [Value.oneCell']) (by unfold maxLen;omega) (by omega) ?c2 ?_))
 case c1=>intro j u hj;rcases j with _ | j <;> simp at hj;subst hj;simp only [Addr.add];exact cell_of_row _ _ 0 _ _ _ HL.out.2.1
 case c2=>have h1:=HL.out.2.2.2.size;omega
 intro v' w5 hown5 hgrow hnil5
 have hLb:=HL.out.2.2.2
 have hLs:=HL.out.2.2.1
 have hO2:=HK.out w2 HG2.out
 have hrow:∀ j,va.ownBlock=some j→O + 1≤j:=fun j e=>(hO2.lt j e).1
 have h5s:=hgrow.size
 have co5:=(hgrow.block O (by rw [hLs];omega) (by intro e;have:=hrow _ e.symm;omega)).trans ((hLb.block O h2s).trans co2)
 have z5:=frozen_of_row w5 O 0 _ _ co5
 have k5:=cell_of_row w5 O 0 _ _ _ co5
 simp only [List.getElem?_toArray,List.getElem?_cons_zero] at k5
 have ca5:=(hgrow.block a (by rw [hLs];omega) (by intro e;have:=hrow _ e.symm;omega)).trans ((hLb.block a (by omega)).trans ((HG2.out.block a hNW.2 (by intro e;have:=Option.some.inj e;omega)).trans HA.out))
 have hG5:w0.grownBy w5 (some B):=((HG.out.transB HG2.out).trans_below hLb).row hgrow (fun j e=>by have:=hrow j e;omega)
 have hP5:=(HP2.out.below hLb).later hp hB hgrow (fun j e=>by have:=hrow j e;omega)
 have HV:=Lib.hid hown5
 have HC5:=Lib.hid co5
 have HCA:=Lib.hid ca5
 have HG5:=Lib.hid hG5
 have HP5:=Lib.hid hP5
 have hOb:=(Array.getElem?_eq_some_iff.1 co5).1
 clear hown5 hgrow hnil5 co5 ca5 hG5 hP5 hLb hO2
 obtain ⟨g,cap,rfl⟩:∃ g cap,v' = .slice (some ⟨g,0,none⟩) (acc.length + 1) cap:=by
  rcases HV.out.2 with ⟨_,h0⟩ | ⟨g,cap,cur,hv,_⟩
  ·omega
  ·exact ⟨g,cap,hv⟩
 go_wp2
 go_ret
 have hG6:=HG5.out.setN (g:=O) 0 (.slice (some ⟨g,0,none⟩) (acc.length + 1) cap) (by omega)
 have hP6:=HP5.out.set (g:=O) 0 (.slice (some ⟨g,0,none⟩) (acc.length + 1) cap) (by omega) (fun hq=>by have:=hp _ hq;omega)
 have hc6:(w5.setCell ⟨O,0,none⟩ (.slice (some ⟨g,0,none⟩) (acc.length + 1) cap)).heap[O]? = some (.cells #[.slice (some ⟨g,0,none⟩) (acc.length + 1) cap] 22 (0,0)):=heap_setCell_same _ _ _ _ _ _ HC5.out
 refine ⟨hG6,?_⟩
 rcases HR.out with ⟨ht,rfl⟩ | ⟨k,ht,rfl⟩
 ·refine Or.inl ⟨x3,r,_,_,ht,rfl,hP6,rfl,?_,⟨_,hc6,?_,fun e=>by simp at e⟩,?_⟩
  ·exact (heap_setCell_other _ _ _ _ (by show a≠O;omega)).trans HCA.out
  ·have:=ownsRow_setCell_below HV.out (a:=⟨O,0,none⟩) (by show O < O + 1;omega) (.slice (some ⟨g,0,none⟩) (acc.length + 1) cap)
   rw [List.length_append,List.map_append]
   exact this
  ·intro x hx
   rcases List.mem_append.1 hx with hx | hx
   ·exact hsz x hx
   ·rw [List.mem_singleton] at hx;rw [hx];exact hx3
 ·exact Or.inr ⟨k,ht,rfl,⟨_,_,_,hc6⟩,_,_,_,hP6⟩
set_option maxRecDepth 100000 in
set_option maxHeartbeats 2000000 in
theorem names_any {p:Nat→Prop} {B:Nat} {ts:List Tok} {v:Value} {qs:List Value} (w:World) (h:PsAt p B ts v qs w) (he:Prs.Endd ts) (hL:ts.length≤1000000) :
  Calls Tryz.prog 266 #[.pointer (some ⟨B,0,none⟩)] w fun e w'=>w.grownBy w' (some B) ∧
   ((∃ l r v' va,Tess.Prs.names ts = .ok (l,r)∧e = .returned (.tuple #[va,.nilIface])∧PsAt p B r v' qs w'∧SlP (fun b=>w.heap.size≤b) w' va (l.map .string)∧∀ x ∈ l,x.size≤maxLen) ∨
    (∃ k x n c,Tess.Prs.names ts = .error k∧e = .returned (.tuple #[.slice x n c,errF k])∧∃ ts' v' qs',PsAt p B ts' v' qs' w')):=by
 have hlt:=h.lt
 have HH:=Lib.hid h.ltP
 have hb:=h.b
 have HL:=Lib.hid (laid2 w (.cells #[.pointer (some ⟨B,0,none⟩)] 124) (.cells #[.slice none 0 0] 22))
 have HM:=Lib.hid (list_names (p:=fun b=>p b∧b < w.heap.size) (v:=v) (qs:=qs) Tess.Prs.wComma (Tess.Prs.take 2) (.pointer (some ⟨w.heap.size,0,none⟩)) (.pointer (some ⟨w.heap.size + 1,0,none⟩)) (NmEx w.heap.size (w.heap.size + 1) B qs) (fun W => ∃ x n c,W.heap[w.heap.size + 1]? = some (.cells #[.slice x n c] 22 (0,0))) 1000000 w
  ((w.alloc (.cells #[.pointer (some ⟨B,0,none⟩)] 124)).alloc (.cells #[.slice none 0 0] 22))
    (HH.out.below HL.out.2.2.2) he (Tess.Prs.take_keeps 2) (grB_below HL.out.2.2.2) ⟨rfl,HL.out.1,⟨_,HL.out.2.1,World.ownsRow_nil _ _ _ _,fun _=>rfl⟩,fun x hx=>by cases hx⟩ hL (NmEx.steady hlt (by omega)) (names1_any w (fun b hb=>hb.2) hlt (Nat.le_refl _) (by omega) (by omega)))
 have HM2:=Lib.hid (HM.out.mono (R':=fun e w3 => ∃ err va,e = .returned err∧w.grownBy w3 (some B)∧w3.heap[w.heap.size + 1]? = some (.cells #[va] 22 (0,0)) ∧
   ((∃ l r v',Tess.Prs.names ts = .ok (l,r)∧err = .nilIface∧PsAt (fun b=>p b∧b < w.heap.size) B r v' qs w3∧SlP (fun b=>w.heap.size≤b) w3 va (l.map .string)∧∀ x ∈ l,x.size≤maxLen) ∨
    (∃ k x n c,Tess.Prs.names ts = .error k∧err=errF k∧va = .slice x n c∧∃ ts' v' qs',PsAt (fun b=>p b∧b < w.heap.size) B ts' v' qs' w3))) (by
  rintro e w3 ⟨hG3,⟨l,r,v3,qs3,hl,rfl,hP3,hE3⟩ | ⟨k,hl,rfl,⟨x,n,c,hc⟩,hP⟩⟩
  ·obtain ⟨rfl,_,⟨va,hco,hown,hnil⟩,hsz⟩:=hE3
   exact ⟨_,va,rfl,hG3,hco,Or.inl ⟨l,r,v3,hl,rfl,hP3,(SlP.owned hown).weak fun b hb=>by omega,hsz⟩⟩
  ·exact ⟨_,_,rfl,hG3,hc,Or.inr ⟨k,x,n,c,hl,rfl,rfl,hP⟩⟩))
 have HB:=Lib.hid hb
 clear h hb he HM HH HL
 go_enter Tryz.func266,Tryz.ntmps266
 go_wp2_with (
   go_at_call 141;refine HM2.out.mono ?_;clear HM2;rintro e w3 ⟨err,va,rfl,hG3,hc3,hres⟩;
   have k3:=cell_of_row w3 (w.heap.size + 1) 0 _ _ _ hc3;
   simp only [List.getElem?_toArray,List.getElem?_cons_zero] at k3;
   have HG3:=Lib.hid hG3;have HR:=Lib.hid hres;clear hG3 hc3 hres)
 go_ret2
 refine ⟨HG3.out,?_⟩
 rcases HR.out with ⟨l,r,v',hl,rfl,hP,hS,hz⟩ | ⟨k,x,n,c,hl,rfl,rfl,ts',v',qs',hP⟩
 ·exact Or.inl ⟨l,r,v',va,hl,rfl,hP.weak (fun b hb=>hb.1) HB.out,hS,hz⟩
 ·exact Or.inr ⟨k,x,n,c,hl,rfl,ts',v',qs',hP.weak (fun b hb=>hb.1) HB.out⟩
end Go.Proofs.YtbbgjjjeecfnoaaGreatDoor
namespace Go.Proofs.YtbbgjjjeecfnoaaGreatDoor
open Go.RowKit Go.Sort
open Tess (Fil Tok Prs.next Prs.skip Prs.isT Prs.Endd Prs.Keeps)
theorem tok_n {p:Nat→Prop} {B:Nat} {ts:List Tok} {v:Value} {qs:List Value} {w:World} (h:PsAt p B ts v qs w):TkOk (Prs.next ts):=by
 have hne:=h.ne
 cases ts with
 | nil=>exact absurd rfl hne
 | cons a r=>exact h.ok a List.mem_cons_self
theorem num1_any {p:Nat→Prop} {B:Nat} {ts:List Tok} {v:Value} {qs:List Value} (lo hi:Int) (w:World) (h:PsAt p B ts v qs w) :
  Calls Tryz.prog 268 #[.pointer (some ⟨B,0,none⟩),.int .i64 lo,.int .i64 hi] w fun e w' => ∃ n err r v',e = .returned (.tuple #[.int .i64 n,err])∧PsAt p B r v' qs w'∧w.grownBy w' (some B) ∧
   ((Tess.Prs.num lo hi ts = .ok (n,r)∧err = .nilIface)∨(n=0∧∃ k,Tess.Prs.num lo hi ts = .error k∧err=errF k)):=by
 refine (pnum_any lo hi w h).mono ?_
 rintro e w' (⟨hk,rfl,v',hP,hG⟩ | ⟨hk,rfl,hP,hG⟩)
 ·exact ⟨_,_,_,v',rfl,hP,hG,Or.inl ⟨by unfold Tess.Prs.num;rw [if_pos hk],rfl⟩⟩
 ·exact ⟨_,_,_,_,rfl,hP,hG,Or.inr ⟨rfl,_,by unfold Tess.Prs.num;rw [if_neg hk];rfl,rfl⟩⟩
section
variable {p:Nat→Prop} {B:Nat} {ts:List Tok} {v:Value} {w:World} {x0 x1 x2 x3 x4 x5 x6 x7 x8 x9 xa xb xc xd:Value}
theorem PsAt.can (h:PsAt p B ts v [x0,x1,x2,x3,x4,x5,x6,x7,x8,x9,xa,xb,xc,xd] w) :
  (w.cell? ⟨B,1,none⟩=some x0∧w.cell? ⟨B,2,none⟩=some x1∧w.cell? ⟨B,3,none⟩=some x2∧w.cell? ⟨B,4,none⟩=some x3∧w.cell? ⟨B,5,none⟩=some x4∧w.cell? ⟨B,6,none⟩=some x5∧w.cell? ⟨B,7,none⟩=some x6∧w.cell? ⟨B,8,none⟩=some x7∧w.cell? ⟨B,9,none⟩=some x8∧w.cell? ⟨B,10,none⟩=some x9∧w.cell? ⟨B,11,none⟩=some xa∧w.cell? ⟨B,12,none⟩=some xb∧w.cell? ⟨B,13,none⟩=some xc∧w.cell? ⟨B,14,none⟩=some xd) ∧
   ∀ i,i < 15→w.frozen? ⟨B,i,none⟩=false:=
 have h:=h.k
 ⟨⟨cell_of_row _ _ 1 _ _ _ h,cell_of_row _ _ 2 _ _ _ h,cell_of_row _ _ 3 _ _ _ h,cell_of_row _ _ 4 _ _ _ h,cell_of_row _ _ 5 _ _ _ h,cell_of_row _ _ 6 _ _ _ h,cell_of_row _ _ 7 _ _ _ h,cell_of_row _ _ 8 _ _ _ h,cell_of_row _ _ 9 _ _ _ h,cell_of_row _ _ 10 _ _ _ h,cell_of_row _ _ 11 _ _ _ h,cell_of_row _ _ 12 _ _ _ h,cell_of_row _ _ 13 _ _ _ h,cell_of_row _ _ 14 _ _ _ h⟩,fun i _=>frozen_of_row _ _ i _ _ h⟩
theorem PsAt.put {qs qs':List Value} (h:PsAt p B ts v qs w) (i:Nat) (y:Value) (hq:((v :: qs).toArray.setIfInBounds i y).toList=v :: qs') (hn:qs'.length=14):PsAt p B ts v qs' (w.setCell ⟨B,i,none⟩ y):=
 ⟨by rw [← hq];exact heap_setCell_same _ _ _ _ _ _ h.k,hn,h.t.ag (Ag.set _ _ _ h.b),h.ok,h.ne,h.b⟩
end
theorem is1_any {p:Nat→Prop} {B:Nat} {ts:List Tok} {v:Value} {qs:List Value} (x:ByteArray) (w:World) (h:PsAt p B ts v qs w) :
  Calls Tryz.prog 144 #[.pointer (some ⟨B,0,none⟩),.slice (some ⟨w.heap.size,0,none⟩) 1 1] (w.alloc (.cells #[.string x] 9)) fun e w'=>w.grownBy w' (some B) ∧
   ((∃ r v',Prs.isT [x] ts=some r∧e = .returned (.bool true)∧PsAt p B r v' qs w')∨(Prs.isT [x] ts=none∧e = .returned (.bool false)∧∃ v',PsAt p B ts v' qs w')):=by
 refine (pis_any (.slice (some ⟨w.heap.size,0,none⟩) 1 1) [x] (w.alloc (.cells #[.string x] 9)) (h.below ((Below.refl _ _).alloc (Nat.le_refl _) _)) (one_text x B w h.lt)).mono ?_
 rintro e w' ⟨rfl,v',hP,hG⟩
 refine ⟨(grB_alloc w _ B).transB hG,?_⟩
 cases hT:Prs.isT [x] ts with
 | some r=>rw [hT] at hP;exact Or.inl ⟨r,v',rfl,rfl,hP⟩
 | none=>rw [hT] at hP;exact Or.inr ⟨rfl,rfl,v',hP⟩
theorem must1_any {p:Nat→Prop} {B:Nat} {ts:List Tok} {v:Value} {qs:List Value} (x:ByteArray) (w:World) (h:PsAt p B ts v qs w) :
  Calls Tryz.prog 140 #[.pointer (some ⟨B,0,none⟩),.slice (some ⟨w.heap.size,0,none⟩) 1 1] (w.alloc (.cells #[.string x] 9)) fun e w'=>w.grownBy w' (some B) ∧
   ((∃ r v',Prs.isT [x] ts=some r∧e = .returned .nilIface∧PsAt p B r v' qs w')∨(Prs.isT [x] ts=none∧e = .returned (errF (Prs.next ts).pos)∧∃ v',PsAt p B ts v' qs w')):=by
 refine (must_any w.heap.size 0 1 x (w.alloc (.cells #[.string x] 9)) (h.below ((Below.refl _ _).alloc (Nat.le_refl _) _)) (cell_of_row _ _ 0 _ _ _ (heap_alloc_new _ _))).mono ?_
 rintro e w' (⟨r,hT,rfl,v',hP,hG⟩ | ⟨hT,rfl,v',hP,hG⟩)
 ·exact ⟨(grB_alloc w _ B).transB hG,Or.inl ⟨r,v',hT,rfl,hP⟩⟩
 ·exact ⟨(grB_alloc w _ B).transB hG,Or.inr ⟨hT,rfl,v',hP⟩⟩
set_option maxRecDepth 100000 in
set_option maxHeartbeats 2000000 in
theorem every_any {p:Nat→Prop} {B:Nat} {ts:List Tok} {v x0 x1 x2 x3 x4 x5 x6 x7 x8 x9 xa xb xc xd:Value} (w:World) (h:PsAt p B ts v [x0,x1,x2,x3,x4,x5,x6,x7,x8,x9,xa,xb,xc,xd] w) :
  Calls Tryz.prog 219 #[.pointer (some ⟨B,0,none⟩)] w fun e w' => ∃ n err r v',e = .returned err∧w.grownBy w' (some B)∧PsAt p B r v' [x0,x1,x2,x3,.int .i64 n,x5,x6,x7,x8,x9,xa,xb,xc,xd] w' ∧
   ((Tess.Prs.num 0 9223372036854775807 ts = .ok (n,r)∧err = .nilIface)∨(∃ k,Tess.Prs.num 0 9223372036854775807 ts = .error k∧err=errF k)):=by
 have HN:=Lib.hid (num1_any 0 9223372036854775807 w h)
 have hlt:=h.lt
 clear h
 go_enter Tryz.func219,Tryz.ntmps219
 go_wp2_with (
   go_at_call 268;refine HN.out.mono ?_;rintro e w2 ⟨n,err,r,v2,rfl,hP2,hG2,hres⟩;
   have c2:=hP2.can.1.2.2.2.2.1;have z2:=hP2.can.2 5 (by decide);have h2s:=hP2.lt;
   have HP2:=Lib.hid hP2;have HG2:=Lib.hid hG2;have HR:=Lib.hid hres;clear hP2 hG2 hres)
 go_ret
 refine ⟨n,err,r,v2,rfl,HG2.out.transB (grB_set _ _ _ _ h2s),HP2.out.put 5 _ rfl rfl,?_⟩
 rcases HR.out with ⟨h1,h2⟩ | ⟨_,k,h1,h2⟩
 ·exact Or.inl ⟨h1,h2⟩
 ·exact Or.inr ⟨k,h1,h2⟩
set_option maxRecDepth 100000 in
set_option maxHeartbeats 2000000 in
theorem limit_any {p:Nat→Prop} {B:Nat} {ts:List Tok} {v x0 x1 x2 x3 x4 x5 x6 x7 x8 x9 xa xb xc xd:Value} (w:World) (h:PsAt p B ts v [x0,x1,x2,x3,x4,x5,x6,x7,x8,x9,xa,xb,xc,xd] w) :
  Calls Tryz.prog 223 #[.pointer (some ⟨B,0,none⟩)] w fun e w' => ∃ n err r v',e = .returned err∧w.grownBy w' (some B)∧PsAt p B r v' [x0,x1,x2,x3,x4,x5,x6,x7,x8,x9,xa,xb,xc,.int .i64 n] w' ∧
   ((Tess.Prs.num 0 1000000 ts = .ok (n,r)∧err = .nilIface)∨(∃ k,Tess.Prs.num 0 1000000 ts = .error k∧err=errF k)):=by
 have HN:=Lib.hid (num1_any 0 1000000 w h)
 have hlt:=h.lt
 clear h
 go_enter Tryz.func223,Tryz.ntmps223
 go_wp2_with (
   go_at_call 268;refine HN.out.mono ?_;rintro e w2 ⟨n,err,r,v2,rfl,hP2,hG2,hres⟩;
   have c2:=hP2.can.1.2.2.2.2.2.2.2.2.2.2.2.2.2;have z2:=hP2.can.2 14 (by decide);have h2s:=hP2.lt;
   have HP2:=Lib.hid hP2;have HG2:=Lib.hid hG2;have HR:=Lib.hid hres;clear hP2 hG2 hres)
 go_ret
 refine ⟨n,err,r,v2,rfl,HG2.out.transB (grB_set _ _ _ _ h2s),HP2.out.put 14 _ rfl rfl,?_⟩
 rcases HR.out with ⟨h1,h2⟩ | ⟨_,k,h1,h2⟩
 ·exact Or.inl ⟨h1,h2⟩
 ·exact Or.inr ⟨k,h1,h2⟩
set_option maxRecDepth 100000 in
set_option maxHeartbeats 2000000 in
theorem pplace_any {p:Nat→Prop} {B:Nat} {ts:List Tok} {v:Value} {qs:List Value} (w:World) (h:PsAt p B ts v qs w) :
  Calls Tryz.prog 301 #[.pointer (some ⟨B,0,none⟩)] w fun e w' => ∃ n err r v',e = .returned (.tuple #[.int .i64 n,err])∧w.grownBy w' (some B)∧PsAt p B r v' qs w' ∧
   ((Tess.Prs.place ts = .ok (n,r)∧err = .nilIface)∨(∃ k,Tess.Prs.place ts = .error k∧err=errF k)):=by
 have HN:=Lib.hid (num1_any 1 1000 w h)
 have hlt:=h.lt
 clear h
 go_enter Tryz.func301,Tryz.ntmps301
 go_wp2_with (
   go_at_call 268;refine HN.out.mono ?_;rintro e w2 ⟨n,err,r,v2,rfl,hP2,hG2,hres⟩;
   have hn:0≤n∧n≤1000:=(by
    rcases hres with ⟨h,_⟩ | ⟨h,_⟩
    ·unfold Tess.Prs.num at h;split at h
     ·cases h;omega
     ·cases h
    ·omega);
   have HP2:=Lib.hid hP2;have HG2:=Lib.hid hG2;have HR:=Lib.hid hres;clear hP2 hG2 hres)
 go_ret2
 refine ⟨n - 1,err,r,v2,rfl,HG2.out,HP2.out,?_⟩
 rcases HR.out with ⟨h1,h2⟩ | ⟨_,k,h1,h2⟩
 ·exact Or.inl ⟨by unfold Tess.Prs.place;rw [h1];rfl,h2⟩
 ·exact Or.inr ⟨k,by unfold Tess.Prs.place;rw [h1];rfl,h2⟩
end Go.Proofs.YtbbgjjjeecfnoaaGreatDoor
