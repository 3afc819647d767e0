/- Are two filters, two queries the same: walked. Written by genQ48.py. -/
import Derived.Test.YtbbgjjjeecfnoaaGreatDoorSh2
import Derived.Test.YtbbgjjjeecfnoaaGreatDoorXFB
import Derived.Test.YtbbgjjjeecfnoaaGreatDoorXFA
import Derived.Test.YtbbgjjjeecfnoaaGreatDoorXTD
namespace Go.Proofs.YtbbgjjjeecfnoaaGreatDoor
open Go.RowKit Go.Sort
open Tess (Fil Que)
noncomputable def sameB (f g:Fil):Bool:=@decide (f=g) (Classical.propDecidable _)
theorem sameB_true {f g:Fil} (h:f=g):sameB f g=true:=by unfold sameB;exact @decide_eq_true _ (Classical.propDecidable _) h
theorem sameB_false {f g:Fil} (h:f≠g):sameB f g=false:=by unfold sameB;exact @decide_eq_false _ (Classical.propDecidable _) h
theorem sameB_cells (k1 k2:Int) (n1 n2:ByteArray) (w1 w2:List ByteArray) (a1 a2 b1 b2:Int) (l1 l2:List Fil) (h:¬ (k1=k2∧n1=n2∧w1=w2∧a1=a2∧b1=b2∧l1=l2)):sameB (.mk k1 n1 w1 a1 b1 l1) (.mk k2 n2 w2 a2 b2 l2)=false:=
 sameB_false fun e=>h (by injection e with e1 e2 e3 e4 e5 e6;exact ⟨e1,e2,e3,e4,e5,e6⟩)
theorem below_drewN {B:Nat} {a w:World} (h:Below B a w) (n:Nat):Below B a (w.drewN n):=h.trans ⟨rfl,rfl,rfl,Nat.le_refl _,fun _ _=>rfl⟩
theorem equal_any (p q:Nat→Prop) (va vb:Value) (a b:List ByteArray) (w:World) (ha:SlP p w va (a.map .string)) (hb:SlP q w vb (b.map .string)) :
  Calls Tryz.prog 62 #[va,vb] w fun e w'=>e = .returned (.bool (decide (a=b)))∧Below w.heap.size w w':=by
 obtain ⟨aa,ac,rfl,hal,hac⟩:=sls_open ha.1
 obtain ⟨ba,bc,rfl,hbl,hbc⟩:=sls_open hb.1
 by_cases hl:a.length=b.length
 ·rcases Nat.eq_zero_or_pos a.length with h0 | h0
  ·have e1:a=[]:=List.length_eq_zero_iff.1 h0
   have e2:b=[]:=List.length_eq_zero_iff.1 (by omega)
   subst e1 e2
   refine (Tryz.slices_Equal_string_empty aa ba ac 0 bc w (by omega)).mono ?_
   rintro e w' ⟨rfl,rfl⟩
   exact ⟨rfl,Below.refl _ _⟩
  ·obtain ⟨b1,o1,rfl,hb1,_⟩:=hac 0 h0
   obtain ⟨b2,o2,rfl,hb2,_⟩:=hbc 0 (by omega)
   refine (Tryz.slices_Equal_string b1 o1 a.length ac b2 o2 b.length bc a b w (Nat.le_refl _) (Nat.le_refl _) hal hbl (fun j hj => ?_) (fun j hj => ?_)).mono ?_
   ·obtain ⟨b',off,e,_,h⟩:=hac j hj
    cases e
    rw [h];simp [hj]
   ·obtain ⟨b',off,e,_,h⟩:=hbc j hj
    cases e
    rw [h];simp [hj]
   ·rintro e w' ⟨rfl,k,rfl⟩
    rw [List.take_length,List.take_length]
    exact ⟨rfl,below_drewN (Below.refl _ _) _⟩
 ·refine (Tryz.slices_Equal_string_lens aa ba a.length ac b.length bc w hl).mono ?_
  rintro e w' ⟨rfl,rfl⟩
  exact ⟨ret_bool' (decide_eq_false fun e=>hl (by rw [e])).symm,Below.refl _ _⟩
noncomputable def sameL (f g:List Fil):Bool:=@decide (f=g) (Classical.propDecidable _)
theorem sameL_true {f g:List Fil} (h:f=g):sameL f g=true:=by unfold sameL;exact @decide_eq_true _ (Classical.propDecidable _) h
theorem sameL_false {f g:List Fil} (h:f≠g):sameL f g=false:=by unfold sameL;exact @decide_eq_false _ (Classical.propDecidable _) h
def eqList (l1 l2:List Fil) (x1 x2:Option Addr) (w:World):Prop:=
 ∀ k (h1:k < l1.length) (h2:k < l2.length),∃ b off b' off',x1=some ⟨b,off,none⟩∧x2=some ⟨b',off',none⟩∧b < w.heap.size∧b' < w.heap.size∧∃ (k1:Int) (n1:ByteArray) (wa1:Option Addr) (wn1 wc1:Nat) (fr1 to1:Int) (la1:Option Addr) (ln1 lc1:Nat) (k2:Int) (n2:ByteArray) (wa2:Option Addr) (wn2 wc2:Nat) (fr2 to2:Int) (la2:Option Addr) (ln2 lc2:Nat),
   (w.cell? ⟨b,off + k * 6,none⟩=some (.int .i64 k1)∧w.cell? ⟨b,off + k * 6 + 1,none⟩=some (.string n1)∧w.cell? ⟨b,off + k * 6 + 2,none⟩=some (.slice wa1 wn1 wc1)∧w.cell? ⟨b,off + k * 6 + 3,none⟩=some (.int .i64 fr1)∧w.cell? ⟨b,off + k * 6 + 4,none⟩=some (.int .i64 to1)∧w.cell? ⟨b,off + k * 6 + 5,none⟩=some (.slice la1 ln1 lc1)) ∧
   (w.cell? ⟨b',off' + k * 6,none⟩=some (.int .i64 k2)∧w.cell? ⟨b',off' + k * 6 + 1,none⟩=some (.string n2)∧w.cell? ⟨b',off' + k * 6 + 2,none⟩=some (.slice wa2 wn2 wc2)∧w.cell? ⟨b',off' + k * 6 + 3,none⟩=some (.int .i64 fr2)∧w.cell? ⟨b',off' + k * 6 + 4,none⟩=some (.int .i64 to2)∧w.cell? ⟨b',off' + k * 6 + 5,none⟩=some (.slice la2 ln2 lc2)) ∧
   ∀ W,Below w.heap.size w W→Calls Tryz.prog 64 #[.agg #[.int .i64 k1,.string n1,.slice wa1 wn1 wc1,.int .i64 fr1,.int .i64 to1,.slice la1 ln1 lc1],.agg #[.int .i64 k2,.string n2,.slice wa2 wn2 wc2,.int .i64 fr2,.int .i64 to2,.slice la2 ln2 lc2]] W fun e w'=>e = .returned (.bool (sameB l1[k] l2[k]))∧Below W.heap.size W w'
set_option maxRecDepth 100000 in
set_option maxHeartbeats 4000000 in
theorem eqF_any (l1 l2:List Fil) (x1 x2:Option Addr) (c1 c2:Nat) (w:World) (hm1:l1.length≤maxLen) (hm2:l2.length≤maxLen) (hc:eqList l1 l2 x1 x2 w) :
  Calls Tryz.prog 146 #[.slice x1 l1.length c1,.slice x2 l2.length c2,.func (.func 64) #[] #[]] w fun e w'=>e = .returned (.bool (sameL l1 l2))∧Below w.heap.size w w':=by
 have hlm1:l1.length≤9223372036854775807:=by unfold maxLen at hm1;omega
 have hlm2:l2.length≤9223372036854775807:=by unfold maxLen at hm2;omega
 have HC:=Lib.hid hc
 clear hc hm1 hm2
 by_cases hl:l1.length=l2.length
 ·have hl':((l1.length:Int) != (l2.length:Int))=false:=by rw [bne_eq_false_iff_eq];omega
  have HL:=Lib.hid hl
  clear hl
  go_enter Tryz.func146,Tryz.ntmps146
  go_wp2
  go_loopw [17] (fun i wr => ∃ k:Nat,k≤l1.length∧i = .int .i64 k∧(∀ j (h1:j < l1.length) (h2:j < l2.length),j < k→l1[j]=l2[j])∧Below w.heap.size w wr) (fun i _=>l1.length - (intOf i).toNat)
  case atStart=>exact ⟨0,Nat.zero_le _,rfl,fun j _ _ h=>absurd h (Nat.not_lt_zero _),Below.refl _ _⟩
  case round=>
   obtain ⟨k,hk,rfl,hall,hBr⟩:=hrel
   have HALL:=Lib.hid hall
   have HBr:=Lib.hid hBr
   clear hall hBr
   by_cases hlt:k < l1.length
   ·have hlt2:k < l2.length:=by have:=HL.out;omega
    obtain ⟨b,off,b',off',rfl,rfl,hb,hb',k1,n1,wa1,wn1,wc1,fr1,to1,la1,ln1,lc1,k2,n2,wa2,wn2,wc2,fr2,to2,la2,ln2,lc2,⟨q0,q1,q2,q3,q4,q5⟩,⟨s0,s1,s2,s3,s4,s5⟩,hcall⟩:=HC.out k hlt hlt2
    have hki:(k:Int) < (l1.length:Int):=by omega
    have hki2:(k:Int) < (l2.length:Int):=by omega
    have r0:=(HBr.out.cell (p:=⟨b,off + k * 6,none⟩) hb).trans q0
    have r1:=(HBr.out.cell (p:=⟨b,off + k * 6 + 1,none⟩) hb).trans q1
    have r2:=(HBr.out.cell (p:=⟨b,off + k * 6 + 2,none⟩) hb).trans q2
    have r3:=(HBr.out.cell (p:=⟨b,off + k * 6 + 3,none⟩) hb).trans q3
    have r4:=(HBr.out.cell (p:=⟨b,off + k * 6 + 4,none⟩) hb).trans q4
    have r5:=(HBr.out.cell (p:=⟨b,off + k * 6 + 5,none⟩) hb).trans q5
    have hB1:=(laid1 wr (.cells #[.int .i64 k1,.string n1,.slice wa1 wn1 wc1,.int .i64 fr1,.int .i64 to1,.slice la1 ln1 lc1] 31)).2.2
    have hw1:=Bt HBr.out hB1
    have t0:=(hw1.cell (p:=⟨b',off' + k * 6,none⟩) hb').trans s0
    have t1:=(hw1.cell (p:=⟨b',off' + k * 6 + 1,none⟩) hb').trans s1
    have t2:=(hw1.cell (p:=⟨b',off' + k * 6 + 2,none⟩) hb').trans s2
    have t3:=(hw1.cell (p:=⟨b',off' + k * 6 + 3,none⟩) hb').trans s3
    have t4:=(hw1.cell (p:=⟨b',off' + k * 6 + 4,none⟩) hb').trans s4
    have t5:=(hw1.cell (p:=⟨b',off' + k * 6 + 5,none⟩) hb').trans s5
    have HB2:=Lib.hid (Bt HBr.out (laid2 wr (.cells #[.int .i64 k1,.string n1,.slice wa1 wn1 wc1,.int .i64 fr1,.int .i64 to1,.slice la1 ln1 lc1] 31) (.cells #[.int .i64 k2,.string n2,.slice wa2 wn2 wc2,.int .i64 fr2,.int .i64 to2,.slice la2 ln2 lc2] 31)).2.2.2)
    have HCALL:=Lib.hid (hcall _ HB2.out)
    clear q0 q1 q2 q3 q4 q5 s0 s1 s2 s3 s4 s5 hcall hB1 hw1
    by_cases he:l1[k]=l2[k]
    ·rw [sameB_true he] at HCALL
     have HEQ:=Lib.hid he
     clear he
     go_wp2_with (go_at_call 64;refine HCALL.out.mono ?_;rintro e w6 ⟨rfl,hB6⟩;have HB6:=Lib.hid (Bt HB2.out hB6);clear hB6)
     go_roundw
     case rel=>
      refine ⟨k + 1,by omega,by go_num,fun j h1 h2 hjk => ?_,HB6.out⟩
      by_cases hjk':j < k
      ·exact HALL.out j h1 h2 hjk'
      ·obtain rfl:j=k:=by omega
       exact HEQ.out
     case measure=>simp [intOf];omega
    ·rw [sameB_false he] at HCALL
     have HEQ:=Lib.hid he
     clear he
     go_wp2_with (go_at_call 64;refine HCALL.out.mono ?_;rintro e w6 ⟨rfl,hB6⟩;have HB6:=Lib.hid (Bt HB2.out hB6);clear hB6)
     go_ret
     exact ⟨ret_bool' (sameL_false fun e=>HEQ.out (by subst e;rfl)).symm,HB6.out⟩
   ·have hki:¬ (k:Int) < (l1.length:Int):=by omega
    have HEL:=Lib.hid (show l1=l2 from List.ext_getElem HL.out fun j h1 h2=>HALL.out j h1 h2 (by omega))
    go_wp2
    go_ret
    exact ⟨ret_bool' (sameL_true HEL.out).symm,HBr.out⟩
 ·have hl':((l1.length:Int) != (l2.length:Int))=true:=by rw [bne_iff_ne];omega
  have HN:=Lib.hid (show l1≠l2 from fun e=>hl (by rw [e]))
  clear hl
  go_enter Tryz.func146,Tryz.ntmps146
  go_wp2
  go_ret
  exact ⟨ret_bool' (sameL_false HN.out).symm,Below.refl _ _⟩
set_option maxRecDepth 100000 in
set_option maxHeartbeats 4000000 in
theorem pSame_any (p q:Nat→Prop) (n:Nat):∀ (m:Nat) (v u:Value) (f g:Fil) (w:World),FilAt p n w v f→FilAt q m w u g →
  Calls Tryz.prog 64 #[v,u] w fun e w'=>e = .returned (.bool (sameB f g))∧Below w.heap.size w w':=by
 induction n with
 | zero=>intro m v u f g w h;exact h.elim
 | succ n ih=>
 intro m v u f g w hf hg
 cases m with
 | zero=>exact hg.elim
 | succ m=>
 obtain ⟨k1,n1,w1,a1,b1,l1⟩:=f
 obtain ⟨k2,n2,w2,a2,b2,l2⟩:=g
 obtain ⟨vw1,x1,c1,rfl,hz1,hw1,_,hl1,_,hc1⟩:=hf
 obtain ⟨vw2,x2,c2,rfl,hz2,hw2,_,hl2,_,hc2⟩:=hg
 simp only [Fil.kind,Fil.name,Fil.words,Fil.frm,Fil.to,Fil.l] at hz1 hw1 hl1 hc1 hz2 hw2 hl2 hc2 ⊢
 have HT:=Lib.hid (fun W (hB:Below w.heap.size w W)=>equal_any p q vw1 vw2 w1 w2 W (hw1.ag (Ag.new p hB)) (hw2.ag (Ag.new q hB)))
 obtain ⟨wa1,wc1,rfl,_⟩:=slp_len hw1
 obtain ⟨wa2,wc2,rfl,_⟩:=slp_len hw2
 have HC1:=Lib.hid hc1
 have HC2:=Lib.hid hc2
 have HEF:=Lib.hid (fun W (hB:Below w.heap.size w W)=>eqF_any l1 l2 x1 x2 c1 c2 W hl1 hl2 (fun k h1 h2=>by
  obtain ⟨b,off,ha,hb,hp,hel⟩:=hc1 (by omega)
  obtain ⟨d0,d1,d2,d3,d4,d5,hf1,q0,q1,q2,q3,q4,q5⟩:=hel k h1
  obtain ⟨b',off',ha',hb',hp',hel'⟩:=hc2 (by omega)
  obtain ⟨g0,g1,g2,g3,g4,g5,hf2,s0,s1,s2,s3,s4,s5⟩:=hel' k h2
  obtain ⟨fa1,fn1,fc1,fla1,flc1,e1⟩:=hf1.shape6
  obtain ⟨fa2,fn2,fc2,fla2,flc2,e2⟩:=hf2.shape6
  simp only [Value.agg.injEq,Array.mk.injEq,List.cons.injEq,and_true] at e1 e2
  obtain ⟨rfl,rfl,rfl,rfl,rfl,rfl⟩:=e1
  obtain ⟨rfl,rfl,rfl,rfl,rfl,rfl⟩:=e2
  exact ⟨b,off,b',off',ha,ha',Nat.lt_of_lt_of_le hb hB.size,Nat.lt_of_lt_of_le hb' hB.size,_,_,_,_,_,_,_,_,_,_,_,_,_,_,_,_,_,_,_,_,
   ⟨(hB.cell (p:=⟨b,off + k * 6,none⟩) hb).trans q0,(hB.cell (p:=⟨b,off + k * 6 + 1,none⟩) hb).trans q1,(hB.cell (p:=⟨b,off + k * 6 + 2,none⟩) hb).trans q2,(hB.cell (p:=⟨b,off + k * 6 + 3,none⟩) hb).trans q3,(hB.cell (p:=⟨b,off + k * 6 + 4,none⟩) hb).trans q4,(hB.cell (p:=⟨b,off + k * 6 + 5,none⟩) hb).trans q5⟩,
   ⟨(hB.cell (p:=⟨b',off' + k * 6,none⟩) hb').trans s0,(hB.cell (p:=⟨b',off' + k * 6 + 1,none⟩) hb').trans s1,(hB.cell (p:=⟨b',off' + k * 6 + 2,none⟩) hb').trans s2,(hB.cell (p:=⟨b',off' + k * 6 + 3,none⟩) hb').trans s3,(hB.cell (p:=⟨b',off' + k * 6 + 4,none⟩) hb').trans s4,(hB.cell (p:=⟨b',off' + k * 6 + 5,none⟩) hb').trans s5⟩,
   fun X hX=>ih m _ _ l1[k] l2[k] X (hf1.ag (Ag.new p (Bt hB hX))) (hf2.ag (Ag.new q (Bt hB hX)))⟩))
 have hlm1:l1.length≤9223372036854775807:=by unfold maxLen at hl1;omega
 have hlm2:l2.length≤9223372036854775807:=by unfold maxLen at hl2;omega
 clear hw1 hw2 hc1 hc2 hl1 hl2
 obtain ⟨W0,hW0⟩:∃ W0,(w.alloc (.cells #[.int .i64 k1,.string n1,.slice wa1 w1.length wc1,.int .i64 a1,.int .i64 b1,.slice x1 l1.length c1] 31)).alloc (.cells #[.int .i64 k2,.string n2,.slice wa2 w2.length wc2,.int .i64 a2,.int .i64 b2,.slice x2 l2.length c2] 31)=W0:=⟨_,rfl⟩
 obtain ⟨h0,h1,hS,hB⟩:=laid2 w (.cells #[.int .i64 k1,.string n1,.slice wa1 w1.length wc1,.int .i64 a1,.int .i64 b1,.slice x1 l1.length c1] 31) (.cells #[.int .i64 k2,.string n2,.slice wa2 w2.length wc2,.int .i64 a2,.int .i64 b2,.slice x2 l2.length c2] 31)
 rw [hW0] at h0 h1 hS hB
 have HB:=Lib.hid hB
 have HX:=Lib.hid (fun X (hX:Below W0.heap.size W0 X)=>And.intro (can6 ((hX.block _ (by omega)).trans h0)).1 (can6 ((hX.block _ (by omega)).trans h1)).1)
 have HLT:=Lib.hid (show w.heap.size < W0.heap.size∧w.heap.size + 1 < W0.heap.size from ⟨by omega,by omega⟩)
 obtain ⟨⟨e0,e1,e2,e3,e4,e5⟩,f0,f1,f2,f3,f4,f5⟩:=HX.out W0 (Below.refl _ _)
 clear h0 h1 hS hB hz1 hz2
 by_cases hk:k1=k2
 rotate_left
 ·have HR:=Lib.hid (sameB_cells k1 k2 n1 n2 w1 w2 a1 a2 b1 b2 l1 l2 (fun h=>hk h.1))
  have hk':(k1 == k2)=false:=beq_eq_false_iff_ne.2 hk
  clear hk
  go_enter Tryz.func64,Tryz.ntmps64
  go_wp2
  go_ret
  exact ⟨ret_bool' HR.out.symm,HB.out⟩
 subst hk
 by_cases hn:n1=n2
 rotate_left
 ·have HR:=Lib.hid (sameB_cells k1 k1 n1 n2 w1 w2 a1 a2 b1 b2 l1 l2 (fun h=>hn h.2.1))
  have hn':(n1.toList == n2.toList)=false:=Bool.eq_false_iff.2 fun e=>hn (str_eq' e)
  clear hn
  go_enter Tryz.func64,Tryz.ntmps64
  go_wp2
  go_ret
  exact ⟨ret_bool' HR.out.symm,HB.out⟩
 subst hn
 go_enter Tryz.func64,Tryz.ntmps64
 go_wp2_with (fail)
 go_at_call 62
 refine (HT.out W0 HB.out).mono ?_
 rintro e w3 ⟨rfl,hB3⟩
 have HB3:=Lib.hid hB3
 clear hB3 e0 e1 e2 e3 e4 e5 f0 f1 f2 f3 f4 f5 hW0
 obtain ⟨⟨e0,e1,e2,e3,e4,e5⟩,f0,f1,f2,f3,f4,f5⟩:=HX.out w3 HB3.out
 by_cases hw:w1=w2
 rotate_left
 ·have HR:=Lib.hid (sameB_cells k1 k1 n1 n1 w1 w2 a1 a2 b1 b2 l1 l2 (fun h=>hw h.2.2.1))
  rw [decide_eq_false hw]
  clear hw
  go_wp2
  go_ret
  exact ⟨ret_bool' HR.out.symm,Bt HB.out HB3.out⟩
 rw [decide_eq_true hw]
 by_cases ha:a1=a2
 rotate_left
 ·have HR:=Lib.hid (sameB_cells k1 k1 n1 n1 w1 w2 a1 a2 b1 b2 l1 l2 (fun h=>ha h.2.2.2.1))
  have ha':(a1 == a2)=false:=beq_eq_false_iff_ne.2 ha
  clear ha
  go_wp2
  go_ret
  exact ⟨ret_bool' HR.out.symm,Bt HB.out HB3.out⟩
 by_cases hb:b1=b2
 rotate_left
 ·have HR:=Lib.hid (sameB_cells k1 k1 n1 n1 w1 w2 a1 a2 b1 b2 l1 l2 (fun h=>hb h.2.2.2.2.1))
  have hb':(b1 == b2)=false:=beq_eq_false_iff_ne.2 hb
  have ha':(a1 == a2)=true:=beq_iff_eq.2 ha
  clear ha hb
  go_wp2
  go_ret
  exact ⟨ret_bool' HR.out.symm,Bt HB.out HB3.out⟩
 subst hw ha hb
 go_wp2_with (fail)
 go_at_call 146
 refine (HEF.out w3 (Bt HB.out HB3.out)).mono ?_
 rintro e w4 ⟨rfl,hB4⟩
 have HB4:=Lib.hid (Bt (Bt HB.out HB3.out) hB4)
 have HR:=Lib.hid (show sameB (.mk k1 n1 w1 a1 b1 l1) (.mk k1 n1 w1 a1 b1 l2)=sameL l1 l2 from by
  by_cases h:l1=l2
  ·rw [sameL_true h,sameB_true (by rw [h])]
  ·rw [sameL_false h,sameB_cells _ _ _ _ _ _ _ _ _ _ _ _ fun e=>h e.2.2.2.2.2])
 generalize sameL l1 l2=r at HR
 clear hB4
 go_wp2
 go_ret
 exact ⟨ret_bool' HR.out.symm,HB4.out⟩
end Go.Proofs.YtbbgjjjeecfnoaaGreatDoor
