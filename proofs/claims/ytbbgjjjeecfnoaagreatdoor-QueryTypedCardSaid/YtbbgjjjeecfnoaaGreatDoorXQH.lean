/- Joined by mergeQ.py: Q45, Q46 -/
import Derived.Test.YtbbgjjjeecfnoaaGreatDoorXQS
import Derived.Test.YtbbgjjjeecfnoaaGreatDoorXQ42
namespace Go.Proofs.YtbbgjjjeecfnoaaGreatDoor
open Go.RowKit Go.Sort Go.Maps
open Tess (Tok Fil)
theorem join_part {sep:List UInt8} {l:List (List UInt8)} {x:List UInt8} (h:x ∈ l):x.length≤(Tess.Wr.join sep l).length:=by
 induction l with
 | nil=>cases h
 | cons y r ih=>
   cases r with
   | nil=>rw [List.mem_singleton] at h;rw [h];exact Nat.le_refl _
   | cons z r=>
     show _≤(y ++ sep ++ Tess.Wr.join sep (z :: r)).length
     rw [List.length_append,List.length_append]
     rcases List.mem_cons.1 h with rfl | h
     ·omega
     ·have:=ih h;omega
theorem askingL_map (l:List Fil):Tess.Wr.askingL l=l.map Tess.Wr.asking:=by
 induction l with
 | nil=>rfl
 | cons f r ih=>unfold Tess.Wr.askingL;rw [ih];rfl
mutual
def SmallF:Fil→Prop
 | .mk _ nm ws a b l=>nm.size≤1000000000∧ws.length≤10000000∧(∀ x ∈ ws,x.size≤1000000000)∧(-9223372036854775808≤a∧a≤9223372036854775807)∧(-9223372036854775808≤b∧b≤9223372036854775807)∧l.length≤10000000∧SmallFL l
def SmallFL:List Fil→Prop
 | []=>True
 | f :: r=>SmallF f∧SmallFL r
end
theorem SmallFL.mem {l:List Fil} (h:SmallFL l):∀ x ∈ l,SmallF x:=by
 induction l with
 | nil=>intro x hx;cases hx
 | cons f r ih=>
   unfold SmallFL at h
   intro x hx
   rcases List.mem_cons.1 hx with rfl | hx
   ·exact h.1
   ·exact ih h.2 x hx
set_option maxRecDepth 100000 in
set_option maxHeartbeats 2000000 in
theorem last_any (ws:List ByteArray) (sep:ByteArray) (hl:ws.length≤10000000) (hs:∀ x ∈ ws,x.size≤1000000000) (hj:(Tess.Wr.words sep.data.toList ws).length≤100000000000) (B:Nat) (vw:Value) (w:World) (hb:w.cell? ⟨B,2,none⟩=some vw) (hv:SlOf w vw (ws.map .string)) :
  Calls Tryz.prog 197 #[.string sep,.pointer (some ⟨B,0,none⟩)] w fun e w'=>e = .returned (.string (Tok.ofL (Tess.Wr.words sep.data.toList ws)))∧Below w.heap.size w w':=by
 obtain ⟨a,cap,rfl,_,hc⟩:=sls_open hv
 have HE:=Lib.hid (each_str Tess.Wr.quoted ws a cap sep w hl hj fun k hk=>by
  obtain ⟨b,off,ha,hb,hcell⟩:=hc k hk
  exact ⟨b,off,ha,hb,_,hcell,fun W _=>quoted_any _ W (hs _ (List.getElem_mem hk))⟩)
 clear hc hv hs hj
 go_enter Tryz.func197,Tryz.ntmps197
 go_wp2_with (go_at_call 194;refine HE.out.mono ?_;rintro e w2 ⟨rfl,hb2⟩;have HB:=Lib.hid hb2;clear hb2)
 go_ret
 exact ⟨rfl,HB.out⟩
theorem name_cat (nm:ByteArray):(⟨#[36]⟩:ByteArray) ++ nm=Tok.ofL (36 :: Tess.Wr.bs nm):=by
 conv=>lhs;rw [self_ofL nm]
 exact cat [36] _
set_option maxRecDepth 100000 in
set_option maxHeartbeats 8000000 in
theorem asking_any (p:Nat→Prop) (n:Nat):∀ (v:Value) (f:Fil) (w:World),Vz w→FilAt p n w v f→SmallF f→(Tess.Wr.asking f).length≤10000000000 →
  Calls Tryz.prog 126 #[v] w fun e w'=>e = .returned (.string (Tok.ofL (Tess.Wr.asking f)))∧Below w.heap.size w w':=by
 induction n with
 | zero=>intro v f w _ h;exact h.elim
 | succ n ih=>
   intro v f w hV h hs hlen
   obtain ⟨k,nm,ws,fa,fb,l⟩:=f
   obtain ⟨vw,a,cap,rfl,_,hvw,_,_,_,hc⟩:=h
   simp only [Fil.kind,Fil.name,Fil.words,Fil.frm,Fil.to,Fil.l] at hvw hc ⊢
   obtain ⟨xa,xn,xc,rfl⟩:=hvw.shape
   unfold SmallF at hs
   obtain ⟨s1,s2,s3,s4,s5,s6,s7⟩:=hs
   have HCH:=Lib.hid (show ∀ (sep:ByteArray) (W:World),Below w.heap.size w W→(Tess.Wr.join sep.data.toList (l.map Tess.Wr.asking)).length≤10000000000→Calls Tryz.prog 199 #[.slice a l.length cap,.string sep,.func (.func 126) #[] #[]] W fun e w'=>e = .returned (.string (Tok.ofL (Tess.Wr.join sep.data.toList (l.map Tess.Wr.asking))))∧Below W.heap.size W w' from fun sep W hW hj=>
    each_ask Tess.Wr.asking l a cap sep W s6 (by omega) fun k hk=>by
     obtain ⟨b,off,ha,hb,hp,hel⟩:=hc (by omega)
     obtain ⟨c0,c1,c2,c3,c4,c5,hf,q0,q1,q2,q3,q4,q5⟩:=hel k hk
     obtain ⟨wa,wn,wc,a4,k4,e⟩:=FilAt.shapes hf
     simp only [Value.agg.injEq,Array.mk.injEq,List.cons.injEq,and_true] at e
     obtain ⟨rfl,rfl,rfl,rfl,rfl,rfl⟩:=e
     have tr:∀ {i:Nat} {u:Value},w.cell? ⟨b,i,none⟩=some u→W.cell? ⟨b,i,none⟩=some u:=fun {i u} h=>(hW.cell (p:=⟨b,i,none⟩) hb).trans h
     exact ⟨b,off,ha,Nat.lt_of_lt_of_le hb hW.size,_,_,_,_,_,_,_,_,_,_,⟨tr q0,tr q1,tr q2,tr q3,tr q4,tr q5⟩,fun V hVW=>ih _ _ V (hV.below (Bt hW hVW)) (hf.ag (Ag.new p (Bt hW hVW))) (s7.mem _ (List.getElem_mem hk)) (Nat.le_trans (join_part (List.mem_map.2 ⟨_,List.getElem_mem hk,rfl⟩)) hj)⟩)
   have hc0:∀ x:Int,∃ W0,w.alloc (.cells #[.int .i64 x,.string nm,.slice xa xn xc,.int .i64 fa,.int .i64 fb,.slice a l.length cap] 31)=W0:=fun _=>⟨_,rfl⟩
   clear hc ih
   have a1:=fun W=>run_string_add_sum (P:=Tryz.prog) W ⟨#[36]⟩ nm (by show 1 + nm.size≤_;omega)
   rcases (show k=1∨k=2∨k=3∨k=4∨k=5∨k=6∨k=7∨k=8∨(k≠1∧k≠2∧k≠3∧k≠4∧k≠5∧k≠6∧k≠7∧k≠8) by omega) with rfl | rfl | rfl | rfl | rfl | rfl | rfl | rfl | ⟨hk1,hk2,hk3,hk4,hk5,hk6,hk7,hk8⟩
   ·have HE:=Lib.hid (show (⟨#[97,108,108]⟩:ByteArray)=Tok.ofL (Tess.Wr.asking (.mk 1 nm ws fa fb l)) from rfl)
    obtain ⟨W0,hW0⟩:=hc0 1
    obtain ⟨l1,l2,l3⟩:=laid1 w (.cells #[.int .i64 1,.string nm,.slice xa xn xc,.int .i64 fa,.int .i64 fb,.slice a l.length cap] 31)
    rw [hW0] at l1 l2 l3
    have HB0:=Lib.hid l3
    have HV:=Lib.hid (hV.below l3)
    have c0:=cell_of_row _ _ 0 _ _ _ l1;have c1:=cell_of_row _ _ 1 _ _ _ l1;have c2:=cell_of_row _ _ 2 _ _ _ l1;have c3:=cell_of_row _ _ 3 _ _ _ l1;have c4:=cell_of_row _ _ 4 _ _ _ l1;have c5:=cell_of_row _ _ 5 _ _ _ l1
    simp only [List.getElem?_toArray,List.getElem?_cons_succ,List.getElem?_cons_zero] at c0 c1 c2 c3 c4 c5
    have hw0:w.heap.size < W0.heap.size:=by omega
    clear hc0 l1
    generalize Tess.Wr.asking (.mk 1 nm ws fa fb l)=T at *
    clear hlen s2 s3 s7 hvw l3 HCH
    go_enter Tryz.func126,Tryz.ntmps126
    go_wp2
    go_ret
    exact ⟨by rw [← HE.out];rfl,HB0.out⟩
   ·have hEq:Tess.Wr.asking (.mk 2 nm ws fa fb l)=(36 :: Tess.Wr.bs nm) ++ [32,105,115,32] ++ Tess.Wr.words [32,124,32] ws:=rfl
    have hln:(Tess.Wr.words [32,124,32] ws).length≤10000000000:=by
     refine Nat.le_trans ?_ hlen
     rw [hEq,List.length_append];omega
    obtain ⟨W0,hW0⟩:=hc0 2
    obtain ⟨l1,l2,l3⟩:=laid1 w (.cells #[.int .i64 2,.string nm,.slice xa xn xc,.int .i64 fa,.int .i64 fb,.slice a l.length cap] 31)
    rw [hW0] at l1 l2 l3
    have HB0:=Lib.hid l3
    have HV:=Lib.hid (hV.below l3)
    have c0:=cell_of_row _ _ 0 _ _ _ l1;have c1:=cell_of_row _ _ 1 _ _ _ l1;have c2:=cell_of_row _ _ 2 _ _ _ l1;have c3:=cell_of_row _ _ 3 _ _ _ l1;have c4:=cell_of_row _ _ 4 _ _ _ l1;have c5:=cell_of_row _ _ 5 _ _ _ l1
    simp only [List.getElem?_toArray,List.getElem?_cons_succ,List.getElem?_cons_zero] at c0 c1 c2 c3 c4 c5
    have hw0:w.heap.size < W0.heap.size:=by omega
    clear hc0 l1
    have HL:=Lib.hid (last_any ws ⟨#[32,124,32]⟩ s2 s3 (by show (Tess.Wr.words [32,124,32] ws).length≤_;omega) w.heap.size _ W0 c2 (SlOf.below hvw.1 l3))
    have HE:=Lib.hid (show (⟨#[36]⟩:ByteArray) ++ nm ++ ⟨#[32,105,115,32]⟩ ++ Tok.ofL (Tess.Wr.words [32,124,32] ws)=Tok.ofL (Tess.Wr.asking (.mk 2 nm ws fa fb l)) by
     rw [show (⟨#[36]⟩:ByteArray) ++ nm=Tok.ofL (36 :: Tess.Wr.bs nm) from name_cat nm,show (⟨#[32,105,115,32]⟩:ByteArray)=Tok.ofL [32,105,115,32] from rfl,cat,cat,hEq])
    have HLS:=Lib.hid (show (Tok.ofL (Tess.Wr.words [32,124,32] ws)).size≤10000000000 by rw [Tess.Tok.size_ofL];exact hln)
    have HL2:RowKit.Hid (Calls Tryz.prog 197 #[.string ⟨#[32,124,32]⟩,.pointer (some ⟨w.heap.size,0,none⟩)] W0 fun e w'=>e = .returned (.string (Tok.ofL (Tess.Wr.words [32,124,32] ws)))∧Below W0.heap.size W0 w'):=HL
    clear HL
    generalize Tok.ofL (Tess.Wr.words [32,124,32] ws)=X at *
    generalize Tess.Wr.asking (.mk 2 nm ws fa fb l)=T at *
    have hX:=HLS.out
    have a2:=fun W=>run_string_add_sum (P:=Tryz.prog) W (⟨#[36]⟩ ++ nm) ⟨#[32,105,115,32]⟩ (by rw [ByteArray.size_append];show 1 + nm.size + 4≤_;omega)
    have a3:=fun W=>run_string_add_sum (P:=Tryz.prog) W (⟨#[36]⟩ ++ nm ++ ⟨#[32,105,115,32]⟩) X (by rw [ByteArray.size_append,ByteArray.size_append];show 1 + nm.size + 4 + X.size≤_;omega)
    clear hlen hln s2 s3 s7 hvw l3 hEq HCH
    go_enter Tryz.func126,Tryz.ntmps126
    go_wp2_with (go_at_call 197;refine HL2.out.mono ?_;rintro e w2 ⟨rfl,hb2⟩;have HB2:=Lib.hid hb2;clear hb2)
    go_ret
    exact ⟨by rw [← HE.out];rfl,Bt HB0.out HB2.out⟩
   ·have HE:=Lib.hid (show (⟨#[36]⟩:ByteArray) ++ nm ++ ⟨#[32,110,111,110,101]⟩=Tok.ofL (Tess.Wr.asking (.mk 3 nm ws fa fb l)) by
     rw [show (⟨#[36]⟩:ByteArray) ++ nm=Tok.ofL (36 :: Tess.Wr.bs nm) from name_cat nm,show (⟨#[32,110,111,110,101]⟩:ByteArray)=Tok.ofL [32,110,111,110,101] from rfl,cat]
     rfl)
    obtain ⟨W0,hW0⟩:=hc0 3
    obtain ⟨l1,l2,l3⟩:=laid1 w (.cells #[.int .i64 3,.string nm,.slice xa xn xc,.int .i64 fa,.int .i64 fb,.slice a l.length cap] 31)
    rw [hW0] at l1 l2 l3
    have HB0:=Lib.hid l3
    have HV:=Lib.hid (hV.below l3)
    have c0:=cell_of_row _ _ 0 _ _ _ l1;have c1:=cell_of_row _ _ 1 _ _ _ l1;have c2:=cell_of_row _ _ 2 _ _ _ l1;have c3:=cell_of_row _ _ 3 _ _ _ l1;have c4:=cell_of_row _ _ 4 _ _ _ l1;have c5:=cell_of_row _ _ 5 _ _ _ l1
    simp only [List.getElem?_toArray,List.getElem?_cons_succ,List.getElem?_cons_zero] at c0 c1 c2 c3 c4 c5
    have hw0:w.heap.size < W0.heap.size:=by omega
    clear hc0 l1
    generalize Tess.Wr.asking (.mk 3 nm ws fa fb l)=T at *
    have a2:=fun W=>run_string_add_sum (P:=Tryz.prog) W (⟨#[36]⟩ ++ nm) ⟨#[32,110,111,110,101]⟩ (by rw [ByteArray.size_append];show 1 + nm.size + 5≤_;omega)
    clear hlen s2 s3 s7 hvw l3 HCH
    go_enter Tryz.func126,Tryz.ntmps126
    go_wp2
    go_ret
    exact ⟨by rw [← HE.out];rfl,HB0.out⟩
   ·have hEq:Tess.Wr.asking (.mk 4 nm ws fa fb l)=(36 :: Tess.Wr.bs nm) ++ [32,112,114,101,102,105,120,32] ++ Tess.Wr.words [32] ws:=by rw [show ([32,112,114,101,102,105,120,32]:List UInt8)=(32 :: Tess.Wr.bs Tess.Prs.wPrefix) ++ [32] from rfl,← List.append_assoc];rfl
    have hln:(Tess.Wr.words [32] ws).length≤10000000000:=by
     refine Nat.le_trans ?_ hlen
     rw [hEq,List.length_append];omega
    obtain ⟨W0,hW0⟩:=hc0 4
    obtain ⟨l1,l2,l3⟩:=laid1 w (.cells #[.int .i64 4,.string nm,.slice xa xn xc,.int .i64 fa,.int .i64 fb,.slice a l.length cap] 31)
    rw [hW0] at l1 l2 l3
    have HB0:=Lib.hid l3
    have HV:=Lib.hid (hV.below l3)
    have c0:=cell_of_row _ _ 0 _ _ _ l1;have c1:=cell_of_row _ _ 1 _ _ _ l1;have c2:=cell_of_row _ _ 2 _ _ _ l1;have c3:=cell_of_row _ _ 3 _ _ _ l1;have c4:=cell_of_row _ _ 4 _ _ _ l1;have c5:=cell_of_row _ _ 5 _ _ _ l1
    simp only [List.getElem?_toArray,List.getElem?_cons_succ,List.getElem?_cons_zero] at c0 c1 c2 c3 c4 c5
    have hw0:w.heap.size < W0.heap.size:=by omega
    clear hc0 l1
    have HL:=Lib.hid (last_any ws ⟨#[32]⟩ s2 s3 (by show (Tess.Wr.words [32] ws).length≤_;omega) w.heap.size _ W0 c2 (SlOf.below hvw.1 l3))
    have HE:=Lib.hid (show (⟨#[36]⟩:ByteArray) ++ nm ++ ⟨#[32,112,114,101,102,105,120,32]⟩ ++ Tok.ofL (Tess.Wr.words [32] ws)=Tok.ofL (Tess.Wr.asking (.mk 4 nm ws fa fb l)) by
     rw [show (⟨#[36]⟩:ByteArray) ++ nm=Tok.ofL (36 :: Tess.Wr.bs nm) from name_cat nm,show (⟨#[32,112,114,101,102,105,120,32]⟩:ByteArray)=Tok.ofL [32,112,114,101,102,105,120,32] from rfl,cat,cat,hEq])
    have HLS:=Lib.hid (show (Tok.ofL (Tess.Wr.words [32] ws)).size≤10000000000 by rw [Tess.Tok.size_ofL];exact hln)
    have HL2:RowKit.Hid (Calls Tryz.prog 197 #[.string ⟨#[32]⟩,.pointer (some ⟨w.heap.size,0,none⟩)] W0 fun e w'=>e = .returned (.string (Tok.ofL (Tess.Wr.words [32] ws)))∧Below W0.heap.size W0 w'):=HL
    clear HL
    generalize Tok.ofL (Tess.Wr.words [32] ws)=X at *
    generalize Tess.Wr.asking (.mk 4 nm ws fa fb l)=T at *
    have hX:=HLS.out
    have a2:=fun W=>run_string_add_sum (P:=Tryz.prog) W (⟨#[36]⟩ ++ nm) ⟨#[32,112,114,101,102,105,120,32]⟩ (by rw [ByteArray.size_append];show 1 + nm.size + 8≤_;omega)
    have a3:=fun W=>run_string_add_sum (P:=Tryz.prog) W (⟨#[36]⟩ ++ nm ++ ⟨#[32,112,114,101,102,105,120,32]⟩) X (by rw [ByteArray.size_append,ByteArray.size_append];show 1 + nm.size + 8 + X.size≤_;omega)
    clear hlen hln s2 s3 s7 hvw l3 hEq HCH
    go_enter Tryz.func126,Tryz.ntmps126
    go_wp2_with (go_at_call 197;refine HL2.out.mono ?_;rintro e w2 ⟨rfl,hb2⟩;have HB2:=Lib.hid hb2;clear hb2)
    go_ret
    exact ⟨by rw [← HE.out];rfl,Bt HB0.out HB2.out⟩
   ·have hEq:Tess.Wr.asking (.mk 5 nm ws fa fb l)=(36 :: Tess.Wr.bs nm) ++ [32,98,101,116,119,101,101,110,32] ++ Tess.Wr.words [32,46,46,32] ws:=by rw [show ([32,98,101,116,119,101,101,110,32]:List UInt8)=(32 :: Tess.Wr.bs Tess.Prs.wBetween) ++ [32] from rfl,← List.append_assoc];rfl
    have hln:(Tess.Wr.words [32,46,46,32] ws).length≤10000000000:=by
     refine Nat.le_trans ?_ hlen
     rw [hEq,List.length_append];omega
    obtain ⟨W0,hW0⟩:=hc0 5
    obtain ⟨l1,l2,l3⟩:=laid1 w (.cells #[.int .i64 5,.string nm,.slice xa xn xc,.int .i64 fa,.int .i64 fb,.slice a l.length cap] 31)
    rw [hW0] at l1 l2 l3
    have HB0:=Lib.hid l3
    have HV:=Lib.hid (hV.below l3)
    have c0:=cell_of_row _ _ 0 _ _ _ l1;have c1:=cell_of_row _ _ 1 _ _ _ l1;have c2:=cell_of_row _ _ 2 _ _ _ l1;have c3:=cell_of_row _ _ 3 _ _ _ l1;have c4:=cell_of_row _ _ 4 _ _ _ l1;have c5:=cell_of_row _ _ 5 _ _ _ l1
    simp only [List.getElem?_toArray,List.getElem?_cons_succ,List.getElem?_cons_zero] at c0 c1 c2 c3 c4 c5
    have hw0:w.heap.size < W0.heap.size:=by omega
    clear hc0 l1
    have HL:=Lib.hid (last_any ws ⟨#[32,46,46,32]⟩ s2 s3 (by show (Tess.Wr.words [32,46,46,32] ws).length≤_;omega) w.heap.size _ W0 c2 (SlOf.below hvw.1 l3))
    have HE:=Lib.hid (show (⟨#[36]⟩:ByteArray) ++ nm ++ ⟨#[32,98,101,116,119,101,101,110,32]⟩ ++ Tok.ofL (Tess.Wr.words [32,46,46,32] ws)=Tok.ofL (Tess.Wr.asking (.mk 5 nm ws fa fb l)) by
     rw [show (⟨#[36]⟩:ByteArray) ++ nm=Tok.ofL (36 :: Tess.Wr.bs nm) from name_cat nm,show (⟨#[32,98,101,116,119,101,101,110,32]⟩:ByteArray)=Tok.ofL [32,98,101,116,119,101,101,110,32] from rfl,cat,cat,hEq])
    have HLS:=Lib.hid (show (Tok.ofL (Tess.Wr.words [32,46,46,32] ws)).size≤10000000000 by rw [Tess.Tok.size_ofL];exact hln)
    have HL2:RowKit.Hid (Calls Tryz.prog 197 #[.string ⟨#[32,46,46,32]⟩,.pointer (some ⟨w.heap.size,0,none⟩)] W0 fun e w'=>e = .returned (.string (Tok.ofL (Tess.Wr.words [32,46,46,32] ws)))∧Below W0.heap.size W0 w'):=HL
    clear HL
    generalize Tok.ofL (Tess.Wr.words [32,46,46,32] ws)=X at *
    generalize Tess.Wr.asking (.mk 5 nm ws fa fb l)=T at *
    have hX:=HLS.out
    have a2:=fun W=>run_string_add_sum (P:=Tryz.prog) W (⟨#[36]⟩ ++ nm) ⟨#[32,98,101,116,119,101,101,110,32]⟩ (by rw [ByteArray.size_append];show 1 + nm.size + 9≤_;omega)
    have a3:=fun W=>run_string_add_sum (P:=Tryz.prog) W (⟨#[36]⟩ ++ nm ++ ⟨#[32,98,101,116,119,101,101,110,32]⟩) X (by rw [ByteArray.size_append,ByteArray.size_append];show 1 + nm.size + 9 + X.size≤_;omega)
    clear hlen hln s2 s3 s7 hvw l3 hEq HCH
    go_enter Tryz.func126,Tryz.ntmps126
    go_wp2_with (go_at_call 197;refine HL2.out.mono ?_;rintro e w2 ⟨rfl,hb2⟩;have HB2:=Lib.hid hb2;clear hb2)
    go_ret
    exact ⟨by rw [← HE.out];rfl,Bt HB0.out HB2.out⟩
   ·have HE:=Lib.hid (show (⟨#[116,105,109,101,32]⟩:ByteArray) ++ Tok.ofL (Tess.Wr.digits fa) ++ ⟨#[32,46,46,32]⟩ ++ Tok.ofL (Tess.Wr.digits fb)=Tok.ofL (Tess.Wr.asking (.mk 6 nm ws fa fb l)) by
     rw [show (⟨#[116,105,109,101,32]⟩:ByteArray)=Tok.ofL [116,105,109,101,32] from rfl,show (⟨#[32,46,46,32]⟩:ByteArray)=Tok.ofL [32,46,46,32] from rfl,cat,cat,cat]
     rfl)
    obtain ⟨W0,hW0⟩:=hc0 6
    obtain ⟨l1,l2,l3⟩:=laid1 w (.cells #[.int .i64 6,.string nm,.slice xa xn xc,.int .i64 fa,.int .i64 fb,.slice a l.length cap] 31)
    rw [hW0] at l1 l2 l3
    have HB0:=Lib.hid l3
    have HV:=Lib.hid (hV.below l3)
    have c0:=cell_of_row _ _ 0 _ _ _ l1;have c1:=cell_of_row _ _ 1 _ _ _ l1;have c2:=cell_of_row _ _ 2 _ _ _ l1;have c3:=cell_of_row _ _ 3 _ _ _ l1;have c4:=cell_of_row _ _ 4 _ _ _ l1;have c5:=cell_of_row _ _ 5 _ _ _ l1
    simp only [List.getElem?_toArray,List.getElem?_cons_succ,List.getElem?_cons_zero] at c0 c1 c2 c3 c4 c5
    have hw0:w.heap.size < W0.heap.size:=by omega
    clear hc0 l1
    have h1:=dig_size s4.1 s4.2
    have h2:=dig_size s5.1 s5.2
    have HD1:=Lib.hid (fun W (h:Vz W)=>digits_any fa s4.1 s4.2 W h)
    have HD2:=Lib.hid (fun W (h:Vz W)=>digits_any fb s5.1 s5.2 W h)
    generalize Tok.ofL (Tess.Wr.digits fa)=X at *
    generalize Tok.ofL (Tess.Wr.digits fb)=Y at *
    generalize Tess.Wr.asking (.mk 6 nm ws fa fb l)=T at *
    have a2:=fun W=>run_string_add_sum (P:=Tryz.prog) W ⟨#[116,105,109,101,32]⟩ X (by show 5 + X.size≤_;omega)
    have a3:=fun W=>run_string_add_sum (P:=Tryz.prog) W (⟨#[116,105,109,101,32]⟩ ++ X) ⟨#[32,46,46,32]⟩ (by rw [ByteArray.size_append];show 5 + X.size + 4≤_;omega)
    have a4:=fun W=>run_string_add_sum (P:=Tryz.prog) W (⟨#[116,105,109,101,32]⟩ ++ X ++ ⟨#[32,46,46,32]⟩) Y (by rw [ByteArray.size_append,ByteArray.size_append];show 5 + X.size + 4 + Y.size≤_;omega)
    clear hlen s2 s3 s7 hvw l3 HCH
    go_enter Tryz.func126,Tryz.ntmps126
    go_wp2_with (fail)
    refine Flow.wp_region_flow_tail 11 (Flow.specs [.inl ?_,.inl ?_,.inl ?_,.inl ?_,.inl ?_,.inl ?_,.inl ?_,.inl ?_,.inl ?_,.inl ?_,.inl ?_]) (by kernel_rfl) (by kernel_rfl) ?_ ?_
    rotate_left 11
    ·refine Flow.specs_mono ?_
     repeat (first | exact Flow.lmono_nil | refine Flow.lmono_inl ?_)
    all_goals try simp only [List.take_succ_cons,List.take_zero,List.drop_succ_cons,List.drop_zero]
    iterate 3 (refine Flow.tree_valK rfl (fun K hK=>⟨fun w hw hG => ?_,?_⟩);(have hcl:=Flow.bcell hw;clear hG hw;unfold Flow.Runs Flow.yields;go_simp;try rfl);go_simp;refine hK _ ?_;clear hK K)
    (refine Flow.tree_valK rfl (fun K hK=>⟨fun w hw hG => ?_,?_⟩);(have hV2:=HV.out.below hw;clear hG hw;unfold Flow.Runs Flow.yields;go_simp;refine (HD1.out _ hV2).mono ?_;rintro e w3 ⟨rfl,hb3⟩;(refine ⟨?_,hb3⟩;rfl));go_simp;refine hK _ ?_;clear hK K)
    iterate 5 (refine Flow.tree_valK rfl (fun K hK=>⟨fun w hw hG => ?_,?_⟩);(have hcl:=Flow.bcell hw;clear hG hw;unfold Flow.Runs Flow.yields;go_simp;try rfl);go_simp;refine hK _ ?_;clear hK K)
    (refine Flow.tree_valK rfl (fun K hK=>⟨fun w hw hG => ?_,?_⟩);(have hV2:=HV.out.below hw;clear hG hw;unfold Flow.Runs Flow.yields;go_simp;refine (HD2.out _ hV2).mono ?_;rintro e w3 ⟨rfl,hb3⟩;(refine ⟨?_,hb3⟩;rfl));go_simp;refine hK _ ?_;clear hK K)
    iterate 1 (refine Flow.tree_valK rfl (fun K hK=>⟨fun w hw hG => ?_,?_⟩);(have hcl:=Flow.bcell hw;clear hG hw;unfold Flow.Runs Flow.yields;go_simp;try rfl);go_simp;refine hK _ ?_;clear hK K)
    refine Flow.tree_nil fun w2 hw2 hG => ?_
    clear hG
    go_wp2
    go_ret
    exact ⟨by rw [← HE.out];rfl,Bt HB0.out hw2⟩
   ·have hEq:Tess.Wr.asking (.mk 7 nm ws fa fb l)=[110,111,116,32] ++ Tess.Wr.join [32] (Tess.Wr.askingL l):=rfl
    have hln:(Tess.Wr.join [32] (l.map Tess.Wr.asking)).length≤10000000000:=by
     refine Nat.le_trans ?_ hlen
     rw [hEq,askingL_map]
     simp only [List.length_append];omega
    obtain ⟨W0,hW0⟩:=hc0 7
    obtain ⟨l1,l2,l3⟩:=laid1 w (.cells #[.int .i64 7,.string nm,.slice xa xn xc,.int .i64 fa,.int .i64 fb,.slice a l.length cap] 31)
    rw [hW0] at l1 l2 l3
    have HB0:=Lib.hid l3
    have HV:=Lib.hid (hV.below l3)
    have c0:=cell_of_row _ _ 0 _ _ _ l1;have c1:=cell_of_row _ _ 1 _ _ _ l1;have c2:=cell_of_row _ _ 2 _ _ _ l1;have c3:=cell_of_row _ _ 3 _ _ _ l1;have c4:=cell_of_row _ _ 4 _ _ _ l1;have c5:=cell_of_row _ _ 5 _ _ _ l1
    simp only [List.getElem?_toArray,List.getElem?_cons_succ,List.getElem?_cons_zero] at c0 c1 c2 c3 c4 c5
    have hw0:w.heap.size < W0.heap.size:=by omega
    clear hc0 l1
    have HX:RowKit.Hid (Calls Tryz.prog 199 #[.slice a l.length cap,.string ⟨#[32]⟩,.func (.func 126) #[] #[]] W0 fun e w'=>e = .returned (.string (Tok.ofL (Tess.Wr.join [32] (l.map Tess.Wr.asking))))∧Below W0.heap.size W0 w'):=Lib.hid (HCH.out ⟨#[32]⟩ W0 l3 hln)
    have HE:=Lib.hid (show (⟨#[110,111,116,32]⟩:ByteArray) ++ Tok.ofL (Tess.Wr.join [32] (l.map Tess.Wr.asking))=Tok.ofL (Tess.Wr.asking (.mk 7 nm ws fa fb l)) by
     rw [show (⟨#[110,111,116,32]⟩:ByteArray)=Tok.ofL [110,111,116,32] from rfl,cat,hEq,askingL_map])
    have HLS:=Lib.hid (show (Tok.ofL (Tess.Wr.join [32] (l.map Tess.Wr.asking))).size≤10000000000 by rw [Tess.Tok.size_ofL];exact hln)
    generalize Tok.ofL (Tess.Wr.join [32] (l.map Tess.Wr.asking))=X at *
    generalize Tess.Wr.asking (.mk 7 nm ws fa fb l)=T at *
    have hX:=HLS.out
    have a2:=fun W=>run_string_add_sum (P:=Tryz.prog) W ⟨#[110,111,116,32]⟩ X (by show 4 + X.size≤_;omega)
    clear hlen hln s2 s3 s7 hvw l3 HCH hEq
    go_enter Tryz.func126,Tryz.ntmps126
    go_wp2_with (go_at_call 199;refine HX.out.mono ?_;rintro e w2 ⟨rfl,hb2⟩;have HB2:=Lib.hid hb2;clear hb2)
    go_ret
    exact ⟨by rw [← HE.out];rfl,Bt HB0.out HB2.out⟩
   ·have hEq:Tess.Wr.asking (.mk 8 nm ws fa fb l)=[40,32] ++ Tess.Wr.join [32,97,110,100,32] (Tess.Wr.askingL l) ++ [32,41]:=rfl
    have hln:(Tess.Wr.join [32,97,110,100,32] (l.map Tess.Wr.asking)).length≤10000000000:=by
     refine Nat.le_trans ?_ hlen
     rw [hEq,askingL_map]
     simp only [List.length_append];omega
    obtain ⟨W0,hW0⟩:=hc0 8
    obtain ⟨l1,l2,l3⟩:=laid1 w (.cells #[.int .i64 8,.string nm,.slice xa xn xc,.int .i64 fa,.int .i64 fb,.slice a l.length cap] 31)
    rw [hW0] at l1 l2 l3
    have HB0:=Lib.hid l3
    have HV:=Lib.hid (hV.below l3)
    have c0:=cell_of_row _ _ 0 _ _ _ l1;have c1:=cell_of_row _ _ 1 _ _ _ l1;have c2:=cell_of_row _ _ 2 _ _ _ l1;have c3:=cell_of_row _ _ 3 _ _ _ l1;have c4:=cell_of_row _ _ 4 _ _ _ l1;have c5:=cell_of_row _ _ 5 _ _ _ l1
    simp only [List.getElem?_toArray,List.getElem?_cons_succ,List.getElem?_cons_zero] at c0 c1 c2 c3 c4 c5
    have hw0:w.heap.size < W0.heap.size:=by omega
    clear hc0 l1
    have HX:RowKit.Hid (Calls Tryz.prog 199 #[.slice a l.length cap,.string ⟨#[32,97,110,100,32]⟩,.func (.func 126) #[] #[]] W0 fun e w'=>e = .returned (.string (Tok.ofL (Tess.Wr.join [32,97,110,100,32] (l.map Tess.Wr.asking))))∧Below W0.heap.size W0 w'):=Lib.hid (HCH.out ⟨#[32,97,110,100,32]⟩ W0 l3 hln)
    have HE:=Lib.hid (show (⟨#[40,32]⟩:ByteArray) ++ Tok.ofL (Tess.Wr.join [32,97,110,100,32] (l.map Tess.Wr.asking)) ++ ⟨#[32,41]⟩=Tok.ofL (Tess.Wr.asking (.mk 8 nm ws fa fb l)) by
     rw [show (⟨#[40,32]⟩:ByteArray)=Tok.ofL [40,32] from rfl,show (⟨#[32,41]⟩:ByteArray)=Tok.ofL [32,41] from rfl,cat,cat,hEq,askingL_map])
    have HLS:=Lib.hid (show (Tok.ofL (Tess.Wr.join [32,97,110,100,32] (l.map Tess.Wr.asking))).size≤10000000000 by rw [Tess.Tok.size_ofL];exact hln)
    generalize Tok.ofL (Tess.Wr.join [32,97,110,100,32] (l.map Tess.Wr.asking))=X at *
    generalize Tess.Wr.asking (.mk 8 nm ws fa fb l)=T at *
    have hX:=HLS.out
    have a2:=fun W=>run_string_add_sum (P:=Tryz.prog) W ⟨#[40,32]⟩ X (by show 2 + X.size≤_;omega)
    have a3:=fun W=>run_string_add_sum (P:=Tryz.prog) W (⟨#[40,32]⟩ ++ X) ⟨#[32,41]⟩ (by rw [ByteArray.size_append];show 2 + X.size + 2≤_;omega)
    clear hlen hln s2 s3 s7 hvw l3 HCH hEq
    go_enter Tryz.func126,Tryz.ntmps126
    go_wp2_with (go_at_call 199;refine HX.out.mono ?_;rintro e w2 ⟨rfl,hb2⟩;have HB2:=Lib.hid hb2;clear hb2)
    go_ret
    exact ⟨by rw [← HE.out];rfl,Bt HB0.out HB2.out⟩
   ·have hEq:Tess.Wr.asking (.mk k nm ws fa fb l)=[40,32] ++ Tess.Wr.join [32,111,114,32] (Tess.Wr.askingL l) ++ [32,41]:=by unfold Tess.Wr.asking;rw [if_neg hk1,if_neg hk2,if_neg hk3,if_neg hk4,if_neg hk5,if_neg hk6,if_neg hk7,if_neg hk8];rfl
    have hln:(Tess.Wr.join [32,111,114,32] (l.map Tess.Wr.asking)).length≤10000000000:=by
     refine Nat.le_trans ?_ hlen
     rw [hEq,askingL_map]
     simp only [List.length_append];omega
    obtain ⟨W0,hW0⟩:=hc0 k
    obtain ⟨l1,l2,l3⟩:=laid1 w (.cells #[.int .i64 k,.string nm,.slice xa xn xc,.int .i64 fa,.int .i64 fb,.slice a l.length cap] 31)
    rw [hW0] at l1 l2 l3
    have HB0:=Lib.hid l3
    have HV:=Lib.hid (hV.below l3)
    have c0:=cell_of_row _ _ 0 _ _ _ l1;have c1:=cell_of_row _ _ 1 _ _ _ l1;have c2:=cell_of_row _ _ 2 _ _ _ l1;have c3:=cell_of_row _ _ 3 _ _ _ l1;have c4:=cell_of_row _ _ 4 _ _ _ l1;have c5:=cell_of_row _ _ 5 _ _ _ l1
    simp only [List.getElem?_toArray,List.getElem?_cons_succ,List.getElem?_cons_zero] at c0 c1 c2 c3 c4 c5
    have hw0:w.heap.size < W0.heap.size:=by omega
    clear hc0 l1
    have HX:RowKit.Hid (Calls Tryz.prog 199 #[.slice a l.length cap,.string ⟨#[32,111,114,32]⟩,.func (.func 126) #[] #[]] W0 fun e w'=>e = .returned (.string (Tok.ofL (Tess.Wr.join [32,111,114,32] (l.map Tess.Wr.asking))))∧Below W0.heap.size W0 w'):=Lib.hid (HCH.out ⟨#[32,111,114,32]⟩ W0 l3 hln)
    have HE:=Lib.hid (show (⟨#[40,32]⟩:ByteArray) ++ Tok.ofL (Tess.Wr.join [32,111,114,32] (l.map Tess.Wr.asking)) ++ ⟨#[32,41]⟩=Tok.ofL (Tess.Wr.asking (.mk k nm ws fa fb l)) by
     rw [show (⟨#[40,32]⟩:ByteArray)=Tok.ofL [40,32] from rfl,show (⟨#[32,41]⟩:ByteArray)=Tok.ofL [32,41] from rfl,cat,cat,hEq,askingL_map])
    have HLS:=Lib.hid (show (Tok.ofL (Tess.Wr.join [32,111,114,32] (l.map Tess.Wr.asking))).size≤10000000000 by rw [Tess.Tok.size_ofL];exact hln)
    generalize Tok.ofL (Tess.Wr.join [32,111,114,32] (l.map Tess.Wr.asking))=X at *
    generalize Tess.Wr.asking (.mk k nm ws fa fb l)=T at *
    have hX:=HLS.out
    have a2:=fun W=>run_string_add_sum (P:=Tryz.prog) W ⟨#[40,32]⟩ X (by show 2 + X.size≤_;omega)
    have a3:=fun W=>run_string_add_sum (P:=Tryz.prog) W (⟨#[40,32]⟩ ++ X) ⟨#[32,41]⟩ (by rw [ByteArray.size_append];show 2 + X.size + 2≤_;omega)
    clear hlen hln s2 s3 s7 hvw l3 HCH hEq
    have e1:(k == 1)=false:=by rw [beq_eq_false_iff_ne];exact hk1
    have e2:(k == 2)=false:=by rw [beq_eq_false_iff_ne];exact hk2
    have e3:(k == 3)=false:=by rw [beq_eq_false_iff_ne];exact hk3
    have e4:(k == 4)=false:=by rw [beq_eq_false_iff_ne];exact hk4
    have e5:(k == 5)=false:=by rw [beq_eq_false_iff_ne];exact hk5
    have e6:(k == 6)=false:=by rw [beq_eq_false_iff_ne];exact hk6
    have e7:(k == 7)=false:=by rw [beq_eq_false_iff_ne];exact hk7
    have e8:(k == 8)=false:=by rw [beq_eq_false_iff_ne];exact hk8
    go_enter Tryz.func126,Tryz.ntmps126
    go_wp2_with (go_at_call 199;refine HX.out.mono ?_;rintro e w2 ⟨rfl,hb2⟩;have HB2:=Lib.hid hb2;clear hb2)
    go_ret
    exact ⟨by rw [← HE.out];rfl,Bt HB0.out HB2.out⟩
end Go.Proofs.YtbbgjjjeecfnoaaGreatDoor
namespace Go.Proofs.YtbbgjjjeecfnoaaGreatDoor
open Go.RowKit Go.Sort Go.Maps
open Tess (Tok Fil Que)
structure Wt (w:World) (qc:Array Value) (xs:List (List UInt8)) (W:World):Prop where
 kQ:W.heap[w.heap.size]? = some (.cells qc 35 (0,0))
 kO:∃ ov,W.heap[w.heap.size + 1]? = some (.cells #[ov] 22 (0,0))∧W.ownsRow (w.heap.size + 2) 9 1 ov xs.length (xs.map fun x => .string (Tok.ofL x))
 b:Below w.heap.size w W
section
variable {w W W':World} {qc:Array Value} {xs:List (List UInt8)}
theorem Wt.size (h:Wt w qc xs W):w.heap.size + 2≤W.heap.size:=by
 obtain ⟨ov,h1,_⟩:=h.kO
 exact (Array.getElem?_eq_some_iff.1 h1).1
theorem Wt.later (h:Wt w qc xs W) (hb:Below W.heap.size W W'):Wt w qc xs W':=by
 have hs:=h.size
 obtain ⟨ov,h1,h2⟩:=h.kO
 exact ⟨(hb.block _ (by omega)).trans h.kQ,⟨ov,(hb.block _ (by omega)).trans h1,owns_below h2 hb⟩,Bt h.b hb⟩
end
set_option maxRecDepth 100000 in
set_option maxHeartbeats 2000000 in
theorem put_any (is:Bool) (ls:List (List UInt8)) (g cap:Nat) (w W:World) (qc:Array Value) (xs:List (List UInt8)) (hW:Wt w qc xs W) (hc:∀ j u,(ls.map fun x=>Value.string (Tok.ofL x))[j]? = some u→W.cell? ⟨g,j,none⟩=some u) (hx:xs.length≤1000) (hl:ls.length≤2) (hl1:1≤ls.length) :
  Calls Tryz.prog 122 #[.bool is,.slice (some ⟨g,0,none⟩) ls.length cap,.pointer (some ⟨w.heap.size + 1,0,none⟩)] W fun e W'=>(∃ v,e = .returned v)∧Wt w qc (xs ++ (if is then ls else [])) W':=by
 have hs:=hW.size
 obtain ⟨ov,ho,hown⟩:=hW.kO
 obtain ⟨i0,hi,hz0,hz1,hz2⟩:=info_parts infoStr
 have HW:=Lib.hid hW
 have HO:=Lib.hid hown
 have HK:=Lib.hid ho
 have c0:=cell_of_row _ _ 0 _ _ _ ho
 have z0:=frozen_of_row _ _ 0 _ _ ho
 simp only [List.getElem?_toArray,List.getElem?_cons_zero] at c0
 have hadd:∀ j,(⟨g,0,none⟩:Addr).add j=⟨g,j,none⟩:=fun j=>by cases j <;> simp [Addr.add]
 cases is with
 | false=>
   go_enter Tryz.func122,Tryz.ntmps122
   go_wp2
   go_end0
   exact ⟨⟨_,rfl⟩,by simpa using HW.out⟩
 | true=>
   have HC:=Lib.hid hc
   clear hW hown ho hc
   go_enter Tryz.func122,Tryz.ntmps122
   go_wp2_with (at_builtin;refine wpList_append_own _ rfl _ _ 22 rfl (w.heap.size + 2) 9 i0 (.string ByteArray.empty) 1 16 Tryz.underlying22 hi hz0 hz1 hz2 rfl (by decide) _ _ _ rfl HO.out ⟨g,0,none⟩ ls.length cap (ls.map fun x=>Value.string (Tok.ofL x)) rfl (by simp) (fun j u hj=>by rw [hadd];exact HC.out j u hj) (by intro u hu;obtain ⟨x,_,rfl⟩:=List.mem_map.1 hu;rfl) (by unfold maxLen;omega) (by omega) (by omega) ?_;intro v' w3 hown3 hgrow hnil3;have hk3:=(hgrow.block (w.heap.size + 1) (by omega) (fun e=>by have:=(HO.out.lt _ e.symm).1;omega)).trans HK.out;obtain ⟨gg,cp,rfl,_⟩:=owns_cell_any hown3 (by omega);have c3:=cell_of_row _ _ 0 _ _ _ hk3;have z3:=frozen_of_row _ _ 0 _ _ hk3;simp only [List.getElem?_toArray,List.getElem?_cons_zero] at c3)
   go_end0
   refine ⟨⟨_,rfl⟩,?_,⟨_,heap_setCell_same _ _ _ _ _ _ hk3,?_⟩,?_⟩
   ·exact (heap_setCell_other _ _ _ _ (by show w.heap.size≠w.heap.size + 1;omega)).trans ((hgrow.block _ (by omega) (fun e=>by have:=(HO.out.lt _ e.symm).1;omega)).trans HW.out.kQ)
   ·simp only [List.length_append,List.map_append]
    exact ownsRow_setCell_below hown3 (by show w.heap.size + 1 < _;omega) _
   ·exact (HW.out.b.grown hgrow (by omega) (fun k e=>by have:=(HO.out.lt k e).1;omega)).setCell (by show w.heap.size≤w.heap.size + 1;omega) _
end Go.Proofs.YtbbgjjjeecfnoaaGreatDoor
