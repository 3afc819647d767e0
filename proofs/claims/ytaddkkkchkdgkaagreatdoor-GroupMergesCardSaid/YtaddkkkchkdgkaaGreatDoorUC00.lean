/- Joined by mergeK2.py: K77p, K77, K78 -/
import Derived.Test.YtaddkkkchkdgkaaGreatDoorWC45
import Derived.Test.YtaddkkkchkdgkaaGreatDoorWC49
import Derived.Lib.LaidPrint
namespace Tess
open Go Kl
section
variable (s:Sch) (q:Que) (set:Nat) (g:Int)
theorem sum_groups (c:CK→Bool) (l:List (CK×Pay)):sum Pay.add c (groupsP s q set l)=sum Pay.add c (re (gOf s q set) l):=sum_fold ck_sto pay_com _ _
end
end Tess
namespace Tess
open Go Kl
namespace Kl
section
variable {K P:Type} {lt:K→K→Bool} {add:P→P→P}
def merge (lt:K→K→Bool) (add:P→P→P) (l m:List (K×P)):List (K×P):=(l ++ m).foldl (put lt add) []
theorem merge_nod (hk:Sto lt) (l m:List (K×P)):Nod (merge lt add l m):=by
 unfold merge
 generalize l ++ m=r
 have:∀ (r n:List (K×P)),Nod n→Nod (r.foldl (put lt add) n):=by
  intro r
  induction r with
  | nil=>exact fun _ h=>h
  | cons x r ih=>exact fun n h=>ih _ (put_nod hk x h)
 exact this r [] List.Pairwise.nil
theorem asc_nod (hk:Sto lt) {l:List (K×P)} (h:Asc lt l):Nod l:=by
 unfold Nod
 rw [List.nodup_iff_pairwise_ne,List.pairwise_map]
 exact h.imp fun hab e=>by rw [e,hk.irr] at hab;cases hab
theorem sum_nod (hk:Sto lt) {l:List (K×P)} (h:Nod l) {k:K} {p:P}:sum add (at' lt k) l=some p↔(k,p) ∈ l:=by
 induction l with
 | nil=>simp [sum]
 | cons x l ih=>
   unfold Nod at h
   rw [List.map_cons,List.nodup_cons] at h
   rw [sum]
   cases hx:at' lt k x.1
   ·rw [if_neg (by simp),none_oadd,ih h.2,List.mem_cons]
    refine ⟨Or.inr,fun h'=>h'.resolve_left fun e => ?_⟩
    rw [← e,(at_iff hk).2 rfl] at hx;cases hx
   ·have e:=(at_iff hk).1 hx
    rw [if_pos rfl,sum_none (l:=l),oadd_none]
    ·constructor
     ·intro h';cases h';rw [List.mem_cons];exact Or.inl (by rw [← e])
     ·intro h'
      rcases List.mem_cons.1 h' with e' | h'
      ·rw [← e']
      ·exact absurd (List.mem_map.2 ⟨_,h',e.symm⟩) h.1
    ·intro y hy
     cases hy':at' lt k y.1
     ·rfl
     ·exact absurd (List.mem_map.2 ⟨y,hy,((at_iff hk).1 hy').trans e.symm⟩) h.1
theorem nod_perm (hk:Sto lt) {l m:List (K×P)} (hl:Nod l) (hm:Nod m) (h:∀ k,sum add (at' lt k) l=sum add (at' lt k) m):l.Perm m:=by
 have h1:∀ {n:List (K×P)},Nod n→n.Nodup:=fun hn=>by
  unfold Nod at hn
  rw [List.nodup_iff_pairwise_ne,List.pairwise_map] at hn
  rw [List.nodup_iff_pairwise_ne]
  exact hn.imp fun hab e=>hab (by rw [e])
 refine (List.perm_ext_iff_of_nodup (h1 hl) (h1 hm)).2 fun x => ?_
 have:=h x.1
 rw [← sum_nod (add:=add) hk hl (k:=x.1) (p:=x.2),← sum_nod (add:=add) hk hm (k:=x.1) (p:=x.2),this]
end
end Kl
section
variable {s:Sch} {q:Que} {set:Nat} {C:List (CK×Pay)}
theorem groups_asc:Asc ckLt (groupsP s q set C):=fold_asc ck_sto _
theorem merge_groups (A B:List (CK×Pay)):(merge ckLt Pay.add (groupsP s q set A) (groupsP s q set B)).Perm (groupsP s q set (A ++ B)):=by
 refine nod_perm (add:=Pay.add) ck_sto (merge_nod ck_sto _ _) (asc_nod ck_sto groups_asc) fun k => ?_
 rw [merge,sum_puts ck_sto pay_com,sum,none_oadd,sum_append pay_com,sum_groups,sum_groups,sum_groups,re_append,sum_append pay_com]
end
end Tess
namespace Go.Proofs.YtaddkkkchkdgkaaGreatDoor
open Go.RowKit Go.Sort
deriving instance DecidableEq for Tess.Val
set_option maxRecDepth 100000 in
set_option maxHeartbeats 2000000 in
theorem equal_wide (p q:Nat→Prop) (va vb:Value) (l1 l2:List Int) (w:World) (ha:RowsW 2 wideF p w va l1) (hb:RowsW 2 wideF q w vb l2) :
  Calls Tryz.prog 41 #[va,vb] w fun e w'=>e = .returned (.bool (decide (l1=l2)))∧Below w.heap.size w w':=by
 obtain ⟨xa,ca,rfl,hm1,hc1⟩:=ha
 obtain ⟨xb,cb,rfl,hm2,hc2⟩:=hb
 have hlm1:l1.length≤9223372036854775807:=by unfold maxLen at hm1;omega
 have hlm2:l2.length≤9223372036854775807:=by unfold maxLen at hm2;omega
 have HC1:=Lib.hid hc1
 have HC2:=Lib.hid hc2
 clear hc1 hc2 hm1 hm2
 by_cases hl:l1.length=l2.length
 ·have hl':((l1.length:Int) != (l2.length:Int))=false:=by rw [bne_eq_false_iff_eq];omega
  have HL:=Lib.hid hl
  clear hl
  go_enter Tryz.func41,Tryz.ntmps41
  go_wp2
  go_loopw [13] (fun i wr => ∃ k:Nat,k≤l1.length∧i = .int .i64 k∧(∀ j (h1:j < l1.length) (h2:j < l2.length),j < k→l1[j]=l2[j])∧Below w.heap.size w wr) (fun i _=>l1.length - (intOf i).toNat)
  case atStart=>exact ⟨0,Nat.zero_le _,rfl,fun j _ _ h=>absurd h (Nat.not_lt_zero _),Below.refl _ _⟩
  case round=>
   obtain ⟨k,hk,rfl,hall,hBr⟩:=hrel
   have HALL:=Lib.hid hall
   have HBr:=Lib.hid hBr
   clear hall hBr
   by_cases hlt:k < l1.length
   ·have hlt2:k < l2.length:=by have:=HL.out;omega
    obtain ⟨b,off,rfl,hb,_,g1⟩:=HC1.out (by omega)
    obtain ⟨b',off',rfl,hb',_,g2⟩:=HC2.out (by omega)
    have hki:(k:Int) < (l1.length:Int):=by omega
    have hki2:(k:Int) < (l2.length:Int):=by omega
    have hbw:b < wr.heap.size:=Nat.lt_of_lt_of_le hb HBr.out.size
    have hbw':b' < wr.heap.size:=Nat.lt_of_lt_of_le hb' HBr.out.size
    have G1:=g1 k hlt
    have G2:=g2 k hlt2
    have HEQ0:=Lib.hid (show ∀ h:l1[k]=l2[k],∀ j (h1:j < l1.length) (h2:j < l2.length),j < k + 1→l1[j]=l2[j] from fun h j h1 h2 hj=>by
     by_cases hjk:j < k
     ·exact HALL.out j h1 h2 hjk
     ·obtain rfl:j=k:=by omega
      exact h)
    have HNE0:=Lib.hid (show l1[k]≠l2[k]→l1≠l2 from fun h e=>h (by subst e;rfl))
    clear g1 g2
    generalize l1[k]=u1 at *
    generalize l2[k]=u2 at *
    have r0:wr.cell? ⟨b,off + k * 2,none⟩=some (.int .i64 (wHi u1)):=(HBr.out.cell (p:=⟨b,off + k * 2,none⟩) hb).trans (G1 0 (by omega))
    have t0:wr.cell? ⟨b',off' + k * 2,none⟩=some (.int .i64 (wHi u2)):=(HBr.out.cell (p:=⟨b',off' + k * 2,none⟩) hb').trans (G2 0 (by omega))
    have r1:wr.cell? ⟨b,off + k * 2 + 1,none⟩=some (.int .u64 (wLo u1)):=(HBr.out.cell (p:=⟨b,off + k * 2 + 1,none⟩) hb).trans (G1 1 (by omega))
    have t1:wr.cell? ⟨b',off' + k * 2 + 1,none⟩=some (.int .u64 (wLo u2)):=(HBr.out.cell (p:=⟨b',off' + k * 2 + 1,none⟩) hb').trans (G2 1 (by omega))
    clear G1 G2
    have HNQ:=Lib.hid (fun W=>neq_wide u1 u2 W)
    go_wp2_with (fail)
    refine Flow.wp_region_flow_tail 8 (Flow.specs [.inl ?_,.inl ?_,.inl ?_,.inl ?_,.inl ?_,.inl ?_,.inl ?_,.inl ?_]) (by kernel_rfl) (by kernel_rfl) ?_ ?_
    rotate_left 8
    ·refine Flow.specs_mono ?_
     repeat (first | exact Flow.lmono_nil | refine Flow.lmono_inl ?_)
    all_goals try simp only [List.take_succ_cons,List.take_zero,List.drop_succ_cons,List.drop_zero]
    iterate 8 (refine Flow.tree_valK rfl (fun K hK=>⟨fun w hw hG => ?_,?_⟩);(have hcl:=Flow.bcell hw;clear hG hw;unfold Flow.Runs Flow.yields;go_simp;try rfl);go_simp;refine hK _ ?_;clear hK K)
    refine Flow.tree_nil fun w2 hw2 hG => ?_
    clear hG
    have HB2:=Lib.hid (Bt HBr.out hw2)
    clear hw2
    have hnq:=HNQ.out
    by_cases he:u1=u2
    ·rw [decide_eq_true he] at hnq
     have HEQ:=Lib.hid (HEQ0.out he)
     clear he HNQ
     go_wp2
     go_roundw
     case rel=>exact ⟨k + 1,by omega,by go_num,HEQ.out,HB2.out⟩
     case measure=>simp [intOf];omega
    ·rw [decide_eq_false he] at hnq
     have HNE:=Lib.hid (HNE0.out he)
     clear he HNQ
     go_wp2
     go_ret
     exact ⟨retB (decide_eq_false HNE.out).symm,HB2.out⟩
   ·have hki:¬ (k:Int) < (l1.length:Int):=by omega
    have HEL:=Lib.hid (show l1=l2 from List.ext_getElem HL.out fun j h1 h2=>HALL.out j h1 h2 (by omega))
    go_wp2
    go_ret
    exact ⟨retB (decide_eq_true HEL.out).symm,HBr.out⟩
 ·have hl':((l1.length:Int) != (l2.length:Int))=true:=by rw [bne_iff_ne];omega
  have HN:=Lib.hid (show l1≠l2 from fun e=>hl (by rw [e]))
  clear hl
  go_enter Tryz.func41,Tryz.ntmps41
  go_wp2
  go_ret
  exact ⟨retB (decide_eq_false HN.out).symm,Below.refl _ _⟩
set_option maxRecDepth 100000 in
set_option maxHeartbeats 2000000 in
theorem equal_int (p q:Nat→Prop) (va vb:Value) (l1 l2:List Int) (w:World) (ha:RowsW 1 intF p w va l1) (hb:RowsW 1 intF q w vb l2) :
  Calls Tryz.prog 42 #[va,vb] w fun e w'=>e = .returned (.bool (decide (l1=l2)))∧Below w.heap.size w w':=by
 obtain ⟨xa,ca,rfl,hm1,hc1⟩:=ha
 obtain ⟨xb,cb,rfl,hm2,hc2⟩:=hb
 have hlm1:l1.length≤9223372036854775807:=by unfold maxLen at hm1;omega
 have hlm2:l2.length≤9223372036854775807:=by unfold maxLen at hm2;omega
 have HC1:=Lib.hid hc1
 have HC2:=Lib.hid hc2
 clear hc1 hc2 hm1 hm2
 by_cases hl:l1.length=l2.length
 ·have hl':((l1.length:Int) != (l2.length:Int))=false:=by rw [bne_eq_false_iff_eq];omega
  have HL:=Lib.hid hl
  clear hl
  go_enter Tryz.func42,Tryz.ntmps42
  go_wp2
  go_loopw [13] (fun i wr => ∃ k:Nat,k≤l1.length∧i = .int .i64 k∧(∀ j (h1:j < l1.length) (h2:j < l2.length),j < k→l1[j]=l2[j])∧Below w.heap.size w wr) (fun i _=>l1.length - (intOf i).toNat)
  case atStart=>exact ⟨0,Nat.zero_le _,rfl,fun j _ _ h=>absurd h (Nat.not_lt_zero _),Below.refl _ _⟩
  case round=>
   obtain ⟨k,hk,rfl,hall,hBr⟩:=hrel
   have HALL:=Lib.hid hall
   have HBr:=Lib.hid hBr
   clear hall hBr
   by_cases hlt:k < l1.length
   ·have hlt2:k < l2.length:=by have:=HL.out;omega
    obtain ⟨b,off,rfl,hb,_,g1⟩:=HC1.out (by omega)
    obtain ⟨b',off',rfl,hb',_,g2⟩:=HC2.out (by omega)
    have hki:(k:Int) < (l1.length:Int):=by omega
    have hki2:(k:Int) < (l2.length:Int):=by omega
    have hbw:b < wr.heap.size:=Nat.lt_of_lt_of_le hb HBr.out.size
    have hbw':b' < wr.heap.size:=Nat.lt_of_lt_of_le hb' HBr.out.size
    have G1:=g1 k hlt
    have G2:=g2 k hlt2
    have HEQ0:=Lib.hid (show ∀ h:l1[k]=l2[k],∀ j (h1:j < l1.length) (h2:j < l2.length),j < k + 1→l1[j]=l2[j] from fun h j h1 h2 hj=>by
     by_cases hjk:j < k
     ·exact HALL.out j h1 h2 hjk
     ·obtain rfl:j=k:=by omega
      exact h)
    have HNE0:=Lib.hid (show l1[k]≠l2[k]→l1≠l2 from fun h e=>h (by subst e;rfl))
    clear g1 g2
    generalize l1[k]=u1 at *
    generalize l2[k]=u2 at *
    have r0:wr.cell? ⟨b,off + k,none⟩=some (.int .i64 u1):=by simpa [intF] using (HBr.out.cell (p:=⟨b,off + k * 1 + 0,none⟩) hb).trans (G1 0 (by omega))
    have t0:wr.cell? ⟨b',off' + k,none⟩=some (.int .i64 u2):=by simpa [intF] using (HBr.out.cell (p:=⟨b',off' + k * 1 + 0,none⟩) hb').trans (G2 0 (by omega))
    clear G1 G2
    have HNQ:=Lib.hid (show (u1 != u2)=(!decide (u1=u2)) by by_cases h:u1=u2 <;> simp [bne,h])
    go_wp2_with (fail)
    refine Flow.wp_region_flow_tail 8 (Flow.specs [.inl ?_,.inl ?_,.inl ?_,.inl ?_,.inl ?_,.inl ?_,.inl ?_,.inl ?_]) (by kernel_rfl) (by kernel_rfl) ?_ ?_
    rotate_left 8
    ·refine Flow.specs_mono ?_
     repeat (first | exact Flow.lmono_nil | refine Flow.lmono_inl ?_)
    all_goals try simp only [List.take_succ_cons,List.take_zero,List.drop_succ_cons,List.drop_zero]
    iterate 8 (refine Flow.tree_valK rfl (fun K hK=>⟨fun w hw hG => ?_,?_⟩);(have hcl:=Flow.bcell hw;clear hG hw;unfold Flow.Runs Flow.yields;go_simp;try rfl);go_simp;refine hK _ ?_;clear hK K)
    refine Flow.tree_nil fun w2 hw2 hG => ?_
    clear hG
    have HB2:=Lib.hid (Bt HBr.out hw2)
    clear hw2
    have hnq:=HNQ.out
    by_cases he:u1=u2
    ·rw [decide_eq_true he] at hnq
     have HEQ:=Lib.hid (HEQ0.out he)
     clear he HNQ
     go_wp2
     go_roundw
     case rel=>exact ⟨k + 1,by omega,by go_num,HEQ.out,HB2.out⟩
     case measure=>simp [intOf];omega
    ·rw [decide_eq_false he] at hnq
     have HNE:=Lib.hid (HNE0.out he)
     clear he HNQ
     go_wp2
     go_ret
     exact ⟨retB (decide_eq_false HNE.out).symm,HB2.out⟩
   ·have hki:¬ (k:Int) < (l1.length:Int):=by omega
    have HEL:=Lib.hid (show l1=l2 from List.ext_getElem HL.out fun j h1 h2=>HALL.out j h1 h2 (by omega))
    go_wp2
    go_ret
    exact ⟨retB (decide_eq_true HEL.out).symm,HBr.out⟩
 ·have hl':((l1.length:Int) != (l2.length:Int))=true:=by rw [bne_iff_ne];omega
  have HN:=Lib.hid (show l1≠l2 from fun e=>hl (by rw [e]))
  clear hl
  go_enter Tryz.func42,Tryz.ntmps42
  go_wp2
  go_ret
  exact ⟨retB (decide_eq_false HN.out).symm,Below.refl _ _⟩
end Go.Proofs.YtaddkkkchkdgkaaGreatDoor
namespace Go.Proofs.YtaddkkkchkdgkaaGreatDoor
open Go.RowKit Go.Sort
open Tess (CK Pay PayOk)
set_option maxRecDepth 100000 in
set_option maxHeartbeats 4000000 in
theorem merge_any {T:Lib.PrintTabs} (M:Nat) (p q:Nat→Prop) (A C:List Grp) (va vc:Value) (w:World) (hA:GrpsAt p w va A) (hC:GrpsAt q w vc C) (hAo:∀ x ∈ A,GrpOk M x) (hCo:∀ x ∈ C,GrpOk M x) (hM:M≤1000) (htot:totG A + totG C≤1000000) (hV:∀ w',Below w.heap.size w w'→Vn T w') :
  Calls Tryz.prog 19 #[va,vc] w fun e w' => ∃ v',e = .returned v'∧GrpsAt (fun b=>w.heap.size≤b) w' v' ((A ++ C).foldl putG [])∧Below w.heap.size w w':=by
 obtain ⟨W0,hW0⟩:∃ W0,(w.alloc (.map #[] 0)).alloc (.cells #[.slice none 0 0,.map (some w.heap.size)] 101)=W0:=⟨_,rfl⟩
 obtain ⟨k0,k1,kS,kB⟩:=laid2 w (.map #[] 0) (.cells #[.slice none 0 0,.map (some w.heap.size)] 101)
 rw [hW0] at k0 k1 kS kB
 have hC0:=hC.lt
 have HS0:∀ b,GS.S (w.heap.size + 1) w.heap.size (.slice none 0 0) (fun _=>none) b→w.heap.size≤b:=fun b hb=>by
  rcases hb with rfl | rfl | hb | ⟨s,r,hr,_⟩
  ·omega
  ·omega
  ·cases hb
  ·cases hr
 have HA:=Lib.hid (addG_any (T:=T) (w.heap.size + 2) (w.heap.size + 1) w.heap.size w.heap.size M (fun b=>p b∧b < w.heap.size) A va (.slice none 0 0) [] (fun _=>none) [] W0 (GS.new (by omega) (by omega) (by omega) (by omega) k1 k0) (hA.lt.ag (Ag.new _ kB)) (fun b hb h=>by have:=HS0 b h;have:=hb.2;omega) hAo (fun y h=>by cases h) hM (by have h1:=(totG_le hCo).1;unfold totG at *;simp only [List.map_nil,List.sum_nil];omega) (by omega) (by omega) (by omega) (fun w' hB=>hV w' (kB.trans hB)))
 have HK:=Lib.hid (fun W v us V (hp:Put T (w.heap.size + 2) (w.heap.size + 1) w.heap.size (.slice none 0 0) (fun _=>none) W0 W v us V (A.foldl putG []))=>addG_any (T:=T) (w.heap.size + 2) (w.heap.size + 1) w.heap.size w.heap.size M (fun b=>q b∧b < w.heap.size) C vc v us V (A.foldl putG []) W hp.gs (hC0.ag ((Ag.new _ kB).trans (hp.tch.ag fun b hb h=>by have:=HS0 b h;have:=hb.2;omega))) (fun b hb h=>by have:=hp.gs.S_le (B:=w.heap.size) (by omega) (by omega) h;have:=hb.2;omega) hCo (foldG_ok hAo (fun y h=>by cases h)) hM (by rw [foldG_tot];unfold totG at *;simp only [List.map_nil,List.sum_nil];omega) (by have:=hp.tch.size;omega) (by omega) (by omega) (fun w' hB=>hV w' (kB.trans ((hp.tch.below (by omega) HS0).trans hB))))
 have HKB:=Lib.hid kB
 have HT:=Lib.hid htot
 have HKS:=Lib.hid kS
 have HSS:=Lib.hid HS0
 have HCO:=Lib.hid hCo
 have HAO:=Lib.hid hAo
 obtain ⟨a1,c1,rfl⟩:∃ a c,va = .slice a A.length c:=let ⟨a,c,h,_⟩:=hA;⟨a,c,h⟩
 obtain ⟨a2,c2,rfl⟩:∃ a c,vc = .slice a C.length c:=let ⟨a,c,h,_⟩:=hC;⟨a,c,h⟩
 clear hA hC hC0 hAo hCo htot hV k0 k1 kS kB HS0
 have hmk:(Instr.makeMap 99 none).run Tryz.prog w = .ok (.map (some w.heap.size)) (w.alloc (.map #[] 0)):=by kernel_rfl
 go_enter Tryz.func19,Tryz.ntmps19
 go_wp2_with (fail)
 go_at_call 39
 refine HA.out.mono ?_
 rintro e w1 ⟨u1,v1,us1,V1,rfl,hp1⟩
 have HP1:=Lib.hid hp1
 have HK2:=Lib.hid (HK.out w1 v1 us1 V1 hp1)
 clear hp1
 go_wp2_with (fail)
 go_at_call 39
 refine HK2.out.mono ?_
 rintro e w2 ⟨u2,v2,us2,V2,rfl,hp2⟩
 have HP2:=Lib.hid hp2
 obtain ⟨⟨y0,y1⟩,_⟩:=can2 hp2.gs.box
 have hlt:=(Array.getElem?_eq_some_iff.1 hp2.gs.box).1
 clear hp2
 go_wp2_with (fail)
 go_ret
 have hb1:=HP1.out.tch.below (N:=w.heap.size) (by have:=HKS.out;omega) HSS.out
 have hb2:=HP2.out.tch.below (N:=w.heap.size) (by have:=HP1.out.tch.size;have:=HKS.out;omega) (fun b h=>HP1.out.gs.S_le (by omega) (by omega) h)
 rw [← List.foldl_append] at HP2
 refine ⟨_,rfl,HP2.out.gs.listed ?_ (by omega),HKB.out.trans (hb1.trans hb2)⟩
 have h1:=(totG_le (M:=M) (L:=(A ++ C).foldl putG []) (foldG_ok (fun x hx=>by rcases List.mem_append.1 hx with h | h;exact HAO.out x h;exact HCO.out x h) (fun y h=>by cases h))).1
 have h2:=foldG_tot (A ++ C) []
 have h3:totG (A ++ C)=totG A + totG C:=by unfold totG;rw [List.map_append,List.sum_append]
 have h4:totG []=0:=rfl
 have:=HT.out
 unfold maxLen;omega
end Go.Proofs.YtaddkkkchkdgkaaGreatDoor
namespace Go.Proofs.YtaddkkkchkdgkaaGreatDoor
open Go.RowKit Go.Sort
open Tess (CK Pay)
def sameB (x y:Int×CK×Pay):Bool:=oneB x y && (decide (x.2.2.n=y.2.2.n) && (decide (x.2.2.sums=y.2.2.sums) && (decide (x.2.2.mins=y.2.2.mins) && decide (x.2.2.maxs=y.2.2.maxs))))
theorem sameB_iff {x y:Int×CK×Pay}:sameB x y=true↔x=y:=by
 unfold sameB
 simp only [Bool.and_eq_true,decide_eq_true_eq,oneB_iff]
 constructor
 ·rintro ⟨⟨h1,h2⟩,h3,h4,h5,h6⟩
  obtain ⟨a,b,⟨n,s,m,t⟩⟩:=x
  obtain ⟨a',b',⟨n',s',m',t'⟩⟩:=y
  simp only at h1 h2 h3 h4 h5 h6
  subst h1 h2 h3 h4 h5 h6
  rfl
 ·rintro rfl
  exact ⟨⟨rfl,rfl⟩,rfl,rfl,rfl,rfl⟩
set_option maxRecDepth 100000 in
set_option maxHeartbeats 8000000 in
theorem gsame_any (p q:Nat→Prop) (cs ds:List Value) (x y:Int×CK×Pay) (w:World) (hx:GrpAt p w cs x) (hy:GrpAt q w ds y) :
  Calls Tryz.prog 20 #[.agg cs.toArray,.agg ds.toArray] w fun e w'=>e = .returned (.bool (sameB x y))∧Below w.heap.size w w':=by
 have HQ1:=Lib.hid (fun W (hB:Below w.heap.size w W)=>isOne_any p q cs ds x y W (hx.ag (Ag.new p hB)) (hy.ag (Ag.new q hB)))
 obtain ⟨vd,vs,vm,vx,rfl,hd,hp⟩:=hx
 obtain ⟨ud,us,um,ux,rfl,he,hq⟩:=hy
 have HQ2:=Lib.hid (fun W (hB:Below w.heap.size w W)=>equal_wide p q vs us _ _ W (hp.sums.ag (Ag.new p hB)).w (hq.sums.ag (Ag.new q hB)).w)
 have HQ3:=Lib.hid (fun W (hB:Below w.heap.size w W)=>equal_int p q vm um _ _ W (hp.mins.ag (Ag.new p hB)).w (hq.mins.ag (Ag.new q hB)).w)
 have HQ4:=Lib.hid (fun W (hB:Below w.heap.size w W)=>equal_int p q vx ux _ _ W (hp.maxs.ag (Ag.new p hB)).w (hq.maxs.ag (Ag.new q hB)).w)
 obtain ⟨a2,c2,rfl⟩:=hd.shape
 obtain ⟨a4,c4,rfl⟩:=hp.sums.shape
 obtain ⟨a5,c5,rfl⟩:=hp.mins.shape
 obtain ⟨a6,c6,rfl⟩:=hp.maxs.shape
 obtain ⟨b2,d2,rfl⟩:=he.shape
 obtain ⟨b4,d4,rfl⟩:=hq.sums.shape
 obtain ⟨b5,d5,rfl⟩:=hq.mins.shape
 obtain ⟨b6,d6,rfl⟩:=hq.maxs.shape
 clear hd hp he hq
 unfold sameB
 generalize oneB x y=r1 at *
 generalize decide (x.2.2.sums=y.2.2.sums)=r2 at *
 generalize decide (x.2.2.mins=y.2.2.mins)=r3 at *
 generalize decide (x.2.2.maxs=y.2.2.maxs)=r4 at *
 generalize (x.2.1.2.map Tess.valOf).length=n2 at *
 generalize (y.2.1.2.map Tess.valOf).length=m2 at *
 generalize x.2.2.sums.length=n4 at *
 generalize x.2.2.mins.length=n5 at *
 generalize x.2.2.maxs.length=n6 at *
 generalize y.2.2.sums.length=m4 at *
 generalize y.2.2.mins.length=m5 at *
 generalize y.2.2.maxs.length=m6 at *
 generalize x.1=s1 at *
 generalize y.1=s2 at *
 generalize x.2.1.1=t1 at *
 generalize y.2.1.1=t2 at *
 generalize x.2.2.n=z1 at *
 generalize y.2.2.n=z2 at *
 obtain ⟨W0,hW0⟩:∃ W0,(w.alloc (.cells #[.int .i64 s1,.int .i64 t1,.slice a2 n2 c2,.int .i64 z1,.slice a4 n4 c4,.slice a5 n5 c5,.slice a6 n6 c6] 56)).alloc (.cells #[.int .i64 s2,.int .i64 t2,.slice b2 m2 d2,.int .i64 z2,.slice b4 m4 d4,.slice b5 m5 d5,.slice b6 m6 d6] 56)=W0:=⟨_,rfl⟩
 obtain ⟨k0,k1,kS,kB⟩:=laid2 w (.cells #[.int .i64 s1,.int .i64 t1,.slice a2 n2 c2,.int .i64 z1,.slice a4 n4 c4,.slice a5 n5 c5,.slice a6 n6 c6] 56) (.cells #[.int .i64 s2,.int .i64 t2,.slice b2 m2 d2,.int .i64 z2,.slice b4 m4 d4,.slice b5 m5 d5,.slice b6 m6 d6] 56)
 rw [hW0] at k0 k1 kS kB
 obtain ⟨⟨x0,x1,x2,x3,x4,x5,x6⟩,_⟩:=can7 k0
 obtain ⟨⟨y0,y1,y2,y3,y4,y5,y6⟩,_⟩:=can7 k1
 have HK0:=Lib.hid k0
 have HK1:=Lib.hid k1
 have HB:=Lib.hid kB
 clear k0 k1 kS kB
 cases r1
 ·rw [Bool.false_and]
  go_enter Tryz.func20,Tryz.ntmps20
  go_wp2_with (fail)
  go_at_call 40
  refine (HQ1.out _ HB.out).mono ?_
  rintro e w1 ⟨rfl,hb⟩
  have HB1:=Lib.hid (Bt HB.out hb)
  have h0:=(hb.block _ (Array.getElem?_eq_some_iff.1 HK0.out).1).trans HK0.out
  have h1:=(hb.block _ (Array.getElem?_eq_some_iff.1 HK1.out).1).trans HK1.out
  have HK0':=Lib.hid h0
  have HK1':=Lib.hid h1
  clear x0 x1 x2 x3 x4 x5 x6 y0 y1 y2 y3 y4 y5 y6
  obtain ⟨⟨x0,x1,x2,x3,x4,x5,x6⟩,_⟩:=can7 h0
  obtain ⟨⟨y0,y1,y2,y3,y4,y5,y6⟩,_⟩:=can7 h1
  clear hb h0 h1
  clear hW0
  go_wp2_with (fail)
  go_ret
  exact ⟨rfl,HB1.out⟩
 rw [Bool.true_and]
 by_cases hz:z1=z2
 rotate_left
 ·have ez:(z1 == z2)=false:=by simp [hz]
  rw [decide_eq_false hz,Bool.false_and]
  clear hz
  go_enter Tryz.func20,Tryz.ntmps20
  go_wp2_with (fail)
  go_at_call 40
  refine (HQ1.out _ HB.out).mono ?_
  rintro e w1 ⟨rfl,hb⟩
  have HB1:=Lib.hid (Bt HB.out hb)
  have h0:=(hb.block _ (Array.getElem?_eq_some_iff.1 HK0.out).1).trans HK0.out
  have h1:=(hb.block _ (Array.getElem?_eq_some_iff.1 HK1.out).1).trans HK1.out
  have HK0':=Lib.hid h0
  have HK1':=Lib.hid h1
  clear x0 x1 x2 x3 x4 x5 x6 y0 y1 y2 y3 y4 y5 y6
  obtain ⟨⟨x0,x1,x2,x3,x4,x5,x6⟩,_⟩:=can7 h0
  obtain ⟨⟨y0,y1,y2,y3,y4,y5,y6⟩,_⟩:=can7 h1
  clear hb h0 h1
  clear hW0
  go_wp2_with (fail)
  go_ret
  exact ⟨rfl,HB1.out⟩
 have ez:(z1 == z2)=true:=by rw [hz];simp
 rw [decide_eq_true hz,Bool.true_and]
 clear hz
 cases r2
 ·rw [Bool.false_and]
  go_enter Tryz.func20,Tryz.ntmps20
  go_wp2_with (fail)
  go_at_call 40
  refine (HQ1.out _ HB.out).mono ?_
  rintro e w1 ⟨rfl,hb⟩
  have HB1:=Lib.hid (Bt HB.out hb)
  have h0:=(hb.block _ (Array.getElem?_eq_some_iff.1 HK0.out).1).trans HK0.out
  have h1:=(hb.block _ (Array.getElem?_eq_some_iff.1 HK1.out).1).trans HK1.out
  have HK0':=Lib.hid h0
  have HK1':=Lib.hid h1
  clear x0 x1 x2 x3 x4 x5 x6 y0 y1 y2 y3 y4 y5 y6
  obtain ⟨⟨x0,x1,x2,x3,x4,x5,x6⟩,_⟩:=can7 h0
  obtain ⟨⟨y0,y1,y2,y3,y4,y5,y6⟩,_⟩:=can7 h1
  clear hb h0 h1
  clear hW0
  go_wp2_with (fail)
  go_at_call 41
  refine (HQ2.out _ HB1.out).mono ?_
  rintro e w2 ⟨rfl,hb⟩
  have HB2:=Lib.hid (Bt HB1.out hb)
  have h0:=(hb.block _ (Array.getElem?_eq_some_iff.1 HK0'.out).1).trans HK0'.out
  have h1:=(hb.block _ (Array.getElem?_eq_some_iff.1 HK1'.out).1).trans HK1'.out
  have HK0'':=Lib.hid h0
  have HK1'':=Lib.hid h1
  clear x0 x1 x2 x3 x4 x5 x6 y0 y1 y2 y3 y4 y5 y6
  obtain ⟨⟨x0,x1,x2,x3,x4,x5,x6⟩,_⟩:=can7 h0
  obtain ⟨⟨y0,y1,y2,y3,y4,y5,y6⟩,_⟩:=can7 h1
  clear hb h0 h1
  go_wp2_with (fail)
  go_ret
  exact ⟨rfl,HB2.out⟩
 rw [Bool.true_and]
 cases r3
 ·rw [Bool.false_and]
  go_enter Tryz.func20,Tryz.ntmps20
  go_wp2_with (fail)
  go_at_call 40
  refine (HQ1.out _ HB.out).mono ?_
  rintro e w1 ⟨rfl,hb⟩
  have HB1:=Lib.hid (Bt HB.out hb)
  have h0:=(hb.block _ (Array.getElem?_eq_some_iff.1 HK0.out).1).trans HK0.out
  have h1:=(hb.block _ (Array.getElem?_eq_some_iff.1 HK1.out).1).trans HK1.out
  have HK0':=Lib.hid h0
  have HK1':=Lib.hid h1
  clear x0 x1 x2 x3 x4 x5 x6 y0 y1 y2 y3 y4 y5 y6
  obtain ⟨⟨x0,x1,x2,x3,x4,x5,x6⟩,_⟩:=can7 h0
  obtain ⟨⟨y0,y1,y2,y3,y4,y5,y6⟩,_⟩:=can7 h1
  clear hb h0 h1
  clear hW0
  go_wp2_with (fail)
  go_at_call 41
  refine (HQ2.out _ HB1.out).mono ?_
  rintro e w2 ⟨rfl,hb⟩
  have HB2:=Lib.hid (Bt HB1.out hb)
  have h0:=(hb.block _ (Array.getElem?_eq_some_iff.1 HK0'.out).1).trans HK0'.out
  have h1:=(hb.block _ (Array.getElem?_eq_some_iff.1 HK1'.out).1).trans HK1'.out
  have HK0'':=Lib.hid h0
  have HK1'':=Lib.hid h1
  clear x0 x1 x2 x3 x4 x5 x6 y0 y1 y2 y3 y4 y5 y6
  obtain ⟨⟨x0,x1,x2,x3,x4,x5,x6⟩,_⟩:=can7 h0
  obtain ⟨⟨y0,y1,y2,y3,y4,y5,y6⟩,_⟩:=can7 h1
  clear hb h0 h1
  go_wp2_with (fail)
  go_at_call 42
  refine (HQ3.out _ HB2.out).mono ?_
  rintro e w3 ⟨rfl,hb⟩
  have HB3:=Lib.hid (Bt HB2.out hb)
  have h0:=(hb.block _ (Array.getElem?_eq_some_iff.1 HK0''.out).1).trans HK0''.out
  have h1:=(hb.block _ (Array.getElem?_eq_some_iff.1 HK1''.out).1).trans HK1''.out
  have HK0''':=Lib.hid h0
  have HK1''':=Lib.hid h1
  clear x0 x1 x2 x3 x4 x5 x6 y0 y1 y2 y3 y4 y5 y6
  obtain ⟨⟨x0,x1,x2,x3,x4,x5,x6⟩,_⟩:=can7 h0
  obtain ⟨⟨y0,y1,y2,y3,y4,y5,y6⟩,_⟩:=can7 h1
  clear hb h0 h1
  go_wp2_with (fail)
  go_ret
  exact ⟨rfl,HB3.out⟩
 rw [Bool.true_and]
 go_enter Tryz.func20,Tryz.ntmps20
 go_wp2_with (fail)
 go_at_call 40
 refine (HQ1.out _ HB.out).mono ?_
 rintro e w1 ⟨rfl,hb⟩
 have HB1:=Lib.hid (Bt HB.out hb)
 have h0:=(hb.block _ (Array.getElem?_eq_some_iff.1 HK0.out).1).trans HK0.out
 have h1:=(hb.block _ (Array.getElem?_eq_some_iff.1 HK1.out).1).trans HK1.out
 have HK0':=Lib.hid h0
 have HK1':=Lib.hid h1
 clear x0 x1 x2 x3 x4 x5 x6 y0 y1 y2 y3 y4 y5 y6
 obtain ⟨⟨x0,x1,x2,x3,x4,x5,x6⟩,_⟩:=can7 h0
 obtain ⟨⟨y0,y1,y2,y3,y4,y5,y6⟩,_⟩:=can7 h1
 clear hb h0 h1
 clear hW0
 go_wp2_with (fail)
 go_at_call 41
 refine (HQ2.out _ HB1.out).mono ?_
 rintro e w2 ⟨rfl,hb⟩
 have HB2:=Lib.hid (Bt HB1.out hb)
 have h0:=(hb.block _ (Array.getElem?_eq_some_iff.1 HK0'.out).1).trans HK0'.out
 have h1:=(hb.block _ (Array.getElem?_eq_some_iff.1 HK1'.out).1).trans HK1'.out
 have HK0'':=Lib.hid h0
 have HK1'':=Lib.hid h1
 clear x0 x1 x2 x3 x4 x5 x6 y0 y1 y2 y3 y4 y5 y6
 obtain ⟨⟨x0,x1,x2,x3,x4,x5,x6⟩,_⟩:=can7 h0
 obtain ⟨⟨y0,y1,y2,y3,y4,y5,y6⟩,_⟩:=can7 h1
 clear hb h0 h1
 go_wp2_with (fail)
 go_at_call 42
 refine (HQ3.out _ HB2.out).mono ?_
 rintro e w3 ⟨rfl,hb⟩
 have HB3:=Lib.hid (Bt HB2.out hb)
 have h0:=(hb.block _ (Array.getElem?_eq_some_iff.1 HK0''.out).1).trans HK0''.out
 have h1:=(hb.block _ (Array.getElem?_eq_some_iff.1 HK1''.out).1).trans HK1''.out
 have HK0''':=Lib.hid h0
 have HK1''':=Lib.hid h1
 clear x0 x1 x2 x3 x4 x5 x6 y0 y1 y2 y3 y4 y5 y6
 obtain ⟨⟨x0,x1,x2,x3,x4,x5,x6⟩,_⟩:=can7 h0
 obtain ⟨⟨y0,y1,y2,y3,y4,y5,y6⟩,_⟩:=can7 h1
 clear hb h0 h1
 go_wp2_with (fail)
 go_at_call 42
 refine (HQ4.out _ HB3.out).mono ?_
 rintro e w4 ⟨rfl,hb⟩
 have HB4:=Lib.hid (Bt HB3.out hb)
 have h0:=(hb.block _ (Array.getElem?_eq_some_iff.1 HK0'''.out).1).trans HK0'''.out
 have h1:=(hb.block _ (Array.getElem?_eq_some_iff.1 HK1'''.out).1).trans HK1'''.out
 have HK0'''':=Lib.hid h0
 have HK1'''':=Lib.hid h1
 clear x0 x1 x2 x3 x4 x5 x6 y0 y1 y2 y3 y4 y5 y6
 obtain ⟨⟨x0,x1,x2,x3,x4,x5,x6⟩,_⟩:=can7 h0
 obtain ⟨⟨y0,y1,y2,y3,y4,y5,y6⟩,_⟩:=can7 h1
 clear hb h0 h1
 go_wp2_with (fail)
 go_ret
 exact ⟨rfl,HB4.out⟩
end Go.Proofs.YtaddkkkchkdgkaaGreatDoor
namespace Go.Proofs.YtaddkkkchkdgkaaGreatDoor
open Go.RowKit Go.Sort
open Tess (CK Pay PayOk CelOk CelsOk Que ckLt groupsP gOf)
theorem putsG_perm (s:Tess.Sch) (q:Que) (set:Nat) (C:List (CK×Pay)):(putsG s q set C).Perm (ofSet (set:Nat) (groupsP s q set C)):=by
 rw [putsG_eq]
 unfold ofSet
 refine (Tess.Kl.nod_perm (add:=Pay.add) Tess.ck_sto (Tess.Kl.puts_nod Tess.ck_sto _ [] (show Tess.Kl.Nod ([]:List (CK×Pay)) from List.Pairwise.nil)) (Tess.Kl.asc_nod Tess.ck_sto Tess.groups_asc) fun k => ?_).map _
 rw [Tess.Kl.sum_puts Tess.ck_sto Tess.pay_com,Tess.sum_groups,Tess.Kl.sum,Tess.Kl.none_oadd]
theorem sumI_perm {l m:List Int} (h:l.Perm m):l.sum=m.sum:=by
 induction h with
 | nil=>rfl
 | cons x _ ih=>rw [List.sum_cons,List.sum_cons,ih]
 | swap x y l=>simp only [List.sum_cons];omega
 | trans _ _ a b=>exact a.trans b
theorem totG_perm {l m:List Grp} (h:l.Perm m):totG l=totG m:=by
 unfold totG
 exact sumI_perm (h.map _)
theorem foldR_ok {s:Tess.Sch} {q:Que} {set:Int} {C:List (CK×Pay)} (hC:∀ x ∈ C,CelOk s x) (hn:q.names.length≤10):(∀ y ∈ foldR s q set C,GrpOk s.mets.length y)∧totG (foldR s q set C)≤(C.map (·.2.n)).sum:=by
 have hone:∀ x ∈ C,1≤x.2.n:=fun x hx=>(hC x hx).pay.one
 have h0:0≤(C.map (·.2.n)).sum:=by have:=(Tess.len_le_sum hone).1;omega
 unfold foldR
 split
 ·rename_i h
  obtain ⟨_,k,rfl,hk⟩:=foldE_zero h
  have hp:=putsG_perm s q k C
  rw [show ((k:Int)).toNat=k from rfl]
  constructor
  ·intro y hy
   have hy:=hp.mem_iff.2 hy
   unfold putsG at hy
   exact foldG_ok (fun z hz=>by obtain ⟨x,hx,rfl⟩:=List.mem_map.1 hz;exact grpOf_ok (hC x (List.mem_filter.1 hx).1) (by omega) hk) (fun z hz=>by cases hz) y hy
  ·rw [← totG_perm hp]
   unfold putsG
   rw [foldG_tot,totG_map]
   have h1:=tot_filter (inF s q) C hone
   have h2:totG []=0:=rfl
   omega
 ·exact ⟨(fun y hy=>by cases hy),h0⟩
theorem merged (s:Tess.Sch) (q:Que) (set:Int) (A B:List (CK×Pay)) (h:foldE s q set=0):((foldR s q set A ++ foldR s q set B).foldl putG []).Perm (foldR s q set (A ++ B)):=by
 obtain ⟨_,k,rfl,hk⟩:=foldE_zero h
 unfold foldR
 simp only [if_pos h]
 rw [show ((k:Int)).toNat=k from rfl]
 have e:ofSet (k:Nat) (groupsP s q k A) ++ ofSet (k:Nat) (groupsP s q k B)=ofSet (k:Nat) (groupsP s q k A ++ groupsP s q k B):=by unfold ofSet;rw [List.map_append]
 rw [e,show ([]:List Grp)=ofSet (k:Nat) [] from rfl,foldl_ofSet]
 unfold ofSet
 exact (Tess.merge_groups (s:=s) (q:=q) (set:=k) A B).map _
end Go.Proofs.YtaddkkkchkdgkaaGreatDoor
namespace Go.Proofs.YtaddkkkchkdgkaaGreatDoor
open Go.RowKit Go.Sort
open Tess (Fil Que CK Pay CelsOk groupsP)
theorem below_dr {B:Nat} {a w:World} (h:Below B a w) (n:Nat):Below B a (w.drewN n):=⟨h.os,h.tape,h.output,h.size,h.block⟩
set_option maxRecDepth 100000 in
set_option maxHeartbeats 16000000 in
theorem GroupMerges_any {T:Lib.PrintTabs} (a0 a1:Addr) {vs vq vr:Value} {rows0:List Tess.Row} {at0 set:Int} {s0:Tess.Sch} {q0:Que} (w:World) (hL:Lw T a0 a1 w) (hs:SchAt (fun _=>True) w vs s0) (hq:QueOk w vq q0) (hr:RowsIn (fun _=>True) w vr rows0) (hrng:∀ r ∈ rows0,r.rng) :
  Calls Tryz.prog 6 #[vs,vq,vr,.int .i64 at0,.int .i64 set] w fun e w'=>e = .returned (.bool true)∧Below w.heap.size w w':=by
 obtain ⟨⟨n,va,vb,vS,f0,f1,f2,f3,f4,f5,vh,vo,hq⟩,hK⟩:=hq
 have hs:=hs.ltK
 have HR0:=Lib.hid hr.ltR
 clear hr
 have hq:=hq.ltQ
 obtain ⟨vd,vm,rfl,hd,hm,hd1,hm1⟩:=hs
 have HS:=Lib.hid (show SchAt (fun b=>True∧b < w.heap.size) w (.agg #[vd,vm,.int .i64 s0.grain]) s0 from ⟨vd,vm,rfl,hd,hm,hd1,hm1⟩)
 obtain ⟨ad,capd,rfl,_⟩:=slp_len hd
 obtain ⟨am,capm,rfl,_⟩:=slp_len hm
 have hv:=hq.e
 subst hv
 obtain ⟨ab,cb,rfl,_,hdum⟩:=sls_open hq.names.1
 obtain ⟨aa,ca,rfl⟩:=hq.aggs.shape
 obtain ⟨aS,cS,rfl⟩:=hq.sets.shape
 obtain ⟨ah,ch,rfl⟩:=hq.conds.shape
 obtain ⟨ao,co,rfl⟩:=hq.keys.shape
 obtain ⟨z0,z1,z2,z3,z4,ez⟩:=FilAt.shape6 hq.fil
 simp only [Value.agg.injEq,Array.mk.injEq,List.cons.injEq,and_true] at ez
 obtain ⟨rfl,rfl,rfl,rfl,rfl,rfl⟩:=ez
 have HQ:=Lib.hid hq
 have HL:=Lib.hid hL
 clear hd hm hd1 hm1 hdum hq hL
 have hKF:kindsOk (Que.few q0).fil:=kinds_few _ hK
 obtain ⟨W0,hW0⟩:∃ W0,(w.alloc (.cells #[.slice ad s0.dims.length capd,.slice am s0.mets.length capm,.int .i64 s0.grain] 24)).alloc (.cells #[.slice aa q0.aggs.length ca,.slice ab q0.names.length cb,.int .i64 q0.mode,.slice aS q0.sets.length cS,.int .i64 q0.every,.int .i64 q0.fil.kind,.string q0.fil.name,.slice z0 z1 z2,.int .i64 q0.fil.frm,.int .i64 q0.fil.to,.slice z3 q0.fil.l.length z4,.slice ah q0.conds.length ch,.slice ao q0.keys.length co,.int .i64 q0.limit] 35)=W0:=⟨_,rfl⟩
 obtain ⟨k0,k1,kS,kB⟩:=laid2 w (.cells #[.slice ad s0.dims.length capd,.slice am s0.mets.length capm,.int .i64 s0.grain] 24) (.cells #[.slice aa q0.aggs.length ca,.slice ab q0.names.length cb,.int .i64 q0.mode,.slice aS q0.sets.length cS,.int .i64 q0.every,.int .i64 q0.fil.kind,.string q0.fil.name,.slice z0 z1 z2,.int .i64 q0.fil.frm,.int .i64 q0.fil.to,.slice z3 q0.fil.l.length z4,.slice ah q0.conds.length ch,.slice ao q0.keys.length co,.int .i64 q0.limit] 35)
 rw [hW0] at k0 k1 kS kB
 have HX0:=Lib.hid (show Bq w _ _ W0 from ⟨k0,k1,kB⟩)
 clear k0 k1 kS kB
 go_enter Tryz.func6,Tryz.ntmps6
 go_wp2_with (fail)
 go_at_call 10
 refine (shown16_any a0 a1 W0 (HL.out.below HX0.out.below)).mono ?_
 rintro e W1 ⟨rfl,hB1⟩
 have HX1:=Lib.hid (HX0.out.later hB1)
 clear hB1 HX0 hW0
 obtain ⟨⟨x0,x1,x2⟩,x3,x4,x5⟩:=can3 HX1.out.k0
 go_wp2_with (fail)
 go_at_call 11
 refine (cutSch_any _ s0 W1 _ (HS.out.ag (Ag.new _ HX1.out.below))).mono ?_
 rintro e W2 ⟨vs',rfl,hs2,hB2⟩
 have HX2:=HX1.out.later hB2
 have hs2:=hs2.weak (q:=Dq w) (Dq.of HX1.out.lt)
 obtain ⟨s,hse⟩:∃ s,cutSch s0=s:=⟨_,rfl⟩
 rw [hse] at hs2
 clear hse
 obtain ⟨vd',vm',rfl,hd,hm,hd1,hm1⟩:=hs2
 have HS2:=Lib.hid (show SchAt (Dq w) W2 (.agg #[vd',vm',.int .i64 s.grain]) s from ⟨vd',vm',rfl,hd,hm,hd1,hm1⟩)
 obtain ⟨ad',capd',rfl,_⟩:=slp_len hd
 obtain ⟨am',capm',rfl,_⟩:=slp_len hm
 obtain ⟨W3,hW3,HX3,hA3⟩:=HX2.put0 (.slice ad' s.dims.length capd') (.slice am' s.mets.length capm') (.int .i64 s.grain)
 have HS3:=Lib.hid (HS2.out.ag hA3)
 have HX3:=Lib.hid HX3
 clear x0 x1 x2 x3 x4 x5 hd hm hd1 hm1 hB2 HS2 hA3 HX1
 obtain ⟨⟨x0,x1,x2⟩,x3,x4,x5⟩:=can3 HX2.k0
 obtain ⟨y0,y1,y2,y3,y4,y5,y6,y7,y8,y9,ya,yb,yc,yd⟩:=(can14 HX3.out.k1).1
 clear HX2
 go_wp2_with (fail)
 go_at_call 12
 refine (few15_any _ n _ q0 _ _ _ _ _ _ _ _ _ _ _ W3 (HQ.out.ag (Ag.new _ HX3.out.below))).mono ?_
 rintro e W4 ⟨v',ua,ub,uS,g0,g1,g2,g3,g4,g5,uh,uo,rfl,hq4,hcap,hB4⟩
 have hX4:=HX3.out.later hB4
 have hq4:=hq4.weak (q:=Dq w) (fun b hb=>by
  rcases hb with hb | hb
  ·exact ⟨by have:=hb.2;omega,by have:=hb.2;omega⟩
  ·exact Dq.of HX3.out.lt b hb)
 have HS4:=Lib.hid (HS3.out.ag (Ag.new _ hB4))
 have hn10:(Que.few q0).names.length≤10:=by show ((q0.names.take 10).map (cutN 30)).length≤10;simp;omega
 obtain ⟨Q,hQ⟩:∃ Q,Q=Que.few q0:=⟨_,rfl⟩
 rw [← hQ] at hq4 hcap hKF hn10
 clear hQ hB4 x0 x1 x2 x3 x4 x5 y0 y1 y2 y3 y4 y5 y6 y7 y8 y9 ya yb yc yd hW3 HS3
 have hv:=hq4.e
 subst hv
 obtain ⟨na,nc,rfl,_,hdum⟩:=sls_open hq4.names.1
 obtain ⟨ba,bc,rfl⟩:=hq4.aggs.shape
 obtain ⟨ta,tc,rfl⟩:=hq4.sets.shape
 obtain ⟨ha,hc,rfl⟩:=hq4.conds.shape
 obtain ⟨oa,oc,rfl⟩:=hq4.keys.shape
 obtain ⟨j0,j1,j2,j3,j4,ez⟩:=FilAt.shape6 hq4.fil
 simp only [Value.agg.injEq,Array.mk.injEq,List.cons.injEq,and_true] at ez
 obtain ⟨rfl,rfl,rfl,rfl,rfl,rfl⟩:=ez
 have HCAP:=Lib.hid hcap
 clear hdum hcap HX3 HQ HS
 obtain ⟨W5,hW5,hX5,hA5⟩:=hX4.put1 (.slice ba Q.aggs.length bc) (.slice na Q.names.length nc) (.int .i64 Q.mode) (.slice ta Q.sets.length tc) (.int .i64 Q.every) (.int .i64 Q.fil.kind) (.string Q.fil.name) (.slice j0 j1 j2) (.int .i64 Q.fil.frm) (.int .i64 Q.fil.to) (.slice j3 Q.fil.l.length j4) (.slice ha Q.conds.length hc) (.slice oa Q.keys.length oc) (.int .i64 Q.limit)
 obtain ⟨y0,y1,y2,y3,y4,y5,y6,y7,y8,y9,ya,yb,yc,yd⟩:=(can14 hX4.k1).1
 have zf:=(can14 hX4.k1).2
 have zz0:=zf 0 (by omega)
 have zz1:=zf 1 (by omega)
 have zz2:=zf 2 (by omega)
 have zz3:=zf 3 (by omega)
 have zz4:=zf 4 (by omega)
 have zz5:=zf 5 (by omega)
 have zz6:=zf 6 (by omega)
 have zz7:=zf 7 (by omega)
 have zz8:=zf 8 (by omega)
 have zz9:=zf 9 (by omega)
 have zza:=zf 10 (by omega)
 have zzb:=zf 11 (by omega)
 have zzc:=zf 12 (by omega)
 have zzd:=zf 13 (by omega)
 clear zf
 have HS5:=Lib.hid (HS4.out.ag hA5)
 have HQ5:=Lib.hid (hq4.ag hA5)
 have HX5:=Lib.hid hX5
 obtain ⟨x0,x1,x2⟩:=(can3 hX5.k0).1
 obtain ⟨v0,v1,v2,v3,v4,v5,v6,v7,v8,v9,va',vb',vc',vd'⟩:=(can14 hX5.k1).1
 clear hX4 hq4 hX5 hA5 HS4
 go_wp2_with (fail)
 go_at_call 13
 refine (rows_any _ vr rows0 50 (by omega) W5 (HR0.out.ag (Ag.new _ HX5.out.below))).mono ?_
 rintro e W6 ⟨v6,rfl,hr6,hB6⟩
 have hr6:=hr6.weak (q:=Dq w) (fun b hb=>by
  rcases hb with hb | hb
  ·exact ⟨by have:=hb.2;omega,by have:=hb.2;omega⟩
  ·exact Dq.of HX5.out.lt b hb)
 have hRr:=cut_rng (n:=50) hrng
 have hRl:=cut_len (n:=50) (rows:=rows0)
 obtain ⟨R,hR⟩:∃ R,rowsCut 50 rows0=R:=⟨_,rfl⟩
 rw [hR] at hr6 hRr hRl
 have hRl:R.length≤50:=by omega
 obtain ⟨ra,rc,rfl,hrc,_⟩:=ListAt.open hr6
 have HX6:=Lib.hid (HX5.out.later hB6)
 have HS6:=Lib.hid (HS5.out.ag (Ag.new _ hB6))
 have HQ6:=Lib.hid (HQ5.out.ag (Ag.new _ hB6))
 have HR6:=Lib.hid hr6
 have HRr:=Lib.hid hRr
 have HRl:=Lib.hid hRl
 clear hR hr6 hB6 x0 x1 x2 v0 v1 v2 v3 v4 v5 v6 v7 v8 v9 va' vb' vc' vd' y0 y1 y2 y3 y4 y5 y6 y7 y8 y9 ya yb yc yd zz0 zz1 zz2 zz3 zz4 zz5 zz6 zz7 zz8 zz9 zza zzb zzc zzd hW5 hRr hRl
 obtain ⟨x0,x1,x2⟩:=(can3 HX6.out.k0).1
 have hRl:=HRl.out
 obtain ⟨K,hK0⟩:∃ K:Nat,max 0 (min at0 (R.length:Int))=(K:Int):=⟨(max 0 (min at0 (R.length:Int))).toNat,by omega⟩
 have hKl:(K:Int)≤(R.length:Int):=by omega
 have hKc:(K:Int)≤(rc:Int):=by omega
 have hKn:¬ (K:Int) < 0:=by omega
 have HRK:=Lib.hid (show K≤R.length by omega)
 have HRA:=Lib.hid (ListAt.takeK (j:=K) HR6.out HRK.out)
 have hrb:=ListAt.dropK (j:=K) HR6.out HRK.out
 obtain ⟨sv,hsv⟩:∃ sv:Option Addr,(if rc=K then ra else Option.map (fun x=>x.add (K * 3)) ra)=sv:=⟨_,rfl⟩
 rw [hsv] at hrb
 have HRB:=Lib.hid hrb
 have HSV:=Lib.hid hsv
 obtain ⟨eA,hA⟩:∃ eA,rollCode s (R.take K)=eA:=⟨_,rfl⟩
 obtain ⟨eB,hB⟩:∃ eB,rollCode s (R.drop K)=eB:=⟨_,rfl⟩
 have HEA:=Lib.hid hA
 have HEB:=Lib.hid hB
 have hlw:w.heap.size < W6.heap.size:=Nat.lt_of_succ_lt HX6.out.lt
 clear hA hB hrb hsv hRl
 go_wp2_with (fail)
 refine FlowT.wp_region 4 [4,5,6,7,8,9] [5,6,7] 8 9 (Flow.specs [.inl ?_,.inl ?_,.inl ?_,.inl ?_]) (by kernel_rfl) (by kernel_rfl) ?_ rfl rfl rfl ?_
 rotate_left 4
 ·refine Flow.specs_mono ?_
  repeat (first | exact Flow.lmono_nil | refine Flow.lmono_inl ?_)
 all_goals try simp only [List.take_succ_cons,List.take_zero]
 iterate 4 (refine Flow.tree_valK rfl (fun K hK=>⟨fun w hw hG => ?_,?_⟩);(have hcl:=Flow.bcell hw;clear hG hw;unfold Flow.Runs Flow.yields;go_simp;try rfl);go_simp;refine hK _ ?_;clear hK K)
 refine Flow.tree_nil fun W8 hw8 hG => ?_
 clear hG
 have HX8:=Lib.hid (HX6.out.later hw8)
 have HB68:=Lib.hid hw8
 have HC2:=Lib.hid (roll_law (Dq w) _ _ s (R.take K) W8 (HS6.out.ag (Ag.new _ HB68.out)) (RowsIn.agR HRA.out (Ag.new _ HB68.out)) (by rw [List.length_take];have:=HRl.out;omega) (fun r hr=>HRr.out r (List.mem_of_mem_take hr)))
 rw [HEA.out] at HC2
 clear hw8 x0 x1 x2 hlw
 go_wp2_with (fail)
 go_at_call 14
 refine HC2.out.mono ?_
 rintro e W9 ⟨a1',a2',a3',rfl,ha,hB9⟩
 go_wp2_with (fail)
 refine ⟨rfl,_,_,rfl,rfl,(fun w=>by go_simp;try rfl),_,_,rfl,rfl,(fun w=>by go_simp;try rfl),_,_,rfl,rfl,(fun w=>by go_simp;try rfl),?_⟩
 apply both_ways
 ·intro h
  go_wp2_with (fail)
  exact ⟨rfl,h⟩
 ·intro h
  go_wp2_with (fail)
  exact ⟨rfl,h⟩
 have HAA:=Lib.hid ha
 have HX9:=Lib.hid (HX8.out.later hB9)
 have HB69:=Lib.hid (Bt HB68.out hB9)
 clear ha hB9
 obtain ⟨x0,x1,x2⟩:=(can3 HX9.out.k0).1
 have hlw:w.heap.size < W9.heap.size:=Nat.lt_of_succ_lt HX9.out.lt
 have hsv:=HSV.out
 go_wp2_with (fail)
 refine FlowT.wp_region 4 [4,5,6,7,8,9] [5,6,7] 8 9 (Flow.specs [.inl ?_,.inl ?_,.inl ?_,.inl ?_]) (by kernel_rfl) (by kernel_rfl) ?_ rfl rfl rfl ?_
 rotate_left 4
 ·refine Flow.specs_mono ?_
  repeat (first | exact Flow.lmono_nil | refine Flow.lmono_inl ?_)
 all_goals try simp only [List.take_succ_cons,List.take_zero]
 iterate 4 (refine Flow.tree_valK rfl (fun K hK=>⟨fun w hw hG => ?_,?_⟩);(have hcl:=Flow.bcell hw;clear hG hw;unfold Flow.Runs Flow.yields;go_simp;try rfl);go_simp;refine hK _ ?_;clear hK K)
 refine Flow.tree_nil fun WA hw8 hG => ?_
 clear hG
 have HXA:=Lib.hid (HX9.out.later hw8)
 have HB6A:=Lib.hid (Bt HB69.out hw8)
 have HC3:=Lib.hid (roll_law (Dq w) _ _ s (R.drop K) WA (HS6.out.ag (Ag.new _ HB6A.out)) (RowsIn.agR HRB.out (Ag.new _ HB6A.out)) (by rw [List.length_drop];have:=HRl.out;omega) (fun r hr=>HRr.out r (List.mem_of_mem_drop hr)))
 rw [HEB.out] at HC3
 have hw9A:=hw8
 clear hw8 x0 x1 x2 hlw
 go_wp2_with (fail)
 go_at_call 14
 refine HC3.out.mono ?_
 rintro e WB ⟨b1',b2',b3',rfl,hb,hBB⟩
 go_wp2_with (fail)
 refine ⟨rfl,_,_,rfl,rfl,(fun w=>by go_simp;try rfl),_,_,rfl,rfl,(fun w=>by go_simp;try rfl),_,_,rfl,rfl,(fun w=>by go_simp;try rfl),?_⟩
 apply both_ways
 ·intro h
  go_wp2_with (fail)
  exact ⟨rfl,h⟩
 ·intro h
  go_wp2_with (fail)
  exact ⟨rfl,h⟩
 have HXB:=Lib.hid (HXA.out.later hBB)
 have HB6B:=Lib.hid (Bt HB6A.out hBB)
 have HB9B:=Lib.hid (Bt hw9A hBB)
 have HBB:=Lib.hid hb
 clear hb hBB hw9A hsv
 by_cases h1:eA=0
 rotate_left
 ·have e1:(eA != (0:Int))=true:=by rw [bne_iff_ne];exact h1
  go_wp2_with (fail)
  go_ret
  exact ⟨rfl,HXB.out.below⟩
 subst h1
 by_cases h1:eB=0
 rotate_left
 ·have e1:(eB != (0:Int))=true:=by rw [bne_iff_ne];exact h1
  go_wp2_with (fail)
  go_ret
  exact ⟨rfl,HXB.out.below⟩
 subst h1
 have hDq:∀ b,W6.heap.size≤b→Dq w b:=Dq.of HX6.out.lt
 have HAB:=Lib.hid (((HAA.out rfl).ag (Ag.new _ HB9B.out)).weak fun b hb=>hDq b (Nat.le_trans HB68.out.size hb))
 have HBBB:=Lib.hid ((HBB.out rfl).weak fun b hb=>hDq b (Nat.le_trans HB6A.out.size hb))
 have HOA:=Lib.hid (roll_cels HEA.out (by rw [List.length_take];have:=HRl.out;omega) (fun r hr=>HRr.out r (List.mem_of_mem_take hr)))
 have HOB:=Lib.hid (roll_cels HEB.out (by rw [List.length_drop];have:=HRl.out;omega) (fun r hr=>HRr.out r (List.mem_of_mem_drop hr)))
 have htab:=roll_tot s.grain (R.take K)
 have htba:=roll_tot s.grain (R.drop K)
 rw [List.length_take] at htab
 rw [List.length_drop] at htba
 obtain ⟨CA,hCA⟩:∃ CA,Tess.rollP s.grain (R.take K)=CA:=⟨_,rfl⟩
 obtain ⟨CB,hCB⟩:∃ CB,Tess.rollP s.grain (R.drop K)=CB:=⟨_,rfl⟩
 rw [hCA] at HAB HOA htab
 rw [hCB] at HBBB HOB htba
 have HTA:=Lib.hid (show ([CA].flatten.map (·.2.n)).sum≤1000 by have:=HRl.out;simp only [List.flatten_cons,List.flatten_nil,List.append_nil];omega)
 have HTB:=Lib.hid (show ([CB].flatten.map (·.2.n)).sum≤1000 by have:=HRl.out;simp only [List.flatten_cons,List.flatten_nil,List.append_nil];omega)
 have HTC:=Lib.hid (show ([CA,CB].flatten.map (·.2.n)).sum≤1000 by
  have:=HRl.out;simp only [List.flatten_cons,List.flatten_nil,List.append_nil,List.map_append,List.sum_append_int];omega)
 clear htab htba hCA hCB HAA HBB
 obtain ⟨x0,x1,x2⟩:=(can3 HXB.out.k0).1
 obtain ⟨v0,v1,v2,v3,v4,v5,v6,v7,v8,v9,va',vb',vc',vd'⟩:=(can14 HXB.out.k1).1
 obtain ⟨WC,hWx⟩:∃ WX,WB.alloc (.cells #[.slice a1' a2' a3'] 41)=WX:=⟨_,rfl⟩
 have hBx:=(laid1 WB (.cells #[.slice a1' a2' a3'] 41)).2.2
 have hpx:=parts1 (v:=.slice a1' a2' a3') HAB.out
 rw [hWx] at hBx hpx
 have hpx:=hpx.weak (q:=Dq w) (fun b hb=>by
  rcases hb with hb | hb
  ·exact hb
  ·exact Dq.of HXB.out.lt b (by omega))
 have HXC:=Lib.hid (HXB.out.later hBx)
 have HB6C:=Lib.hid (Bt HB6B.out hBx)
 have HA1:=Lib.hid hBx
 have HF:=Lib.hid (fold_any (T:=T) a0 a1 (Dq w) 8 _ _ _ s Q set [CA] _ _ _ _ _ _ _ _ _ _ _ WC (HL.out.below HXC.out.below).vars (HL.out.below HXC.out.below).vn (HL.out.below HXC.out.below).et (HS6.out.ag (Ag.new _ HB6C.out)) (HQ6.out.ag (Ag.new _ HB6C.out)) (by omega) hKF hn10 hpx (by simp) (fun _ C hC=>by obtain rfl:=List.mem_singleton.1 hC;exact HOA.out) HTA.out)
 clear hBx hpx
 go_wp2_with (fail)
 go_at_call 15
 refine HF.out.mono ?_
 rintro e WD ⟨gv,rfl,hG,hBx⟩
 obtain ⟨ag1,ng1,cg1,rfl⟩:∃ a n c,gv = .slice a n c:=let ⟨a,c,h,_⟩:=hG;⟨a,_,c,h⟩
 have HG1:=Lib.hid hG
 have HXD:=Lib.hid (HXC.out.later hBx)
 have HB6D:=Lib.hid (Bt HB6C.out hBx)
 have HH1:=Lib.hid hBx
 clear hG hBx hWx HF
 clear x0 x1 x2 v0 v1 v2 v3 v4 v5 v6 v7 v8 v9 va' vb' vc' vd'
 have HBD:=Lib.hid (show Below WB.heap.size WB WD from Bt HA1.out HH1.out)
 obtain ⟨x0,x1,x2⟩:=(can3 HXD.out.k0).1
 obtain ⟨v0,v1,v2,v3,v4,v5,v6,v7,v8,v9,va',vb',vc',vd'⟩:=(can14 HXD.out.k1).1
 obtain ⟨WE,hWx⟩:∃ WX,WD.alloc (.cells #[.slice b1' b2' b3'] 41)=WX:=⟨_,rfl⟩
 have hBx:=(laid1 WD (.cells #[.slice b1' b2' b3'] 41)).2.2
 have hpx:=parts1 (v:=.slice b1' b2' b3') (HBBB.out.ag (Ag.new _ HBD.out))
 rw [hWx] at hBx hpx
 have hpx:=hpx.weak (q:=Dq w) (fun b hb=>by
  rcases hb with hb | hb
  ·exact hb
  ·exact Dq.of HXD.out.lt b (by omega))
 have HXE:=Lib.hid (HXD.out.later hBx)
 have HB6E:=Lib.hid (Bt HB6D.out hBx)
 have HA2:=Lib.hid hBx
 have HF:=Lib.hid (fold_any (T:=T) a0 a1 (Dq w) 8 _ _ _ s Q set [CB] _ _ _ _ _ _ _ _ _ _ _ WE (HL.out.below HXE.out.below).vars (HL.out.below HXE.out.below).vn (HL.out.below HXE.out.below).et (HS6.out.ag (Ag.new _ HB6E.out)) (HQ6.out.ag (Ag.new _ HB6E.out)) (by omega) hKF hn10 hpx (by simp) (fun _ C hC=>by obtain rfl:=List.mem_singleton.1 hC;exact HOB.out) HTB.out)
 clear hBx hpx
 go_wp2_with (fail)
 go_at_call 15
 refine HF.out.mono ?_
 rintro e WF ⟨gv,rfl,hG,hBx⟩
 obtain ⟨ag2,ng2,cg2,rfl⟩:∃ a n c,gv = .slice a n c:=let ⟨a,c,h,_⟩:=hG;⟨a,_,c,h⟩
 have HG2:=Lib.hid hG
 have HXF:=Lib.hid (HXE.out.later hBx)
 have HB6F:=Lib.hid (Bt HB6E.out hBx)
 have HH2:=Lib.hid hBx
 clear hG hBx hWx HF
 clear x0 x1 x2 v0 v1 v2 v3 v4 v5 v6 v7 v8 v9 va' vb' vc' vd'
 have HDF:=Lib.hid (show Below WD.heap.size WD WF from Bt HA2.out HH2.out)
 have HBF:=Lib.hid (show Below WB.heap.size WB WF from Bt HBD.out HDF.out)
 obtain ⟨x0,x1,x2⟩:=(can3 HXF.out.k0).1
 obtain ⟨v0,v1,v2,v3,v4,v5,v6,v7,v8,v9,va',vb',vc',vd'⟩:=(can14 HXF.out.k1).1
 obtain ⟨WG,hWx⟩:∃ WX,WF.alloc (.cells #[.slice a1' a2' a3',.slice b1' b2' b3'] 41)=WX:=⟨_,rfl⟩
 have hBx:=(laid1 WF (.cells #[.slice a1' a2' a3',.slice b1' b2' b3'] 41)).2.2
 have hpx:=parts2 (v:=.slice a1' a2' a3') (u:=.slice b1' b2' b3') (HAB.out.ag (Ag.new _ HBF.out)) (HBBB.out.ag (Ag.new _ HBF.out))
 rw [hWx] at hBx hpx
 have hpx:=hpx.weak (q:=Dq w) (fun b hb=>by
  rcases hb with hb | hb
  ·exact hb
  ·exact Dq.of HXF.out.lt b (by omega))
 have HXG:=Lib.hid (HXF.out.later hBx)
 have HB6G:=Lib.hid (Bt HB6F.out hBx)
 have HA3:=Lib.hid hBx
 have HF:=Lib.hid (fold_any (T:=T) a0 a1 (Dq w) 8 _ _ _ s Q set [CA,CB] _ _ _ _ _ _ _ _ _ _ _ WG (HL.out.below HXG.out.below).vars (HL.out.below HXG.out.below).vn (HL.out.below HXG.out.below).et (HS6.out.ag (Ag.new _ HB6G.out)) (HQ6.out.ag (Ag.new _ HB6G.out)) (by omega) hKF hn10 hpx (by simp) (fun _ C hC=>by rcases List.mem_cons.1 hC with rfl | hC;exact HOA.out;obtain rfl:=List.mem_singleton.1 hC;exact HOB.out) HTC.out)
 clear hBx hpx
 go_wp2_with (fail)
 go_at_call 15
 refine HF.out.mono ?_
 rintro e WH ⟨gv,rfl,hG,hBx⟩
 obtain ⟨ag3,ng3,cg3,rfl⟩:∃ a n c,gv = .slice a n c:=let ⟨a,c,h,_⟩:=hG;⟨a,_,c,h⟩
 have HG3:=Lib.hid hG
 have HXH:=Lib.hid (HXG.out.later hBx)
 have HB6H:=Lib.hid (Bt HB6G.out hBx)
 have HH3:=Lib.hid hBx
 clear hG hBx hWx HF
 clear x0 x1 x2 v0 v1 v2 v3 v4 v5 v6 v7 v8 v9 va' vb' vc' vd'
 have HFH:=Lib.hid (show Below WF.heap.size WF WH from Bt HA3.out HH3.out)
 by_cases h1:foldE s Q set=0
 rotate_left
 ·generalize foldE s Q set=E at *
  have e1:((E:Int) != (0:Int))=true:=by rw [bne_iff_ne];omega
  go_wp2_with (fail)
  go_ret
  exact ⟨rfl,HXH.out.below⟩
 have hperm:=merged s Q set CA CB h1
 have hg1:=HG1.out.ag (Ag.new _ (Bt HDF.out HFH.out))
 have hg2:=HG2.out.ag (Ag.new _ HFH.out)
 have hg3:=HG3.out
 rw [show [CA].flatten=CA by simp] at hg1
 rw [show [CB].flatten=CB by simp] at hg2
 rw [show [CA,CB].flatten=CA ++ CB by simp] at hg3
 have hfa:=foldR_ok (s:=s) (q:=Q) (set:=set) (C:=CA) HOA.out.each hn10
 have hfb:=foldR_ok (s:=s) (q:=Q) (set:=set) (C:=CB) HOB.out.each hn10
 have htA:(CA.map (·.2.n)).sum≤1000:=by have:=HTA.out;rwa [show [CA].flatten=CA by simp] at this
 have htB:(CB.map (·.2.n)).sum≤1000:=by have:=HTB.out;rwa [show [CB].flatten=CB by simp] at this
 obtain ⟨GA,hGA⟩:∃ GA,foldR s Q set CA=GA:=⟨_,rfl⟩
 obtain ⟨GB,hGB⟩:∃ GB,foldR s Q set CB=GB:=⟨_,rfl⟩
 obtain ⟨GZ,hGZ⟩:∃ GZ,foldR s Q set (CA ++ CB)=GZ:=⟨_,rfl⟩
 rw [hGA] at hg1 hfa hperm
 rw [hGB] at hg2 hfb hperm
 rw [hGZ] at hg3 hperm
 have hM:s.mets.length≤1000:=by
  have:=HOA.out.sch
  unfold Tess.schOk at this
  simp only [Bool.and_eq_true,decide_eq_true_eq] at this
  omega
 have HMG:=Lib.hid (merge_any (T:=T) s.mets.length _ _ GA GB _ _ WH hg1 hg2 hfa.1 hfb.1 hM (by have:=hfa.2;have:=hfb.2;omega) (fun w' hB=>(HL.out.below HXH.out.below).vn w' hB))
 obtain ⟨GM,hGM⟩:∃ GM,(GA ++ GB).foldl putG []=GM:=⟨_,rfl⟩
 rw [hGM] at HMG hperm
 have HPM:=Lib.hid hperm
 have HG3:=Lib.hid hg3
 rw [h1]
 clear hGA hGB hGZ hGM hfa hfb htA htB hg1 hg2 hg3 hperm h1 hM HG1 HG2
 go_wp2_with (fail)
 go_at_call 19
 refine HMG.out.mono ?_
 rintro e WI ⟨vm,rfl,hgm,hBI⟩
 have hgz:=HG3.out.ag (Ag.new _ hBI)
 have HXI:=Lib.hid (HXH.out.later hBI)
 clear hBI
 have hlen:=HPM.out.length_eq
 obtain ⟨am,cm,rfl,_,hlm,_,hcm⟩:=ListAt.open hgm
 obtain ⟨az,cz,ez,_,hlz,_,hcz⟩:=ListAt.open hgz
 simp only [Value.slice.injEq] at ez
 obtain ⟨rfl,hnz,rfl⟩:=ez
 subst hnz
 have hlm:GM.length≤9223372036854775807:=by unfold maxLen at hlm;omega
 have hlz:GZ.length≤9223372036854775807:=by unfold maxLen at hlz;omega
 have HCM:=Lib.hid hcm
 have HCZ:=Lib.hid hcz
 have hne:((GM.length:Int) != (GZ.length:Int))=false:=by rw [bne_eq_false_iff_eq];omega
 clear hcm hcz hgm hgz hlen
 go_wp2_with (fail)
 go_loopw [23] (fun i wr => ∃ k:Nat,k≤GZ.length∧i = .int .i64 k∧Below WI.heap.size WI wr) (fun i _=>GZ.length - (intOf i).toNat)
 case atStart=>exact ⟨0,Nat.zero_le _,rfl,Below.refl _ _⟩
 case round=>
  obtain ⟨k,hk,rfl,hBk⟩:=hrel
  obtain ⟨wa,hwa⟩:∃ wa,wa=wr:=⟨_,rfl⟩
  subst hwa
  have HBK:=Lib.hid hBk
  clear hBk
  by_cases hlt:k < GZ.length
  ·have hki:(k:Int) < (GZ.length:Int):=by omega
   have HKZ:=Lib.hid hlt
   go_wp2_with (fail)
   go_loopw [24,25] (fun v j wr => ∃ (n:Nat),n≤GM.length∧j = .int .i64 n∧v = .bool ((GM.take n).any fun x=>sameB x GZ[k])∧Below WI.heap.size WI wr) (fun _ j _=>GM.length - (intOf j).toNat)
   case atStart=>exact ⟨0,Nat.zero_le _,rfl,rfl,HBK.out⟩
   case round=>
    obtain ⟨n,hn,rfl,rfl,hBn⟩:=hrel
    have HBN:=Lib.hid hBn
    by_cases hnt:n < GM.length
    ·have hnj:(n:Int) < (GM.length:Int):=by omega
     have hstep:((GM.take (n + 1)).any fun x=>sameB x GZ[k])=(((GM.take n).any fun x=>sameB x GZ[k]) || sameB GM[n] GZ[k]):=by
      rw [List.take_succ_eq_append_getElem hnt,List.any_append];simp
     obtain ⟨b1,off1,rfl,hb1,_,cs,_,hR1,hcell1⟩:=HCM.out n hnt
     obtain ⟨b2,off2,rfl,hb2,_,ds,_,hR2,hcell2⟩:=HCZ.out k hlt
     have HS:=Lib.hid (fun W (hW:Below wr.heap.size wr W)=>gsame_any _ _ cs ds GM[n] GZ[k] W (hR1.ag (Ag.new _ (Bt hBn hW))) (hR2.ag (Ag.new _ (Bt hBn hW))))
     obtain ⟨_,_,_,_,_,_,_,_,_,_,_,_,rfl⟩:=hR1.shapes
     obtain ⟨_,_,_,_,_,_,_,_,_,_,_,_,rfl⟩:=hR2.shapes
     have kc1:=fun o (ho:o < 7)=>(hBn.cell (p:=⟨b1,off1 + n * 7 + o,none⟩) hb1).trans (hcell1 o ho)
     have kc2:=fun o (ho:o < 7)=>(hBn.cell (p:=⟨b2,off2 + k * 7 + o,none⟩) hb2).trans (hcell2 o ho)
     have e0:=kc1 0 (by omega)
     have e1:=kc1 1 (by omega)
     have e2:=kc1 2 (by omega)
     have e3:=kc1 3 (by omega)
     have e4:=kc1 4 (by omega)
     have e5:=kc1 5 (by omega)
     have e6:=kc1 6 (by omega)
     have g0:=kc2 0 (by omega)
     have g1:=kc2 1 (by omega)
     have g2:=kc2 2 (by omega)
     have g3:=kc2 3 (by omega)
     have g4:=kc2 4 (by omega)
     have g5:=kc2 5 (by omega)
     have g6:=kc2 6 (by omega)
     simp only [Nat.add_zero,List.getElem?_cons_zero,List.getElem?_cons_succ] at e0 e1 e2 e3 e4 e5 e6 g0 g1 g2 g3 g4 g5 g6
     have hw1:b1 < wr.heap.size:=Nat.lt_of_lt_of_le hb1 hBn.size
     have hw2:b2 < wr.heap.size:=Nat.lt_of_lt_of_le hb2 hBn.size
     clear kc1 kc2 hcell1 hcell2 hR1 hR2 hBn
     have HST:=Lib.hid hstep
     clear hstep
     cases hv:(GM.take n).any fun x=>sameB x GZ[k]
     ·rw [hv,Bool.false_or] at HST
      clear hv
      generalize sameB GM[n] GZ[k]=r at *
      generalize GM[n]=x at *
      go_wp2_with (fail)
      refine Flow.wp_region_flow_tail 10 (Flow.specs [.inl ?_,.inl ?_,.inl ?_,.inl ?_,.inl ?_,.inl ?_,.inl ?_,.inl ?_,.inl ?_,.inl ?_]) (by kernel_rfl) (by kernel_rfl) ?_ ?_
      rotate_left 10
      ·refine Flow.specs_mono ?_
       repeat (first | exact Flow.lmono_nil | refine Flow.lmono_inl ?_)
      all_goals try simp only [List.take_succ_cons,List.take_zero,List.drop_succ_cons,List.drop_zero]
      iterate 10 (refine Flow.tree_valK rfl (fun K hK=>⟨fun w hw hG => ?_,?_⟩);(have hcl:=Flow.bcell hw;clear hG hw;unfold Flow.Runs Flow.yields;go_simp;try rfl);go_simp;refine hK _ ?_;clear hK K)
      refine Flow.tree_nil fun w1 hw1 hG => ?_
      clear hG
      have HB1:=Lib.hid (Bt HBN.out hw1)
      have HS1:=Lib.hid (HS.out w1 hw1)
      clear hw1
      go_wp2_with (fail)
      go_at_call 20
      refine HS1.out.mono ?_
      rintro e w2 ⟨rfl,hb2⟩
      have HB2:=Lib.hid (Bt HB1.out hb2)
      clear hb2 e0 e1 e2 e3 e4 e5 e6 g0 g1 g2 g3 g4 g5 g6
      go_wp2_with (fail)
      go_roundw
      case rel=>exact ⟨n + 1,by omega,by go_num,congrArg Value.bool HST.out.symm,HB2.out⟩
      case measure=>simp [intOf];omega
     ·rw [hv,Bool.true_or] at HST
      clear hv e0 e1 e2 e3 e4 e5 e6 g0 g1 g2 g3 g4 g5 g6 HS
      go_wp2_with (fail)
      go_quiet (fail)
      go_wp2_with (fail)
      go_roundw
      case rel=>exact ⟨n + 1,by omega,by go_num,congrArg Value.bool HST.out.symm,below_dr HBN.out _⟩
      case measure=>simp [intOf];omega
    ·have hnj:¬ (n:Int) < (GM.length:Int):=by omega
     have hin:((GM.take n).any fun x=>sameB x GZ[k])=true:=by
      rw [List.take_of_length_le (by omega),List.any_eq_true]
      exact ⟨GZ[k],HPM.out.mem_iff.2 (List.getElem_mem _),sameB_iff.2 rfl⟩
     rw [hin]
     clear hin hBn
     go_wp2_with (fail)
     go_roundw
     case rel=>exact ⟨k + 1,by omega,by go_num,HBN.out⟩
     case measure=>simp [intOf];omega
  ·have hki:¬ (k:Int) < (GZ.length:Int):=by omega
   go_wp2_with (fail)
   go_ret
   exact ⟨rfl,Bt HXI.out.below HBK.out⟩
end Go.Proofs.YtaddkkkchkdgkaaGreatDoor
namespace Go.Proofs.YtaddkkkchkdgkaaGreatDoor
open Go.RowKit Go.Sort
open Tess (Que)
theorem GroupMergesW_any {vs vq vr:Value} {rows0:List Tess.Row} {s0:Tess.Sch} {q0:Que} {P0:Prop} {P1:Prop} (at0 set:Int) (w:World) (hV:∃ a0 a1,Lw Lib.goPrintTabs a0 a1 w) (hs:SchAt (fun _=>True) w vs s0) (hq:QueOk w vq q0) (hr:RowsIn (fun _=>True) w vr rows0) (hrng:∀ r ∈ rows0,r.rng) (_:P0) (_:P1) :
  Calls Tryz.prog 6 #[vs,vq,vr,.int .i64 at0,.int .i64 set] w fun e w'=>e = .returned (.bool true)∧Below w.heap.size w w':=by
 obtain ⟨a0,a1,hL⟩:=hV
 exact GroupMerges_any a0 a1 w hL hs hq hr hrng
end Go.Proofs.YtaddkkkchkdgkaaGreatDoor
