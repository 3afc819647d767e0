/- Joined by mergeQ.py: Q19, Q20 -/
import Derived.Test.YtmfnhjdeoklnlaaGreatDoorYQ18
namespace Go.Proofs.YtmfnhjdeoklnlaaGreatDoor
open Go.RowKit Go.Sort
open Tess (Fil Tok Prs.next Prs.skip Prs.isT Prs.Endd Prs.Keeps)
theorem FilAt.succ {p:Nat→Prop}:∀ {n:Nat} {w:World} {v:Value} {f:Fil},FilAt p n w v f→FilAt p (n + 1) w v f
 | 0,_,_,_,h=>h.elim
 | n + 1,w,v,f,h=>by
   obtain ⟨vw,a,cap,hv,h1,h2,h3,h4,h5,h6⟩:=h
   refine ⟨vw,a,cap,hv,h1,h2,h3,h4,h5,fun hl => ?_⟩
   obtain ⟨b,off,ha,hb,hp,hc⟩:=h6 hl
   refine ⟨b,off,ha,hb,hp,fun j hj => ?_⟩
   obtain ⟨c0,c1,c2,c3,c4,c5,hf,e⟩:=hc j hj
   exact ⟨c0,c1,c2,c3,c4,c5,hf.succ,e⟩
theorem FilAt.up {p:Nat→Prop} {n m:Nat} {w:World} {v:Value} {f:Fil} (h:FilAt p n w v f) (hm:n≤m):FilAt p m w v f:=by
 obtain ⟨k,rfl⟩:∃ k,m=n + k:=⟨m - n,by omega⟩
 clear hm
 induction k with
 | zero=>exact h
 | succ k ih=>exact ih.succ
theorem fil_not {q:Nat→Prop} {d g cap:Nat} {W:World} {x:Fil} {c0 c1 c2 c3 c4 c5:Value} (hg:g < W.heap.size) (hq:q g) (h:FilAt q d W (.agg #[c0,c1,c2,c3,c4,c5]) x) (hk:W.heap[g]? = some (.cells #[c0,c1,c2,c3,c4,c5] 29 (0,0))) :
  FilAt q (d + 1) W (.agg #[.int .i64 7,.string ⟨#[]⟩,.slice none 0 0,.int .i64 0,.int .i64 0,.slice (some ⟨g,0,none⟩) 1 cap]) (.mk 7 ByteArray.empty [] 0 0 [x]):=by
 refine ⟨.slice none 0 0,some ⟨g,0,none⟩,cap,rfl,Nat.zero_le _,SlP.nil q W,fun x hx=>(by cases hx),by show 1≤maxLen;decide,(fun e=>by cases e),fun _=>⟨g,0,rfl,hg,hq,fun j hj => ?_⟩⟩
 have hj:j < 1:=hj
 obtain rfl:j=0:=by omega
 obtain ⟨⟨e0,e1,e2,e3,e4,e5⟩,_⟩:=box6k hk
 exact ⟨c0,c1,c2,c3,c4,c5,h,e0,e1,e2,e3,e4,e5⟩
section
variable {f:Nat} {ts r:List Tok}
theorem filter_name (h:(Prs.next ts).kind=2):Tess.Prs.filter (f + 1) ts=Tess.Prs.asked (Prs.next ts).text (Prs.skip ts):=by
 show (if (Prs.next ts).kind=2 then _ else _)=_
 rw [if_pos h]
theorem filter_all (h:(Prs.next ts).kind≠2) (h1:Prs.isT [Tess.Prs.wAll] ts=some r):Tess.Prs.filter (f + 1) ts = .ok (.mk 1 ByteArray.empty [] 0 0 [],r):=by
 show (if (Prs.next ts).kind=2 then _ else _)=_
 rw [if_neg h];unfold Tess.Prs.isR;rw [h1]
theorem filter_not (h:(Prs.next ts).kind≠2) (h1:Prs.isT [Tess.Prs.wAll] ts=none) (h2:Prs.isT [Tess.Prs.wNot] ts=some r):Tess.Prs.filter (f + 1) ts=Tess.Prs.bindR (Tess.Prs.filter f r) fun x r2 => .ok (.mk 7 ByteArray.empty [] 0 0 [x],r2):=by
 show (if (Prs.next ts).kind=2 then _ else _)=_
 rw [if_neg h];unfold Tess.Prs.isR;rw [h1];simp only;rw [h2]
theorem filter_time (h:(Prs.next ts).kind≠2) (h1:Prs.isT [Tess.Prs.wAll] ts=none) (h2:Prs.isT [Tess.Prs.wNot] ts=none) (h3:Prs.isT [Tess.Prs.wTime] ts=some r):Tess.Prs.filter (f + 1) ts=Tess.Prs.time r:=by
 show (if (Prs.next ts).kind=2 then _ else _)=_
 rw [if_neg h];unfold Tess.Prs.isR;rw [h1];simp only;rw [h2];simp only;rw [h3]
theorem filter_open (h:(Prs.next ts).kind≠2) (h1:Prs.isT [Tess.Prs.wAll] ts=none) (h2:Prs.isT [Tess.Prs.wNot] ts=none) (h3:Prs.isT [Tess.Prs.wTime] ts=none) (h4:Prs.isT [Tess.Prs.wOpen] ts=some r):Tess.Prs.filter (f + 1) ts=sevR f r:=by
 show (if (Prs.next ts).kind=2 then _ else _)=_
 rw [if_neg h];unfold Tess.Prs.isR;rw [h1];simp only;rw [h2];simp only;rw [h3];simp only;rw [h4];rfl
theorem filter_no (h:(Prs.next ts).kind≠2) (h1:Prs.isT [Tess.Prs.wAll] ts=none) (h2:Prs.isT [Tess.Prs.wNot] ts=none) (h3:Prs.isT [Tess.Prs.wTime] ts=none) (h4:Prs.isT [Tess.Prs.wOpen] ts=none):Tess.Prs.filter (f + 1) ts = .error (Prs.next ts).pos:=by
 show (if (Prs.next ts).kind=2 then _ else _)=_
 rw [if_neg h];unfold Tess.Prs.isR;rw [h1];simp only;rw [h2];simp only;rw [h3];simp only;rw [h4];rfl
end
set_option maxRecDepth 100000 in
set_option maxHeartbeats 8000000 in
theorem filter_step {f:Nat} (IH:Filts f) (hf:f≤999999):Filts (f + 1):=by
 intro p B ts v qs w h he hL
 have hlt:=h.lt
 have HNB:=Lib.hid h.b
 have HL:=Lib.hid (laid1 w (.cells #[.int .i64 0,.string ⟨#[]⟩,.slice none 0 0,.int .i64 0,.int .i64 0,.slice none 0 0] 29))
 have HP:=Lib.hid (h.ltP.below HL.out.2.2)
 have htx:=(tok_n h).2.2.2.1
 have HE:=Lib.hid he
 clear h he
 by_cases hk:(Prs.next ts).kind=2
 ·have g2:((((Prs.next ts).kind:Nat):Int) == 2)=true:=by rw [hk];rfl
  have HK:=Lib.hid (filter_name (f:=f) hk)
  clear hk
  go_enter Tryz.func187,Tryz.ntmps187
  go_wp2_with (first
   | (go_at_call 135;refine (pnext_any _ HP.out).mono ?_;rintro e w2 ⟨rfl,hB2⟩;unfold tkV tkF;have HB2:=Lib.hid hB2;clear hB2)
   | (go_at_call 136;refine (skip_any _ (HP.out.below HB2.out)).mono ?_;rintro e w3 ⟨rfl,v3,hP3,hG3⟩;unfold tkV tkF;have HP3:=Lib.hid hP3;have HG3:=Lib.hid ((grB_below HB2.out).transB hG3);clear hP3 hG3)
   | (go_at_call 221;refine (asked_any _ _ HP3.out HE.out.skip.1 (by have:=HE.out.skip.2.length_le;omega) htx).mono ?_;rintro e w4 ⟨hG4,y0,y1,a1,n1,m1,y3,y4,a2,n2,m2,err,rfl,hres⟩;
       have hR:=((HG3.out.transB hG4).block _ (by rw [HL.out.2.1];omega) (by intro e;have:=Option.some.inj e;omega)).trans HL.out.1;
       have zR:=(box6k hR).2;have cR:=(box6k hR).1;have hRs:w.heap.size < w4.heap.size:=(Array.getElem?_eq_some_iff.1 hR).1;
       have HR:=Lib.hid hR;have HG4:=Lib.hid ((grB_below HL.out.2.2).transB (HG3.out.transB hG4));have HRES:=Lib.hid hres;clear hR hG4 hres))
  ·obtain ⟨W9,hW9⟩:∃ W9,((((((w4.setCell ⟨w.heap.size,0,none⟩ (.int .i64 y0)).setCell ⟨w.heap.size,1,none⟩ (.string y1)).setCell ⟨w.heap.size,2,none⟩ (.slice a1 n1 m1)).setCell ⟨w.heap.size,3,none⟩ (.int .i64 y3)).setCell ⟨w.heap.size,4,none⟩ (.int .i64 y4)).setCell ⟨w.heap.size,5,none⟩ (.slice a2 n2 m2))=W9:=⟨_,rfl⟩
   obtain ⟨k9,g9,p9,s9⟩:=resultAt (p:=p) (R:=w.heap.size) HR.out HG4.out hlt (Nat.le_refl _) HNB.out hW9
   rw [hW9]
   obtain ⟨⟨e0,e1,e2,e3,e4,e5⟩,_⟩:=box6k k9
   refine bodyPost_ret (v:=.tuple #[.agg #[.int .i64 y0,.string y1,.slice a1 n1 m1,.int .i64 y3,.int .i64 y4,.slice a2 n2 m2],err]) (by simp [results,Tryz.results187,go_sem,e0,e1,e2,e3,e4,e5]) rfl ⟨g9,_,_,_,_,_,_,_,_,_,_,_,rfl,?_⟩
   have h3:w.heap.size < w3.heap.size:=by have:=HG3.out.size;have:=HL.out.2.1;omega
   rcases HRES.out with ⟨x,r9,v9,hx,rfl,hPx,hfx⟩ | ⟨j,hx,rfl,ts9,v9,qs9,hPx⟩
   ·exact Or.inl ⟨x,r9,v9,HK.out.trans hx,rfl,p9 _ _ _ hPx,(s9 _ _ _ (hfx.weak fun b hb=>by have h1:w3.heap.size≤b:=hb;omega)).up (by omega)⟩
   ·exact Or.inr ⟨j,HK.out.trans hx,rfl,_,_,_,p9 _ _ _ hPx⟩
 ·have g2:((((Prs.next ts).kind:Nat):Int) == 2)=false:=by rw [beq_eq_false_iff_ne];omega
  have HK:=Lib.hid hk
  clear hk
  go_enter Tryz.func187,Tryz.ntmps187
  go_wp2_with (first
   | (go_at_call 135;refine (pnext_any _ HP.out).mono ?_;rintro e w2 ⟨rfl,hB2⟩;unfold tkV tkF;
       have hR:=(hB2.block _ (by rw [HL.out.2.1];omega)).trans HL.out.1;
       have HR2:=Lib.hid hR;have HP2:=Lib.hid (HP.out.below hB2);have HG2:=Lib.hid (grB_below (B:=B) (Bt HL.out.2.2 hB2));clear hR hB2 HP)
   | (go_at_call 74;refine (is3_any Tess.Prs.wAll _ rfl HP2.out).mono ?_;rintro e w3 ⟨hGx,⟨rx,vx,hTx,rfl,hPx⟩ | ⟨hTx,rfl,vx,hPx⟩⟩ <;>
       (have hR:=(hGx.block _ (Array.getElem?_eq_some_iff.1 HR2.out).1 (by intro e;have:=Option.some.inj e;omega)).trans HR2.out
        have zR:=(box6k hR).2;have cR:=(box6k hR).1;have hRs:w.heap.size < w3.heap.size:=(Array.getElem?_eq_some_iff.1 hR).1
        have HR3:=Lib.hid hR;have HP3:=Lib.hid hPx;have HG3:=Lib.hid (HG2.out.transB hGx);have HT3:=Lib.hid hTx;clear hR hPx hGx hTx HP2))
   | (go_at_call 74;refine (is3_any Tess.Prs.wNot _ rfl HP3.out).mono ?_;rintro e w4 ⟨hGx,⟨rx,vx,hTx,rfl,hPx⟩ | ⟨hTx,rfl,vx,hPx⟩⟩ <;>
       (have hR:=(hGx.block _ (Array.getElem?_eq_some_iff.1 HR3.out).1 (by intro e;have:=Option.some.inj e;omega)).trans HR3.out
        have zR:=(box6k hR).2;have cR:=(box6k hR).1;have hRs:w.heap.size < w4.heap.size:=(Array.getElem?_eq_some_iff.1 hR).1
        have HR4:=Lib.hid hR;have HP4:=Lib.hid hPx;have HG4:=Lib.hid (HG3.out.transB hGx);have HT4:=Lib.hid hTx;clear hR hPx hGx hTx HP3))
   | (go_at_call 74;refine (is3_any Tess.Prs.wTime _ rfl HP4.out).mono ?_;rintro e w5 ⟨hGx,⟨rx,vx,hTx,rfl,hPx⟩ | ⟨hTx,rfl,vx,hPx⟩⟩ <;>
       (have hR:=(hGx.block _ (Array.getElem?_eq_some_iff.1 HR4.out).1 (by intro e;have:=Option.some.inj e;omega)).trans HR4.out
        have zR:=(box6k hR).2;have cR:=(box6k hR).1;have hRs:w.heap.size < w5.heap.size:=(Array.getElem?_eq_some_iff.1 hR).1
        have HR5:=Lib.hid hR;have HP5:=Lib.hid hPx;have HG5:=Lib.hid (HG4.out.transB hGx);have HT5:=Lib.hid hTx;clear hR hPx hGx hTx HP4))
   | (go_at_call 74;refine (is3_any Tess.Prs.wOpen _ rfl HP5.out).mono ?_;rintro e w6 ⟨hGx,⟨rx,vx,hTx,rfl,hPx⟩ | ⟨hTx,rfl,vx,hPx⟩⟩ <;>
       (have hR:=(hGx.block _ (Array.getElem?_eq_some_iff.1 HR5.out).1 (by intro e;have:=Option.some.inj e;omega)).trans HR5.out
        have zR:=(box6k hR).2;have cR:=(box6k hR).1;have hRs:w.heap.size < w6.heap.size:=(Array.getElem?_eq_some_iff.1 hR).1
        have HR6:=Lib.hid hR;have HP6:=Lib.hid hPx;have HG6:=Lib.hid (HG5.out.transB hGx);have HT6:=Lib.hid hTx;clear hR hPx hGx hTx HP5))
   | (go_at_call 187;refine (IH _ _ _ _ _ _ HP4.out (HE.out.isT HT4.out).1 (by have:=(HE.out.isT HT4.out).2.1;omega)).mono ?_;rintro e w7 ⟨hG7,y0,y1,a1,n1,m1,y3,y4,a2,n2,m2,err,rfl,hres⟩;
       have hk7:=laid2 w7 (.cells #[.int .i64 y0,.string y1,.slice a1 n1 m1,.int .i64 y3,.int .i64 y4,.slice a2 n2 m2] 29) (.cells #[.int .i64 y0,.string y1,.slice a1 n1 m1,.int .i64 y3,.int .i64 y4,.slice a2 n2 m2] 29);
       have hR:=(hk7.2.2.2.block _ (Nat.lt_of_lt_of_le (Array.getElem?_eq_some_iff.1 HR4.out).1 hG7.size)).trans ((hG7.block _ (Array.getElem?_eq_some_iff.1 HR4.out).1 (by intro e;have:=Option.some.inj e;omega)).trans HR4.out);
       have hR7:=((hG7.block _ (Array.getElem?_eq_some_iff.1 HR4.out).1 (by intro e;have:=Option.some.inj e;omega)).trans HR4.out);
       have zR:=(box6k hR7).2;have cR:=(box6k hR7).1;have hRs:w.heap.size < w7.heap.size:=(Array.getElem?_eq_some_iff.1 hR7).1;
       have HR7:=Lib.hid hR7;have HG7:=Lib.hid (HG4.out.transB hG7);have HRES:=Lib.hid hres;have HS4:=Lib.hid hG7.size;clear hR hR7 hG7 hres hk7)
   | (go_at_call 222;refine (time_any _ HP5.out).mono ?_;rintro e w7 ⟨hG7,y0,y1,a1,n1,m1,y3,y4,a2,n2,m2,err,rfl,hres⟩;
       have hR:=(hG7.block _ (Array.getElem?_eq_some_iff.1 HR5.out).1 (by intro e;have:=Option.some.inj e;omega)).trans HR5.out;
       have zR:=(box6k hR).2;have cR:=(box6k hR).1;have hRs:w.heap.size < w7.heap.size:=(Array.getElem?_eq_some_iff.1 hR).1;
       have HR7:=Lib.hid hR;have HG7:=Lib.hid (HG5.out.transB hG7);have HRES:=Lib.hid hres;clear hR hG7 hres)
   | (go_at_call 223;refine (several_any IH (by omega) _ HP6.out (HE.out.isT HT6.out).1 (by have:=(HE.out.isT HT6.out).2.1;omega)).mono ?_;rintro e w7 ⟨hG7,y0,y1,a1,n1,m1,y3,y4,a2,n2,m2,err,rfl,hres⟩;
       have hR:=(hG7.block _ (Array.getElem?_eq_some_iff.1 HR6.out).1 (by intro e;have:=Option.some.inj e;omega)).trans HR6.out;
       have zR:=(box6k hR).2;have cR:=(box6k hR).1;have hRs:w.heap.size < w7.heap.size:=(Array.getElem?_eq_some_iff.1 hR).1;
       have HR7:=Lib.hid hR;have HG7:=Lib.hid (HG6.out.transB hG7);have HRES:=Lib.hid hres;clear hR hG7 hres)
   | (go_at_call 134;refine (fail_any _ HP6.out).mono ?_;rintro e w7 ⟨rfl,hB7⟩;
       have hR:=(hB7.block _ (Array.getElem?_eq_some_iff.1 HR6.out).1).trans HR6.out;
       have zR:=(box6k hR).2;have cR:=(box6k hR).1;have hRs:w.heap.size < w7.heap.size:=(Array.getElem?_eq_some_iff.1 hR).1;
       have HR7:=Lib.hid hR;have HG7:=Lib.hid (HG6.out.trans_below hB7);have HP7:=Lib.hid (HP6.out.below hB7);clear hR hB7))
  ·obtain ⟨W9,hW9⟩:∃ W9,((((((w3.setCell ⟨w.heap.size,0,none⟩ (.int .i64 1)).setCell ⟨w.heap.size,1,none⟩ (.string ⟨#[]⟩)).setCell ⟨w.heap.size,2,none⟩ (.slice none 0 0)).setCell ⟨w.heap.size,3,none⟩ (.int .i64 0)).setCell ⟨w.heap.size,4,none⟩ (.int .i64 0)).setCell ⟨w.heap.size,5,none⟩ (.slice none 0 0))=W9:=⟨_,rfl⟩
   obtain ⟨k9,g9,p9,s9⟩:=resultAt (p:=p) (R:=w.heap.size) HR3.out HG3.out hlt (Nat.le_refl _) HNB.out hW9
   rw [hW9]
   obtain ⟨⟨e0,e1,e2,e3,e4,e5⟩,_⟩:=box6k k9
   refine bodyPost_ret (v:=.tuple #[.agg #[.int .i64 1,.string ⟨#[]⟩,.slice none 0 0,.int .i64 0,.int .i64 0,.slice none 0 0],.nilIface]) (by simp [results,Tryz.results187,go_sem,e0,e1,e2,e3,e4,e5]) rfl ⟨g9,_,_,_,_,_,_,_,_,_,_,_,rfl,?_⟩
   exact Or.inl ⟨.mk 1 ByteArray.empty [] 0 0 [],_,_,filter_all HK.out HT3.out,rfl,p9 _ _ _ HP3.out,s9 _ _ _ ((fil_none _ _ _ _ _).up (by omega))⟩
  ·obtain ⟨W9,hW9⟩:∃ W9,((((((w7.setCell ⟨w.heap.size,0,none⟩ (.int .i64 7)).setCell ⟨w.heap.size,1,none⟩ (.string ⟨#[]⟩)).setCell ⟨w.heap.size,2,none⟩ (.slice none 0 0)).setCell ⟨w.heap.size,3,none⟩ (.int .i64 0)).setCell ⟨w.heap.size,4,none⟩ (.int .i64 0)).setCell ⟨w.heap.size,5,none⟩ (.slice (some ⟨w7.heap.size + 1,0,none⟩) 1 1))=W9:=⟨_,rfl⟩
   have hsz:W9.heap.size=w7.heap.size:=hW9 ▸ set6_size _ _ _ _ _ _
   obtain ⟨k9,g9,p9,s9⟩:=resultAt (p:=p) (R:=w.heap.size) HR7.out HG7.out hlt (Nat.le_refl _) HNB.out hW9
   rw [hW9]
   obtain ⟨l0,l1,lS,lB⟩:=laid2 W9 (.cells #[.int .i64 y0,.string y1,.slice a1 n1 m1,.int .i64 y3,.int .i64 y4,.slice a2 n2 m2] 29) (.cells #[.int .i64 y0,.string y1,.slice a1 n1 m1,.int .i64 y3,.int .i64 y4,.slice a2 n2 m2] 29)
   have kf:=(lB.block _ (Array.getElem?_eq_some_iff.1 k9).1).trans k9
   obtain ⟨⟨e0,e1,e2,e3,e4,e5⟩,_⟩:=box6k kf
   refine bodyPost_ret (v:=.tuple #[.agg #[.int .i64 7,.string ⟨#[]⟩,.slice none 0 0,.int .i64 0,.int .i64 0,.slice (some ⟨w7.heap.size + 1,0,none⟩) 1 1],err]) (by simp [results,Tryz.results187,go_sem,e0,e1,e2,e3,e4,e5]) rfl ⟨g9.trans_below lB,_,_,_,_,_,_,_,_,_,_,_,rfl,?_⟩
   rcases HRES.out with ⟨x,r9,v9,hx,rfl,hPx,hfx⟩ | ⟨j,hx,rfl,ts9,v9,qs9,hPx⟩
   ·have h4:w.heap.size < w4.heap.size:=(Array.getElem?_eq_some_iff.1 HR4.out).1
    have hf9:=(s9 _ _ _ (hfx.weak fun b hb=>by have h1:w4.heap.size≤b:=hb;omega)).ag (Ag.new _ lB)
    have h7:=HS4.out
    refine Or.inl ⟨.mk 7 ByteArray.empty [] 0 0 [x],r9,v9,by rw [filter_not HK.out HT3.out HT4.out,bindR_ok hx],rfl,(p9 _ _ _ hPx).below lB,?_⟩
    rw [← hsz]
    exact fil_not (by rw [lS];omega) (by show w.heap.size≤W9.heap.size + 1;omega) hf9 l1
   ·exact Or.inr ⟨j,by rw [filter_not HK.out HT3.out HT4.out,bindR_err hx],rfl,_,_,_,(p9 _ _ _ hPx).below lB⟩
  ·obtain ⟨W9,hW9⟩:∃ W9,((((((w7.setCell ⟨w.heap.size,0,none⟩ (.int .i64 y0)).setCell ⟨w.heap.size,1,none⟩ (.string y1)).setCell ⟨w.heap.size,2,none⟩ (.slice a1 n1 m1)).setCell ⟨w.heap.size,3,none⟩ (.int .i64 y3)).setCell ⟨w.heap.size,4,none⟩ (.int .i64 y4)).setCell ⟨w.heap.size,5,none⟩ (.slice a2 n2 m2))=W9:=⟨_,rfl⟩
   obtain ⟨k9,g9,p9,s9⟩:=resultAt (p:=p) (R:=w.heap.size) HR7.out HG7.out hlt (Nat.le_refl _) HNB.out hW9
   rw [hW9]
   obtain ⟨⟨e0,e1,e2,e3,e4,e5⟩,_⟩:=box6k k9
   refine bodyPost_ret (v:=.tuple #[.agg #[.int .i64 y0,.string y1,.slice a1 n1 m1,.int .i64 y3,.int .i64 y4,.slice a2 n2 m2],err]) (by simp [results,Tryz.results187,go_sem,e0,e1,e2,e3,e4,e5]) rfl ⟨g9,_,_,_,_,_,_,_,_,_,_,_,rfl,?_⟩
   have h3:w.heap.size < w5.heap.size:=(Array.getElem?_eq_some_iff.1 HR5.out).1
   rcases HRES.out with ⟨x,r9,v9,hx,rfl,hPx,hfx⟩ | ⟨j,hx,rfl,ts9,v9,qs9,hPx⟩
   ·exact Or.inl ⟨x,r9,v9,(filter_time HK.out HT3.out HT4.out HT5.out).trans hx,rfl,p9 _ _ _ hPx,(s9 _ _ _ (hfx.weak fun b hb=>by have h1:w5.heap.size≤b:=hb;omega)).up (by omega)⟩
   ·exact Or.inr ⟨j,(filter_time HK.out HT3.out HT4.out HT5.out).trans hx,rfl,_,_,_,p9 _ _ _ hPx⟩
  ·obtain ⟨W9,hW9⟩:∃ W9,((((((w7.setCell ⟨w.heap.size,0,none⟩ (.int .i64 y0)).setCell ⟨w.heap.size,1,none⟩ (.string y1)).setCell ⟨w.heap.size,2,none⟩ (.slice a1 n1 m1)).setCell ⟨w.heap.size,3,none⟩ (.int .i64 y3)).setCell ⟨w.heap.size,4,none⟩ (.int .i64 y4)).setCell ⟨w.heap.size,5,none⟩ (.slice a2 n2 m2))=W9:=⟨_,rfl⟩
   obtain ⟨k9,g9,p9,s9⟩:=resultAt (p:=p) (R:=w.heap.size) HR7.out HG7.out hlt (Nat.le_refl _) HNB.out hW9
   rw [hW9]
   obtain ⟨⟨e0,e1,e2,e3,e4,e5⟩,_⟩:=box6k k9
   refine bodyPost_ret (v:=.tuple #[.agg #[.int .i64 y0,.string y1,.slice a1 n1 m1,.int .i64 y3,.int .i64 y4,.slice a2 n2 m2],err]) (by simp [results,Tryz.results187,go_sem,e0,e1,e2,e3,e4,e5]) rfl ⟨g9,_,_,_,_,_,_,_,_,_,_,_,rfl,?_⟩
   have h3:w.heap.size < w6.heap.size:=(Array.getElem?_eq_some_iff.1 HR6.out).1
   rcases HRES.out with ⟨x,r9,v9,hx,rfl,hPx,hfx⟩ | ⟨j,hx,rfl,ts9,v9,qs9,hPx⟩
   ·exact Or.inl ⟨x,r9,v9,(filter_open HK.out HT3.out HT4.out HT5.out HT6.out).trans hx,rfl,p9 _ _ _ hPx,(s9 _ _ _ (hfx.weak fun b hb=>by have h1:w6.heap.size≤b:=hb;omega))⟩
   ·exact Or.inr ⟨j,(filter_open HK.out HT3.out HT4.out HT5.out HT6.out).trans hx,rfl,_,_,_,p9 _ _ _ hPx⟩
  ·obtain ⟨W9,hW9⟩:∃ W9,((((((w7.setCell ⟨w.heap.size,0,none⟩ (.int .i64 0)).setCell ⟨w.heap.size,1,none⟩ (.string ⟨#[]⟩)).setCell ⟨w.heap.size,2,none⟩ (.slice none 0 0)).setCell ⟨w.heap.size,3,none⟩ (.int .i64 0)).setCell ⟨w.heap.size,4,none⟩ (.int .i64 0)).setCell ⟨w.heap.size,5,none⟩ (.slice none 0 0))=W9:=⟨_,rfl⟩
   obtain ⟨k9,g9,p9,s9⟩:=resultAt (p:=p) (R:=w.heap.size) HR7.out HG7.out hlt (Nat.le_refl _) HNB.out hW9
   rw [hW9]
   obtain ⟨⟨e0,e1,e2,e3,e4,e5⟩,_⟩:=box6k k9
   refine bodyPost_ret (v:=.tuple #[.agg #[.int .i64 0,.string ⟨#[]⟩,.slice none 0 0,.int .i64 0,.int .i64 0,.slice none 0 0],errF (Prs.next ts).pos]) (by simp [results,Tryz.results187,go_sem,e0,e1,e2,e3,e4,e5]) rfl ⟨g9,_,_,_,_,_,_,_,_,_,_,_,rfl,?_⟩
   exact Or.inr ⟨_,filter_no HK.out HT3.out HT4.out HT5.out HT6.out,rfl,_,_,_,p9 _ _ _ HP7.out⟩
theorem filts (f:Nat) (hf:f≤1000000):Filts f:=by
 induction f with
 | zero=>
   intro p B ts v qs W h _ hL
   exact absurd (List.length_eq_zero_iff.1 (Nat.le_zero.1 hL)) h.ne
 | succ f ih=>exact filter_step (ih (by omega)) (by omega)
set_option maxRecDepth 100000 in
set_option maxHeartbeats 8000000 in
theorem where_any {p:Nat→Prop} {B:Nat} {ts:List Tok} {v x0 x1 x2 x3 x4 x5 x6 x7 x8 x9 xa xb xc xd:Value} (w:World) (h:PsAt p B ts v [x0,x1,x2,x3,x4,x5,x6,x7,x8,x9,xa,xb,xc,xd] w) (he:Prs.Endd ts) (hL:ts.length≤1000000) :
  Calls Tryz.prog 139 #[.pointer (some ⟨B,0,none⟩)] w fun e w'=>w.grownBy w' (some B) ∧
   ((∃ f r v' y0 y1 y2 y3 y4 y5,Tess.Prs.filter ts.length ts = .ok (f,r)∧e = .returned .nilIface∧PsAt p B r v' [x0,x1,x2,x3,x4,y0,y1,y2,y3,y4,y5,xb,xc,xd] w'∧FilAt (fun b=>w.heap.size≤b) ts.length w' (.agg #[y0,y1,y2,y3,y4,y5]) f) ∨
    (∃ k,Tess.Prs.filter ts.length ts = .error k∧e = .returned (errF k))):=by
 have hlt:=h.lt
 have HI:=Lib.hid (filts ts.length hL p B ts v _ w h he (Nat.le_refl _))
 have HNB:=Lib.hid h.b
 clear h he
 go_enter Tryz.func139,Tryz.ntmps139
 go_wp2_with (
  go_at_call 187;refine HI.out.mono ?_;rintro e w2 ⟨hG2,y0,y1,a1,n1,m1,y3,y4,a2,n2,m2,err,rfl,hres⟩;
   obtain ⟨tsx,vx,qsx,hPx⟩:∃ tsx vx qsx,PsAt p B tsx vx qsx w2:=(by rcases hres with ⟨_,r,v',_,_,h,_⟩ | ⟨_,_,_,h⟩;exact ⟨_,_,_,h⟩;exact h);
   obtain ⟨q6,f6⟩:=hPx.some_ 6 (by decide);obtain ⟨q7,f7⟩:=hPx.some_ 7 (by decide);obtain ⟨q8,f8⟩:=hPx.some_ 8 (by decide);obtain ⟨q9,f9⟩:=hPx.some_ 9 (by decide);obtain ⟨q10,f10⟩:=hPx.some_ 10 (by decide);obtain ⟨q11,f11⟩:=hPx.some_ 11 (by decide);
   have z6:=frozen_of_row w2 B 6 _ _ hPx.k;have z7:=frozen_of_row w2 B 7 _ _ hPx.k;have z8:=frozen_of_row w2 B 8 _ _ hPx.k;have z9:=frozen_of_row w2 B 9 _ _ hPx.k;have z10:=frozen_of_row w2 B 10 _ _ hPx.k;have z11:=frozen_of_row w2 B 11 _ _ hPx.k;
   have h2B:=hPx.lt;
   have HG2:=Lib.hid hG2;have HRES:=Lib.hid hres;clear hG2 hres hPx)
 go_ret
 have hset:w2.grownBy ((((((w2.setCell ⟨B,6,none⟩ (.int .i64 y0)).setCell ⟨B,7,none⟩ (.string y1)).setCell ⟨B,8,none⟩ (.slice a1 n1 m1)).setCell ⟨B,9,none⟩ (.int .i64 y3)).setCell ⟨B,10,none⟩ (.int .i64 y4)).setCell ⟨B,11,none⟩ (.slice a2 n2 m2)) (some B):=by
  refine ((((((grB_set w2 B 6 _ h2B).transB (grB_set _ B 7 _ ?_)).transB (grB_set _ B 8 _ ?_)).transB (grB_set _ B 9 _ ?_)).transB (grB_set _ B 10 _ ?_)).transB (grB_set _ B 11 _ ?_)) <;> (simp only [setSize];exact h2B)
 refine ⟨(HG2.out.transB hset).transB (grB_alloc _ _ _),?_⟩
 rcases HRES.out with ⟨f,r,v',hf,rfl,hP,hfil⟩ | ⟨k,hf,rfl,_⟩
 ·refine Or.inl ⟨f,r,v',_,_,_,_,_,_,hf,rfl,((((((hP.put 6 (.int .i64 y0) rfl rfl).put 7 (.string y1) rfl rfl).put 8 (.slice a1 n1 m1) rfl rfl).put 9 (.int .i64 y3) rfl rfl).put 10 (.int .i64 y4) rfl rfl).put 11 (.slice a2 n2 m2) rfl rfl).below ((Below.refl _ _).alloc (Nat.le_refl _) _),?_⟩
  exact (hfil.ag (Ag.grown hset fun g e=>by have:=Option.some.inj e;show ¬ (w.heap.size≤g);omega)).ag (Ag.new _ ((Below.refl _ _).alloc (Nat.le_refl _) _))
 ·exact Or.inr ⟨k,hf,rfl⟩
end Go.Proofs.YtmfnhjdeoklnlaaGreatDoor
namespace Go.Proofs.YtmfnhjdeoklnlaaGreatDoor
open Go.RowKit Go.Sort Go.Maps
open Tess (Fil Tok Prs.next Prs.skip Prs.isT Prs.Endd Prs.Keeps)
theorem owns_le {w:World} {N:Nat} {e:TypeId} {size:Nat} {v:Value} {n:Nat} {xs:List Value} (h:w.ownsRow N e size v n xs):n≤maxLen:=by
 rcases h.2 with ⟨_,h0⟩ | ⟨g,cap,cur,_,_,_,h1,h2,_⟩
 ·rw [h0];exact Nat.zero_le _
 ·exact Nat.le_trans h1 h2
section
variable {p:Nat→Prop} {B:Nat} {ts:List Tok} {v x0 x1 x2 x3 x4 x5 x6 x7 x8 x9 xa xb xc xd:Value}
set_option maxRecDepth 100000 in
theorem having_any (w:World) (h:PsAt p B ts v [x0,x1,x2,x3,x4,x5,x6,x7,x8,x9,xa,.slice none 0 0,xc,xd] w) (he:Prs.Endd ts) (hL:ts.length≤1000000) :
  Calls Tryz.prog 140 #[.pointer (some ⟨B,0,none⟩)] w fun e w'=>w.grownBy w' (some B) ∧
   ((∃ l r v' vb,Tess.Prs.list Tess.Prs.wComma Tess.Prs.cond ts.length ts = .ok (l,r)∧e = .returned .nilIface∧PsAt p B r v' [x0,x1,x2,x3,x4,x5,x6,x7,x8,x9,xa,vb,xc,xd] w'∧RowsAt 3 condF (fun b=>w.heap.size≤b) w' vb l) ∨
    (∃ k,Tess.Prs.list Tess.Prs.wComma Tess.Prs.cond ts.length ts = .error k∧e = .returned (errF k))):=by
 have hlt:=h.lt
 have HNB:=Lib.hid h.b
 have HM:=Lib.hid (list_cond (p:=fun b=>p b∧b < w.heap.size) Tess.Prs.wComma Tess.Prs.cond (CdEx w.heap.size x0 x1 x2 x3 x4 x5 x6 x7 x8 x9 xa xc xd) (fun _=>True) 1000000 w w h.ltP he Tess.Prs.cond_keeps (grB_refl w B) ⟨_,rfl,World.ownsRow_nil _ _ _ _,fun _=>rfl⟩ hL (CdEx.steady hlt) (cond_any w (fun b hb=>hb.2) hlt (Nat.le_refl _)))
 clear h he
 go_enter Tryz.func140,Tryz.ntmps140
 go_wp2_with (
  go_at_call 71;refine HM.out.mono ?_;clear HM;rintro e w2 ⟨hG2,⟨l,r,v2,qs2,hl,rfl,hP2,hE2⟩ | ⟨k,hl,rfl,_,_⟩⟩ <;> (have HG2:=Lib.hid hG2;have HT:=Lib.hid hl;clear hG2 hl))
 ·go_ret
  obtain ⟨vb,rfl,hown,hnil⟩:=hE2.o
  exact ⟨HG2.out,Or.inl ⟨l,r,v2,vb,HT.out,rfl,hP2.weak (fun b hb=>hb.1) HNB.out,rows_owned (fun x _=>rfl) hown (owns_le hown) hnil⟩⟩
 ·go_ret
  exact ⟨HG2.out,Or.inr ⟨k,HT.out,rfl⟩⟩
set_option maxRecDepth 100000 in
theorem order_any (names:List ByteArray) (w:World) (h:PsAt p B ts v [x0,x1,x2,x3,x4,x5,x6,x7,x8,x9,xa,xb,.slice none 0 0,xd] w) (he:Prs.Endd ts) (hL:ts.length≤1000000) (hN:∀ W,w.grownBy W (some B)→SlOf W x1 (names.map .string)) :
  Calls Tryz.prog 141 #[.pointer (some ⟨B,0,none⟩)] w fun e w'=>w.grownBy w' (some B) ∧
   ((∃ l r v' vb,Tess.Prs.list Tess.Prs.wComma (Tess.Prs.key names) ts.length ts = .ok (l,r)∧e = .returned .nilIface∧PsAt p B r v' [x0,x1,x2,x3,x4,x5,x6,x7,x8,x9,xa,xb,vb,xd] w'∧RowsAt 3 keyF (fun b=>w.heap.size≤b) w' vb l) ∨
    (∃ k,Tess.Prs.list Tess.Prs.wComma (Tess.Prs.key names) ts.length ts = .error k∧e = .returned (errF k))):=by
 have hlt:=h.lt
 have HNB:=Lib.hid h.b
 have HM:=Lib.hid (list_key (p:=fun b=>p b∧b < w.heap.size) Tess.Prs.wComma (Tess.Prs.key names) (KyEx w.heap.size x0 x1 x2 x3 x4 x5 x6 x7 x8 x9 xa xb xd) (fun _=>True) 1000000 w w h.ltP he (Tess.Prs.key_keeps names) (grB_refl w B) ⟨_,rfl,World.ownsRow_nil _ _ _ _,fun _=>rfl⟩ hL (KyEx.steady hlt) (key_any names w (fun b hb=>hb.2) hlt (Nat.le_refl _) hN))
 clear h he
 go_enter Tryz.func141,Tryz.ntmps141
 go_wp2_with (
  go_at_call 71;refine HM.out.mono ?_;clear HM;rintro e w2 ⟨hG2,⟨l,r,v2,qs2,hl,rfl,hP2,hE2⟩ | ⟨k,hl,rfl,_,_⟩⟩ <;> (have HG2:=Lib.hid hG2;have HT:=Lib.hid hl;clear hG2 hl))
 ·go_ret
  obtain ⟨vb,rfl,hown,hnil⟩:=hE2.o
  exact ⟨HG2.out,Or.inl ⟨l,r,v2,vb,HT.out,rfl,hP2.weak (fun b hb=>hb.1) HNB.out,rows_owned (fun x _=>rfl) hown (owns_le hown) hnil⟩⟩
 ·go_ret
  exact ⟨HG2.out,Or.inr ⟨k,HT.out,rfl⟩⟩
end
def partF (B:Nat) (f:FuncId):Value:=.func (.func f) #[.pointer (some ⟨B,0,none⟩)] #[]
def partsD (B:Nat):DataW Value:=((((((DataW.map []).put (.string Tess.Prs.wBy.data.toList) (.held (partF B 137))).put (.string Tess.Prs.wEvery.data.toList) (.held (partF B 138))).put (.string Tess.Prs.wWhere.data.toList) (.held (partF B 139))).put (.string Tess.Prs.wHaving.data.toList) (.held (partF B 140))).put (.string Tess.Prs.wOrder.data.toList) (.held (partF B 141))).put (.string Tess.Prs.wLimit.data.toList) (.held (partF B 142))
def PartsAt (B:Nat) (w:World) (b:Nat):Prop:=w.ownsMap Tryz.prog 9 asIs b 6 (partsD B)
set_option maxRecDepth 100000 in
set_option maxHeartbeats 4000000 in
theorem parts_any (B:Nat) (w:World):Calls Tryz.prog 73 #[.pointer (some ⟨B,0,none⟩)] w fun e w'=>e = .returned (.map (some w.heap.size))∧PartsAt B w' w.heap.size∧Below w.heap.size w w':=by
 have hmm:=@run_makeMap Tryz.prog
 have HO:=Lib.hid (World.ownsMap_made (H:=Value) w Tryz.prog 9 asIs)
 have HB:=Lib.hid ((Below.refl w.heap.size w).alloc (Nat.le_refl _) (.map #[] 0))
 go_enter Tryz.func73,Tryz.ntmps73
 go_wp2_with (refine wpList_insert_own _ rfl _ _ _ 123 rfl 9 74 lawStr Tryz.underlying123 asIs w.heap.size _ _ rfl HO.out (by decide) _ _ _ rfl rfl (WideMaps.keyOf_string_mk Tryz.underlying9 (by decide)) _ _ rfl ?_;intro w1 hown1 hg1;have HB':=Lib.hid (HB.out.grown hg1 HB.out.size (fun j e=>by cases e;omega));have HO':=Lib.hid hown1;clear hown1 hg1 HO HB;have HO:=HO';have HB:=HB';clear HO' HB')
 go_ret
 exact ⟨rfl,HO.out,HB.out⟩
end Go.Proofs.YtmfnhjdeoklnlaaGreatDoor
