/- Joined by mergeK.py: D26, D27, D28, D29, D30p, D30, D31, D32, D34p, D35p, D37p, D36p, E0p, S0p, S1p, S2p -/
import Derived.Test.YtjdccifdkjnknaaGreatDoorAC14
import Derived.Test.YtjdccifdkjnknaaGreatDoorAC03
import Derived.Lib.SlicesCompact
import Derived.Test.YtjdccifdkjnknaaGreatDoorAC00
import Derived.Laws.MathBits
namespace Tess
def numW (rest:ByteArray) (most:Nat):Nat×ByteArray×Nat:=
 if (getW rest).2.2=0 then (if most < (getW rest).1 then (0,rest,50) else ((getW rest).1,(getW rest).2.1,0)) else (0,rest,(getW rest).2.2)
theorem gWl (s:ByteArray):(getW s).1 < 18446744073709551616:=by
 unfold getW
 split
 ·rename_i h
  split
  ·rename_i hg
   have hk:stop s.data.toList < s.data.toList.length:=by simp;omega
   have Aa:∀ j (hj:j < s.data.toList.length),j < stop s.data.toList→128≤s.data.toList[j].toNat:=fun j hj hjs=>by
    have:=List.not_of_lt_findIdx (p:=fun c:UInt8=>decide (c.toNat < 128)) (xs:=s.data.toList.take 10) hjs
    rw [List.getElem_take] at this
    simpa using this
   have Ac:s.data.toList[stop s.data.toList].toNat < 128:=by
    have Ab:stop s.data.toList < (s.data.toList.take 10).length:=by simp;omega
    have:=List.findIdx_getElem (p:=fun c:UInt8=>decide (c.toNat < 128)) (xs:=s.data.toList.take 10) (w:=Ab)
    have e:(s.data.toList.take 10)[stop s.data.toList]=s.data.toList[stop s.data.toList]:=List.getElem_take
    rw [← e]
    exact of_decide_eq_true this
   exact (again s.data.toList (stop s.data.toList) hk (by omega) Aa Ac).2 hg
  ·show 0 < _;omega
 ·show 0 < _;omega
end Tess
namespace Go.Proofs.YtjdccifdkjnknaaGreatDoor
open Go.RowKit Go.Sort Go.Shelf
def Rd (p:Nat) (rest last:ByteArray) (w:World):Prop:=w.heap[p]? = some (.cells #[.string rest,.string last] 244 (0,0))
section
variable {p:Nat} {rest last:ByteArray} {w w':World}
theorem Rd.lt (h:Rd p rest last w):p < w.heap.size:=(Array.getElem?_eq_some_iff.1 h).1
theorem Rd.c0 (h:Rd p rest last w):w.cell? ⟨p,0,none⟩=some (.string rest):=by unfold Rd at h;simp [World.cell?,h]
theorem Rd.c1 (h:Rd p rest last w):w.cell? ⟨p,1,none⟩=some (.string last):=by unfold Rd at h;simp [World.cell?,h]
theorem Rd.z (h:Rd p rest last w) (i:Nat):w.frozen? ⟨p,i,none⟩=false:=by unfold Rd at h;simp [World.frozen?,h]
theorem Rd.below (h:Rd p rest last w) (hb:Below w.heap.size w w'):Rd p rest last w':=(hb.block _ h.lt).trans h
theorem Rd.set0 (h:Rd p rest last w) (r:ByteArray):Rd p r last (w.setCell ⟨p,0,none⟩ (.string r)):=by
 unfold Rd at *
 simp [World.setCell,Array.getElem?_modify,h]
theorem Rd.set1 (h:Rd p rest last w) (r:ByteArray):Rd p rest r (w.setCell ⟨p,1,none⟩ (.string r)):=by
 unfold Rd at *
 simp [World.setCell,Array.getElem?_modify,h]
end
theorem Kept.of_below {p:Nat} {w w':World} (h:Below w.heap.size w w'):Kept w.heap.size p w w':=⟨h.os,h.tape,h.output,h.size,fun k hk _=>h.block k hk⟩
theorem Kept.on {p:Nat} {w w1 w2:World} (h:Kept w.heap.size p w w1) (h':Kept w1.heap.size p w1 w2):Kept w.heap.size p w w2:=
 ⟨h'.os.trans h.os,h'.tape.trans h.tape,h'.output.trans h.output,Nat.le_trans h.size h'.size,fun k h1 h2=>(h'.block k (Nat.lt_of_lt_of_le h1 h.size) h2).trans (h.block k h1 h2)⟩
theorem Kept.from {p:Nat} {wb w w':World} (h:Kept w.heap.size p w w') (hb:Below wb.heap.size wb w) (hp:wb.heap.size≤p):Below wb.heap.size wb w':=
 ⟨h.os.trans hb.os,h.tape.trans hb.tape,h.output.trans hb.output,Nat.le_trans hb.size h.size,fun k hk=>(h.block k (Nat.lt_of_lt_of_le hk hb.size) (by omega)).trans (hb.block k hk)⟩
theorem Kept.owns {p:Nat} {w w':World} {base:Nat} {e:TypeId} {size:Nat} {v:Value} {n:Nat} {xs:List Value} (h:Kept w.heap.size p w w') (ho:w.ownsRow base e size v n xs) (hp:p < base):w'.ownsRow base e size v n xs:=by
 obtain ⟨h1,h2⟩:=ho
 refine ⟨h1,?_⟩
 rcases h2 with h2 | ⟨g,Ab,Aa,hv,hb,hg,r⟩
 ·exact .inl h2
 ·exact .inr ⟨g,Ab,Aa,hv,hb,(h.block g (Array.getElem?_eq_some_iff.1 hg).1 (by omega)).trans hg,r⟩
set_option maxRecDepth 100000 in
set_option maxHeartbeats 1000000 in
theorem dna (a0 a1:Addr) (wb:World) (p most:Nat) (rest last:ByteArray) (w:World) (hv:DV2 a0 a1 wb) (hB:Below wb.heap.size wb w) (hr:Rd p rest last w) (hm:most≤1000) :
  Calls Tryz.prog 173 #[.pointer (some ⟨p,0,none⟩),.int .i64 most] w fun e w'=>e = .returned (.tuple #[.int .i64 ((Tess.numW rest most).1:Nat),dErr (Tess.numW rest most).2.2])∧Rd p (Tess.numW rest most).2.1 last w'∧Kept w.heap.size p w w':=by
 have Ab:=get_any a0 a1 rest w (hv.below hB)
 have Ae:=Tess.gWl rest
 unfold GP2 at Ab
 unfold Tess.numW
 obtain ⟨⟨n,r2,c⟩,hg⟩:∃ g,g=Tess.getW rest:=⟨_,rfl⟩
 rw [← hg] at Ab Ae ⊢
 simp only at Ab Ae ⊢
 have c0:=hr.c0
 have HR:=Hd hr
 have HG:=Hd Ab
 clear Ab hv hB hr hg
 by_cases hc:c=0
 ·subst hc
  by_cases hn:most < n
  ·have Aa:(if (0:Nat)=0 then (if most < n then ((0:Nat),rest,(50:Nat)) else (n,r2,0)) else (0,rest,0))=(0,rest,50):=by rw [if_pos rfl,if_pos hn]
   rw [Aa]
   have Af:(most:Int) < (n:Int):=by omega
   have hw:IntKind.u64.wrap (most:Int)=(most:Int):=by go_bits;first | trivial | omega
   clear Aa
   go_enter Tryz.func173,Tryz.ntmps173
   go_wp2_with (first
    | (go_at_call 176;refine HG.out.mono ?_;rintro e w1 ⟨rfl,Ad⟩;have Ac:=Hd Ad;clear Ad)
    | (go_at_call 207;refine (da3 _ 50 _ (cell_new_sl _ _ _)).mono ?_;rintro e w2 ⟨rfl,rfl⟩))
   go_ret2
   exact ⟨rfl,(HR.out.below Ac.out).below ((Below.refl _ _).alloc (Nat.le_refl _) _),Kept.of_below (Bt Ac.out ((Below.refl _ _).alloc (Nat.le_refl _) _))⟩
  ·have Aa:(if (0:Nat)=0 then (if most < n then ((0:Nat),rest,(50:Nat)) else (n,r2,0)) else (0,rest,0))=(n,r2,0):=by rw [if_pos rfl,if_neg hn]
   rw [Aa]
   have Af:¬ (most:Int) < (n:Int):=by omega
   have hw:IntKind.u64.wrap (most:Int)=(most:Int):=by go_bits;first | trivial | omega
   have Ah:IntKind.i64.wrap (n:Int)=(n:Int):=by go_bits;first | trivial | omega
   clear Aa
   go_enter Tryz.func173,Tryz.ntmps173
   go_wp2_with (go_at_call 176;refine HG.out.mono ?_;rintro e w1 ⟨rfl,Ad⟩;have Ac:=Hd Ad;clear Ad;have d0:=(HR.out.below Ac.out).c0;have z0:=(HR.out.below Ac.out).z 0)
   go_ret2
   exact ⟨rfl,(HR.out.below Ac.out).set0 r2,(Kept.of_below Ac.out).trans (Kept.setCell _ _ _ _ _)⟩
 ·have Aa:(if c=0 then (if most < n then ((0:Nat),rest,(50:Nat)) else (n,r2,0)) else (0,rest,c))=(0,rest,c):=by rw [if_neg hc]
  rw [Aa]
  have Ai:((c:Int) != 0)=true:=by rw [bne_iff_ne];omega
  have Ag:¬ (c:Int)=0:=by omega
  clear Aa
  go_enter Tryz.func173,Tryz.ntmps173
  go_wp2_with (first
   | (go_at_call 176;refine HG.out.mono ?_;rintro e w1 ⟨rfl,Ad⟩;have Ac:=Hd Ad;clear Ad)
   | (go_at_call 207;refine (da3 _ c _ (cell_new_sl _ _ _)).mono ?_;rintro e w2 ⟨rfl,rfl⟩))
  go_ret2
  exact ⟨rfl,(HR.out.below Ac.out).below ((Below.refl _ _).alloc (Nat.le_refl _) _),Kept.of_below (Bt Ac.out ((Below.refl _ _).alloc (Nat.le_refl _) _))⟩
end Go.Proofs.YtjdccifdkjnknaaGreatDoor
namespace Tess
theorem nWl (rest:ByteArray) (most:Nat):(numW rest most).1≤most:=by
 unfold numW
 split
 ·split
  ·exact Nat.zero_le _
  ·rename_i h;exact Nat.le_of_not_lt h
 ·exact Nat.zero_le _
def wW2 (rest last:ByteArray):ByteArray×ByteArray×Nat:=
 if (numW rest last.size).2.2=0 then
  (if (numW (numW rest last.size).2.1 (100 - (numW rest last.size).1)).2.2=0 then
    (if (numW (numW rest last.size).2.1 (100 - (numW rest last.size).1)).2.1.size < (numW (numW rest last.size).2.1 (100 - (numW rest last.size).1)).1 then ((numW (numW rest last.size).2.1 (100 - (numW rest last.size).1)).2.1,last,21)
     else ((numW (numW rest last.size).2.1 (100 - (numW rest last.size).1)).2.1.extract (numW (numW rest last.size).2.1 (100 - (numW rest last.size).1)).1 (numW (numW rest last.size).2.1 (100 - (numW rest last.size).1)).2.1.size,
      last.extract 0 (numW rest last.size).1 ++ (numW (numW rest last.size).2.1 (100 - (numW rest last.size).1)).2.1.extract 0 (numW (numW rest last.size).2.1 (100 - (numW rest last.size).1)).1,0))
   else ((numW (numW rest last.size).2.1 (100 - (numW rest last.size).1)).2.1,last,(numW (numW rest last.size).2.1 (100 - (numW rest last.size).1)).2.2))
 else ((numW rest last.size).2.1,last,(numW rest last.size).2.2)
theorem wWo (rest last:ByteArray) (n k:Nat) (r1 r2:ByteArray) (c1 c2:Nat) (h1:numW rest last.size=(n,r1,c1)) (h2:numW r1 (100 - n)=(k,r2,c2)) :
  wW2 rest last=if c1=0 then (if c2=0 then (if r2.size < k then (r2,last,21) else (r2.extract k r2.size,last.extract 0 n ++ r2.extract 0 k,0)) else (r2,last,c2)) else (r1,last,c1):=by
 unfold wW2
 simp only [h1,h2]
theorem wordW_size (rest last:ByteArray) (hl:last.size≤100):(wW2 rest last).2.1.size≤100:=by
 obtain ⟨⟨n,r1,c1⟩,h1⟩:∃ g,g=numW rest last.size:=⟨_,rfl⟩
 obtain ⟨⟨k,r2,c2⟩,h2⟩:∃ g,g=numW r1 (100 - n):=⟨_,rfl⟩
 rw [wWo rest last n k r1 r2 c1 c2 h1.symm h2.symm]
 have hn:=nWl rest last.size
 have hk:=nWl r1 (100 - n)
 rw [← h1] at hn
 rw [← h2] at hk
 simp only at hn hk
 split
 ·split
  ·split
   ·exact hl
   ·simp;omega
  ·exact hl
 ·exact hl
end Tess
namespace Go.Proofs.YtjdccifdkjnknaaGreatDoor
open Go.RowKit Go.Sort Go.Shelf
set_option maxRecDepth 100000 in
set_option maxHeartbeats 2000000 in
theorem word_any (a0 a1:Addr) (wb:World) (p:Nat) (rest last:ByteArray) (w:World) (hv:DV2 a0 a1 wb) (hpb:wb.heap.size≤p) (hB:Below wb.heap.size wb w) (hr:Rd p rest last w) (hl:last.size≤100) :
  Calls Tryz.prog 174 #[.pointer (some ⟨p,0,none⟩)] w fun e w'=>e = .returned (dErr (Tess.wW2 rest last).2.2)∧Rd p (Tess.wW2 rest last).1 (Tess.wW2 rest last).2.1 w'∧Kept w.heap.size p w w':=by
 have Al:=dna a0 a1 wb p last.size rest last w hv hB hr (by omega)
 have Ap:=Tess.nWl rest last.size
 obtain ⟨⟨n,r1,x1⟩,h1⟩:∃ g,g=Tess.numW rest last.size:=⟨_,rfl⟩
 obtain ⟨⟨k,r2,x2⟩,h2⟩:∃ g,g=Tess.numW r1 (100 - n):=⟨_,rfl⟩
 have hW:=Tess.wWo rest last n k r1 r2 x1 x2 h1.symm h2.symm
 have Af:=Tess.nWl r1 (100 - n)
 rw [← h1] at Al Ap
 rw [← h2] at Af
 simp only at Al Ap Af
 have Ar:∀ W,Below wb.heap.size wb W→Rd p r1 last W→Calls Tryz.prog 173 #[.pointer (some ⟨p,0,none⟩),.int .i64 ((100 - n:Nat):Int)] W fun e w'=>e = .returned (.tuple #[.int .i64 (k:Nat),dErr x2])∧Rd p r2 last w'∧Kept W.heap.size p W w':=fun W hBW hRW=>by
  have:=dna a0 a1 wb p (100 - n) r1 last W hv hBW hRW (by omega)
  rw [← h2] at this
  exact this
 have d1:=hr.c1
 have Ag:=Hd Al
 have Ai:=Hd Ar
 have Ao:=Hd hB
 clear Al Ar hv hB hr h1 h2
 rw [hW]
 have An:(100:Int) - (n:Int)=((100 - n:Nat):Int):=by omega
 obtain ⟨m,hm⟩:∃ m,m=100 - n:=⟨_,rfl⟩
 rw [← hm] at Ai An Af
 have Aq:m≤100:=by omega
 have Ay:IntKind.i64.wrap (m:Int)=(m:Int):=by go_bits;first | trivial | omega
 have Az:n≤last.size:=Ap
 clear hm hW
 by_cases hx1:x1=0
 ·subst hx1
  rw [if_pos rfl]
  by_cases hx2:x2=0
  ·subst hx2
   rw [if_pos rfl]
   have Am:dErr 0 = .nilIface:=rfl
   rw [Am] at Ag Ai
   by_cases hk:r2.size < k
   ·rw [if_pos hk]
    have Av:(r2.size:Int) < (k:Int):=by omega
    go_enter Tryz.func174,Tryz.ntmps174
    go_wp2_with (first
     | (go_at_call 173;with_reducible refine Ag.out.mono ?_;rintro e w1 ⟨rfl,Ab,Ac⟩;have Ah:=Hd Ab;have Ad:=Hd Ac;clear Ab Ac)
     | (go_at_call 173;refine (Ai.out _ (Ad.out.from Ao.out hpb) Ah.out).mono ?_;rintro e w2 ⟨rfl,Aa,Ae⟩;have e0:=Aa.c0;have Ak:=Hd Aa;have Aj:=Hd (Ad.out.on Ae);clear Aa Ae)
     | (go_at_call 207;refine (da3 _ 21 _ (cell_new_sl _ _ _)).mono ?_;rintro e w3 ⟨rfl,rfl⟩))
    go_ret
    exact ⟨rfl,Ak.out.below ((Below.refl _ _).alloc (Nat.le_refl _) _),Aj.out.on (Kept.of_below ((Below.refl _ _).alloc (Nat.le_refl _) _))⟩
   ·rw [if_neg hk]
    have Av:¬ (r2.size:Int) < (k:Int):=by omega
    have Au:(k:Int)≤(r2.size:Int):=by omega
    have Ax:(n:Int)≤(last.size:Int):=by omega
    have As:¬ 9223372036854775807 < (last.extract 0 n).size + (r2.extract 0 k).size:=by simp;omega
    go_enter Tryz.func174,Tryz.ntmps174
    go_wp2_with (first
     | (go_at_call 173;with_reducible refine Ag.out.mono ?_;rintro e w1 ⟨rfl,Ab,Ac⟩;have Ah:=Hd Ab;have Ad:=Hd Ac;clear Ab Ac)
     | (go_at_call 173;refine (Ai.out _ (Ad.out.from Ao.out hpb) Ah.out).mono ?_;rintro e w2 ⟨rfl,Aa,Ae⟩;have e0:=Aa.c0;have e1:=Aa.c1;have z0:=Aa.z 0;have z1:=Aa.z 1;have Ak:=Hd Aa;have Aj:=Hd (Ad.out.on Ae);clear Aa Ae))
    go_region
    all_goals go_wp2
    all_goals go_ret
    all_goals exact ⟨rfl,(Ak.out.set1 _).set0 _,Aj.out.trans (((Kept.setCell _ _ _ 1 _).trans (Kept.setCell _ _ _ 0 _)).trans ⟨rfl,rfl,rfl,Nat.le_refl _,fun _ _ _=>rfl⟩)⟩
  ·rw [if_neg hx2]
   have Am:dErr 0 = .nilIface:=rfl
   have Aw:dErr x2 = .iface 274 (.agg #[.int .i64 x2]):=if_neg hx2
   rw [Am] at Ag
   rw [Aw] at Ai ⊢
   go_enter Tryz.func174,Tryz.ntmps174
   go_wp2_with (first
    | (go_at_call 173;with_reducible refine Ag.out.mono ?_;rintro e w1 ⟨rfl,Ab,Ac⟩;have Ah:=Hd Ab;have Ad:=Hd Ac;clear Ab Ac)
    | (go_at_call 173;refine (Ai.out _ (Ad.out.from Ao.out hpb) Ah.out).mono ?_;rintro e w2 ⟨rfl,Aa,Ae⟩;have Ak:=Hd Aa;have Aj:=Hd (Ad.out.on Ae);clear Aa Ae))
   go_ret
   exact ⟨rfl,Ak.out,Aj.out⟩
 ·rw [if_neg hx1]
  have At:dErr x1 = .iface 274 (.agg #[.int .i64 x1]):=if_neg hx1
  rw [At] at Ag ⊢
  go_enter Tryz.func174,Tryz.ntmps174
  go_wp2_with (go_at_call 173;with_reducible refine Ag.out.mono ?_;rintro e w1 ⟨rfl,Ab,Ac⟩;have Ah:=Hd Ab;have Ad:=Hd Ac;clear Ab Ac)
  go_ret
  exact ⟨rfl,Ah.out,Ad.out⟩
end Go.Proofs.YtjdccifdkjnknaaGreatDoor
namespace Tess
def wW:Nat→ByteArray→ByteArray→List ByteArray×ByteArray×Nat
 | 0,rest,_=>([],rest,0)
 | n + 1,rest,last=>if (wW2 rest last).2.2=0 then ((wW2 rest last).2.1 :: (wW n (wW2 rest last).1 (wW2 rest last).2.1).1,(wW n (wW2 rest last).1 (wW2 rest last).2.1).2.1,(wW n (wW2 rest last).1 (wW2 rest last).2.1).2.2)
   else ([],(wW2 rest last).1,(wW2 rest last).2.2)
def decW (s:ByteArray):List ByteArray×ByteArray×Nat:=
 if (numW s 1000).2.2=0 then
  (if (wW (numW s 1000).1 (numW s 1000).2.1 w0).2.2=0 then
    (if (encW (wW (numW s 1000).1 (numW s 1000).2.1 w0).1).2=0∧(encW (wW (numW s 1000).1 (numW s 1000).2.1 w0).1).1 ++ (wW (numW s 1000).1 (numW s 1000).2.1 w0).2.1=s then ((wW (numW s 1000).1 (numW s 1000).2.1 w0).1,(wW (numW s 1000).1 (numW s 1000).2.1 w0).2.1,0)
     else ([],s,50))
   else ([],s,(wW (numW s 1000).1 (numW s 1000).2.1 w0).2.2))
 else ([],s,(numW s 1000).2.2)
def fin (o:List ByteArray) (m:Nat) (r l:ByteArray) (c:Nat):List ByteArray×ByteArray×Nat:=if c=0 then (o ++ (wW m r l).1,(wW m r l).2.1,(wW m r l).2.2) else (o,r,c)
theorem fin_word (o:List ByteArray) (m:Nat) (r l:ByteArray) (h:(wW2 r l).2.2=0):fin o (m + 1) r l 0=fin (o ++ [(wW2 r l).2.1]) m (wW2 r l).1 (wW2 r l).2.1 0:=by
 unfold fin
 rw [if_pos rfl,if_pos rfl]
 simp only [wW,h,if_true,List.append_assoc,List.singleton_append]
theorem fin_bad (o:List ByteArray) (m:Nat) (r l:ByteArray) (h:(wW2 r l).2.2≠0):fin o (m + 1) r l 0=fin o m (wW2 r l).1 (wW2 r l).2.1 (wW2 r l).2.2:=by
 unfold fin
 rw [if_pos rfl,if_neg h]
 simp only [wW,if_neg h,List.append_nil]
theorem fin_end (o:List ByteArray) (m:Nat) (r l:ByteArray) (c:Nat) (h:c≠0∨m=0):fin o m r l c=(o,r,c):=by
 unfold fin
 by_cases hc:c=0
 ·rcases h with h | h
  ·exact absurd hc h
  ·subst h;subst hc;simp [wW]
 ·rw [if_neg hc]
theorem fin_nil (m:Nat) (r l:ByteArray):fin [] m r l 0=wW m r l:=by unfold fin;simp
theorem getW_size (s:ByteArray):(getW s).2.1.size≤s.size:=by
 unfold getW
 split
 ·split
  ·simp
  ·exact Nat.le_refl _
 ·exact Nat.le_refl _
theorem nWs (s:ByteArray) (m:Nat):(numW s m).2.1.size≤s.size:=by
 unfold numW
 split
 ·split
  ·exact Nat.le_refl _
  ·exact getW_size s
 ·exact Nat.le_refl _
theorem wordW_rest (r l:ByteArray):(wW2 r l).1.size≤r.size:=by
 have h1:=nWs r l.size
 have h2:=nWs (numW r l.size).2.1 (100 - (numW r l.size).1)
 unfold wW2
 split
 ·split
  ·split
   ·exact Nat.le_trans h2 h1
   ·simp;omega
  ·exact Nat.le_trans h2 h1
 ·exact h1
theorem encW_size (l:List ByteArray):(encW l).1.size≤120010:=by
 by_cases h:right l=true
 ·rw [sW_end l h]
  have:=sW_size l h l.length (Nat.le_refl _)
  have:=rl2 l h
  show (sW l l.length).size≤_
  omega
 ·unfold encW
  rw [if_neg h]
  exact Nat.zero_le _
theorem decW_of (s:ByteArray) (n c:Nat) (r:ByteArray) (h:numW s 1000=(n,r,c)):decW s=if c=0 then
  (if (wW n r w0).2.2=0 then (if (encW (wW n r w0).1).2=0∧(encW (wW n r w0).1).1 ++ (wW n r w0).2.1=s then ((wW n r w0).1,(wW n r w0).2.1,0) else ([],s,50)) else ([],s,(wW n r w0).2.2)) else ([],s,c):=by
 unfold decW;simp only [h]
theorem dec_ok (s:ByteArray) (n c:Nat) (r r':ByteArray) (o:List ByteArray) (hD:decW s=if c=0 then
  (if (wW n r w0).2.2=0 then (if (encW (wW n r w0).1).2=0∧(encW (wW n r w0).1).1 ++ (wW n r w0).2.1=s then ((wW n r w0).1,(wW n r w0).2.1,0) else ([],s,50)) else ([],s,(wW n r w0).2.2)) else ([],s,c))
  (hE:fin [] n r w0 c=(o,r',0)):decW s=if (encW o).2=0∧(encW o).1 ++ r'=s then (o,r',0) else ([],s,50):=by
 by_cases hc:c=0
 ·subst hc
  rw [fin_nil] at hE
  rw [hD,if_pos rfl,hE]
  simp only [if_true]
 ·unfold fin at hE
  rw [if_neg hc] at hE
  exact absurd (congrArg (fun t=>t.2.2) hE) hc
theorem dec_bad (s:ByteArray) (n c c':Nat) (r r':ByteArray) (o:List ByteArray) (hD:decW s=if c=0 then
  (if (wW n r w0).2.2=0 then (if (encW (wW n r w0).1).2=0∧(encW (wW n r w0).1).1 ++ (wW n r w0).2.1=s then ((wW n r w0).1,(wW n r w0).2.1,0) else ([],s,50)) else ([],s,(wW n r w0).2.2)) else ([],s,c))
  (hE:fin [] n r w0 c=(o,r',c')) (hc':c'≠0):decW s=([],s,c'):=by
 by_cases hc:c=0
 ·subst hc
  rw [fin_nil] at hE
  rw [hD,if_pos rfl,hE]
  simp only [if_neg hc']
 ·unfold fin at hE
  rw [if_neg hc] at hE
  rw [hD,if_neg hc]
  have:c=c':=congrArg (fun t=>t.2.2) hE
  rw [this]
end Tess
namespace Go.Proofs.YtjdccifdkjnknaaGreatDoor
open Go.RowKit Go.Sort Go.Shelf
def DPO (s:ByteArray) (w:World) (e:Ending) (w':World):Prop:=∃ v,e = .returned (.tuple #[v,.string (Tess.decW s).2.1,.int .i64 ((Tess.decW s).2.2:Nat)])∧w'.ownsRow 0 9 1 v (Tess.decW s).1.length ((Tess.decW s).1.map .string)∧Below w.heap.size w w'
set_option maxRecDepth 100000 in
set_option maxHeartbeats 4000000 in
theorem do2 (a0 a1:Addr) (s:ByteArray) (w:World) (hv:DV2 a0 a1 w) (hs:s.size≤1000000):Calls Tryz.prog 133 #[.string s] w (DPO s w):=by
 obtain ⟨w0,Av⟩:∃ w0,w0=w.alloc (.cells #[.string s,.string Tess.w0] 244):=⟨_,rfl⟩
 have A0:Below w.heap.size w w0:=by rw [Av];exact (Below.refl _ _).alloc (Nat.le_refl _) _
 have Bd:Rd w.heap.size s Tess.w0 w0:=by rw [Av];exact World.alloc_heap_new w _
 have Aw:=dna a0 a1 w w.heap.size 1000 s Tess.w0 w0 hv A0 Bd (by omega)
 have Ak:=Tess.nWl s 1000
 have Al:=Tess.nWs s 1000
 obtain ⟨⟨n,r,c⟩,h1⟩:∃ g,g=Tess.numW s 1000:=⟨_,rfl⟩
 have hD:=Tess.decW_of s n c r h1.symm
 rw [← h1] at Aw Ak Al
 simp only at Aw Ak Al
 obtain ⟨i0,hi,Bg,Bh,Bk⟩:=info_parts diS
 have HV:=Hd hv
 have HW:=Hd Av
 have Bf:=Hd A0
 have A8:=Hd Aw
 have HD:=Hd hD
 have Ba:∀ W,Below w.heap.size w W→∀ code,Calls Tryz.prog 175 #[dErr code] W fun e w'=>e = .returned (.int .i64 (code:Nat))∧Below W.heap.size W w':=fun W hB code=>dtold_any a0 a1 code W (hv.below hB)
 have HT:=Hd Ba
 clear hv Av A0 Aw hD Ba Bd h1
 unfold DPO
 have Bv:w0.heap.size=w.heap.size + 1:=by rw [HW.out];simp
 go_enter Tryz.func133,Tryz.ntmps133
 go_wp2_with (go_at_call 173;rw [show (ByteArray.mk #[]:ByteArray)=Tess.w0 from rfl,← HW.out];refine A8.out.mono ?_;rintro e w1 ⟨rfl,A5,Ay⟩;have A9:=Hd A5;have A6:=Hd (Ay.from Bf.out (Nat.le_refl _));have Bx:=Ay.size;clear A5 Ay)
 go_loopw [6,7,8] (fun s6 s7 s8 wr => ∃ (m:Nat) (o:List ByteArray) (r' l:ByteArray) (c':Nat),s6 = .int .i64 m∧s7=dErr c'∧wr.ownsRow (w.heap.size + 1) 9 1 s8 o.length (o.map .string)∧Rd w.heap.size r' l wr∧l.size≤100∧o.length + m≤1000∧r'.size≤s.size∧Tess.fin o m r' l c'=Tess.fin [] n r Tess.w0 c∧Below w.heap.size w wr) (fun s6 _ _ _=>(intOf s6).toNat)
 case atStart=>exact ⟨n,[],r,Tess.w0,c,rfl,rfl,World.ownsRow_nil _ _ _ _,A9.out,Nat.zero_le _,by simpa using Ak,Al,rfl,A6.out⟩
 case round=>
  clear A9 A6 A8
  obtain ⟨m,o,r',l,c',rfl,rfl,Ao,hR,hl,Bz,Br,At,hB⟩:=hrel
  have HO:=Hd Ao
  have HR:=Hd hR
  have HF:=Hd At
  have HB:=Hd hB
  clear Ao hR At hB
  have Bc:dErr 0 = .nilIface:=rfl
  by_cases hc:c'=0
  ·subst hc
   rw [Bc]
   by_cases hm:m=0
   ·subst hm
    have HE:=Hd ((Tess.fin_end o 0 r' l 0 (.inr rfl)).symm.trans HF.out)
    clear HF
    have Ab:=Tess.dec_ok s n c r r' o HD.out HE.out.symm
    have A7:=SlOf.owned HO.out
    have Af:=ea2 _ o wr A7
    unfold EP at Af
    have Ar:=Tess.encW_size o
    obtain ⟨⟨E,x⟩,hg⟩:∃ g,g=Tess.encW o:=⟨_,rfl⟩
    rw [← hg] at Af Ab Ar
    simp only at Af Ab Ar
    have Ai:=Hd Af
    clear A7 Af hg HE
    by_cases hx:x=0
    ·subst hx
     have Bj:¬ 9223372036854775807 < E.size + r'.size:=by omega
     by_cases heq:E ++ r'=s
     ·have Ac:=Hd (show Tess.decW s=(o,r',0) by rw [Ab,if_pos ⟨rfl,heq⟩])
      have Bi:((E ++ r').toList == s.toList)=true:=by rw [heq];simp
      clear heq Ab
      go_wp2_with (go_at_call 70;refine Ai.out.mono ?_;rintro e w2 ⟨rfl,Ad⟩;have q0:=(HR.out.below Ad).c0;have Ae:=Hd Ad;clear Ad)
      go_quiet (fail)
      go_wp2
      go_ret3
      rw [Ac.out]
      exact ⟨_,rfl,ob2 (ob2 (ol2 HO.out (Nat.zero_le _)) Ae.out) (below_drewN (Below.refl _ _) _),below_drewN (Bt HB.out Ae.out) _⟩
     ·have Ac:=Hd (show Tess.decW s=([],s,50) by rw [Ab,if_neg (fun h=>heq h.2)])
      have Bi:((E ++ r').toList == s.toList)=false:=by
       rw [beq_eq_false_iff_ne];intro h;exact heq (Tess.toList_inj h)
      clear heq Ab
      go_wp2_with (go_at_call 70;refine Ai.out.mono ?_;rintro e w2 ⟨rfl,Ad⟩;have q0:=(HR.out.below Ad).c0;have Ae:=Hd Ad;clear Ad)
      go_ret3
      rw [Ac.out]
      exact ⟨_,rfl,World.ownsRow_nil _ _ _ _,Bt HB.out Ae.out⟩
    ·have Ac:=Hd (show Tess.decW s=([],s,50) by rw [Ab,if_neg (fun h=>hx h.1)])
     have Bs:((x:Int) == 0)=false:=by rw [beq_eq_false_iff_ne];omega
     have Bl:¬ (x:Int)=0:=by omega
     clear Ab
     go_wp2_with (go_at_call 70;refine Ai.out.mono ?_;rintro e w2 ⟨rfl,Ad⟩;have q0:=(HR.out.below Ad).c0;have Ae:=Hd Ad;clear Ad)
     go_ret3
     rw [Ac.out]
     exact ⟨_,rfl,World.ownsRow_nil _ _ _ _,Bt HB.out Ae.out⟩
   ·obtain ⟨j,rfl⟩:∃ j,m=j + 1:=⟨m - 1,by omega⟩
    have Bo:(0:Int) < (j:Int) + 1:=by omega
    have Bq:decide ((0:Int) < (j:Int) + 1)=true:=decide_eq_true Bo
    have Bu:(j:Int) + 1 - 1=(j:Int):=by omega
    have Bw:IntKind.i64.wrap (j:Int)=(j:Int):=by go_bits;first | trivial | omega
    have Aa:=word_any a0 a1 w w.heap.size r' l wr HV.out (Nat.le_refl _) HB.out HR.out hl
    have Au:=Tess.wordW_size r' l hl
    have Bb:=Tess.wordW_rest r' l
    have Ap:=Tess.fin_word o j r' l
    have Am:=Tess.fin_bad o j r' l
    obtain ⟨⟨r2,l2,x⟩,hg⟩:∃ g,g=Tess.wW2 r' l:=⟨_,rfl⟩
    rw [← hg] at Aa Au Bb Ap Am
    simp only at Aa Au Bb Ap Am
    by_cases hx:x=0
    ·subst hx
     rw [Bc] at Aa
     have A1:=Hd ((Ap rfl).symm.trans HF.out)
     have A2:=Hd Aa
     clear Aa Ap Am hg HF
     go_wp2_with (first
      | (go_at_call 174;refine A2.out.mono ?_;rintro e w2 ⟨rfl,Aj,Ag⟩;have e1:=Aj.c1;have A3:=Hd Aj;have Bm:=Hd Ag;have By:=Ag.size;have Az:=Aj.lt;have Ae:=Hd (Ag.from HB.out (Nat.le_refl _));have As:=Hd (Ag.owns HO.out (Nat.lt_succ_self _));clear Aj Ag)
      | (at_builtin;refine wpList_append_own _ rfl _ _ 22 rfl (w.heap.size + 1) 9 i0 (.string ByteArray.empty) 1 16 Tryz.underlying22 hi Bg Bh Bk rfl (by decide) _ _ _ rfl (As.out.alloc _) ⟨w2.heap.size,0,none⟩ 1 1 [.string l2] rfl rfl (cell_one_new _ _ _) (by simp [Value.oneCell']) (by unfold maxLen;omega) (by omega) (by simp;omega) ?_;intro v' w3 An Ah _))
     go_roundw
     case rel=>
      have Be:w.heap.size < (w2.alloc (.cells #[.string l2] 9)).heap.size:=by simp;omega
      have A4:Rd w.heap.size r2 l2 w3:=(Ah.block _ Be (fun e=>by have:=(As.out.lt _ e.symm).1;omega)).trans ((Below.heap_alloc _ _ _ Az).trans A3.out)
      have Bp:Below w.heap.size w w3:=(Ae.out.alloc Ae.out.size _).grown Ah (by simp;omega) (fun k e=>by have:=(As.out.lt k e).1;omega)
      exact ⟨j,o ++ [l2],r2,l2,0,by go_num,rfl,by simpa using An,A4,Au,by simp;omega,by omega,A1.out,Bp⟩
     case measure=>simp [intOf]
    ·have Aq:dErr x = .iface 274 (.agg #[.int .i64 x]):=if_neg hx
     rw [Aq] at Aa
     have A1:=Hd ((Am hx).symm.trans HF.out)
     have A2:=Hd Aa
     clear Aa Ap Am hg HF
     go_wp2_with (go_at_call 174;refine A2.out.mono ?_;rintro e w2 ⟨rfl,Aj,Ag⟩;have A3:=Hd Aj;have Bm:=Hd Ag;have Ae:=Hd (Ag.from HB.out (Nat.le_refl _));have As:=Hd (Ag.owns HO.out (Nat.lt_succ_self _));clear Aj Ag)
     go_roundw
     case rel=>exact ⟨j,o,r2,l2,x,by go_num,by rw [Aq],As.out,A3.out,Au,by omega,by omega,A1.out,Ae.out⟩
     case measure=>simp [intOf]
  ·have Aq:dErr c' = .iface 274 (.agg #[.int .i64 c']):=if_neg hc
   have HE:=Hd ((Tess.fin_end o m r' l c' (.inl hc)).symm.trans HF.out)
   rw [Aq]
   clear HF
   have Ac:=Hd (Tess.dec_bad s n c c' r r' o HD.out HE.out.symm hc)
   have Ax:=HT.out wr HB.out c'
   rw [Aq] at Ax
   have Bn:=Hd Ax
   clear Ax
   go_wp2_with (go_at_call 175;refine Bn.out.mono ?_;rintro e w2 ⟨rfl,Ad⟩;have Ae:=Hd Ad;clear Ad)
   go_ret3
   rw [Ac.out]
   exact ⟨_,rfl,World.ownsRow_nil _ _ _ _,Bt HB.out Ae.out⟩
end Go.Proofs.YtjdccifdkjnknaaGreatDoor
namespace Tess
def Suf (r s:ByteArray):Prop:=∃ k,k≤s.size∧r=s.extract k s.size
theorem Suf.refl (s:ByteArray):Suf s s:=⟨0,Nat.zero_le _,by simp⟩
theorem Suf.step {r s:ByteArray} (h:Suf r s) (j:Nat) (hj:j≤r.size):Suf (r.extract j r.size) s:=by
 obtain ⟨k,hk,rfl⟩:=h
 have hs:(s.extract k s.size).size=s.size - k:=by simp
 rw [hs] at hj ⊢
 refine ⟨k + j,by omega,?_⟩
 apply ByteArray.ext
 apply Array.toList_inj.1
 simp only [ByteArray.data_extract,Array.toList_extract,List.extract_eq_take_drop]
 have hl:s.data.toList.length=s.size:=by simp
 rw [List.take_of_length_le (by simp),List.take_of_length_le (by simp),List.take_of_length_le (by simp),List.drop_drop]
end Tess
namespace Tess
def wb:ByteArray:=⟨#[98]⟩
end Tess
namespace Go.Proofs.YtjdccifdkjnknaaGreatDoor
open Go.RowKit Go.Sort Go.Shelf
end Go.Proofs.YtjdccifdkjnknaaGreatDoor
namespace Tess
def insW (o:List ByteArray) (x:ByteArray):List ByteArray:=if place o x < o.length∧o.getD (place o x) w0=x then o else o.take (place o x) ++ [x] ++ o.drop (place o x)
def bT (l:List ByteArray) (k:Nat):List ByteArray:=(l.take k).foldl insW []
def bW (l:List ByteArray):List ByteArray×Nat:=if l.any diL then ([],50) else if 1000 < (bT l l.length).length then ([],50) else (bT l l.length,0)
theorem bTs (l:List ByteArray) (k:Nat) (h:k < l.length):bT l (k + 1)=insW (bT l k) l[k]:=by
 unfold bT
 rw [List.take_succ_eq_append_getElem h,List.foldl_append]
 rfl
theorem insW_mem (o:List ByteArray) (x y:ByteArray) (h:y ∈ insW o x):y ∈ o∨y=x:=by
 unfold insW at h
 split at h
 ·exact .inl h
 ·simp only [List.mem_append,List.mem_singleton] at h
  rcases h with (h | h) | h
  ·exact .inl (List.mem_of_mem_take h)
  ·exact .inr h
  ·exact .inl (List.mem_of_mem_drop h)
theorem buildW_ok (l:List ByteArray) (h:∀ j (hj:j < l.length),l[j].size≤100):bW l=if 1000 < (bT l l.length).length then ([],50) else (bT l l.length,0):=by
 unfold bW
 rw [if_neg]
 rw [List.any_eq_true]
 rintro ⟨x,hx,hl⟩
 obtain ⟨j,hj,rfl⟩:=List.getElem_of_mem hx
 have:=h j hj
 have:=of_decide_eq_true hl
 omega
end Tess
namespace Go
open Go.RowKit
namespace Flow
variable {P:Program} {ops:Array Oper}
end Flow
end Go
namespace Tess
open Go
def Up (l:List ByteArray):Prop:=l.Pairwise fun x y=>bl x y=true
theorem ba2 {a b:ByteArray} (h:bl a b=true) (h':bl b a=true):False:=by
 have:=bt2 h h'
 rw [bi2] at this
 cases this
theorem up_only:∀ (l m:List ByteArray),Up l→Up m→(∀ x,x ∈ l↔x ∈ m)→l=m:=by
 intro l
 induction l with
 | nil=>
   intro m _ _ h
   cases m with
   | nil=>rfl
   | cons b m=>exact absurd ((h b).2 (by simp)) (by simp)
 | cons a l ih=>
   intro m hl hm h
   cases m with
   | nil=>exact absurd ((h a).1 (by simp)) (by simp)
   | cons b m=>
     have Aa:=List.pairwise_cons.1 hl
     have Ab:=List.pairwise_cons.1 hm
     have Ac:a=b:=by
      rcases List.mem_cons.1 ((h a).1 (by simp)) with e | e
      ·exact e
      ·rcases List.mem_cons.1 ((h b).2 (by simp)) with e' | e'
       ·exact e'.symm
       ·exact (ba2 (Ab.1 a e) (Aa.1 b e')).elim
     subst Ac
     rw [ih m Aa.2 Ab.2 fun x => ?_]
     constructor
     ·intro hx
      rcases List.mem_cons.1 ((h x).1 (by simp [hx])) with e | e
      ·subst e;exact (ba2 (Aa.1 x hx) (Aa.1 x hx)).elim
      ·exact e
     ·intro hx
      rcases List.mem_cons.1 ((h x).2 (by simp [hx])) with e | e
      ·subst e;exact (ba2 (Ab.1 x hx) (Ab.1 x hx)).elim
      ·exact e
theorem up_asc {l:List ByteArray} (h:Up l):Asc l:=by
 intro i j Aa hj
 rw [getD_lt l i (by omega),getD_lt l j hj]
 exact List.pairwise_iff_getElem.1 h i j (by omega) hj Aa
theorem insW_all (o:List ByteArray) (x y:ByteArray):y ∈ insW o x↔y ∈ o∨y=x:=by
 constructor
 ·exact insW_mem o x y
 ·intro h
  unfold insW
  split
  ·rename_i hc
   rcases h with h | h
   ·exact h
   ·rw [getD_lt o _ hc.1] at hc
    rw [h,← hc.2]
    exact List.getElem_mem _
  ·rcases h with h | h
   ·rw [← List.take_append_drop (place o x) o] at h
    rcases List.mem_append.1 h with h | h
    ·simp [h]
    ·simp [h]
   ·simp [h]
theorem insW_up (o:List ByteArray) (x:ByteArray) (h:Up o):Up (insW o x):=by
 have ha:=up_asc h
 have hp:=ps3 o x
 unfold insW
 split
 ·exact h
 ·rename_i hc
  have Ac:=place_le o x
  generalize place o x=p at *
  refine List.pairwise_append.2 ⟨List.pairwise_append.2 ⟨h.sublist (List.take_sublist _ _),List.pairwise_singleton _ _,?_⟩,h.sublist (List.drop_sublist _ _),?_⟩
  ·intro y hy z hz
   obtain rfl:=List.mem_singleton.1 hz
   obtain ⟨j,hj,rfl⟩:=List.getElem_of_mem hy
   simp only [List.length_take] at hj
   have:=hp.1 j (by omega)
   rw [getD_lt o j (by omega)] at this
   simpa using this
  ·intro y hy z hz
   obtain ⟨j,hj,rfl⟩:=List.getElem_of_mem hz
   simp only [List.length_drop] at hj
   have Aa:p < o.length:=by omega
   have hx:bl x o[p]=true:=by
    have h1:=hp.2 Aa
    rw [getD_lt o p Aa] at h1
    cases h2:bl x o[p] with
    | true=>rfl
    | false=>exact absurd ⟨Aa,by rw [getD_lt o p Aa];exact ba3 h1 h2⟩ hc
   have Ab:bl x (o.drop p)[j]=true:=by
    rw [List.getElem_drop]
    rcases Nat.eq_zero_or_pos j with rfl | Ad
    ·simpa using hx
    ·have:=ha p (p + j) (by omega) (by omega)
     rw [getD_lt o p Aa,getD_lt o (p + j) (by omega)] at this
     exact bt2 hx this
   rcases List.mem_append.1 hy with hy | hy
   ·obtain ⟨i,hi,rfl⟩:=List.getElem_of_mem hy
    simp only [List.length_take] at hi
    have:=hp.1 i (by omega)
    rw [getD_lt o i (by omega)] at this
    exact bt2 (by simpa using this) Ab
   ·obtain rfl:=List.mem_singleton.1 hy
    exact Ab
theorem builtTo_up (l:List ByteArray):∀ k,k≤l.length→Up (bT l k):=by
 intro k
 induction k with
 | zero=>intro _;simp [bT,Up]
 | succ k ih=>
   intro hk
   rw [bTs l k (by omega)]
   exact insW_up _ _ (ih (by omega))
theorem builtTo_all (l:List ByteArray) (y:ByteArray):∀ k,k≤l.length→(y ∈ bT l k↔y ∈ l.take k):=by
 intro k
 induction k with
 | zero=>intro _;simp [bT]
 | succ k ih=>
   intro hk
   rw [bTs l k (by omega),insW_all,ih (by omega),List.take_succ_eq_append_getElem (by omega),List.mem_append,List.mem_singleton]
abbrev Lt:=List UInt8
theorem up_compact (zs:List Lt) (h:zs.Pairwise fun x y=>x≤y):(Lib.compact zs).Pairwise fun x y=>x < y:=by
 unfold Lib.compact Lib.compactUpTo
 rw [List.pairwise_map]
 rw [List.pairwise_filter]
 refine List.Pairwise.imp_of_mem ?_ (List.pairwise_lt_range (n:=zs.length))
 intro i j hi hj Ag _ hk
 have Af:=List.mem_range.1 hi
 have Aa:=List.mem_range.1 hj
 unfold Lib.keeps at hk
 have Ae:zs[j]≠zs[j - 1]:=by
  have:=of_decide_eq_true hk
  rcases this with e | e
  ·omega
  ·simpa [getElem!_pos,Aa,show j - 1 < zs.length by omega] using e
 have Ab:∀ a b (Ac:a≤b) (hb:b < zs.length),zs[a]≤zs[b]:=by
  intro a b Ac hb
  rcases Nat.lt_or_ge a b with Ad | Ah
  ·exact List.pairwise_iff_getElem.1 h a b (by omega) hb Ad
  ·have:a=b:=by omega
   subst this
   exact List.le_refl _
 have h1:=Ab i (j - 1) (by omega) (by omega)
 have h2:=Ab (j - 1) j (by omega) Aa
 have h3:zs[j - 1] < zs[j]:=by
  rcases Classical.em (zs[j - 1] < zs[j]) with h | h
  ·exact h
  ·exact absurd (List.le_antisymm (List.not_lt.1 h) h2) Ae
 have h4:zs[i] < zs[j]:=List.lt_of_le_of_lt h1 h3
 simpa [getElem!_pos,Aa,show i < zs.length by omega] using h4
theorem mc2 (zs:List Lt) (x:Lt):x ∈ Lib.compact zs↔x ∈ zs:=by
 constructor
 ·intro h
  unfold Lib.compact Lib.compactUpTo at h
  obtain ⟨i,hi,rfl⟩:=List.mem_map.1 h
  have Aa:i < zs.length:=List.mem_range.1 (List.mem_filter.1 hi).1
  simp [getElem!_pos,Aa]
 ·intro h
  obtain ⟨i,hi,rfl⟩:=List.getElem_of_mem h
  clear h
  induction i with
  | zero=>
    unfold Lib.compact Lib.compactUpTo
    exact List.mem_map.2 ⟨0,List.mem_filter.2 ⟨List.mem_range.2 hi,by simp [Lib.keeps]⟩,by simp [getElem!_pos,hi]⟩
  | succ i ih=>
    by_cases e:zs[i + 1]=zs[i]
    ·rw [e];exact ih (by omega)
    ·unfold Lib.compact Lib.compactUpTo
     exact List.mem_map.2 ⟨i + 1,List.mem_filter.2 ⟨List.mem_range.2 hi,by simpa [Lib.keeps,getElem!_pos,hi,show i < zs.length by omega] using e⟩,by simp [getElem!_pos,hi]⟩
def bytesOf (l:List ByteArray):List Lt:=l.map (·.data.toList)
def sB3 (l:List ByteArray):List Lt:=(bytesOf l).mergeSort fun x y=>decide (x≤y)
def sW2 (l:List ByteArray):List ByteArray:=(Lib.compact (sB3 l)).map fun b=>⟨b.toArray⟩
theorem sortB_up (l:List ByteArray):(sB3 l).Pairwise fun x y=>x≤y:=by
 unfold sB3
 refine List.Pairwise.imp (fun h=>of_decide_eq_true h) (List.pairwise_mergeSort (le:=fun (x y:Lt)=>decide (x≤y)) ?_ ?_ _)
 ·intro a b c h1 h2
  exact decide_eq_true (List.le_trans (of_decide_eq_true h1) (of_decide_eq_true h2))
 ·intro a b
  rcases List.le_total a b with h | h <;> simp [h]
theorem sWu (l:List ByteArray):Up (sW2 l):=by
 unfold sW2 Up
 rw [List.pairwise_map]
 refine List.Pairwise.imp (fun {a b} h => ?_) (up_compact _ (sortB_up l))
 rw [bl2,tl,tl]
 exact decide_eq_true h
theorem sWa (l:List ByteArray) (y:ByteArray):y ∈ sW2 l↔y ∈ l:=by
 unfold sW2
 rw [List.mem_map]
 constructor
 ·rintro ⟨b,hb,rfl⟩
  rw [mc2] at hb
  have Aa:=(List.mergeSort_perm _ _).mem_iff.1 hb
  obtain ⟨x,hx,rfl⟩:=List.mem_map.1 Aa
  simpa using hx
 ·intro h
  refine ⟨y.data.toList,?_,by simp⟩
  rw [mc2]
  exact (List.mergeSort_perm _ _).mem_iff.2 (List.mem_map.2 ⟨y,h,rfl⟩)
theorem bs4 (l:List ByteArray):bT l l.length=sW2 l:=
 up_only _ _ (builtTo_up l _ (Nat.le_refl _)) (sWu l) fun x=>by rw [builtTo_all l x _ (Nat.le_refl _),List.take_length,sWa]
theorem sWl (l:List ByteArray):(Lib.compact (sB3 l)).length=(sW2 l).length:=by unfold sW2;rw [List.length_map]
theorem sBl (l:List ByteArray):(sB3 l).length=l.length:=by unfold sB3 bytesOf;simp
end Tess
namespace Tess
open Go
theorem right_of (l:List ByteArray) (h1:l.length≤1000) (h2:∀ y ∈ l,y.size≤100) (h3:Asc l):right l=true:=by
 rw [rp2,Bool.and_eq_true,Bool.and_eq_true]
 refine ⟨⟨decide_eq_true h1,?_⟩,?_⟩
 ·rw [Bool.not_eq_true',List.any_eq_false]
  intro y hy
  have:=h2 y hy
  unfold diL
  simp;omega
 ·unfold chainTo
  rw [List.all_eq_true]
  intro i hi
  have Aa:=List.mem_range.1 hi
  unfold ord
  rcases Nat.eq_zero_or_pos i with rfl | h0
  ·rfl
  ·rw [h3 (i - 1) i (by omega) Aa,Bool.or_true]
end Tess
namespace Tess
open Go
def mk (l:List UInt8):ByteArray:=⟨l.toArray⟩
theorem ml3 (l:List UInt8):(mk l).data.toList=l:=rfl
theorem ms2 (l:List UInt8):(mk l).size=l.length:=by show l.toArray.size=_;simp
theorem mk_of (b:ByteArray):mk b.data.toList=b:=rfl
theorem me2 {b:ByteArray} {l:List UInt8} (h:b.data.toList=l):b=mk l:=by rw [← h];rfl
theorem ma2 (l m:List UInt8):mk l ++ mk m=mk (l ++ m):=by
 apply me2
 rw [ByteArray.data_append,Array.toList_append];rfl
theorem md2 (l:List UInt8) (k:Nat):(mk l).extract k (mk l).size=mk (l.drop k):=by
 apply me2
 rw [ByteArray.data_extract,Array.toList_extract,List.extract_eq_take_drop,ml3,ms2]
 exact List.take_of_length_le (by simp)
theorem mk_take (l:List UInt8) (k:Nat):(mk l).extract 0 k=mk (l.take k):=by
 apply me2
 rw [ByteArray.data_extract,Array.toList_extract,List.extract_eq_take_drop,ml3]
 simp
theorem getW_put (n:Nat) (hn:n < 16384) (r:List UInt8):getW (mk (putL n ++ r))=(n,mk r,0):=by
 by_cases h:n < 128
 ·rw [pLl2 n h]
  have hc:(UInt8.ofNat n).toNat=n:=by rw [UInt8.toNat_ofNat'];omega
  have hs:stop (mk ([UInt8.ofNat n] ++ r)).data.toList=0:=by
   rw [ml3];unfold stop
   rw [List.singleton_append,List.take_succ_cons,List.findIdx_cons,hc]
   simp [h]
  unfold getW
  rw [hs,if_pos (by rw [ms2];simp only [List.length_append,List.length_cons,List.length_nil];omega),if_pos (by unfold gV;simp),md2,ml3]
  simp only [Nat.zero_add,List.singleton_append,List.take_succ_cons,List.take_zero,List.drop_succ_cons,List.drop_zero,dec,hc]
  rw [show n % 128 + 128 * 0=n by omega]
 ·rw [pLg n h,pLl2 (n / 128) (by omega)]
  have hc:(UInt8.ofNat (128 + n % 128)).toNat=128 + n % 128:=by rw [UInt8.toNat_ofNat'];omega
  have Aa:(UInt8.ofNat (n / 128)).toNat=n / 128:=by rw [UInt8.toNat_ofNat'];omega
  generalize UInt8.ofNat (128 + n % 128)=a at *
  generalize UInt8.ofNat (n / 128)=b at *
  have Ab:b≠0:=fun e=>by
   rw [e] at Aa
   have:(0:UInt8).toNat=0:=rfl
   omega
  have hs:stop (mk ([a,b] ++ r)).data.toList=1:=by
   rw [ml3];unfold stop
   rw [List.cons_append,List.singleton_append,List.take_succ_cons,List.take_succ_cons,List.findIdx_cons,List.findIdx_cons,hc,Aa,decide_eq_false (by omega),decide_eq_true (by omega)]
   rfl
  unfold getW
  rw [hs,if_pos (by rw [ms2];simp only [List.length_append,List.length_cons,List.length_nil];omega),if_pos (by unfold gV;rw [ml3];simp [Ab]),md2,ml3]
  simp only [List.cons_append,List.take_succ_cons,List.take_zero,List.drop_succ_cons,List.drop_zero,dec,hc,Aa]
  rw [show (128 + n % 128) % 128 + 128 * (n / 128 % 128 + 128 * 0)=n by omega]
  rfl
theorem nWp (n m:Nat) (hn:n < 16384) (hm:n≤m) (r:List UInt8):numW (mk (putL n ++ r)) m=(n,mk r,0):=by
 unfold numW
 rw [getW_put n hn r]
 simp only [if_true]
 rw [if_neg (by omega)]
def eF:ByteArray→List ByteArray→List UInt8
 | _,[]=>[]
 | a,y :: l=>one a y ++ eF y l
theorem encTo_from (l:List ByteArray) (k:Nat) (hk:k≤l.length):eT l k ++ eF (lastOf l k) (l.drop k)=eF w0 l:=by
 induction k with
 | zero=>rfl
 | succ k ih=>
   rw [← ih (by omega),List.drop_eq_getElem_cons (show k < l.length by omega)]
   show (eT l k ++ one (lastOf l k) (l.getD k w0)) ++ _=eT l k ++ (one (lastOf l k) l[k] ++ eF l[k] (l.drop (k + 1)))
   rw [lOs,getD_lt l k (by omega),List.append_assoc]
theorem eLf (l:List ByteArray):encL l=putL l.length ++ eF w0 l:=by
 have:=encTo_from l l.length (Nat.le_refl _)
 rw [List.drop_length] at this
 unfold encL
 rw [← this]
 show _=putL l.length ++ (eT l l.length ++ [])
 rw [List.append_nil]
theorem shr_take:∀ (x y:List UInt8),x.take (shr x y)=y.take (shr x y)
 | [],y=>by cases y <;> rfl
 | _ :: _,[]=>rfl
 | a :: x,b :: y=>by
   unfold shr
   split
   ·rename_i h
    rw [List.take_succ_cons,List.take_succ_cons,shr_take x y,h]
   ·rfl
theorem shared_take (a b:ByteArray):a.data.toList.take (shared a b)=b.data.toList.take (shared a b):=shr_take _ _
theorem wordW_one (a y:ByteArray) (ha:a.size≤100) (hy:y.size≤100) (r:List UInt8):wW2 (mk (one a y ++ r)) a=(mk r,y,0):=by
 have Ac:=sl4 a y
 have Ab:=shared_take a y
 generalize hn:shared a y=n at *
 have h1:numW (mk (one a y ++ r)) a.size=(n,mk (putL (y.size - n) ++ (y.data.toList.drop n ++ r)),0):=by
  have e:one a y ++ r=putL n ++ (putL (y.size - n) ++ (y.data.toList.drop n ++ r)):=by
   unfold one;rw [hn];simp only [List.append_assoc]
  rw [e]
  exact nWp n a.size (by omega) Ac.1 _
 have h2:numW (mk (putL (y.size - n) ++ (y.data.toList.drop n ++ r))) (100 - n)=(y.size - n,mk (y.data.toList.drop n ++ r),0):=nWp _ _ (by omega) (by omega) _
 have hl:y.data.toList.length=y.size:=by simp
 have Aa:(y.data.toList.drop n).length=y.size - n:=by rw [List.length_drop,hl]
 rw [wWo _ a _ _ _ _ _ _ h1 h2,if_pos rfl,if_pos rfl,if_neg (by rw [ms2,List.length_append];omega),md2,mk_take]
 have e1:(y.data.toList.drop n ++ r).drop (y.size - n)=r:=by rw [← Aa,List.drop_left]
 have e2:(y.data.toList.drop n ++ r).take (y.size - n)=y.data.toList.drop n:=by rw [← Aa,List.take_left]
 rw [e1,e2]
 have e3:a.extract 0 n ++ mk (y.data.toList.drop n)=y:=by
  rw [← mk_of a,mk_take,ma2,Ab,List.take_append_drop]
  rfl
 rw [e3]
theorem wWf (l:List ByteArray):∀ (a:ByteArray),a.size≤100→(∀ y ∈ l,y.size≤100)→∀ r,wW l.length (mk (eF a l ++ r)) a=(l,mk r,0):=by
 induction l with
 | nil=>intro a _ _ r;rfl
 | cons y l ih=>
   intro a ha hl r
   have hy:=hl y (by simp)
   have hw:wW2 (mk (eF a (y :: l) ++ r)) a=(mk (eF y l ++ r),y,0):=by
    show wW2 (mk ((one a y ++ eF y l) ++ r)) a=_
    rw [List.append_assoc]
    exact wordW_one a y ha hy _
   show wW (l.length + 1) _ a=_
   unfold wW
   rw [hw]
   simp only [if_true]
   rw [ih y hy (fun z hz=>hl z (by simp [hz])) r]
theorem dec_enc (l:List ByteArray) (h:right l=true) (t:ByteArray):(encW l).2=0∧decW ((encW l).1 ++ t)=(l,t,0):=by
 have he:encW l=(mk (encL l),0):=by unfold encW;rw [if_pos h];rfl
 have hs:mk (encL l) ++ t=mk (putL l.length ++ (eF w0 l ++ t.data.toList)):=by
  rw [← mk_of t,ma2,eLf,List.append_assoc]
  rfl
 have Aa:=rl2 l h
 have hn:=nWp l.length 1000 (by omega) Aa (eF w0 l ++ t.data.toList)
 have Ab:∀ y ∈ l,y.size≤100:=fun y hy=>by
  obtain ⟨i,hi,rfl⟩:=List.getElem_of_mem hy
  have:=rs2 l h i hi
  rwa [getD_lt l i hi] at this
 have Ac:=wWf l w0 (Nat.zero_le _) Ab t.data.toList
 refine ⟨by rw [he],?_⟩
 rw [he]
 show decW (mk (encL l) ++ t)=_
 rw [hs,decW_of _ _ _ _ hn,if_pos rfl,Ac]
 simp only [if_true,he]
 rw [if_pos ⟨trivial,by rw [mk_of t];exact hs⟩]
 rfl
end Tess
namespace Tess
open Go
theorem pm3 (d:List ByteArray) (ha:Asc d) (i:Nat) (hi:i < d.length):place d d[i]=i:=by
 refine place_at d d[i] i (Nat.le_of_lt hi) (fun j hj hji => ?_) (.inr ⟨hi,bi2 _⟩)
 have:=ha j i hji hi
 rwa [getD_lt d j hj,getD_lt d i hi] at this
def has (l:List ByteArray) (x:ByteArray):Bool:=l.any fun y=>decide (y=x)
end Tess
namespace Tess
open Go Go.RowKit
theorem putL_shape (k:Nat):∀ n,n < 128 ^ (k + 1)→∃ (L:List UInt8) (c:UInt8),putL n=L ++ [c]∧L.length≤k∧goesOn L∧c.toNat < 128:=by
 induction k with
 | zero=>
   intro n hn
   have h:n < 128:=by simpa using hn
   exact ⟨[],UInt8.ofNat n,pLl2 n h,Nat.le_refl _,fun j hj=>absurd hj (Nat.not_lt_zero j),by rw [UInt8.toNat_ofNat'];omega⟩
 | succ k ih=>
   intro n hn
   by_cases h:n < 128
   ·exact ⟨[],UInt8.ofNat n,pLl2 n h,Nat.zero_le _,fun j hj=>absurd hj (Nat.not_lt_zero j),by rw [UInt8.toNat_ofNat'];omega⟩
   ·obtain ⟨L,c,e,hl,hg,hc⟩:=ih (n / 128) (by rw [Nat.pow_succ] at hn;omega)
    refine ⟨UInt8.ofNat (128 + n % 128) :: L,c,by rw [pLg n h,e];rfl,by simp;omega,fun j hj => ?_,hc⟩
    cases j with
    | zero=>show 128≤(UInt8.ofNat (128 + n % 128)).toNat;rw [UInt8.toNat_ofNat'];omega
    | succ j=>exact hg j (by simpa using hj)
theorem gWp (n:Nat) (hn:n < 18446744073709551616) (r:List UInt8):getW (mk (putL n ++ r))=(n,mk r,0):=by
 have Ac:n < 128 ^ (9 + 1):=Nat.lt_of_lt_of_le hn (by decide)
 obtain ⟨L,c,e,hl,hg,hc⟩:=putL_shape 9 n Ac
 have hd:=dpL 9 n Ac
 have Ab:=pLl4 9 n Ac L c e
 rw [e] at hd
 have hL:(mk (putL n ++ r)).data.toList=L ++ c :: r:=by rw [ml3,e];simp
 have hs:stop (L ++ c :: r)=L.length:=by
  refine stop_at _ _ (by simp;omega) (fun j hj hk => ?_) (.inr ⟨by simp,by omega,by simpa using hc⟩)
  rw [List.getElem_append_left hk]
  exact hg j hk
 have Ad:(L ++ c :: r).getD L.length 0=c:=by simp [List.getD_eq_getElem?_getD]
 have Aa:gV (L ++ c :: r) L.length=true:=by
  unfold gV
  rw [Ad]
  simp only [Bool.and_eq_true,Bool.or_eq_true,decide_eq_true_eq]
  refine ⟨?_,?_⟩
  ·rcases Ab with h | h
   ·left;rw [h];rfl
   ·exact .inr h
  ·by_cases h9:L.length < 9
   ·exact .inl h9
   ·right
    have h9:L.length=9:=by omega
    rw [da2,h9] at hd
    have h3:(128:Nat) ^ 9=9223372036854775808:=by decide
    rw [h3] at hd
    omega
 unfold getW
 rw [hL,hs,if_pos (by rw [ms2,e];simp only [List.length_append,List.length_cons,List.length_nil];omega),if_pos Aa]
 have e1:(mk (putL n ++ r)).extract (L.length + 1) (mk (putL n ++ r)).size=mk r:=by
  rw [md2,e]
  congr 1
  rw [show L.length + 1=(L ++ [c]).length by simp]
  exact List.drop_left
 have e2:(L ++ c :: r).take (L.length + 1)=L ++ [c]:=by
  rw [show L ++ c :: r=(L ++ [c]) ++ r by simp,show L.length + 1=(L ++ [c]).length by simp]
  exact List.take_left
 rw [e1,e2,hd]
def tN (d:Int):Nat:=if 0≤d then (2 * d).toNat else (-2 * d - 1).toNat
def bN (k:Nat):Int:=if k % 2=0 then ((k / 2:Nat):Int) else -((k / 2:Nat):Int) - 1
theorem back_turn (d:Int):bN (tN d)=d:=by
 unfold bN tN
 split <;> split <;> omega
theorem turn_lt (d:Int) (h : -9223372036854775808≤d∧d≤9223372036854775807):tN d < 18446744073709551616:=by
 unfold tN
 split <;> omega
def di:Int→List Int→List Int
 | _,[]=>[]
 | last,n :: l=>wrap64 (n - last) :: di n l
def pL2 (l:List Int):List UInt8:=putL l.length ++ (di 0 l).flatMap fun d=>putL (tN d)
def takeN:Nat→Int→ByteArray→List Int×ByteArray×Nat
 | 0,_,s=>([],s,0)
 | n + 1,last,s=>
   if (getW s).2.2=0 then
    let x:=wrap64 (last + bN (getW s).1)
    let y:=takeN n x (getW s).2.1
    (x :: y.1,y.2)
   else ([],s,(getW s).2.2)
def uW (s:ByteArray):List Int×ByteArray×Nat:=
 if (getW s).2.2≠0 then ([],s,(getW s).2.2)
 else if 1000 < (getW s).1 then ([],s,20)
 else
  let y:=takeN (getW s).1 0 (getW s).2.1
  if y.2.2=0 then y else ([],s,y.2.2)
theorem wr5 (x:Int) : -9223372036854775808≤wrap64 x∧wrap64 x≤9223372036854775807:=by unfold wrap64;omega
theorem wrap_back (n last:Int) (h : -9223372036854775808≤n∧n≤9223372036854775807):wrap64 (last + wrap64 (n - last))=n:=by unfold wrap64;omega
theorem tNp:∀ (l:List Int) (last:Int) (r:List UInt8),(∀ x ∈ l,-9223372036854775808≤x∧x≤9223372036854775807)→takeN l.length last (mk (((di last l).flatMap fun d=>putL (tN d)) ++ r))=(l,mk r,0)
 | [],_,_,_=>rfl
 | n :: l,last,r,h=>by
   have hn:=h n (by simp)
   have ih:=tNp l n r fun x hx=>h x (by simp [hx])
   have e:((di last (n :: l)).flatMap fun d=>putL (tN d)) ++ r=putL (tN (wrap64 (n - last))) ++ (((di n l).flatMap fun d=>putL (tN d)) ++ r):=by
    rw [di,List.flatMap_cons,List.append_assoc]
   rw [e,List.length_cons]
   unfold takeN
   rw [gWp _ (turn_lt _ (wr5 _)),if_pos rfl,back_turn,wrap_back n last hn]
   simp only [ih]
theorem unpack_pack (l:List Int) (hl:l.length≤1000) (h:∀ x ∈ l,-9223372036854775808≤x∧x≤9223372036854775807) (r:List UInt8):uW (mk (pL2 l ++ r))=(l,mk r,0):=by
 unfold uW pL2
 rw [List.append_assoc,gWp _ (by omega),if_neg (by simp),if_neg (show ¬ 1000 < l.length by omega)]
 simp only [tNp l 0 r h,if_true]
end Tess
namespace Tess
open Go Go.RowKit
theorem rev_ind {α:Type} {P:List α→Prop} (h0:P []) (h1:∀ l x,P l→P (l ++ [x])) (l:List α):P l:=by
 rw [← List.reverse_reverse l]
 induction l.reverse with
 | nil=>exact h0
 | cons x r ih=>rw [List.reverse_cons];exact h1 _ _ ih
def valB (l:List UInt8):Nat:=l.foldl (fun a b=>a * 256 + b.toNat) 0
theorem foldB (l:List UInt8):∀ a:Nat,l.foldl (fun a b=>a * 256 + b.toNat) a=a * 256 ^ l.length + valB l:=by
 unfold valB
 induction l with
 | nil=>intro a;simp
 | cons b l ih=>
   intro a
   rw [List.foldl_cons,List.foldl_cons,ih,ih (0 * 256 + b.toNat),List.length_cons,Nat.pow_succ,Nat.add_mul,Nat.zero_mul,Nat.zero_add,Nat.mul_assoc,Nat.mul_comm 256,Nat.add_assoc]
theorem valB_nil:valB []=0:=rfl
theorem vBs (l:List UInt8) (b:UInt8):valB (l ++ [b])=valB l * 256 + b.toNat:=by unfold valB;rw [List.foldl_append];rfl
theorem valB_cons (b:UInt8) (l:List UInt8):valB (b :: l)=b.toNat * 256 ^ l.length + valB l:=by
 have:=foldB l (0 * 256 + b.toNat)
 rw [Nat.zero_mul,Nat.zero_add] at this
 unfold valB at this ⊢
 rw [List.foldl_cons,Nat.zero_mul,Nat.zero_add,this]
theorem valB_append (l m:List UInt8):valB (l ++ m)=valB l * 256 ^ m.length + valB m:=by
 have:=foldB m (valB l)
 unfold valB at *
 rw [List.foldl_append,this]
theorem valB_lt (l:List UInt8):valB l < 256 ^ l.length:=by
 induction l with
 | nil=>simp [valB_nil]
 | cons b l ih=>
   rw [valB_cons,List.length_cons,Nat.pow_succ]
   have hb:b.toNat < 256:=b.toNat_lt
   have:b.toNat * 256 ^ l.length≤255 * 256 ^ l.length:=Nat.mul_le_mul_right _ (by omega)
   omega
def bytesBE:Nat→Nat→List UInt8
 | 0,_=>[]
 | k + 1,v=>bytesBE k (v / 256) ++ [UInt8.ofNat (v % 256)]
theorem bBl:∀ k v,(bytesBE k v).length=k
 | 0,_=>rfl
 | k + 1,v=>by rw [bytesBE,List.length_append,bBl k];rfl
theorem vb2:∀ k v,v < 256 ^ k→valB (bytesBE k v)=v
 | 0,v,h=>by
   have e:v=0:=by rw [Nat.pow_zero] at h;omega
   subst e
   rfl
 | k + 1,v,h=>by
   rw [Nat.pow_succ] at h
   rw [bytesBE,vBs,vb2 k (v / 256) (by omega),UInt8.toNat_ofNat']
   omega
theorem bytes_val (l:List UInt8):bytesBE l.length (valB l)=l:=by
 refine rev_ind (P:=fun l=>bytesBE l.length (valB l)=l) rfl (fun l b ih => ?_) l
 ·show bytesBE (l ++ [b]).length (valB (l ++ [b]))=l ++ [b]
  rw [List.length_append,List.length_singleton,bytesBE,vBs]
  have hb:b.toNat < 256:=b.toNat_lt
  rw [show (valB l * 256 + b.toNat) / 256=valB l by omega,show (valB l * 256 + b.toNat) % 256=b.toNat by omega,ih,UInt8.ofNat_toNat]
def fV (w:Nat) (l:List Nat):Nat:=l.foldl (fun a x=>a * 2 ^ w + x) 0
theorem fVs (w:Nat) (l:List Nat) (x:Nat):fV w (l ++ [x])=fV w l * 2 ^ w + x:=by unfold fV;rw [List.foldl_append];rfl
theorem foldV_from (w:Nat) (l:List Nat):∀ a:Nat,l.foldl (fun a x=>a * 2 ^ w + x) a=a * 2 ^ (l.length * w) + fV w l:=by
 unfold fV
 induction l with
 | nil=>intro a;simp
 | cons b l ih=>
   intro a
   rw [List.foldl_cons,List.foldl_cons,ih,ih (0 * 2 ^ w + b),List.length_cons,Nat.add_mul,Nat.zero_mul,Nat.zero_add,Nat.mul_assoc,Nat.add_assoc,show 2 ^ w * 2 ^ (l.length * w)=2 ^ ((l.length + 1) * w) by rw [← Nat.pow_add,Nat.add_mul,Nat.one_mul,Nat.add_comm]]
theorem fVa (w:Nat) (l m:List Nat):fV w (l ++ m)=fV w l * 2 ^ (m.length * w) + fV w m:=by
 have:=foldV_from w m (fV w l)
 unfold fV at *
 rw [List.foldl_append,this]
theorem foldV_lt (w:Nat) (l:List Nat):(h:∀ x ∈ l,x < 2 ^ w)→fV w l < 2 ^ (l.length * w):=by
 refine rev_ind (P:=fun l=>(∀ x ∈ l,x < 2 ^ w)→fV w l < 2 ^ (l.length * w)) (fun _=>by simp [fV]) (fun l x ih h => ?_) l
 ·have h1:=ih fun y hy=>h y (by simp [hy])
  have h2:=h x (by simp)
  rw [fVs,List.length_append,List.length_singleton,Nat.add_mul,Nat.one_mul,Nat.pow_add]
  have:(fV w l + 1) * 2 ^ w≤2 ^ (l.length * w) * 2 ^ w:=Nat.mul_le_mul_right _ h1
  rw [Nat.add_mul,Nat.one_mul] at this
  omega
theorem foldV_at (w:Nat) (l:List Nat) (h:∀ x ∈ l,x < 2 ^ w) (k:Nat) (hk:k < l.length):fV w l / 2 ^ ((l.length - (k + 1)) * w) % 2 ^ w=l[k]:=by
 have e:l=(l.take k ++ [l[k]]) ++ l.drop (k + 1):=by
  rw [List.append_assoc,List.singleton_append,← List.drop_eq_getElem_cons hk,List.take_append_drop]
 have hd:(l.drop (k + 1)).length=l.length - (k + 1):=List.length_drop
 have h1:fV w (l.drop (k + 1)) < 2 ^ ((l.length - (k + 1)) * w):=by
  have:=foldV_lt w (l.drop (k + 1)) fun x hx=>h x (List.mem_of_mem_drop hx)
  rwa [hd] at this
 have e2:fV w l=(fV w (l.take k) * 2 ^ w + l[k]) * 2 ^ ((l.length - (k + 1)) * w) + fV w (l.drop (k + 1)):=by
  conv=>lhs;rw [e]
  rw [fVa,fVs,hd]
 rw [e2,Nat.mul_comm,Nat.mul_add_div (Nat.two_pow_pos _),Nat.div_eq_of_lt h1,Nat.add_zero,Nat.mul_comm,Nat.mul_add_mod]
 exact Nat.mod_eq_of_lt (h _ (List.getElem_mem hk))
end Tess
namespace Tess
open Go Go.RowKit
def maxN (l:List Nat):Nat:=l.foldl max 0
theorem mNg:∀ (l:List Nat) (a:Nat),a≤l.foldl max a∧∀ x ∈ l,x≤l.foldl max a
 | [],a=>⟨Nat.le_refl _,fun x h=>by cases h⟩
 | y :: l,a=>by
   obtain ⟨h1,h2⟩:=mNg l (max a y)
   rw [List.foldl_cons]
   refine ⟨by omega,fun x hx => ?_⟩
   rcases List.mem_cons.1 hx with rfl | hx
   ·omega
   ·exact h2 x hx
theorem mNl (B:Nat):∀ (l:List Nat) (a:Nat),a≤B→(∀ x ∈ l,x≤B)→l.foldl max a≤B
 | [],_,h,_=>h
 | y :: l,a,h,hl=>mNl B l (max a y) (by have:=hl y (by simp);omega) fun x hx=>hl x (by simp [hx])
def widN (l:List Nat):Nat:=bitLen (maxN l)
theorem widN_lt (l:List Nat):∀ x ∈ l,x < 2 ^ widN l:=fun x hx=>Nat.lt_of_le_of_lt ((mNg l 0).2 x hx) (bitLen_spec _).1
theorem wNl (l:List Nat) (h:∀ x ∈ l,x≤65535):widN l≤16:=by
 have h1:maxN l≤65535:=mNl 65535 l 0 (by omega) h
 by_cases h0:maxN l=0
 ·unfold widN;rw [h0];decide
 ·have h2:=(bitLen_spec (maxN l)).2 h0
  unfold widN
  rcases Nat.lt_or_ge 16 (bitLen (maxN l)) with h3 | h3
  ·have:2 ^ 16≤2 ^ (bitLen (maxN l) - 1):=Nat.pow_le_pow_right (by omega) (by omega)
   have e:(2:Nat) ^ 16=65536:=by decide
   omega
  ·exact h3
def sP (n w:Nat):Nat:=(n * w + 7) / 8
def pN2 (l:List Nat):List UInt8:=putL l.length ++ (UInt8.ofNat (widN l) :: bytesBE (sP l.length (widN l)) (fV (widN l) l * 2 ^ (8 * sP l.length (widN l) - l.length * widN l)))
def numK (w:Nat) (B:List UInt8) (k:Nat):Nat:=valB B / 2 ^ (8 * B.length - (k + 1) * w) % 2 ^ w
def uP (s:ByteArray):List Nat×ByteArray×Nat:=
 if (getW s).2.2≠0 then ([],s,(getW s).2.2)
 else if 1000 < (getW s).1 then ([],s,40)
 else match (getW s).2.1.data.toList with
  | []=>([],s,21)
  | b :: t=>
    let n:=(getW s).1
    let w:=b.toNat
    if 16 < w then ([],s,40)
    else if t.length < sP n w then ([],s,21)
    else
     let B:=t.take (sP n w)
     let l:=(List.range n).map (numK w B)
     if valB B % 2 ^ (8 * B.length - n * w)≠0∨widN l≠w then ([],s,40)
     else (l,mk (t.drop (sP n w)),0)
theorem size_ge (n w:Nat):n * w≤8 * sP n w:=by unfold sP;omega
theorem pow_256 (k:Nat):256 ^ k=2 ^ (8 * k):=by rw [Nat.pow_mul]
theorem upN (l:List Nat) (hl:l.length≤1000) (h:∀ x ∈ l,x≤65535) (r:List UInt8):uP (mk (pN2 l ++ r))=(l,mk r,0):=by
 obtain ⟨w,hw⟩:∃ w,widN l=w:=⟨_,rfl⟩
 have Ab:=wNl l h
 have Ac:=widN_lt l
 unfold pN2
 rw [hw] at Ab Ac ⊢
 obtain ⟨S,hS⟩:∃ S,sP l.length w=S:=⟨_,rfl⟩
 have Af:=size_ge l.length w
 rw [hS] at Af ⊢
 have hV:=foldV_lt w l Ac
 have hB:valB (bytesBE S (fV w l * 2 ^ (8 * S - l.length * w)))=fV w l * 2 ^ (8 * S - l.length * w):=by
  refine vb2 _ _ ?_
  rw [pow_256]
  calc fV w l * 2 ^ (8 * S - l.length * w) < 2 ^ (l.length * w) * 2 ^ (8 * S - l.length * w):=Nat.mul_lt_mul_of_pos_right hV (Nat.two_pow_pos _)
   _=2 ^ (8 * S):=by rw [← Nat.pow_add];congr 1;omega
 have Aa:=bBl S (fV w l * 2 ^ (8 * S - l.length * w))
 generalize bytesBE S (fV w l * 2 ^ (8 * S - l.length * w))=B at *
 rw [List.append_assoc,List.cons_append]
 unfold uP
 rw [gWp _ (by omega),if_neg (by simp),if_neg (show ¬ 1000 < l.length by omega),ml3]
 have Ae:(UInt8.ofNat w).toNat=w:=by rw [UInt8.toNat_ofNat'];omega
 have ht:(B ++ r).take S=B:=by rw [← Aa];exact List.take_left
 have hd:(B ++ r).drop S=r:=by rw [← Aa];exact List.drop_left
 have Ad:(List.range l.length).map (numK w B)=l:=by
  refine List.ext_getElem (by simp) fun k h1 h2 => ?_
  rw [List.getElem_map,List.getElem_range]
  unfold numK
  rw [hB,Aa]
  have hk:k < l.length:=h2
  have e:8 * S - (k + 1) * w=(8 * S - l.length * w) + (l.length - (k + 1)) * w:=by
   have h3:(k + 1) * w + (l.length - (k + 1)) * w=l.length * w:=by rw [← Nat.add_mul];congr 1;omega
   omega
  rw [e,Nat.pow_add,← Nat.div_div_eq_div_mul,Nat.mul_div_cancel _ (Nat.two_pow_pos _)]
  exact foldV_at w l Ac k hk
 simp only [Ae,hS,ht,hd,Ad,hw]
 rw [if_neg (by omega),if_neg (by rw [List.length_append];omega),if_neg]
 rw [hB,Aa,Nat.mul_mod_left]
 simp
end Tess
