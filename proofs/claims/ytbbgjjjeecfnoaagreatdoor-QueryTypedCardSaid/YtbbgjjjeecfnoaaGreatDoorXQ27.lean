/- The token that a text begins with: walked. Written by genQ27.py. -/
import Derived.Test.YtbbgjjjeecfnoaaGreatDoorXQ26
namespace Tess.Tok
open Tess
def signTok:Option (List UInt8)→Tok
 | some x=>⟨5,0,x.length,ofL x,0⟩
 | none=>⟨0,0,0,ByteArray.empty,0⟩
def tail (l:List UInt8):Tok:=match number l with
 | some (sz,n)=>⟨3,0,sz,ByteArray.empty,n⟩
 | none=>signTok (signs.find? (fun x=>x.isPrefixOf l))
theorem read_word (c:UInt8) (r:List UInt8) (h:0 < whileL pWord 0 (c :: r)):read (c :: r)=⟨1,0,whileL pWord 0 (c :: r),ofL ((c :: r).take (whileL pWord 0 (c :: r))),0⟩:=by
 unfold read
 simp only
 rw [if_pos h]
theorem read_name (r:List UInt8) (h:whileL pWord 0 (36 :: r)=0) (h2:0 < whileL pName 0 r) (h3:whileL pName 0 r≤20):read (36 :: r)=⟨2,0,whileL pName 0 r + 1,ofL (r.take (whileL pName 0 r)),0⟩:=by
 unfold read
 simp only
 rw [if_neg (by omega),if_pos ⟨trivial,h2,h3⟩]
theorem read_str (r:List UInt8) (h:whileL pWord 0 (34 :: r)=0) {sz:Nat} {t:List UInt8} (h2:strF (r.length + 1) 1 [] r=some (sz,t)):read (34 :: r)=⟨4,0,sz,ofL t,0⟩:=by
 unfold read
 simp only
 rw [if_neg (by omega),if_neg (fun h=>absurd h.1 (by decide)),if_pos trivial,h2]
theorem read_tail (c:UInt8) (r:List UInt8) (h:whileL pWord 0 (c :: r)=0) (h2:¬ (c=36∧0 < whileL pName 0 r∧whileL pName 0 r≤20)) (h3:c=34→strF (r.length + 1) 1 [] r=none):read (c :: r)=tail (c :: r):=by
 unfold read
 simp only
 rw [if_neg (by omega),if_neg h2,show (if c=34 then strF (r.length + 1) 1 [] r else none)=none by
  by_cases hc:c=34
  ·rw [if_pos hc,h3 hc]
  ·rw [if_neg hc]]
 rfl
theorem find_at {α:Type} (p:α→Bool) (l:List α) (i:Nat) (h:i < l.length) (hp:p l[i]=true) (hn:∀ j (hj:j < l.length),j < i→p l[j]=false):l.find? p=some l[i]:=by
 rw [List.find?_eq_some_iff_getElem]
 exact ⟨hp,i,h,rfl,fun j hj=>by simp [hn j (by omega) hj]⟩
end Tess.Tok
namespace Go.Proofs.YtbbgjjjeecfnoaaGreatDoor
open Go.RowKit Go.Sort
open Tess (Tok)
theorem strV_some (sz:Nat) (t:List UInt8):strV (some (sz,t)) = .tuple #[.agg #[.int .i64 4,.int .i64 0,.int .i64 sz,.string (Tok.ofL t),.int .i64 0],.bool true]:=rfl
theorem strV_none:strV none = .tuple #[.agg #[.int .i64 0,.int .i64 0,.int .i64 0,.string ⟨#[]⟩,.int .i64 0],.bool false]:=rfl
theorem set_stay {W:World} {b o:Nat} {cs:Array Value} {t:TypeId} {f:Nat×Nat} {v:Value} (h:W.heap[b]? = some (.cells cs t f)) (hv:cs[o]? = some v):W.setCell ⟨b,o,none⟩ v=W:=by
 have e:(W.setCell ⟨b,o,none⟩ v).heap=W.heap:=by
  apply Array.ext_getElem?
  intro k
  simp only [World.setCell,Array.getElem?_modify]
  by_cases hk:b=k
  ·subst hk
   rw [if_pos rfl,h]
   simp only [Option.map_some,Option.isSome_none]
   congr 2
   apply Array.ext_getElem?
   intro j
   rw [if_neg (by simp),Array.getElem?_setIfInBounds]
   split
   ·rename_i hj
    subst hj
    split
    ·exact hv.symm
    ·rename_i hn;exact absurd (Array.getElem?_eq_some_iff.1 hv).1 hn
   ·rfl
  ·rw [if_neg hk]
 cases W
 simp only [World.setCell] at e ⊢
 rw [e]
def signsB:List ByteArray:=Tok.signs.map Tok.ofL
set_option maxRecDepth 100000 in
theorem signs_any (w:World):Calls Tryz.prog 210 #[] w fun e w'=>e = .returned (.slice (some ⟨w.heap.size,0,none⟩) 12 12)∧Below w.heap.size w w'∧∀ i (h:i < 12),w'.cell? ⟨w.heap.size,i,none⟩=some (.string (signsB[i]'h)):=by
 go_enter Tryz.func210,Tryz.ntmps210
 go_wp2
 go_ret
 refine ⟨rfl,(Below.refl _ _).alloc (Nat.le_refl _) _,fun i h => ?_⟩
 rw [cell_of_row _ _ i _ _ _ (heap_alloc_new _ _)]
 have:i=0∨i=1∨i=2∨i=3∨i=4∨i=5∨i=6∨i=7∨i=8∨i=9∨i=10∨i=11:=by omega
 rcases this with rfl | rfl | rfl | rfl | rfl | rfl | rfl | rfl | rfl | rfl | rfl | rfl <;> rfl
theorem sign_at (i:Nat) (h:i < 12):signsB[i]'h=Tok.ofL (Tok.signs[i]'h):=by
 exact List.getElem_map ..
theorem ofL_data (l:List UInt8):(Tok.ofL l).data.toList=l:=by
 show l.toArray.toList=l
 simp
theorem ofL_size (l:List UInt8):(Tok.ofL l).size=l.length:=by
 show l.toArray.size=l.length
 simp
theorem of_data (s:ByteArray) {l:List UInt8} (h:s.data.toList=l):s=Tok.ofL l:=by
 obtain ⟨⟨m⟩⟩:=s
 subst h
 rfl
theorem str_ne (s:ByteArray) (h:0 < s.size):(s.toList == [])=false:=by
 have e:(⟨#[]⟩:ByteArray).toList=[]:=by rw [ByteArray.toList_eq]
 rw [← e,Lib.bytes_beq_false_iff]
 intro h2
 rw [h2] at h
 exact absurd h (Nat.lt_irrefl _)
structure RdAt (w W:World):Prop where
 b:Below w.heap.size w W
 k:W.heap[w.heap.size]? = some tk0
theorem RdAt.lt {w W:World} (h:RdAt w W):w.heap.size + 1≤W.heap.size:=(Array.getElem?_eq_some_iff.1 h.k).1
theorem RdAt.below {w W W':World} (h:RdAt w W) (hb:Below W.heap.size W W'):RdAt w W':=⟨h.b.trans (hb.mono h.b.size),(hb.block _ h.lt).trans h.k⟩
theorem RdAt.done {w W:World} (h:RdAt w W) (y0 y1 y2 y3 y4:Value):∃ W3,(((((W.setCell ⟨w.heap.size,0,none⟩ y0).setCell ⟨w.heap.size,1,none⟩ y1).setCell ⟨w.heap.size,2,none⟩ y2).setCell ⟨w.heap.size,3,none⟩ y3).setCell ⟨w.heap.size,4,none⟩ y4)=W3∧Below w.heap.size w W3 ∧
  (W3.cell? ⟨w.heap.size,0,none⟩=some y0∧W3.cell? ⟨w.heap.size,1,none⟩=some y1∧W3.cell? ⟨w.heap.size,2,none⟩=some y2∧W3.cell? ⟨w.heap.size,3,none⟩=some y3∧W3.cell? ⟨w.heap.size,4,none⟩=some y4):=by
 obtain ⟨W3,hW3,b1,b2,b3,b4⟩:=box5 y0 y1 y2 y3 y4 h.k
 exact ⟨W3,hW3,b4 w h.b (Nat.le_refl _),(can5 b1).1⟩
set_option maxRecDepth 100000 in
set_option maxHeartbeats 8000000 in
theorem read_easy (HT0:∀ (s:ByteArray) (w:World),Vz w→s.size≤1099511627776→∀ (hpos:0 < s.size) (c:UInt8) (r:List UInt8),s.data.toList=c :: r→s[0]=c→Tok.whileL Tok.pWord 0 (c :: r)=0→Tok.read s.data.toList=Tok.tail s.data.toList→¬ (c=36∧0 < Tok.whileL Tok.pName 0 r∧Tok.whileL Tok.pName 0 r≤20)→¬ (c=34∧∃ p,Tok.strF (r.length + 1) 1 [] r=some p)→Calls Tryz.prog 135 #[.string s] w fun e w'=>e = .returned (tkV (Tok.read s.data.toList))∧Below w.heap.size w w') (s:ByteArray) (w:World) (hV:Vz w) (hs:s.size≤1099511627776) :
  Calls Tryz.prog 135 #[.string s] w fun e w'=>e = .returned (tkV (Tok.read s.data.toList))∧Below w.heap.size w w':=by
 have hV9:=hV
 obtain ⟨l1,l2,l3⟩:=laid1 w tk0
 have HS0:RowKit.Hid (RdAt w (w.alloc tk0)):=Lib.hid ⟨l3,l1⟩
 have HV0:RowKit.Hid (Vz (w.alloc tk0)):=Lib.hid (hV.below l3)
 clear l1 l2 l3 hV
 obtain ⟨W0,hW0⟩:∃ W0,w.alloc tk0=W0:=⟨_,rfl⟩
 rw [hW0] at HS0 HV0
 by_cases h0:s.size=0
 ·obtain rfl:s=⟨#[]⟩:=by
   obtain ⟨⟨l⟩⟩:=s
   cases l with
   | nil=>rfl
   | cons c r=>exact absurd h0 (by show ¬ (r.length + 1=0);omega)
  have HE:=Lib.hid (show Tok.read (⟨#[]⟩:ByteArray).data.toList=⟨6,0,0,ByteArray.empty,0⟩ from rfl)
  obtain ⟨W3,hW3,hB3,q0,q1,q2,q3,q4⟩:=HS0.out.done (.int .i64 6) (.int .i64 0) (.int .i64 0) (.string ⟨#[]⟩) (.int .i64 0)
  have HB3:=Lib.hid hB3
  have HQ:=Lib.hid (And.intro q0 (And.intro q1 (And.intro q2 (And.intro q3 q4))))
  clear hB3 q0 q1 q2 q3 q4
  obtain ⟨⟨_,_,_,_,_⟩,k0,k1,k2,k3,k4⟩:=can5 HS0.out.k
  go_enter Tryz.func135,Tryz.ntmps135
  go_wp2
  obtain ⟨q0,q1,q2,q3,q4⟩:=HQ.out
  refine bodyPost_ret (v:=tkV ⟨6,0,0,ByteArray.empty,0⟩) (by simp [results,Tryz.results135,go_sem,q0,q1,q2,q3,q4,tkV,tkF];rfl) rfl ⟨by rw [HE.out],HB3.out⟩
 ·have hpos:0 < s.size:=by omega
  have HT9:=Lib.hid (HT0 s w hV9 hs hpos)
  clear HT0 hV9
  have hne:=str_ne s hpos
  obtain ⟨r,hr⟩:=head1 s hpos
  have hlr:r.length + 1=s.size:=by
   have:=congrArg List.length hr
   rw [Array.length_toList] at this
   exact this.symm
  obtain ⟨c,hc⟩:∃ c,s[0]=c:=⟨_,rfl⟩
  rw [hc] at hr
  have hwl:=whileL_lt Tok.pWord s
  have hWW:=fun W=>while_word s W
  have x0:=data_take s (Tok.whileL Tok.pWord 0 s.data.toList)
  have hd1:(s.extract 1 s.size).data.toList=r:=by rw [data_drop,hr];rfl
  by_cases hw:0 < Tok.whileL Tok.pWord 0 s.data.toList
  ·have HE:=Lib.hid (show Tok.read s.data.toList=⟨1,0,Tok.whileL Tok.pWord 0 s.data.toList,s.extract 0 (Tok.whileL Tok.pWord 0 s.data.toList),0⟩ by
    rw [of_data _ x0]
    rw [hr] at hw ⊢
    exact Tok.read_word c r hw)
   have HW:=Lib.hid hWW
   clear hWW x0 hr hd1
   generalize Tok.read s.data.toList=T at *
   generalize Tok.whileL Tok.pWord 0 s.data.toList=n at *
   have hwi:(0:Int) < (n:Int):=by omega
   have hni:(n:Int)≤(s.size:Int):=by omega
   go_enter Tryz.func135,Tryz.ntmps135
   go_wp2_with (fail)
   (go_at_call 133;with_reducible refine (HW.out _).mono ?_;rintro e w1 ⟨rfl,hB1⟩;have HS1:=Lib.hid (HS0.out.below hB1);have HV1:=Lib.hid (HV0.out.below hB1);clear hB1)
   obtain ⟨W3,hW3,hB3,q0,q1,q2,q3,q4⟩:=HS1.out.done (.int .i64 1) (.int .i64 0) (.int .i64 n) (.string (s.extract 0 n)) (.int .i64 0)
   have HB3:=Lib.hid hB3
   have HQ:=Lib.hid (And.intro q0 (And.intro q1 (And.intro q2 (And.intro q3 q4))))
   clear hB3 q0 q1 q2 q3 q4
   obtain ⟨⟨_,_,_,_,_⟩,k0,k1,k2,k3,k4⟩:=can5 HS1.out.k
   go_wp2
   obtain ⟨q0,q1,q2,q3,q4⟩:=HQ.out
   refine bodyPost_ret (v:=tkV ⟨1,0,n,s.extract 0 n,0⟩) (by simp [results,Tryz.results135,go_sem,q0,q1,q2,q3,q4,tkV,tkF]) rfl ⟨by rw [HE.out],HB3.out⟩
  ·have hw0:Tok.whileL Tok.pWord 0 s.data.toList=0:=by omega
   rw [hw0] at hWW
   have HW:=Lib.hid hWW
   clear hWW x0 hw hwl
   rw [hr] at hw0
   by_cases h36:c=36∧0 < Tok.whileL Tok.pName 0 r∧Tok.whileL Tok.pName 0 r≤20
   ·obtain ⟨rfl,g1,g2⟩:=h36
    have hNN:=fun W=>while_name (s.extract 1 s.size) W
    rw [hd1] at hNN
    have hnl:=Tok.whileL_le Tok.pName r 0
    have HE:=Lib.hid (show Tok.read s.data.toList=⟨2,0,Tok.whileL Tok.pName 0 r + 1,s.extract 1 (Tok.whileL Tok.pName 0 r + 1),0⟩ by
     have hx:(s.extract 1 (Tok.whileL Tok.pName 0 r + 1)).data.toList=r.take (Tok.whileL Tok.pName 0 r):=by
      rw [ByteArray.data_extract,Array.toList_extract,hr,List.extract_eq_take_drop,Nat.add_sub_cancel]
      rfl
     rw [of_data _ hx,hr]
     exact Tok.read_name r hw0 g1 g2)
    have HN:=Lib.hid hNN
    clear hNN hr hd1 hw0
    generalize Tok.read s.data.toList=T at *
    generalize Tok.whileL Tok.pName 0 r=n at *
    have g1i:(0:Int) < (n:Int):=by omega
    have g2i:(n:Int)≤20:=by omega
    have hdi:decide ((0:Int) < (n:Int))=true:=decide_eq_true g1i
    have hsi:(1:Int)≤(s.size:Int):=by omega
    have hni:(n:Int) + 1≤(s.size:Int):=by omega
    go_enter Tryz.func135,Tryz.ntmps135
    go_wp2_with (fail)
    (go_at_call 133;with_reducible refine (HW.out _).mono ?_;rintro e w1 ⟨rfl,hB1⟩;have HS1:=Lib.hid (HS0.out.below hB1);have HV1:=Lib.hid (HV0.out.below hB1);clear hB1)
    go_wp2_with (fail)
    (go_at_call 133;with_reducible refine (HN.out _).mono ?_;rintro e w2 ⟨rfl,hB2⟩;have HS2:=Lib.hid (HS1.out.below hB2);have HV2:=Lib.hid (HV1.out.below hB2);clear hB2)
    obtain ⟨W3,hW3,hB3,q0,q1,q2,q3,q4⟩:=HS2.out.done (.int .i64 2) (.int .i64 0) (.int .i64 ((n:Int) + 1)) (.string (s.extract 1 (n + 1))) (.int .i64 0)
    have HB3:=Lib.hid hB3
    have HQ:=Lib.hid (And.intro q0 (And.intro q1 (And.intro q2 (And.intro q3 q4))))
    clear hB3 q0 q1 q2 q3 q4
    obtain ⟨⟨_,_,_,_,_⟩,k0,k1,k2,k3,k4⟩:=can5 HS2.out.k
    go_wp2
    obtain ⟨q0,q1,q2,q3,q4⟩:=HQ.out
    refine bodyPost_ret (v:=tkV ⟨2,0,n + 1,s.extract 1 (n + 1),0⟩) (by simp [results,Tryz.results135,go_sem,q0,q1,q2,q3,q4,tkV,tkF]) rfl ⟨by rw [HE.out],HB3.out⟩
   ·by_cases h34:c=34∧∃ p,Tok.strF (r.length + 1) 1 [] r=some p
    ·obtain ⟨rfl,⟨sz,t⟩,hst⟩:=h34
     have hTT:=fun W h=>str_any s W h hs hpos
     rw [hr,List.drop_succ_cons,List.drop_zero,← hlr,hst] at hTT
     have HE:=Lib.hid (show Tok.read s.data.toList=⟨4,0,sz,Tok.ofL t,0⟩ by rw [hr];exact Tok.read_str r hw0 hst)
     rw [strV_some] at hTT
     have HT:=Lib.hid hTT
     clear hTT hr hd1 hw0 hst h36
     generalize Tok.read s.data.toList=T at *
     generalize Tok.ofL t=tb at *
     go_enter Tryz.func135,Tryz.ntmps135
     go_wp2_with (fail)
     (go_at_call 133;with_reducible refine (HW.out _).mono ?_;rintro e w1 ⟨rfl,hB1⟩;have HS1:=Lib.hid (HS0.out.below hB1);have HV1:=Lib.hid (HV0.out.below hB1);clear hB1)
     go_wp2_with (fail)
     (go_at_call 208;refine (HT.out _ HV1.out).mono ?_;rintro e w2 ⟨rfl,hB2⟩;have HS2:=Lib.hid (HS1.out.below hB2);have HV2:=Lib.hid (HV1.out.below hB2);clear hB2)
     obtain ⟨W5,hW5⟩:∃ W5,w2.alloc (.cells #[.int .i64 4,.int .i64 0,.int .i64 sz,.string tb,.int .i64 0] 128)=W5:=⟨_,rfl⟩
     obtain ⟨m1,m2,m3⟩:=laid1 w2 (.cells #[.int .i64 4,.int .i64 0,.int .i64 sz,.string tb,.int .i64 0] 128)
     rw [hW5] at m1 m2 m3
     have HS5:=Lib.hid (HS2.out.below m3)
     obtain ⟨⟨j0,j1,j2,j3,j4⟩,_⟩:=can5 m1
     have t4:=set_stay (o:=4) (v:=.int .i64 0) m1 rfl
     obtain ⟨W3,hW3,hB3,q0,q1,q2,q3,q4⟩:=HS5.out.done (.int .i64 4) (.int .i64 0) (.int .i64 sz) (.string tb) (.int .i64 0)
     have HB3:=Lib.hid hB3
     have HQ:=Lib.hid (And.intro q0 (And.intro q1 (And.intro q2 (And.intro q3 q4))))
     clear hB3 q0 q1 q2 q3 q4
     obtain ⟨⟨_,_,_,_,_⟩,k0,k1,k2,k3,k4⟩:=can5 HS5.out.k
     go_wp2
     obtain ⟨q0,q1,q2,q3,q4⟩:=HQ.out
     refine bodyPost_ret (v:=tkV ⟨4,0,sz,tb,0⟩) (by simp [results,Tryz.results135,go_sem,q0,q1,q2,q3,q4,tkV,tkF]) rfl ⟨by rw [HE.out],HB3.out⟩
    ·refine HT9.out c r hr hc hw0 ?_ h36 h34
     rw [hr]
     refine Tok.read_tail c r hw0 h36 (fun h => ?_)
     cases hx:Tok.strF (r.length + 1) 1 [] r with
     | none=>rfl
     | some p=>exact absurd ⟨h,p,hx⟩ h34
end Go.Proofs.YtbbgjjjeecfnoaaGreatDoor
