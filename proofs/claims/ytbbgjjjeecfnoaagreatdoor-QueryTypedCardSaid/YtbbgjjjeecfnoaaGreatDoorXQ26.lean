/- The string that a text begins with: walked. -/
import Derived.Test.YtbbgjjjeecfnoaaGreatDoorXQR
namespace Go.Proofs.YtbbgjjjeecfnoaaGreatDoor
open Go.RowKit Go.Sort
open Tess (Tok)
theorem infoU8:(Tryz.prog.info? 5).map (fun i=>(i.zero,i.size,i.bytes))=some (some (.int .u8 0),1,1):=by kernel_rfl
theorem strF_end (f i:Nat) (acc:List UInt8):Tok.strF f i acc []=none:=by cases f <;> rfl
theorem strF_quote (f i:Nat) (acc r:List UInt8):Tok.strF (f + 1) i acc (34 :: r)=some (i + 1,acc):=rfl
theorem strF_bad (f i:Nat) (acc r:List UInt8) {c:UInt8} (h:c≠34) (h2:c.toNat < 32∨126 < c.toNat):Tok.strF (f + 1) i acc (c :: r)=none:=by
 show (if c=34 then _ else if c.toNat < 32∨126 < c.toNat then _ else _)=_
 rw [if_neg h,if_pos h2]
theorem strF_esc0 (f i:Nat) (acc r:List UInt8) (h:(Tok.escaped r).2=0):Tok.strF (f + 1) i acc (92 :: r)=none:=by
 show (if (Tok.escaped r).2=0 then _ else _)=_
 rw [if_pos h]
theorem strF_esc (f i:Nat) (acc r:List UInt8) (h:(Tok.escaped r).2≠0):Tok.strF (f + 1) i acc (92 :: r)=Tok.strF f (i + 1 + (Tok.escaped r).2) (acc ++ [(Tok.escaped r).1]) (r.drop (Tok.escaped r).2):=by
 show (if (Tok.escaped r).2=0 then _ else _)=_
 rw [if_neg h]
theorem strF_plain (f i:Nat) (acc r:List UInt8) {c:UInt8} (h:c≠34) (h2:¬ (c.toNat < 32∨126 < c.toNat)) (h3:c≠92):Tok.strF (f + 1) i acc (c :: r)=Tok.strF f (i + 1) (acc ++ [c]) r:=by
 show (if c=34 then _ else if c.toNat < 32∨126 < c.toNat then _ else if c=92 then _ else _)=_
 rw [if_neg h,if_neg h2,if_neg h3]
theorem esc_le (l:List UInt8):(Tok.escaped l).2≤l.length:=by
 unfold Tok.escaped
 split
 ·exact Nat.le_refl _
 ·split
  ·simp
  ·split
   ·split
    ·split
     ·simp
     ·exact Nat.zero_le _
    ·exact Nat.zero_le _
   ·exact Nat.zero_le _
theorem drop_byte (s:ByteArray) (i:Nat) (h:i < s.size):s.data.toList.drop i=s[i] :: s.data.toList.drop (i + 1):=by
 have hl:i < s.data.toList.length:=by rw [Array.length_toList];exact h
 rw [List.drop_eq_getElem_cons hl,bget' s i h]
def strV:Option (Nat×List UInt8)→Value
 | some (sz,t) => .tuple #[tkV ⟨4,0,sz,Tok.ofL t,0⟩,.bool true]
 | none => .tuple #[tkV ⟨0,0,0,ByteArray.empty,0⟩,.bool false]
abbrev tk0:Obj:=.cells #[.int .i64 0,.int .i64 0,.int .i64 0,.string ⟨#[]⟩,.int .i64 0] 128 (0,0)
structure StrAt (w:World) (v:Value) (acc:List UInt8) (W:World):Prop where
 b:Below w.heap.size w W
 k:W.heap[w.heap.size]? = some tk0
 o:W.ownsRow (w.heap.size + 1) 5 1 v acc.length (acc.map u8v)
theorem StrAt.lt {w W:World} {v:Value} {acc:List UInt8} (h:StrAt w v acc W):w.heap.size + 1≤W.heap.size:=(Array.getElem?_eq_some_iff.1 h.k).1
theorem StrAt.below {w W W':World} {v:Value} {acc:List UInt8} (h:StrAt w v acc W) (hb:Below W.heap.size W W'):StrAt w v acc W':=
 ⟨h.b.trans (hb.mono h.b.size),(hb.block _ h.lt).trans h.k,owns_below h.o hb⟩
theorem StrAt.app {w W W':World} {v v':Value} {acc:List UInt8} {c:UInt8} (h:StrAt w v acc W) (hg:W.grownBy W' v.ownBlock) (ho:W'.ownsRow (w.heap.size + 1) 5 1 v' (acc.length + 1) (acc.map u8v ++ [u8v c])):StrAt w v' (acc ++ [c]) W':=by
 have hl:=fun k e=>(h.o.lt k e).1
 refine ⟨h.b.grown hg h.b.size (fun k e=>by have:=hl k e;omega),(hg.block _ h.lt (fun e=>by have:=hl _ e.symm;omega)).trans h.k,?_⟩
 rw [List.length_append,List.map_append]
 exact ho
theorem StrAt.done {w W:World} {v:Value} {acc:List UInt8} (h:StrAt w v acc W) (y0 y1 y2 y3 y4:Value):∃ W3,(((((W.setCell ⟨w.heap.size,0,none⟩ y0).setCell ⟨w.heap.size,1,none⟩ y1).setCell ⟨w.heap.size,2,none⟩ y2).setCell ⟨w.heap.size,3,none⟩ y3).setCell ⟨w.heap.size,4,none⟩ y4)=W3∧Below w.heap.size w W3 ∧
  (W3.cell? ⟨w.heap.size,0,none⟩=some y0∧W3.cell? ⟨w.heap.size,1,none⟩=some y1∧W3.cell? ⟨w.heap.size,2,none⟩=some y2∧W3.cell? ⟨w.heap.size,3,none⟩=some y3∧W3.cell? ⟨w.heap.size,4,none⟩=some y4):=by
 obtain ⟨W3,hW3,b1,b2,b3,b4⟩:=box5 y0 y1 y2 y3 y4 h.k
 exact ⟨W3,hW3,b4 w h.b (Nat.le_refl _),(can5 b1).1⟩
set_option maxRecDepth 100000 in
set_option maxHeartbeats 4000000 in
theorem str_any (s:ByteArray) (w:World) (hV:Vz w) (hs:s.size≤1099511627776) (h0:0 < s.size) :
  Calls Tryz.prog 208 #[.string s] w fun e w'=>e = .returned (strV (Tok.strF s.size 1 [] (s.data.toList.drop 1)))∧Below w.heap.size w w':=by
 obtain ⟨R,hR⟩:∃ R,R=Tok.strF s.size 1 [] (s.data.toList.drop 1):=⟨_,rfl⟩
 rw [← hR]
 have HV:=Lib.hid hV
 have hl:s.data.toList.length=s.size:=Array.length_toList
 have hS0:StrAt w (.slice none 0 0) [] (w.alloc tk0):=by
  obtain ⟨l1,l2,l3⟩:=laid1 w tk0
  exact ⟨l3,l1,World.ownsRow_nil _ _ _ _⟩
 have HS0:=Lib.hid hS0
 have HR:=Lib.hid hR
 have HL:=Lib.hid hl
 clear hV hS0 hR hl
 go_enter Tryz.func208,Tryz.ntmps208
 go_wp2
 go_loopw [4,5] (fun v x wr => ∃ (i f:Nat) (acc:List UInt8),x = .int .i64 i∧1≤i∧i≤s.size∧s.size - i < f∧acc.length < i∧R=Tok.strF f i acc (s.data.toList.drop i)∧StrAt w v acc wr) (fun _ x _=>s.size - (intOf x).toNat)
 case atStart=>exact ⟨1,s.size,[],rfl,Nat.le_refl _,by omega,by omega,by simp,HR.out,HS0.out⟩
 case round=>
  obtain ⟨i,f,acc,rfl,hi1,hi,hf,hal,hRi,hS⟩:=hrel
  have HS:=Lib.hid hS
  obtain ⟨⟨_,_,_,_,_⟩,k0,k1,k2,k3,k4⟩:=can5 hS.k
  have hwl:=hS.lt
  obtain ⟨i0,hi0,hz0,hz1,hz2⟩:=info_parts infoU8
  obtain ⟨f,rfl⟩:∃ f',f=f' + 1:=⟨f - 1,by omega⟩
  by_cases hlt:i < s.size
  ·have hlti:(i:Int) < (s.size:Int):=by omega
   rw [drop_byte s i hlt] at hRi
   obtain ⟨c,hc⟩:∃ c,s[i]=c:=⟨_,rfl⟩
   rw [hc] at hRi
   have h256:=c.toNat_lt
   by_cases h1:c=34
   ·subst h1
    rw [strF_quote] at hRi
    have HRi:=Lib.hid hRi
    clear hRi hS
    obtain ⟨W3,hW3,hB3,q0,q1,q2,q3,q4⟩:=HS.out.done (.int .i64 4) (.int .i64 0) (.int .i64 ((i:Int) + 1)) (.string ⟨acc.toArray⟩) (.int .i64 0)
    have HO:=Lib.hid HS.out.o
    have HB3:=Lib.hid hB3
    have HQ:=Lib.hid (And.intro q0 (And.intro q1 (And.intro q2 (And.intro q3 q4))))
    clear hB3 q0 q1 q2 q3 q4
    go_wp2_with (with_reducible refine at_conv 276 9 ?_;refine wpList_bytes_string_own _ _ 5 _ rfl Tryz.underlying276 Tryz.underlying5 Tryz.underlying9 _ _ _ rfl _ HO.out ?_)
    obtain ⟨q0,q1,q2,q3,q4⟩:=HQ.out
    refine bodyPost_ret (v:=strV (some (i + 1,acc))) (by simp [results,Tryz.results208,go_sem,q0,q1,q2,q3,q4,strV,tkV,tkF,Tok.ofL]) rfl ⟨by rw [HRi.out],HB3.out⟩
   ·have n34:c.toNat≠34:=fun e=>h1 (UInt8.toNat_inj.1 e)
    have e34:((c.toNat:Int) == 34)=false:=by rw [beq_eq_false_iff_ne];omega
    by_cases h2:c.toNat < 32∨126 < c.toNat
    ·rw [strF_bad _ _ _ _ h1 h2] at hRi
     have HRi:=Lib.hid hRi
     clear hRi hS h1
     generalize hC:c.toNat=C at *
     obtain ⟨W3,hW3,hB3,q0,q1,q2,q3,q4⟩:=HS.out.done (.int .i64 0) (.int .i64 0) (.int .i64 0) (.string ⟨#[]⟩) (.int .i64 0)
     have HB3:=Lib.hid hB3
     have HQ:=Lib.hid (And.intro q0 (And.intro q1 (And.intro q2 (And.intro q3 q4))))
     clear hB3 q0 q1 q2 q3 q4
     have h2i:((C:Int) < 32)∨(¬ ((C:Int) < 32)∧(126:Int) < (C:Int)):=by omega
     clear h2
     rcases h2i with h2i | ⟨h2i,h2j⟩
     all_goals
      go_wp2
      obtain ⟨q0,q1,q2,q3,q4⟩:=HQ.out
      refine bodyPost_ret (v:=strV none) (by simp [results,Tryz.results208,go_sem,q0,q1,q2,q3,q4,strV,tkV,tkF];rfl) rfl ⟨by rw [HRi.out],HB3.out⟩
    ·have h2i:¬ ((c.toNat:Int) < 32):=by omega
     have h2j:¬ ((126:Int) < (c.toNat:Int)):=by omega
     by_cases h3:c=92
     ·subst h3
      have HE:=Lib.hid (fun W (h:Vz W)=>escaped_any (s.extract (i + 1) s.size) W h (by simp;omega))
      rw [data_drop] at HE
      have hle:=esc_le (s.data.toList.drop (i + 1))
      rw [List.length_drop,HL.out] at hle
      have HV1:=Lib.hid (HV.out.below HS.out.b)
      by_cases h4:(Tok.escaped (s.data.toList.drop (i + 1))).2=0
      ·rw [strF_esc0 _ _ _ _ h4] at hRi
       have HRi:=Lib.hid hRi
       have HK:=Lib.hid h4
       clear hRi hS h1 h4 hle
       obtain ⟨x,hx⟩:∃ x,Tok.escaped (s.data.toList.drop (i + 1))=(x,0):=⟨(Tok.escaped (s.data.toList.drop (i + 1))).1,by rw [← HK.out]⟩
       rw [hx] at HE
       unfold escV at HE
       clear hx HK
       have hlt1:(i:Int) + 1≤(s.size:Int):=by omega
       go_wp2_with (fail)
       go_at_call 262
       refine (HE.out _ HV1.out).mono ?_
       rintro e w2 ⟨rfl,hB2⟩
       have HS2:=Lib.hid (HS.out.below hB2)
       clear hB2 k0 k1 k2 k3 k4
       obtain ⟨⟨_,_,_,_,_⟩,k0,k1,k2,k3,k4⟩:=can5 HS2.out.k
       obtain ⟨W3,hW3,hB3,q0,q1,q2,q3,q4⟩:=HS2.out.done (.int .i64 0) (.int .i64 0) (.int .i64 0) (.string ⟨#[]⟩) (.int .i64 0)
       have HB3:=Lib.hid hB3
       have HQ:=Lib.hid (And.intro q0 (And.intro q1 (And.intro q2 (And.intro q3 q4))))
       clear hB3 q0 q1 q2 q3 q4
       go_wp2
       obtain ⟨q0,q1,q2,q3,q4⟩:=HQ.out
       refine bodyPost_ret (v:=strV none) (by simp [results,Tryz.results208,go_sem,q0,q1,q2,q3,q4,strV,tkV,tkF];rfl) rfl ⟨by rw [HRi.out],HB3.out⟩
      ·rw [strF_esc _ _ _ _ h4,List.drop_drop] at hRi
       have HRi:=Lib.hid hRi
       clear hRi hS h1
       obtain ⟨⟨x,z⟩,hx⟩:∃ p,Tok.escaped (s.data.toList.drop (i + 1))=p:=⟨_,rfl⟩
       rw [hx] at HE HRi h4 hle
       unfold escV at HE
       simp only at HE HRi h4 hle
       clear hx
       have hlt1:(i:Int) + 1≤(s.size:Int):=by omega
       have e0:((z:Int) == 0)=false:=by rw [beq_eq_false_iff_ne];omega
       have HU:=Lib.hid (show u8v x = .int .u8 (x.toNat:Int) from rfl)
       generalize hX:x.toNat=X at *
       go_wp2_with (fail)
       go_at_call 262
       refine (HE.out _ HV1.out).mono ?_
       rintro e w2 ⟨rfl,hB2⟩
       have HS2:=Lib.hid (HS.out.below hB2)
       clear hB2 k0 k1 k2 k3 k4
       have hwl2:=HS2.out.lt
       go_wp2_with (at_builtin;refine wpList_append_own _ rfl _ _ 276 rfl (w.heap.size + 1) 5 i0 (.int .u8 0) 1 1 Tryz.underlying276 hi0 hz0 hz1 hz2 rfl (by decide) _ _ _ rfl (HS2.out.o.alloc _) ⟨w2.heap.size,0,none⟩ 1 1 [.int .u8 X] rfl rfl ?c1 (by simp [Value.oneCell']) (by unfold maxLen;omega) (by omega) (by simp;omega) ?_)
       case c1=>intro j u hj;rcases j with _ | j <;> simp at hj;subst hj;simp [Addr.add]
       intro v' w3 hown1 hgrow _
       rw [← HU.out] at hown1
       have H1:=Lib.hid ((HS2.out.below ((Below.refl _ _).alloc (Nat.le_refl _) _)).app hgrow hown1)
       clear hown1 hgrow
       go_wp2
       go_roundw
       case rel=>exact ⟨i + 1 + z,f,acc ++ [x],by go_num,by omega,by omega,by omega,by simp;omega,HRi.out,H1.out⟩
       case measure=>simp [intOf];omega
     ·rw [strF_plain _ _ _ _ h1 h2 h3] at hRi
      have HRi:=Lib.hid hRi
      have n92:c.toNat≠92:=fun e=>h3 (UInt8.toNat_inj.1 e)
      have e92:((c.toNat:Int) == 92)=false:=by rw [beq_eq_false_iff_ne];omega
      have HU:=Lib.hid (show u8v c = .int .u8 (c.toNat:Int) from rfl)
      clear hRi hS h1 h2 h3
      generalize hC:c.toNat=C at *
      go_wp2_with (at_builtin;refine wpList_append_own _ rfl _ _ 276 rfl (w.heap.size + 1) 5 i0 (.int .u8 0) 1 1 Tryz.underlying276 hi0 hz0 hz1 hz2 rfl (by decide) _ _ _ rfl (HS.out.o.alloc _) ⟨wr.heap.size,0,none⟩ 1 1 [.int .u8 C] rfl rfl ?c1 (by simp [Value.oneCell']) (by unfold maxLen;omega) (by omega) (by simp;omega) ?_)
      intro v' w1 hown1 hgrow _
      rw [← HU.out] at hown1
      have H1:=Lib.hid ((HS.out.below ((Below.refl _ _).alloc (Nat.le_refl _) _)).app hgrow hown1)
      clear hown1 hgrow
      go_wp2
      go_roundw
      case rel=>exact ⟨i + 1,f,acc ++ [c],by go_num,by omega,by omega,by omega,by simp;omega,HRi.out,H1.out⟩
      case measure=>simp [intOf];omega
  ·obtain rfl:i=s.size:=by omega
   rw [List.drop_of_length_le (by rw [HL.out];exact Nat.le_refl _),strF_end] at hRi
   have HRi:=Lib.hid hRi
   clear hRi hS
   obtain ⟨W3,hW3,hB3,q0,q1,q2,q3,q4⟩:=HS.out.done (.int .i64 0) (.int .i64 0) (.int .i64 0) (.string ⟨#[]⟩) (.int .i64 0)
   have HB3:=Lib.hid hB3
   have HQ:=Lib.hid (And.intro q0 (And.intro q1 (And.intro q2 (And.intro q3 q4))))
   clear hB3 q0 q1 q2 q3 q4
   go_wp2
   obtain ⟨q0,q1,q2,q3,q4⟩:=HQ.out
   refine bodyPost_ret (v:=strV none) (by simp [results,Tryz.results208,go_sem,q0,q1,q2,q3,q4,strV,tkV,tkF];rfl) rfl ⟨by rw [HRi.out],HB3.out⟩
end Go.Proofs.YtbbgjjjeecfnoaaGreatDoor
