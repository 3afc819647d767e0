/- The tokenizer: letters, digits, while: walked. Written by genQ22.py. -/
import Derived.Test.YtbbgjjjeecfnoaaGreatDoorXPB
import Derived.Test.YtbbgjjjeecfnoaaGreatDoorXFA
namespace Go.Proofs.YtbbgjjjeecfnoaaGreatDoor
open Go.RowKit Go.Sort
open Tess (Tok)
def rLet (r:Int):Bool:=decide (97≤r) && decide (r≤122)
def rDig (r:Int):Bool:=decide (48≤r) && decide (r≤57)
theorem isLetter_any (r:Int) (w:World):Calls Tryz.prog 205 #[.int .i32 r] w fun e w'=>e = .returned (.bool (rLet r))∧w=w':=by
 unfold rLet
 rcases (show r < 97∨(97≤r∧r≤122)∨122 < r by omega) with h | ⟨h1,h2⟩ | h
 ·have e1:decide (97≤r)=false:=decide_eq_false (by omega)
  rw [e1,Bool.false_and]
  have h1:¬ (97≤r):=by omega
  go_enter Tryz.func205,Tryz.ntmps205
  go_wp2
  go_ret
  exact ⟨rfl,rfl⟩
 ·have e1:decide (97≤r)=true:=decide_eq_true h1
  have e2:decide (r≤122)=true:=decide_eq_true h2
  rw [e1,e2]
  go_enter Tryz.func205,Tryz.ntmps205
  go_wp2
  go_ret
  exact ⟨rfl,rfl⟩
 ·have e1:decide (97≤r)=true:=decide_eq_true (by omega)
  have e2:decide (r≤122)=false:=decide_eq_false (by omega)
  rw [e1,e2]
  go_enter Tryz.func205,Tryz.ntmps205
  go_wp2
  go_ret
  exact ⟨rfl,rfl⟩
theorem isDigit_any (r:Int) (w:World):Calls Tryz.prog 207 #[.int .i32 r] w fun e w'=>e = .returned (.bool (rDig r))∧w=w':=by
 unfold rDig
 rcases (show r < 48∨(48≤r∧r≤57)∨57 < r by omega) with h | ⟨h1,h2⟩ | h
 ·have e1:decide (48≤r)=false:=decide_eq_false (by omega)
  rw [e1,Bool.false_and]
  go_enter Tryz.func207,Tryz.ntmps207
  go_wp2
  go_ret
  exact ⟨rfl,rfl⟩
 ·have e1:decide (48≤r)=true:=decide_eq_true h1
  have e2:decide (r≤57)=true:=decide_eq_true h2
  rw [e1,e2]
  go_enter Tryz.func207,Tryz.ntmps207
  go_wp2
  go_ret
  exact ⟨rfl,rfl⟩
 ·have e1:decide (48≤r)=true:=decide_eq_true (by omega)
  have e2:decide (r≤57)=false:=decide_eq_false (by omega)
  rw [e1,e2]
  go_enter Tryz.func207,Tryz.ntmps207
  go_wp2
  go_ret
  exact ⟨rfl,rfl⟩
theorem blank_clo (k:Nat) (r:Int) (w:World):Calls Tryz.prog 134 #[.int .i64 k,.int .i32 r] w fun e w'=>e = .returned (.bool (r == 32))∧w=w':=by
 go_enter Tryz.func134,Tryz.ntmps134
 go_wp2
 go_ret
 exact ⟨rfl,rfl⟩
theorem word_clo (k:Nat) (r:Int) (w:World):Calls Tryz.prog 204 #[.int .i64 k,.int .i32 r] w fun e w'=>e = .returned (.bool (rLet r))∧w=w':=by
 have HL:=Lib.hid (isLetter_any r)
 go_enter Tryz.func204,Tryz.ntmps204
 go_wp2_with (go_at_call 205;refine (HL.out _).mono ?_;rintro e w2 ⟨rfl,rfl⟩)
 go_ret
 exact ⟨rfl,rfl⟩
def rName (k:Nat) (r:Int):Bool:=rLet r || (decide (0 < k) && (rDig r || r == 95))
set_option maxRecDepth 100000 in
theorem name_clo (k:Nat) (r:Int) (w:World):Calls Tryz.prog 206 #[.int .i64 k,.int .i32 r] w fun e w'=>e = .returned (.bool (rName k r))∧w=w':=by
 have HL:=Lib.hid (isLetter_any r)
 have HD:=Lib.hid (isDigit_any r)
 unfold rName
 cases h1:rLet r
 ·rw [h1] at HL
  rcases (show k=0∨0 < k by omega) with rfl | h0
  ·go_enter Tryz.func206,Tryz.ntmps206
   go_wp2_with (first | (go_at_call 205;refine (HL.out _).mono ?_;rintro e w2 ⟨rfl,rfl⟩) | (go_at_call 207;refine (HD.out _).mono ?_;rintro e w2 ⟨rfl,rfl⟩))
   go_ret
   exact ⟨rfl,rfl⟩
  ·have e0:decide (0 < k)=true:=decide_eq_true h0
   have e1:(0:Int) < k:=by omega
   cases h2:rDig r
   ·rw [h2] at HD
    rw [e0]
    go_enter Tryz.func206,Tryz.ntmps206
    go_wp2_with (first | (go_at_call 205;refine (HL.out _).mono ?_;rintro e w2 ⟨rfl,rfl⟩) | (go_at_call 207;refine (HD.out _).mono ?_;rintro e w2 ⟨rfl,rfl⟩))
    go_ret
    exact ⟨rfl,rfl⟩
   ·rw [h2] at HD
    rw [e0]
    go_enter Tryz.func206,Tryz.ntmps206
    go_wp2_with (first | (go_at_call 205;refine (HL.out _).mono ?_;rintro e w2 ⟨rfl,rfl⟩) | (go_at_call 207;refine (HD.out _).mono ?_;rintro e w2 ⟨rfl,rfl⟩))
    go_ret
    exact ⟨rfl,rfl⟩
 ·rw [h1] at HL
  go_enter Tryz.func206,Tryz.ntmps206
  go_wp2_with (first | (go_at_call 205;refine (HL.out _).mono ?_;rintro e w2 ⟨rfl,rfl⟩) | (go_at_call 207;refine (HD.out _).mono ?_;rintro e w2 ⟨rfl,rfl⟩))
  go_ret
  exact ⟨rfl,rfl⟩
def rNum (k:Nat) (r:Int):Bool:=rDig r || (decide (k=0) && r == 45)
set_option maxRecDepth 100000 in
theorem num_clo (k:Nat) (r:Int) (w:World):Calls Tryz.prog 263 #[.int .i64 k,.int .i32 r] w fun e w'=>e = .returned (.bool (rNum k r))∧w=w':=by
 have HD:=Lib.hid (isDigit_any r)
 unfold rNum
 cases h1:rDig r
 ·rw [h1] at HD
  rcases (show k=0∨0 < k by omega) with rfl | h0
  ·go_enter Tryz.func263,Tryz.ntmps263
   go_wp2_with (go_at_call 207;refine (HD.out _).mono ?_;rintro e w2 ⟨rfl,rfl⟩)
   go_ret
   exact ⟨rfl,rfl⟩
  ·have e0:decide (k=0)=false:=decide_eq_false (by omega)
   have e1:((k:Int) == 0)=false:=by rw [beq_eq_false_iff_ne];omega
   rw [e0]
   go_enter Tryz.func263,Tryz.ntmps263
   go_wp2_with (go_at_call 207;refine (HD.out _).mono ?_;rintro e w2 ⟨rfl,rfl⟩)
   go_ret
   exact ⟨rfl,rfl⟩
 ·rw [h1] at HD
  go_enter Tryz.func263,Tryz.ntmps263
  go_wp2_with (go_at_call 207;refine (HD.out _).mono ?_;rintro e w2 ⟨rfl,rfl⟩)
  go_ret
  exact ⟨rfl,rfl⟩
theorem whileL_eq (p:Nat→UInt8→Bool) (l:List UInt8):∀ (i k:Nat),k≤l.length→(∀ j (h:j < l.length),j < k→p (i + j) l[j]=true)→(∀ h:k < l.length,p (i + k) l[k]=false)→Tok.whileL p i l=k:=by
 induction l with
 | nil=>intro i k hk _ _;simp at hk;subst hk;rfl
 | cons c r ih=>
   intro i k hk h1 h2
   show (if p i c then 1 + Tok.whileL p (i + 1) r else 0)=k
   cases k with
   | zero=>
     have:=h2 (Nat.succ_pos _)
     rw [if_neg]
     simpa using this
   | succ k=>
     have h0:p i c=true:=h1 0 (Nat.succ_pos _) (Nat.succ_pos _)
     rw [if_pos h0,ih (i + 1) k (by simpa using hk) (fun j hj hjk=>by have:=h1 (j + 1) (by simpa using hj) (by omega);rw [show i + 1 + j=i + (j + 1) by omega];simpa using this) (fun hj=>by have:=h2 (by simpa using hj);rw [show i + 1 + k=i + (k + 1) by omega];simpa using this)]
     omega
theorem rLet_byte (c:UInt8):rLet (c.toNat:Int)=Tok.isLet c:=by unfold rLet Tok.isLet;congr 1 <;> exact decide_eq_decide.2 (by omega)
theorem rDig_byte (c:UInt8):rDig (c.toNat:Int)=Tok.isDig c:=by unfold rDig Tok.isDig;congr 1 <;> exact decide_eq_decide.2 (by omega)
theorem rLet_high {r:Int} (h:128≤r):rLet r=false:=by unfold rLet;rw [decide_eq_false (show ¬ r≤122 by omega),Bool.and_false]
theorem rDig_high {r:Int} (h:128≤r):rDig r=false:=by unfold rDig;rw [decide_eq_false (show ¬ r≤57 by omega),Bool.and_false]
theorem eq_byte (c:UInt8) (m:Nat) (hm:m < 256):(((c.toNat:Int)) == (m:Int))=(c == UInt8.ofNat m):=by
 rw [Bool.eq_iff_iff,beq_iff_eq,beq_iff_eq]
 constructor
 ·intro h
  have:c.toNat=m:=by omega
  rw [← this];simp
 ·intro h
  rw [h,UInt8.toNat_ofNat']
  omega
theorem high_ne {r:Int} (h:128≤r) (m:Int) (hm:m < 128):(r == m)=false:=by rw [beq_eq_false_iff_ne];omega
theorem let_high {c:UInt8} (h:128≤c.toNat):Tok.isLet c=false:=by unfold Tok.isLet;rw [decide_eq_false (show ¬ c.toNat≤122 by omega),Bool.and_false]
theorem dig_high {c:UInt8} (h:128≤c.toNat):Tok.isDig c=false:=by unfold Tok.isDig;rw [decide_eq_false (show ¬ c.toNat≤57 by omega),Bool.and_false]
theorem byte_ne {c:UInt8} (h:128≤c.toNat) (m:UInt8) (hm:m.toNat < 128):(c == m)=false:=by rw [beq_eq_false_iff_ne];intro e;subst e;omega
theorem bget' (s:ByteArray) (j:Nat) (h:j < s.size):s.data.toList[j]'(by simpa using h)=s[j]:=by simp;rfl
set_option maxRecDepth 100000 in
set_option maxHeartbeats 2000000 in
theorem while_blank (s:ByteArray) (w:World) :
  Calls Tryz.prog 133 #[.string s,.func (.func 134) #[] #[]] w fun e w'=>e = .returned (.int .i64 (Tok.whileL Tok.pBlank 0 s.data.toList))∧Below w.heap.size w w':=by
 have hrs:=@run_range_string Tryz.prog w 9 s Tryz.underlying9
 have hl:s.data.toList.length=s.size:=Array.length_toList
 have hat:∀ j (h:j < s.data.toList.length),s.data.toList[j]=s[j]'(by omega):=fun j h=>bget' s j (by omega)
 have HHI:RowKit.Hid (∀ (k:Nat) (r:Int),128≤r→(r == 32)=false):=Lib.hid (fun _ r h=>high_ne h 32 (by decide))
 have HBY:RowKit.Hid (∀ (k:Nat) (c:UInt8),(((c.toNat:Nat):Int) == 32)=Tok.pBlank k c):=Lib.hid (fun k c=>eq_byte c 32 (by decide))
 have HPH:RowKit.Hid (∀ (k:Nat) (c:UInt8),128≤c.toNat→Tok.pBlank k c=false):=Lib.hid (fun k c h=>byte_ne h 32 (by decide))
 obtain ⟨W0,hW0⟩:∃ W0,W0=Tok.whileL Tok.pBlank 0 s.data.toList:=⟨_,rfl⟩
 rw [← hW0]
 have HW:RowKit.Hid (∀ k,k≤s.size→(∀ j (h:j < s.size),j < k→Tok.pBlank j s[j]=true)→(∀ h:k < s.size,Tok.pBlank k s[k]=false)→W0=k):=Lib.hid (fun k hk h1 h2=>by
  rw [hW0]
  refine whileL_eq Tok.pBlank s.data.toList 0 k (by omega) (fun j hj hjk => ?_) (fun hk' => ?_)
  ·rw [Nat.zero_add,hat j hj];exact h1 j (by omega) hjk
  ·rw [Nat.zero_add,hat k hk'];exact h2 (by omega))
 clear hW0 hat hl
 go_enter Tryz.func133,Tryz.ntmps133
 go_wp2
 refine wp_scope_straight ?_
 go_wp2
 refine wp_label ?_
 go_wp2
 go_loopw [5] (fun b wr => ∃ k:Nat,k≤s.size∧b = .int .i64 s.size∧wr=w.iter s k∧∀ j (h:j < s.size),j < k→Tok.pBlank j s[j]=true) (fun _ wr=>s.size - wr.iterPos w.heap.size)
 case atStart=>exact ⟨0,Nat.zero_le _,rfl,rfl,fun j _ h=>absurd h (by omega)⟩
 case round=>
  obtain ⟨k,hk,rfl,rfl,hN⟩:=hrel
  have HN:=Lib.hid hN
  clear hN
  by_cases hlt:k < s.size
  ·obtain ⟨c,hc⟩:∃ c,c=s[k]:=⟨_,rfl⟩
   cases hp:Tok.pBlank k c with
   | true=>
     have h128:c.toNat < 128:=by
      rcases Nat.lt_or_ge c.toNat 128 with h | h
      ·exact h
      ·rw [HPH.out k c h] at hp;cases hp
     have hnx:=fun ty=>run_next_ascii (P:=Tryz.prog) w s k ty hlt (by rw [← hc];exact h128)
     rw [← hc] at hnx
     have HCL:=Lib.hid (fun W=>blank_clo k ((c.toNat:Nat):Int) W)
     rw [HBY.out k c,hp] at HCL
     have HGO:RowKit.Hid (∀ j (h:j < s.size),j < k + 1→Tok.pBlank j s[j]=true):=Lib.hid (fun j hj hjk=>by
      by_cases e:j < k
      ·exact HN.out j hj e
      ·obtain rfl:j=k:=by omega
       rw [← hc];exact hp)
     clear hrs hc hp h128
     go_wp2_with (go_at_call 134;refine (HCL.out _).mono ?_;rintro e w2 ⟨rfl,rfl⟩)
     exact ⟨⟨k + 1,by omega,rfl,rfl,HGO.out⟩,by simp only [World.iterPos_iter];omega⟩
   | false=>
     have HE:=Lib.hid (HW.out k hk HN.out (fun _=>by rw [← hc];exact hp))
     obtain ⟨r,n,hnx,hr⟩:∃ (r:Int) (n:Nat),(∀ ty,(Instr.next (.pointer (some ⟨w.heap.size,0,none⟩)) true ty).run Tryz.prog (w.iter s k) = .ok (.tuple #[.bool true,.int .i64 k,.int .i32 r]) (w.iter s (k + n)))∧(r == 32)=false:=by
      rcases Nat.lt_or_ge c.toNat 128 with h | h
      ·refine ⟨((c.toNat:Nat):Int),1,fun ty => ?_,?_⟩
       ·have:=run_next_ascii (P:=Tryz.prog) w s k ty hlt (by rw [← hc];exact h)
        rw [← hc] at this
        exact this
       ·exact (HBY.out k c).trans hp
      ·refine ⟨(((Utf8.decode s k).1:Nat):Int),(Utf8.decode s k).2,fun ty=>run_next_any (P:=Tryz.prog) w s k ty hlt,?_⟩
       have:=(decode_high s k hlt (by rw [← hc];exact h)).1
       exact HHI.out k _ (by omega)
     have HCL:=Lib.hid (fun W=>blank_clo k r W)
     rw [hr] at HCL
     clear hrs hc hp hr
     go_wp2_with (go_at_call 134;refine (HCL.out _).mono ?_;rintro e w2 ⟨rfl,rfl⟩)
     try rw [Exit.noGoto_ret]
     go_ret
     exact ⟨by rw [HE.out];rfl,iter_below _ _ _⟩
  ·have hnx:=fun ty=>run_next_end (P:=Tryz.prog) w s k ty hlt
   obtain rfl:k=s.size:=by omega
   have HE:=Lib.hid (HW.out s.size (Nat.le_refl _) HN.out (fun h=>absurd h (Nat.lt_irrefl _)))
   go_wp2
   try rw [Exit.noGoto_ret]
   go_ret
   exact ⟨by rw [HE.out];rfl,iter_below _ _ _⟩
set_option maxRecDepth 100000 in
set_option maxHeartbeats 2000000 in
theorem while_word (s:ByteArray) (w:World) :
  Calls Tryz.prog 133 #[.string s,.func (.func 204) #[] #[]] w fun e w'=>e = .returned (.int .i64 (Tok.whileL Tok.pWord 0 s.data.toList))∧Below w.heap.size w w':=by
 have hrs:=@run_range_string Tryz.prog w 9 s Tryz.underlying9
 have hl:s.data.toList.length=s.size:=Array.length_toList
 have hat:∀ j (h:j < s.data.toList.length),s.data.toList[j]=s[j]'(by omega):=fun j h=>bget' s j (by omega)
 have HHI:RowKit.Hid (∀ (k:Nat) (r:Int),128≤r→rLet r=false):=Lib.hid (fun _ r h=>rLet_high h)
 have HBY:RowKit.Hid (∀ (k:Nat) (c:UInt8),rLet ((c.toNat:Nat):Int)=Tok.pWord k c):=Lib.hid (fun k c=>rLet_byte c)
 have HPH:RowKit.Hid (∀ (k:Nat) (c:UInt8),128≤c.toNat→Tok.pWord k c=false):=Lib.hid (fun k c h=>let_high h)
 obtain ⟨W0,hW0⟩:∃ W0,W0=Tok.whileL Tok.pWord 0 s.data.toList:=⟨_,rfl⟩
 rw [← hW0]
 have HW:RowKit.Hid (∀ k,k≤s.size→(∀ j (h:j < s.size),j < k→Tok.pWord j s[j]=true)→(∀ h:k < s.size,Tok.pWord k s[k]=false)→W0=k):=Lib.hid (fun k hk h1 h2=>by
  rw [hW0]
  refine whileL_eq Tok.pWord s.data.toList 0 k (by omega) (fun j hj hjk => ?_) (fun hk' => ?_)
  ·rw [Nat.zero_add,hat j hj];exact h1 j (by omega) hjk
  ·rw [Nat.zero_add,hat k hk'];exact h2 (by omega))
 clear hW0 hat hl
 go_enter Tryz.func133,Tryz.ntmps133
 go_wp2
 refine wp_scope_straight ?_
 go_wp2
 refine wp_label ?_
 go_wp2
 go_loopw [5] (fun b wr => ∃ k:Nat,k≤s.size∧b = .int .i64 s.size∧wr=w.iter s k∧∀ j (h:j < s.size),j < k→Tok.pWord j s[j]=true) (fun _ wr=>s.size - wr.iterPos w.heap.size)
 case atStart=>exact ⟨0,Nat.zero_le _,rfl,rfl,fun j _ h=>absurd h (by omega)⟩
 case round=>
  obtain ⟨k,hk,rfl,rfl,hN⟩:=hrel
  have HN:=Lib.hid hN
  clear hN
  by_cases hlt:k < s.size
  ·obtain ⟨c,hc⟩:∃ c,c=s[k]:=⟨_,rfl⟩
   cases hp:Tok.pWord k c with
   | true=>
     have h128:c.toNat < 128:=by
      rcases Nat.lt_or_ge c.toNat 128 with h | h
      ·exact h
      ·rw [HPH.out k c h] at hp;cases hp
     have hnx:=fun ty=>run_next_ascii (P:=Tryz.prog) w s k ty hlt (by rw [← hc];exact h128)
     rw [← hc] at hnx
     have HCL:=Lib.hid (fun W=>word_clo k ((c.toNat:Nat):Int) W)
     rw [HBY.out k c,hp] at HCL
     have HGO:RowKit.Hid (∀ j (h:j < s.size),j < k + 1→Tok.pWord j s[j]=true):=Lib.hid (fun j hj hjk=>by
      by_cases e:j < k
      ·exact HN.out j hj e
      ·obtain rfl:j=k:=by omega
       rw [← hc];exact hp)
     clear hrs hc hp h128
     go_wp2_with (go_at_call 204;refine (HCL.out _).mono ?_;rintro e w2 ⟨rfl,rfl⟩)
     exact ⟨⟨k + 1,by omega,rfl,rfl,HGO.out⟩,by simp only [World.iterPos_iter];omega⟩
   | false=>
     have HE:=Lib.hid (HW.out k hk HN.out (fun _=>by rw [← hc];exact hp))
     obtain ⟨r,n,hnx,hr⟩:∃ (r:Int) (n:Nat),(∀ ty,(Instr.next (.pointer (some ⟨w.heap.size,0,none⟩)) true ty).run Tryz.prog (w.iter s k) = .ok (.tuple #[.bool true,.int .i64 k,.int .i32 r]) (w.iter s (k + n)))∧rLet r=false:=by
      rcases Nat.lt_or_ge c.toNat 128 with h | h
      ·refine ⟨((c.toNat:Nat):Int),1,fun ty => ?_,?_⟩
       ·have:=run_next_ascii (P:=Tryz.prog) w s k ty hlt (by rw [← hc];exact h)
        rw [← hc] at this
        exact this
       ·exact (HBY.out k c).trans hp
      ·refine ⟨(((Utf8.decode s k).1:Nat):Int),(Utf8.decode s k).2,fun ty=>run_next_any (P:=Tryz.prog) w s k ty hlt,?_⟩
       have:=(decode_high s k hlt (by rw [← hc];exact h)).1
       exact HHI.out k _ (by omega)
     have HCL:=Lib.hid (fun W=>word_clo k r W)
     rw [hr] at HCL
     clear hrs hc hp hr
     go_wp2_with (go_at_call 204;refine (HCL.out _).mono ?_;rintro e w2 ⟨rfl,rfl⟩)
     try rw [Exit.noGoto_ret]
     go_ret
     exact ⟨by rw [HE.out];rfl,iter_below _ _ _⟩
  ·have hnx:=fun ty=>run_next_end (P:=Tryz.prog) w s k ty hlt
   obtain rfl:k=s.size:=by omega
   have HE:=Lib.hid (HW.out s.size (Nat.le_refl _) HN.out (fun h=>absurd h (Nat.lt_irrefl _)))
   go_wp2
   try rw [Exit.noGoto_ret]
   go_ret
   exact ⟨by rw [HE.out];rfl,iter_below _ _ _⟩
set_option maxRecDepth 100000 in
set_option maxHeartbeats 2000000 in
theorem while_name (s:ByteArray) (w:World) :
  Calls Tryz.prog 133 #[.string s,.func (.func 206) #[] #[]] w fun e w'=>e = .returned (.int .i64 (Tok.whileL Tok.pName 0 s.data.toList))∧Below w.heap.size w w':=by
 have hrs:=@run_range_string Tryz.prog w 9 s Tryz.underlying9
 have hl:s.data.toList.length=s.size:=Array.length_toList
 have hat:∀ j (h:j < s.data.toList.length),s.data.toList[j]=s[j]'(by omega):=fun j h=>bget' s j (by omega)
 have HHI:RowKit.Hid (∀ (k:Nat) (r:Int),128≤r→rName k r=false):=Lib.hid (fun k r h=>by unfold rName;rw [rLet_high h,rDig_high h,high_ne h 95 (by decide)];simp)
 have HBY:RowKit.Hid (∀ (k:Nat) (c:UInt8),rName k ((c.toNat:Nat):Int)=Tok.pName k c):=Lib.hid (fun k c=>by unfold rName Tok.pName;rw [rLet_byte,rDig_byte,show ((((c.toNat:Nat):Int)) == 95)=(c == 95) from eq_byte c 95 (by decide)])
 have HPH:RowKit.Hid (∀ (k:Nat) (c:UInt8),128≤c.toNat→Tok.pName k c=false):=Lib.hid (fun k c h=>by unfold Tok.pName;rw [let_high h,dig_high h,byte_ne h 95 (by decide)];simp)
 obtain ⟨W0,hW0⟩:∃ W0,W0=Tok.whileL Tok.pName 0 s.data.toList:=⟨_,rfl⟩
 rw [← hW0]
 have HW:RowKit.Hid (∀ k,k≤s.size→(∀ j (h:j < s.size),j < k→Tok.pName j s[j]=true)→(∀ h:k < s.size,Tok.pName k s[k]=false)→W0=k):=Lib.hid (fun k hk h1 h2=>by
  rw [hW0]
  refine whileL_eq Tok.pName s.data.toList 0 k (by omega) (fun j hj hjk => ?_) (fun hk' => ?_)
  ·rw [Nat.zero_add,hat j hj];exact h1 j (by omega) hjk
  ·rw [Nat.zero_add,hat k hk'];exact h2 (by omega))
 clear hW0 hat hl
 go_enter Tryz.func133,Tryz.ntmps133
 go_wp2
 refine wp_scope_straight ?_
 go_wp2
 refine wp_label ?_
 go_wp2
 go_loopw [5] (fun b wr => ∃ k:Nat,k≤s.size∧b = .int .i64 s.size∧wr=w.iter s k∧∀ j (h:j < s.size),j < k→Tok.pName j s[j]=true) (fun _ wr=>s.size - wr.iterPos w.heap.size)
 case atStart=>exact ⟨0,Nat.zero_le _,rfl,rfl,fun j _ h=>absurd h (by omega)⟩
 case round=>
  obtain ⟨k,hk,rfl,rfl,hN⟩:=hrel
  have HN:=Lib.hid hN
  clear hN
  by_cases hlt:k < s.size
  ·obtain ⟨c,hc⟩:∃ c,c=s[k]:=⟨_,rfl⟩
   cases hp:Tok.pName k c with
   | true=>
     have h128:c.toNat < 128:=by
      rcases Nat.lt_or_ge c.toNat 128 with h | h
      ·exact h
      ·rw [HPH.out k c h] at hp;cases hp
     have hnx:=fun ty=>run_next_ascii (P:=Tryz.prog) w s k ty hlt (by rw [← hc];exact h128)
     rw [← hc] at hnx
     have HCL:=Lib.hid (fun W=>name_clo k ((c.toNat:Nat):Int) W)
     rw [HBY.out k c,hp] at HCL
     have HGO:RowKit.Hid (∀ j (h:j < s.size),j < k + 1→Tok.pName j s[j]=true):=Lib.hid (fun j hj hjk=>by
      by_cases e:j < k
      ·exact HN.out j hj e
      ·obtain rfl:j=k:=by omega
       rw [← hc];exact hp)
     clear hrs hc hp h128
     go_wp2_with (go_at_call 206;refine (HCL.out _).mono ?_;rintro e w2 ⟨rfl,rfl⟩)
     exact ⟨⟨k + 1,by omega,rfl,rfl,HGO.out⟩,by simp only [World.iterPos_iter];omega⟩
   | false=>
     have HE:=Lib.hid (HW.out k hk HN.out (fun _=>by rw [← hc];exact hp))
     obtain ⟨r,n,hnx,hr⟩:∃ (r:Int) (n:Nat),(∀ ty,(Instr.next (.pointer (some ⟨w.heap.size,0,none⟩)) true ty).run Tryz.prog (w.iter s k) = .ok (.tuple #[.bool true,.int .i64 k,.int .i32 r]) (w.iter s (k + n)))∧rName k r=false:=by
      rcases Nat.lt_or_ge c.toNat 128 with h | h
      ·refine ⟨((c.toNat:Nat):Int),1,fun ty => ?_,?_⟩
       ·have:=run_next_ascii (P:=Tryz.prog) w s k ty hlt (by rw [← hc];exact h)
        rw [← hc] at this
        exact this
       ·exact (HBY.out k c).trans hp
      ·refine ⟨(((Utf8.decode s k).1:Nat):Int),(Utf8.decode s k).2,fun ty=>run_next_any (P:=Tryz.prog) w s k ty hlt,?_⟩
       have:=(decode_high s k hlt (by rw [← hc];exact h)).1
       exact HHI.out k _ (by omega)
     have HCL:=Lib.hid (fun W=>name_clo k r W)
     rw [hr] at HCL
     clear hrs hc hp hr
     go_wp2_with (go_at_call 206;refine (HCL.out _).mono ?_;rintro e w2 ⟨rfl,rfl⟩)
     try rw [Exit.noGoto_ret]
     go_ret
     exact ⟨by rw [HE.out];rfl,iter_below _ _ _⟩
  ·have hnx:=fun ty=>run_next_end (P:=Tryz.prog) w s k ty hlt
   obtain rfl:k=s.size:=by omega
   have HE:=Lib.hid (HW.out s.size (Nat.le_refl _) HN.out (fun h=>absurd h (Nat.lt_irrefl _)))
   go_wp2
   try rw [Exit.noGoto_ret]
   go_ret
   exact ⟨by rw [HE.out];rfl,iter_below _ _ _⟩
set_option maxRecDepth 100000 in
set_option maxHeartbeats 2000000 in
theorem while_num (s:ByteArray) (w:World) :
  Calls Tryz.prog 133 #[.string s,.func (.func 263) #[] #[]] w fun e w'=>e = .returned (.int .i64 (Tok.whileL Tok.pNum 0 s.data.toList))∧Below w.heap.size w w':=by
 have hrs:=@run_range_string Tryz.prog w 9 s Tryz.underlying9
 have hl:s.data.toList.length=s.size:=Array.length_toList
 have hat:∀ j (h:j < s.data.toList.length),s.data.toList[j]=s[j]'(by omega):=fun j h=>bget' s j (by omega)
 have HHI:RowKit.Hid (∀ (k:Nat) (r:Int),128≤r→rNum k r=false):=Lib.hid (fun k r h=>by unfold rNum;rw [rDig_high h,high_ne h 45 (by decide)];simp)
 have HBY:RowKit.Hid (∀ (k:Nat) (c:UInt8),rNum k ((c.toNat:Nat):Int)=Tok.pNum k c):=Lib.hid (fun k c=>by unfold rNum Tok.pNum;rw [rDig_byte,show ((((c.toNat:Nat):Int)) == 45)=(c == 45) from eq_byte c 45 (by decide)];rfl)
 have HPH:RowKit.Hid (∀ (k:Nat) (c:UInt8),128≤c.toNat→Tok.pNum k c=false):=Lib.hid (fun k c h=>by unfold Tok.pNum;rw [dig_high h,byte_ne h 45 (by decide)];simp)
 obtain ⟨W0,hW0⟩:∃ W0,W0=Tok.whileL Tok.pNum 0 s.data.toList:=⟨_,rfl⟩
 rw [← hW0]
 have HW:RowKit.Hid (∀ k,k≤s.size→(∀ j (h:j < s.size),j < k→Tok.pNum j s[j]=true)→(∀ h:k < s.size,Tok.pNum k s[k]=false)→W0=k):=Lib.hid (fun k hk h1 h2=>by
  rw [hW0]
  refine whileL_eq Tok.pNum s.data.toList 0 k (by omega) (fun j hj hjk => ?_) (fun hk' => ?_)
  ·rw [Nat.zero_add,hat j hj];exact h1 j (by omega) hjk
  ·rw [Nat.zero_add,hat k hk'];exact h2 (by omega))
 clear hW0 hat hl
 go_enter Tryz.func133,Tryz.ntmps133
 go_wp2
 refine wp_scope_straight ?_
 go_wp2
 refine wp_label ?_
 go_wp2
 go_loopw [5] (fun b wr => ∃ k:Nat,k≤s.size∧b = .int .i64 s.size∧wr=w.iter s k∧∀ j (h:j < s.size),j < k→Tok.pNum j s[j]=true) (fun _ wr=>s.size - wr.iterPos w.heap.size)
 case atStart=>exact ⟨0,Nat.zero_le _,rfl,rfl,fun j _ h=>absurd h (by omega)⟩
 case round=>
  obtain ⟨k,hk,rfl,rfl,hN⟩:=hrel
  have HN:=Lib.hid hN
  clear hN
  by_cases hlt:k < s.size
  ·obtain ⟨c,hc⟩:∃ c,c=s[k]:=⟨_,rfl⟩
   cases hp:Tok.pNum k c with
   | true=>
     have h128:c.toNat < 128:=by
      rcases Nat.lt_or_ge c.toNat 128 with h | h
      ·exact h
      ·rw [HPH.out k c h] at hp;cases hp
     have hnx:=fun ty=>run_next_ascii (P:=Tryz.prog) w s k ty hlt (by rw [← hc];exact h128)
     rw [← hc] at hnx
     have HCL:=Lib.hid (fun W=>num_clo k ((c.toNat:Nat):Int) W)
     rw [HBY.out k c,hp] at HCL
     have HGO:RowKit.Hid (∀ j (h:j < s.size),j < k + 1→Tok.pNum j s[j]=true):=Lib.hid (fun j hj hjk=>by
      by_cases e:j < k
      ·exact HN.out j hj e
      ·obtain rfl:j=k:=by omega
       rw [← hc];exact hp)
     clear hrs hc hp h128
     go_wp2_with (go_at_call 263;refine (HCL.out _).mono ?_;rintro e w2 ⟨rfl,rfl⟩)
     exact ⟨⟨k + 1,by omega,rfl,rfl,HGO.out⟩,by simp only [World.iterPos_iter];omega⟩
   | false=>
     have HE:=Lib.hid (HW.out k hk HN.out (fun _=>by rw [← hc];exact hp))
     obtain ⟨r,n,hnx,hr⟩:∃ (r:Int) (n:Nat),(∀ ty,(Instr.next (.pointer (some ⟨w.heap.size,0,none⟩)) true ty).run Tryz.prog (w.iter s k) = .ok (.tuple #[.bool true,.int .i64 k,.int .i32 r]) (w.iter s (k + n)))∧rNum k r=false:=by
      rcases Nat.lt_or_ge c.toNat 128 with h | h
      ·refine ⟨((c.toNat:Nat):Int),1,fun ty => ?_,?_⟩
       ·have:=run_next_ascii (P:=Tryz.prog) w s k ty hlt (by rw [← hc];exact h)
        rw [← hc] at this
        exact this
       ·exact (HBY.out k c).trans hp
      ·refine ⟨(((Utf8.decode s k).1:Nat):Int),(Utf8.decode s k).2,fun ty=>run_next_any (P:=Tryz.prog) w s k ty hlt,?_⟩
       have:=(decode_high s k hlt (by rw [← hc];exact h)).1
       exact HHI.out k _ (by omega)
     have HCL:=Lib.hid (fun W=>num_clo k r W)
     rw [hr] at HCL
     clear hrs hc hp hr
     go_wp2_with (go_at_call 263;refine (HCL.out _).mono ?_;rintro e w2 ⟨rfl,rfl⟩)
     try rw [Exit.noGoto_ret]
     go_ret
     exact ⟨by rw [HE.out];rfl,iter_below _ _ _⟩
  ·have hnx:=fun ty=>run_next_end (P:=Tryz.prog) w s k ty hlt
   obtain rfl:k=s.size:=by omega
   have HE:=Lib.hid (HW.out s.size (Nat.le_refl _) HN.out (fun h=>absurd h (Nat.lt_irrefl _)))
   go_wp2
   try rw [Exit.noGoto_ret]
   go_ret
   exact ⟨by rw [HE.out];rfl,iter_below _ _ _⟩
end Go.Proofs.YtbbgjjjeecfnoaaGreatDoor
