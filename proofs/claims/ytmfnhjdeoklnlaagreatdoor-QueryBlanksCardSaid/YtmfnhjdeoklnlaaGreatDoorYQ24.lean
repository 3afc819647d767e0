/- strconv.ParseUint, base 16, 8 bits, at two bytes: walked. -/
import Derived.Test.YtmfnhjdeoklnlaaGreatDoorYQ23
namespace Go.Proofs.YtmfnhjdeoklnlaaGreatDoor
open Go.RowKit Go.Sort
open Tess (Tok)
theorem lower_any (c:Int) (w:World):Calls Tryz.prog 254 #[.int .u8 c] w fun e w'=>e = .returned (.int .u8 (bits .or .u8 c 32))∧w'=w:=by
 go_enter Tryz.func254,Tryz.ntmps254
 go_wp2
 go_ret
 exact ⟨rfl,rfl⟩
def hexG (c:UInt8):Option Nat:=if 48≤c.toNat∧c.toNat≤57 then some (c.toNat - 48) else if (65≤c.toNat∧c.toNat≤70) then some (c.toNat - 55) else if 97≤c.toNat∧c.toNat≤102 then some (c.toNat - 87) else none
theorem hexG_lt {c:UInt8} {x:Nat} (h:hexG c=some x):x < 16:=by
 unfold hexG at h
 split at h
 ·cases h;omega
 ·split at h
  ·cases h;omega
  ·split at h
   ·cases h;omega
   ·cases h
set_option maxRecDepth 100000 in
theorem low_all:∀ n:Fin 256,let lo:=bits .or .u8 (n.val:Int) 32
  (65≤n.val∧n.val≤70→lo=(n.val + 32:Nat))∧(97≤n.val∧n.val≤102→lo=(n.val:Nat))∧(¬ (65≤n.val∧n.val≤70)→¬ (97≤n.val∧n.val≤102)→lo < 97∨102 < lo∧lo≤122∨122 < lo):=by decide
theorem hex_class (c:UInt8):(∃ x,hexG c=some x∧48≤c.toNat∧c.toNat≤57∧x=c.toNat - 48) ∨
  (∃ L:Nat,hexG c=some (L - 87)∧57 < c.toNat∧c.toNat≠95∧97≤L∧L≤102∧bits .or .u8 (c.toNat:Int) 32=(L:Int)) ∨
  (hexG c=none∧¬ (48≤c.toNat∧c.toNat≤57)∧(bits .or .u8 (c.toNat:Int) 32 < 97∨(102 < bits .or .u8 (c.toNat:Int) 32∧bits .or .u8 (c.toNat:Int) 32≤122)∨122 < bits .or .u8 (c.toNat:Int) 32)):=by
 have h256:=c.toNat_lt
 obtain ⟨l1,l2,l3⟩:=low_all ⟨c.toNat,h256⟩
 simp only at l1 l2 l3
 unfold hexG
 by_cases h1:48≤c.toNat∧c.toNat≤57
 ·exact Or.inl ⟨c.toNat - 48,by rw [if_pos h1],h1.1,h1.2,rfl⟩
 ·rw [if_neg h1]
  by_cases h2:65≤c.toNat∧c.toNat≤70
  ·refine Or.inr (Or.inl ⟨c.toNat + 32,by rw [if_pos h2];congr 1,by omega,by omega,by omega,by omega,l1 h2⟩)
  ·rw [if_neg h2]
   by_cases h3:97≤c.toNat∧c.toNat≤102
   ·refine Or.inr (Or.inl ⟨c.toNat,by rw [if_pos h3],by omega,by omega,by omega,by omega,l2 h3⟩)
   ·exact Or.inr (Or.inr ⟨by rw [if_neg h3],h1,l3 h2 h3⟩)
def hexT (a b:UInt8):Value:=match hexG a,hexG b with
 | some x,some y => .tuple #[.int .u64 (16 * x + y:Nat),.nilIface]
 | _,_ => .tuple #[.int .u64 0,.iface 271 (.int .i64 2)]
set_option maxRecDepth 100000 in
set_option maxHeartbeats 2000000 in
theorem parseU_any (a b:UInt8) (w:World):Calls Tryz.prog 237 #[.string ⟨#[a,b]⟩,.int .i64 16,.int .i64 8] w fun e w'=>e = .returned (hexT a b)∧Below w.heap.size w w':=by
 have HB:Below w.heap.size w (Lib.bytesWorld w 5 ⟨#[a,b]⟩):=Lib.bytesWorld_below _ _ _
 have HL:=Lib.hid lower_any
 have c0:(Lib.bytesWorld w 5 ⟨#[a,b]⟩).cell? ⟨w.heap.size,0,none⟩=some (.int .u8 a.toNat):=Lib.bytesWorld_cell w 5 ⟨#[a,b]⟩ 0 (show 0 < 2 by decide)
 have c1:(Lib.bytesWorld w 5 ⟨#[a,b]⟩).cell? ⟨w.heap.size,1,none⟩=some (.int .u8 b.toNat):=Lib.bytesWorld_cell w 5 ⟨#[a,b]⟩ 1 (show 1 < 2 by decide)
 obtain ⟨cap,hcv⟩:∃ cap,(convert 9 161 (.string ⟨#[a,b]⟩)).run Tryz.prog w = .ok (.slice (some ⟨w.heap.size,0,none⟩) 2 cap) (Lib.bytesWorld w 5 ⟨#[a,b]⟩):=⟨_,Lib.run_convert_string_bytes w _ _ _ _ Tryz.underlying9 Tryz.underlying161 Tryz.underlying5⟩
 have HB:=Lib.hid HB
 generalize Lib.bytesWorld w 5 ⟨#[a,b]⟩=W1 at *
 go_enter Tryz.func237,Tryz.ntmps237
 go_wp2
 go_loopg [12,13,101] 2 (fun gk x12 x13 x101 wx=>wx=W1∧x12 = .bool false∧∃ (i n:Nat),x13 = .int .u64 n∧x101 = .int .i64 i∧2≤i + gk∧(i=0∧n=0∨i=1∧hexG a=some n∨∃ x y,i=2∧hexG a=some x∧hexG b=some y∧n=16 * x + y))
 case atStart=>exact ⟨rfl,rfl,0,0,rfl,rfl,by omega,Or.inl ⟨rfl,rfl⟩⟩
 case round=>
  obtain ⟨rfl,rfl,i,n,rfl,rfl,hfu,hcase⟩:=hrel
  rcases hcase with ⟨rfl,rfl⟩ | ⟨rfl,hxa⟩ | ⟨x,y,rfl,hxa,hxb,rfl⟩
  ·obtain ⟨g',rfl⟩:∃ g',gk=g' + 1:=⟨gk - 1,by omega⟩
   have hA:=a.toNat_lt
   rcases hex_class a with ⟨x,hx,h1,h2,rfl⟩ | ⟨x,hx,h5,h6,h2,h3,h4⟩ | ⟨hx,h1,h2⟩
   ·have HX:=Lib.hid hx
    clear hx
    generalize hAA:a.toNat=A at *
    go_wp2
    go_roundg g' <;> first | omega | exact ⟨rfl,rfl,1,A - 48,by first | rfl | (congr 1;omega),rfl,by omega,Or.inr (Or.inl ⟨rfl,HX.out⟩)⟩
   ·have HX:=Lib.hid hx
    clear hx
    generalize hAA:a.toNat=A at *
    have HE:=Lib.hid h4
    clear h4
    go_wp2_with (go_at_call 254;refine (HL.out _ _).mono ?_;rintro e w2 ⟨rfl,rfl⟩;try rw [HE.out])
    go_roundg g' <;> first | omega | exact ⟨rfl,rfl,1,x - 87,by first | rfl | (congr 1;omega),rfl,by omega,Or.inr (Or.inl ⟨rfl,HX.out⟩)⟩
   ·have HX:=Lib.hid hx
    clear hx
    generalize hAA:a.toNat=A at *
    by_cases h6:A=95
    ·subst h6
     clear h2
     go_wp2_with (go_at_call 254;refine (HL.out _ _).mono ?_;rintro e w2 ⟨rfl,rfl⟩)
     refine bodyPost_ret (v:=.tuple #[.int .u64 0,.iface 271 (.int .i64 2)]) (by simp [results,Tryz.results237,go_sem]) rfl ⟨?_,HB.out⟩
     unfold hexT;rw [HX.out]
    ·generalize hE:bits .or .u8 (A:Int) 32=lo at *
     have HE:=Lib.hid hE
     clear hE
     have h5:A < 48∨57 < A:=by omega
     rcases h5 with h5 | h5 <;> rcases h2 with h2 | ⟨h2,h3⟩ | h2
     all_goals
      go_wp2_with (go_at_call 254;refine (HL.out _ _).mono ?_;rintro e w2 ⟨rfl,rfl⟩;try rw [HE.out])
      refine bodyPost_ret (v:=.tuple #[.int .u64 0,.iface 271 (.int .i64 2)]) (by simp [results,Tryz.results237,go_sem]) rfl ⟨?_,HB.out⟩
      unfold hexT;rw [HX.out]
  ·obtain ⟨g',rfl⟩:∃ g',gk=g' + 1:=⟨gk - 1,by omega⟩
   have hn:=hexG_lt hxa
   have HA:=Lib.hid hxa
   clear hxa
   have hz0:(0:Int)≤(n:Int):=by omega
   have hz1:(n:Int) < 16:=by omega
   generalize hz:(n:Int)=z at *
   have HZ:=Lib.hid hz
   clear hz hn
   have hA:=b.toNat_lt
   rcases hex_class b with ⟨x,hx,h1,h2,rfl⟩ | ⟨x,hx,h5,h6,h2,h3,h4⟩ | ⟨hx,h1,h2⟩
   ·have HX:=Lib.hid hx
    clear hx
    generalize hAA:b.toNat=A at *
    go_wp2
    go_roundg g' <;> first | omega | exact ⟨rfl,rfl,2,16 * n + (A - 48),by have hz:=HZ.out;congr 1;omega,rfl,by omega,Or.inr (Or.inr ⟨n,A - 48,rfl,HA.out,HX.out,rfl⟩)⟩
   ·have HX:=Lib.hid hx
    clear hx
    generalize hAA:b.toNat=A at *
    have HE:=Lib.hid h4
    clear h4
    go_wp2_with (go_at_call 254;refine (HL.out _ _).mono ?_;rintro e w2 ⟨rfl,rfl⟩;try rw [HE.out])
    go_roundg g' <;> first | omega | exact ⟨rfl,rfl,2,16 * n + (x - 87),by have hz:=HZ.out;congr 1;omega,rfl,by omega,Or.inr (Or.inr ⟨n,x - 87,rfl,HA.out,HX.out,rfl⟩)⟩
   ·have HX:=Lib.hid hx
    clear hx
    generalize hAA:b.toNat=A at *
    by_cases h6:A=95
    ·subst h6
     clear h2
     go_wp2_with (go_at_call 254;refine (HL.out _ _).mono ?_;rintro e w2 ⟨rfl,rfl⟩)
     refine bodyPost_ret (v:=.tuple #[.int .u64 0,.iface 271 (.int .i64 2)]) (by simp [results,Tryz.results237,go_sem]) rfl ⟨?_,HB.out⟩
     unfold hexT;rw [HA.out,HX.out]
    ·generalize hE:bits .or .u8 (A:Int) 32=lo at *
     have HE:=Lib.hid hE
     clear hE
     have h5:A < 48∨57 < A:=by omega
     rcases h5 with h5 | h5 <;> rcases h2 with h2 | ⟨h2,h3⟩ | h2
     all_goals
      go_wp2_with (go_at_call 254;refine (HL.out _ _).mono ?_;rintro e w2 ⟨rfl,rfl⟩;try rw [HE.out])
      refine bodyPost_ret (v:=.tuple #[.int .u64 0,.iface 271 (.int .i64 2)]) (by simp [results,Tryz.results237,go_sem]) rfl ⟨?_,HB.out⟩
      unfold hexT;rw [HA.out,HX.out]
  ·have HA:=Lib.hid hxa
   have HX:=Lib.hid hxb
   clear hxa hxb
   go_wp2
   refine bodyPost_ret (v:=.tuple #[.int .u64 (16 * x + y:Nat),.nilIface]) (by simp [results,Tryz.results237,go_sem]) rfl ⟨?_,HB.out⟩
   unfold hexT
   rw [HA.out,HX.out]
end Go.Proofs.YtmfnhjdeoklnlaaGreatDoor
