/- The byte behind a backslash: walked. -/
import Derived.Test.YtmfnhjdeoklnlaaGreatDoorYQ24
import Derived.Test.YtmfnhjdeoklnlaaGreatDoorYPB
namespace Go.Proofs.YtmfnhjdeoklnlaaGreatDoor
open Go.RowKit Go.Sort
open Tess (Tok)
def hexN (a b:UInt8):Option Nat:=(hexG a).bind fun x=>(hexG b).map fun y=>16 * x + y
theorem hexT_some {a b:UInt8} {n:Nat} (h:hexN a b=some n):hexT a b = .tuple #[.int .u64 n,.nilIface]∧n < 256:=by
 unfold hexN at h
 unfold hexT
 cases ha:hexG a with
 | none=>rw [ha] at h;cases h
 | some x=>
   rw [ha] at h
   cases hb:hexG b with
   | none=>rw [hb] at h;cases h
   | some y=>
     rw [hb] at h
     cases h
     have:=hexG_lt ha
     have:=hexG_lt hb
     exact ⟨rfl,by show 16 * x + y < 256;omega⟩
theorem hexT_none {a b:UInt8} (h:hexN a b=none):hexT a b = .tuple #[.int .u64 0,.iface 271 (.int .i64 2)]:=by
 unfold hexN at h
 unfold hexT
 cases ha:hexG a with
 | none=>rfl
 | some x=>
   rw [ha] at h
   cases hb:hexG b with
   | none=>rfl
   | some y=>rw [hb] at h;cases h
set_option maxRecDepth 100000 in
set_option maxHeartbeats 2000000 in
theorem parseUint_some (a b:UInt8) (n:Nat) (w:World) (hn:hexN a b=some n):Calls Tryz.prog 217 #[.string ⟨#[a,b]⟩,.int .i64 16,.int .i64 8] w fun e w'=>e = .returned (.tuple #[.int .u64 n,.nilIface])∧Below w.heap.size w w':=by
 have HP:=Lib.hid (parseU_any a b w)
 rw [(hexT_some hn).1] at HP
 go_enter Tryz.func217,Tryz.ntmps217
 go_wp2_with (go_at_call 237;refine HP.out.mono ?_;rintro e w2 ⟨rfl,hB⟩;have HB:=Lib.hid hB;clear hB)
 refine bodyPost_ret (v:=.tuple #[.int .u64 n,.nilIface]) (by simp [results,Tryz.results217,go_sem]) rfl ⟨rfl,HB.out⟩
set_option maxRecDepth 100000 in
set_option maxHeartbeats 2000000 in
theorem parseUint_none (a b:UInt8) (w:World) (hV:Vz w) (hn:hexN a b=none):Calls Tryz.prog 217 #[.string ⟨#[a,b]⟩,.int .i64 16,.int .i64 8] w fun e w' => ∃ N,e = .returned (.tuple #[.int .u64 0,.iface 272 (.pointer (some ⟨N,0,none⟩))])∧Below w.heap.size w w':=by
 have HP:=Lib.hid (parseU_any a b w)
 rw [hexT_none hn] at HP
 have HT:=Lib.hid (fun W (h:Vz W)=>(by
  obtain ⟨ev,c,f⟩:=h.syn
  refine (Tryz.strconv_toError_syntax ⟨#[80,97,114,115,101,85,105,110,116]⟩ ⟨#[a,b]⟩ 16 8 ev W (by show 2≤_;omega) c f).mono ?_
  rintro e w' ⟨N,he,_,_,hB⟩
  exact ⟨N,he,hB⟩:Calls Tryz.prog 219 #[.string ⟨#[80,97,114,115,101,85,105,110,116]⟩,.string ⟨#[a,b]⟩,.int .i64 16,.int .i64 8,.iface 271 (.int .i64 2)] W fun e w' => ∃ N,e = .returned (.iface 272 (.pointer (some ⟨N,0,none⟩)))∧Below W.heap.size W w'))
 have HV:=Lib.hid hV
 clear hV
 go_enter Tryz.func217,Tryz.ntmps217
 go_wp2_with (first | (go_at_call 237;refine HP.out.mono ?_;rintro e w2 ⟨rfl,hB⟩;have HB:=Lib.hid hB;have HV2:=Lib.hid (HV.out.below hB);clear hB) | (go_at_call 219;refine (HT.out _ HV2.out).mono ?_;rintro e w3 ⟨N,rfl,hB⟩;have HB3:=Lib.hid (HB.out.trans (hB.mono HB.out.size));clear hB))
 refine bodyPost_ret (v:=.tuple #[.int .u64 0,.iface 272 (.pointer (some ⟨N,0,none⟩))]) (by simp [results,Tryz.results217,go_sem]) rfl ⟨N,rfl,HB3.out⟩
set_option maxRecDepth 100000 in
theorem hexOf_all:∀ n:Fin 256,(Tok.hexOf (UInt8.ofNat n.val)).isSome=((hexG (UInt8.ofNat n.val)).isSome && Lib.lowerB (UInt8.ofNat n.val) == UInt8.ofNat n.val)∧((Tok.hexOf (UInt8.ofNat n.val)).isSome→Tok.hexOf (UInt8.ofNat n.val)=hexG (UInt8.ofNat n.val))∧((hexG (UInt8.ofNat n.val)).isSome→n.val < 128):=by decide
theorem hexOf_byte (c:UInt8):(Tok.hexOf c).isSome=((hexG c).isSome && Lib.lowerB c == c)∧((Tok.hexOf c).isSome→Tok.hexOf c=hexG c)∧((hexG c).isSome→c.toNat < 128):=by
 have:=hexOf_all ⟨c.toNat,c.toNat_lt⟩
 simpa using this
def isLow (a b:UInt8):Bool:=decide ((⟨(Lib.toLowerD [120,a,b]).toArray⟩:ByteArray)=⟨#[120,a,b]⟩)
theorem isLow_hex {a b:UInt8} (ha:(hexG a).isSome) (hb:(hexG b).isSome):isLow a b=(Lib.lowerB a == a && Lib.lowerB b == b):=by
 unfold isLow
 have:=(hexOf_byte a).2.2 ha
 have:=(hexOf_byte b).2.2 hb
 rw [Lib.toLowerD_ascii _ (fun c hc=>by
  simp only [List.mem_cons,List.not_mem_nil,or_false] at hc
  rcases hc with rfl | rfl | rfl
  ·decide
  ·omega
  ·omega)]
 rw [Bool.eq_iff_iff,decide_eq_true_iff,Bool.and_eq_true,beq_iff_eq,beq_iff_eq]
 constructor
 ·intro h
  have h2:[Lib.lowerB 120,Lib.lowerB a,Lib.lowerB b]=[120,a,b]:=by
   have:=congrArg (fun s:ByteArray=>s.data.toList) h
   simpa [Lib.toLowerA] using this
  simp only [List.cons.injEq,and_true] at h2
  exact h2.2
 ·rintro ⟨h1,h2⟩
  simp only [Lib.toLowerA,List.map_cons,List.map_nil,h1,h2]
  rfl
theorem esc_some {a b:UInt8} {r:List UInt8} {n:Nat} (h1:isLow a b=true) (h2:hexN a b=some n):Tok.escaped (120 :: a :: b :: r)=(UInt8.ofNat n,3):=by
 unfold hexN at h2
 cases ha:hexG a with
 | none=>rw [ha] at h2;cases h2
 | some x=>
   cases hb:hexG b with
   | none=>rw [ha,hb] at h2;cases h2
   | some y=>
     rw [ha,hb] at h2
     cases h2
     rw [isLow_hex (by rw [ha];rfl) (by rw [hb];rfl),Bool.and_eq_true] at h1
     have sa:(Tok.hexOf a).isSome:=by rw [(hexOf_byte a).1,ha,h1.1];rfl
     have sb:(Tok.hexOf b).isSome:=by rw [(hexOf_byte b).1,hb,h1.2];rfl
     have ea:=(hexOf_byte a).2.1 sa
     have eb:=(hexOf_byte b).2.1 sb
     rw [ha] at ea
     rw [hb] at eb
     show (match Tok.hexOf a,Tok.hexOf b with | some x,some y=>(UInt8.ofNat (16 * x + y),3) | _,_=>((0:UInt8),0))=_
     rw [ea,eb]
theorem esc_none {a b:UInt8} {r:List UInt8} (h:isLow a b=false∨hexN a b=none):Tok.escaped (120 :: a :: b :: r)=(0,0):=by
 show (match Tok.hexOf a,Tok.hexOf b with | some x,some y=>(UInt8.ofNat (16 * x + y),3) | _,_=>((0:UInt8),0))=_
 cases ea:Tok.hexOf a with
 | none=>rfl
 | some x=>
   cases eb:Tok.hexOf b with
   | none=>rfl
   | some y=>
     exfalso
     have sa:(Tok.hexOf a).isSome:=by rw [ea];rfl
     have sb:(Tok.hexOf b).isSome:=by rw [eb];rfl
     have ha:=(hexOf_byte a).2.1 sa
     have hb:=(hexOf_byte b).2.1 sb
     have la:=(hexOf_byte a).1
     have lb:=(hexOf_byte b).1
     rw [sa] at la
     rw [sb] at lb
     have la:=(Bool.and_eq_true _ _ ▸ la.symm:_∧_)
     have lb:=(Bool.and_eq_true _ _ ▸ lb.symm:_∧_)
     rcases h with h | h
     ·rw [isLow_hex la.1 lb.1,la.2,lb.2] at h;cases h
     ·rw [ea] at ha
      rw [eb] at hb
      unfold hexN at h
      rw [← ha,← hb] at h
      cases h
theorem head1 (s:ByteArray) (h:0 < s.size):∃ r,s.data.toList=s[0] :: r:=by
 obtain ⟨⟨l⟩⟩:=s
 cases l with
 | nil=>exact absurd h (Nat.lt_irrefl _)
 | cons c r=>exact ⟨r,rfl⟩
theorem head3 (s:ByteArray) (h:2 < s.size):∃ r,s.data.toList=s[0] :: s[1] :: s[2] :: r:=by
 obtain ⟨⟨l⟩⟩:=s
 match l,h with
 | c :: a :: b :: r,h=>exact ⟨r,rfl⟩
 | [c,a],h=>exact absurd h (Nat.lt_irrefl _)
 | [c],h=>exact absurd h (by show ¬ 2 < 1;omega)
 | [],h=>exact absurd h (by show ¬ 2 < 0;omega)
theorem ext03 (s:ByteArray) (h:2 < s.size):s.extract 0 3=⟨#[s[0],s[1],s[2]]⟩:=by
 have e:(s.extract 0 3).data.toList=[s[0],s[1],s[2]]:=by
  obtain ⟨r,hr⟩:=head3 s h
  rw [data_take,hr];rfl
 generalize s.extract 0 3=t at *
 obtain ⟨⟨l⟩⟩:=t
 have e:l=[s[0],s[1],s[2]]:=e
 rw [e]
theorem ext13 (s:ByteArray) (h:2 < s.size):s.extract 1 3=⟨#[s[1],s[2]]⟩:=by
 have e:(s.extract 1 3).data.toList=[s[1],s[2]]:=by
  obtain ⟨r,hr⟩:=head3 s h
  rw [ByteArray.data_extract,Array.toList_extract,hr];rfl
 generalize s.extract 1 3=t at *
 obtain ⟨⟨l⟩⟩:=t
 have e:l=[s[1],s[2]]:=e
 rw [e]
theorem low_eq (t:ByteArray) (a b:UInt8):(t.toList == [120,a,b])=decide (t=⟨#[120,a,b]⟩):=by
 have e:(⟨#[120,a,b]⟩:ByteArray).toList=[120,a,b]:=by rw [ByteArray.toList_eq]
 rw [Bool.eq_iff_iff,decide_eq_true_iff,← Lib.bytes_beq_iff,e]
def escV (p:UInt8×Nat):Value:=.tuple #[.int .u8 p.1.toNat,.int .i64 p.2]
set_option maxRecDepth 100000 in
set_option maxHeartbeats 4000000 in
theorem escaped_any (s:ByteArray) (w:World) (hV:Vz w) (hs:s.size≤281474976710656) :
  Calls Tryz.prog 180 #[.string s] w fun e w'=>e = .returned (escV (Tok.escaped s.data.toList))∧Below w.heap.size w w':=by
 by_cases h0:s.size=0
 ·obtain rfl:s=⟨#[]⟩:=by
   obtain ⟨⟨l⟩⟩:=s
   cases l with
   | nil=>rfl
   | cons c r=>exact absurd h0 (by show ¬ (r.length + 1=0);omega)
  go_enter Tryz.func180,Tryz.ntmps180
  go_wp2
  go_quiet (fail)
  go_wp2
  exact bodyPost_ret (v:=escV (0,0)) (by simp [results,Tryz.results180,go_sem,escV]) rfl ⟨rfl,below_drewN (Below.refl _ _) _⟩
 ·have hpos:0 < s.size:=by omega
  have hposi:(0:Int) < (s.size:Int):=by omega
  obtain ⟨r,hr⟩:=head1 s hpos
  obtain ⟨c,hc⟩:∃ c,s[0]=c:=⟨_,rfl⟩
  rw [hc] at hr
  have h256:=c.toNat_lt
  by_cases h1:c=34
  ·subst h1
   have HE:=Lib.hid (show Tok.escaped s.data.toList=(34,1) by rw [hr];rfl)
   clear hr
   go_enter Tryz.func180,Tryz.ntmps180
   go_wp2
   exact bodyPost_ret (v:=escV (34,1)) (by simp [results,Tryz.results180,go_sem,escV]) rfl ⟨by rw [HE.out],Below.refl _ _⟩
  ·by_cases h2:c=92
   ·subst h2
    have HE:=Lib.hid (show Tok.escaped s.data.toList=(92,1) by rw [hr];rfl)
    clear hr
    go_enter Tryz.func180,Tryz.ntmps180
    go_wp2
    exact bodyPost_ret (v:=escV (92,1)) (by simp [results,Tryz.results180,go_sem,escV]) rfl ⟨by rw [HE.out],Below.refl _ _⟩
   ·have n34:c.toNat≠34:=fun e=>h1 (UInt8.toNat_inj.1 e)
    have n92:c.toNat≠92:=fun e=>h2 (UInt8.toNat_inj.1 e)
    have e34:((c.toNat:Int) == 34)=false:=by rw [beq_eq_false_iff_ne];omega
    have e92:((c.toNat:Int) == 92)=false:=by rw [beq_eq_false_iff_ne];omega
    have hno:¬ (c=34∨c=92):=fun h=>h.elim h1 h2
    by_cases h3:s.size≤2
    ·have HE:=Lib.hid (show Tok.escaped s.data.toList=(0,0) by
      rw [hr]
      show (if c=34∨c=92 then _ else _)=_
      rw [if_neg hno]
      have hlen:=congrArg List.length hr
      have hl:s.data.toList.length=s.size:=Array.length_toList
      split
      ·split
       ·rename_i hx
        exfalso
        simp only [List.length_cons] at hlen
        omega
       ·rfl
      ·rfl)
     have hd:decide ((2:Int) < (s.size:Int))=false:=decide_eq_false (by omega)
     have hd2:¬ ((2:Int) < (s.size:Int)):=by omega
     clear hr h1 h2 hno
     generalize hC:c.toNat=C at *
     go_enter Tryz.func180,Tryz.ntmps180
     go_wp2
     go_quiet (fail)
     go_wp2
     exact bodyPost_ret (v:=escV (0,0)) (by simp [results,Tryz.results180,go_sem,escV]) rfl ⟨by rw [HE.out],below_drewN (Below.refl _ _) _⟩
    ·have h3':2 < s.size:=by omega
     have hd:decide ((2:Int) < (s.size:Int))=true:=decide_eq_true (by omega)
     have hd2:(2:Int) < (s.size:Int):=by omega
     by_cases h4:c=120
     ·obtain ⟨r3,hr3⟩:=head3 s h3'
      have x03:=ext03 s h3'
      have x13:=ext13 s h3'
      rw [hc,h4] at hr3 x03
      generalize s[1]=a at *
      generalize s[2]=b at *
      have HLW:=Lib.hid (fun W (h:Vz W)=>Tryz.strings_ToLower_any ⟨#[120,a,b]⟩ W (by show 3 < _;omega) h.cas h.utf)
      have HIL:=show decide ((⟨(Lib.toLowerD [120,a,b]).toArray⟩:ByteArray)=⟨#[120,a,b]⟩)=isLow a b from rfl
      have HPN:=Lib.hid (fun W (h:Vz W) (hn:hexN a b=none)=>parseUint_none a b W h hn)
      have HPS:=Lib.hid (fun W n (hn:hexN a b=some n)=>parseUint_some a b n W hn)
      have HES:=Lib.hid (fun n=>@esc_some a b r3 n)
      have HEN:=Lib.hid (@esc_none a b r3)
      rw [hr3]
      clear hr hr3 h1 h2 hno
      subst h4
      have HV:=Lib.hid hV
      clear hV n34 n92 e34 e92 h256 h0 h3
      generalize hT:(⟨(Lib.toLowerD [120,a,b]).toArray⟩:ByteArray)=t at *
      have HIL:=(low_eq t a b).trans HIL
      have h3i:(3:Int)≤(s.size:Int):=by omega
      clear hT
      cases hIL:isLow a b with
      | false=>
        have HE:=Lib.hid (HEN.out (Or.inl hIL))
        rw [hIL] at HIL
        clear hIL
        go_enter Tryz.func180,Tryz.ntmps180
        go_wp2_with (fail)
        refine Flow.wp_region_flow (Flow.specs [.inl ?_,.inl ?_,.inl ?_,.inl ?_,.inl ?_,.inl ?_,.inl ?_,.inl ?_,.inl ?_,.inl ?_,.inl ?_,.inl (.string t),.inl ?_,.inl ?_,.inl ?_,.inl ?_,.inl ?_]) (by kernel_rfl) (by kernel_rfl) ?_ ?_
        rotate_left 16
        ·refine Flow.specs_mono ?_
         repeat (first | exact Flow.lmono_nil | refine Flow.lmono_inl ?_)
        iterate 11 (refine Flow.tree_valK rfl (fun K hK=>⟨fun w hw hG => ?_,?_⟩);(clear hG hw;unfold Flow.Runs Flow.yields;go_simp;try rfl);go_simp;refine hK _ ?_;clear hK K)
        (refine Flow.tree_valK rfl (fun K hK=>⟨fun w hw hG => ?_,?_⟩);(have HW:=Lib.hid hw;clear hG hw;unfold Flow.Runs Flow.yields;go_simp;refine (HLW.out _ (HV.out.below HW.out)).mono ?_;rintro e w3 ⟨rfl,hb3⟩;exact ⟨rfl,hb3⟩);go_simp;refine hK _ ?_;clear hK K)
        iterate 5 (refine Flow.tree_valK rfl (fun K hK=>⟨fun w hw hG => ?_,?_⟩);(clear hG hw;unfold Flow.Runs Flow.yields;go_simp;try rfl);go_simp;refine hK _ ?_;clear hK K)
        refine Flow.tree_nil fun wB hwB hG => ?_
        have HBB:=Lib.hid hwB
        have HVB:=Lib.hid (HV.out.below hwB)
        clear hG hwB
        go_wp2
        exact bodyPost_ret (v:=escV (0,0)) (by simp [results,Tryz.results180,go_sem,escV]) rfl ⟨by rw [HE.out],HBB.out⟩
      | true=>
        rw [hIL] at HIL
        have HX:=Lib.hid (HES.out)
        cases hN:hexN a b with
        | none=>
          have HE:=Lib.hid (HEN.out (Or.inr hN))
          have HPN:=Lib.hid (fun W (h:Vz W)=>HPN.out W h hN)
          clear hIL hN
          go_enter Tryz.func180,Tryz.ntmps180
          go_wp2_with (fail)
          refine Flow.wp_region_flow (Flow.specs [.inl ?_,.inl ?_,.inl ?_,.inl ?_,.inl ?_,.inl ?_,.inl ?_,.inl ?_,.inl ?_,.inl ?_,.inl ?_,.inl (.string t),.inl ?_,.inl ?_,.inl ?_,.inl ?_,.inl ?_]) (by kernel_rfl) (by kernel_rfl) ?_ ?_
          rotate_left 16
          ·refine Flow.specs_mono ?_
           repeat (first | exact Flow.lmono_nil | refine Flow.lmono_inl ?_)
          iterate 11 (refine Flow.tree_valK rfl (fun K hK=>⟨fun w hw hG => ?_,?_⟩);(clear hG hw;unfold Flow.Runs Flow.yields;go_simp;try rfl);go_simp;refine hK _ ?_;clear hK K)
          (refine Flow.tree_valK rfl (fun K hK=>⟨fun w hw hG => ?_,?_⟩);(have HW:=Lib.hid hw;clear hG hw;unfold Flow.Runs Flow.yields;go_simp;refine (HLW.out _ (HV.out.below HW.out)).mono ?_;rintro e w3 ⟨rfl,hb3⟩;exact ⟨rfl,hb3⟩);go_simp;refine hK _ ?_;clear hK K)
          iterate 5 (refine Flow.tree_valK rfl (fun K hK=>⟨fun w hw hG => ?_,?_⟩);(clear hG hw;unfold Flow.Runs Flow.yields;go_simp;try rfl);go_simp;refine hK _ ?_;clear hK K)
          refine Flow.tree_nil fun wB hwB hG => ?_
          have HBB:=Lib.hid hwB
          have HVB:=Lib.hid (HV.out.below hwB)
          clear hG hwB
          go_wp2_with (go_at_call 217;refine (HPN.out _ HVB.out).mono ?_;rintro e w2 ⟨N,rfl,hB⟩;have HB2:=Lib.hid (HBB.out.trans (hB.mono HBB.out.size));clear hB)
          exact bodyPost_ret (v:=escV (0,0)) (by simp [results,Tryz.results180,go_sem,escV]) rfl ⟨by rw [HE.out],HB2.out⟩
        | some n=>
          have HE:=Lib.hid (HES.out n hIL hN)
          have HPS:=Lib.hid (fun W=>HPS.out W n hN)
          have hn:=(hexT_some hN).2
          clear hIL hN
          go_enter Tryz.func180,Tryz.ntmps180
          go_wp2_with (fail)
          refine Flow.wp_region_flow (Flow.specs [.inl ?_,.inl ?_,.inl ?_,.inl ?_,.inl ?_,.inl ?_,.inl ?_,.inl ?_,.inl ?_,.inl ?_,.inl ?_,.inl (.string t),.inl ?_,.inl ?_,.inl ?_,.inl ?_,.inl ?_]) (by kernel_rfl) (by kernel_rfl) ?_ ?_
          rotate_left 16
          ·refine Flow.specs_mono ?_
           repeat (first | exact Flow.lmono_nil | refine Flow.lmono_inl ?_)
          iterate 11 (refine Flow.tree_valK rfl (fun K hK=>⟨fun w hw hG => ?_,?_⟩);(clear hG hw;unfold Flow.Runs Flow.yields;go_simp;try rfl);go_simp;refine hK _ ?_;clear hK K)
          (refine Flow.tree_valK rfl (fun K hK=>⟨fun w hw hG => ?_,?_⟩);(have HW:=Lib.hid hw;clear hG hw;unfold Flow.Runs Flow.yields;go_simp;refine (HLW.out _ (HV.out.below HW.out)).mono ?_;rintro e w3 ⟨rfl,hb3⟩;exact ⟨rfl,hb3⟩);go_simp;refine hK _ ?_;clear hK K)
          iterate 5 (refine Flow.tree_valK rfl (fun K hK=>⟨fun w hw hG => ?_,?_⟩);(clear hG hw;unfold Flow.Runs Flow.yields;go_simp;try rfl);go_simp;refine hK _ ?_;clear hK K)
          refine Flow.tree_nil fun wB hwB hG => ?_
          have HBB:=Lib.hid hwB
          have HVB:=Lib.hid (HV.out.below hwB)
          clear hG hwB
          go_wp2_with (go_at_call 217;refine (HPS.out _).mono ?_;rintro e w2 ⟨rfl,hB⟩;have HB2:=Lib.hid (HBB.out.trans (hB.mono HBB.out.size));clear hB)
          have e8:((UInt8.ofNat n).toNat:Int)=n:=by rw [UInt8.toNat_ofNat'];omega
          refine bodyPost_ret (v:=escV (UInt8.ofNat n,3)) (by simp [results,Tryz.results180,go_sem,escV];omega) rfl ⟨by rw [HE.out],HB2.out⟩
     ·have HE:=Lib.hid (show Tok.escaped s.data.toList=(0,0) by
       rw [hr]
       show (if c=34∨c=92 then _ else if c=120 then _ else _)=_
       rw [if_neg hno,if_neg h4])
      have n120:c.toNat≠120:=fun e=>h4 (UInt8.toNat_inj.1 e)
      have e120:((c.toNat:Int) == 120)=false:=by rw [beq_eq_false_iff_ne];omega
      clear hr h1 h2 hno h4
      generalize hC:c.toNat=C at *
      go_enter Tryz.func180,Tryz.ntmps180
      go_wp2
      go_quiet (fail)
      go_wp2
      exact bodyPost_ret (v:=escV (0,0)) (by simp [results,Tryz.results180,go_sem,escV]) rfl ⟨by rw [HE.out],below_drewN (Below.refl _ _) _⟩
end Go.Proofs.YtmfnhjdeoklnlaaGreatDoor
