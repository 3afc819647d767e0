/- Joined by mergeQ.py: F6, F7, F8, F9, F10, HR, HQ, F11, HS -/
import Derived.Test.YtbbgjjjeecfnoaaGreatDoorXFA
import Derived.Test.YtbbgjjjeecfnoaaGreatDoorRows
import Derived.Test.YtbbgjjjeecfnoaaGreatDoorXPA
import Derived.Maps.AppendAt
namespace Tess
open Go
theorem distinct_iff (l:List ByteArray):distinct l=true↔l.Nodup:=by
 induction l with
 | nil=>simp [distinct]
 | cons a r ih=>simp [distinct,ih,List.nodup_cons,hasW_not]
theorem namesOk_iff (l:List ByteArray):namesOk l=true↔l.Nodup∧∀ x ∈ l,nameOk x=true:=by
 simp [namesOk,distinct_iff]
end Tess
namespace Go.Maps
variable {H:Type}
theorem atKey_fold_not (u z:DataW H) (k:Lit):∀ (acc:List Lit) (m:DataW H),k ∉ acc→(acc.foldl (fun m x=>m.put x u) m).atKey k z=m.atKey k z
 | [],m,_=>rfl
 | x :: r,m,h=>by
   rw [List.foldl_cons,atKey_fold_not u z k r _ (fun e=>h (List.mem_cons_of_mem _ e)),atKey_put_other (show k≠x from fun e=>h (by rw [e];exact List.mem_cons_self))]
theorem atKey_fold_mem (u z:DataW H) (k:Lit):∀ (acc:List Lit) (m:DataW H),IsMap m→WideAt.IsKeyLit k→k ∈ acc→(acc.foldl (fun m x=>m.put x u) m).atKey k z=u
 | [],m,_,_,h=>by cases h
 | x :: r,m,hm,hk,h=>by
   rw [List.foldl_cons]
   by_cases e:k ∈ r
   ·exact atKey_fold_mem u z k r _ (hm.put x u) hk e
   ·rcases List.mem_cons.1 h with rfl | h
    ·rw [atKey_fold_not u z k r _ e,atKey_put_same hm hk]
    ·exact absurd h e
end Go.Maps
namespace Go
theorem plainElem_bool_inv {H:Type} {P:Program} {e:TypeId} (he:P.underlying e=some .bool) {v:Value} {z:DataW H×List MemPlace} (h:plainElem P e v=some z):∃ c,v = .bool c∧z=(.lit (.bool c),[]):=by
 unfold plainElem at h
 rw [he] at h
 cases v <;> simp at h
 subst h
 exact ⟨_,rfl,rfl⟩
end Go
namespace Go.Proofs.YtbbgjjjeecfnoaaGreatDoor
open Go.RowKit Go.Sort Go.Maps Go.WideMaps
theorem lawStr:Keyed Tryz.prog 9:=string_keyed Tryz.underlying9
theorem zeroBool (w:World):(zeroValue 4).run Tryz.prog w = .ok (.bool false) w:=by kernel_rfl
def skey (s:ByteArray):Lit:=.string s.data.toList
theorem skey_inj {x y:ByteArray} (h:skey x=skey y):x=y:=by
 unfold skey at h
 exact ByteArray.ext (Array.toList_inj.1 (by simpa using h))
def SeenAt (w:World) (b:Nat) (l:List ByteArray) (k:Nat):Prop:=w.ownsMap Tryz.prog 9 (plainElem (H:=Unit) Tryz.prog 4) b k (setOf (.lit (.bool true)) ((l.take k).map skey))
theorem SeenAt.look {w:World} {b:Nat} {l:List ByteArray} {k:Nat} (h:SeenAt w b l k) (x:ByteArray) (hx:x.size≤maxLen) :
  (Instr.lookup 237 (.map (some b)) (.string x) false).run Tryz.prog w = .ok (.bool (Tess.hasW (l.take k) x)) w:=by
 obtain ⟨v,ps,hrun,hv⟩:=World.ownsMap.lookup h lawStr Tryz.underlying237 (zeroBool w) (plainElem_bool Tryz.underlying4 false) (keyOf_string_mk Tryz.underlying9 hx)
 obtain ⟨c,rfl,hc⟩:=plainElem_bool_inv Tryz.underlying4 hv
 rw [hrun]
 have hat:(setOf (H:=Unit) (.lit (.bool true)) ((l.take k).map skey)).atKey (skey x) (.lit (.bool false)) = .lit (.bool c):=(Prod.ext_iff.1 hc).1
 cases hh:Tess.hasW (l.take k) x
 ·rw [Tess.hasW_not] at hh
  unfold setOf at hat
  rw [atKey_fold_not _ _ _ _ _ (fun e=>by obtain ⟨y,hy,e⟩:=List.mem_map.1 e;exact hh (skey_inj e ▸ hy))] at hat
  have:(DataW.map (H:=Unit) []).atKey (skey x) (.lit (.bool false)) = .lit (.bool false):=rfl
  rw [this] at hat
  cases hat;rfl
 ·rw [Tess.hasW_iff] at hh
  unfold setOf at hat
  rw [atKey_fold_mem _ _ _ _ _ isMap_empty (by unfold skey WideAt.IsKeyLit;trivial) (List.mem_map.2 ⟨x,hh,rfl⟩)] at hat
  cases hat;rfl
set_option maxRecDepth 100000 in
set_option maxHeartbeats 1000000 in
theorem areNames_any (v:Value) (l:List ByteArray) (w:World) (hv:SlOf w v (l.map .string)) (hs:∀ x ∈ l,x.size≤maxLen) :
  Calls Tryz.prog 71 #[v] w fun e w'=>e = .returned (.bool (Tess.namesOk l))∧Below w.heap.size w w':=by
 obtain ⟨a,cap,rfl,hl,hc⟩:=sls_open hv
 have HC:=Lib.hid hc
 have HS:=Lib.hid hs
 clear hc hv hs
 have hmm:=@run_makeMap Tryz.prog
 go_enter Tryz.func71,Tryz.ntmps71
 go_wp2
 go_loopw [9] (fun i wr => ∃ k:Nat,k≤l.length∧i = .int .i64 k∧SeenAt wr w.heap.size l k∧(l.take k).Nodup∧(∀ x ∈ l.take k,Tess.nameOk x=true)∧Below w.heap.size w wr) (fun i _=>l.length - (intOf i).toNat)
 case atStart=>exact ⟨0,Nat.zero_le _,rfl,World.ownsMap_made _ _ _ _,by simp,by simp,(Below.refl _ _).alloc (Nat.le_refl _) _⟩
 case round=>
  obtain ⟨k,hk,rfl,hm,hnd,hok,hB⟩:=hrel
  have HM:=Lib.hid hm
  have HND:=Lib.hid hnd
  have HOK:=Lib.hid hok
  have HB:=Lib.hid hB
  clear hm hnd hok hB hmm
  by_cases hlt:k < l.length
  ·obtain ⟨b,off,rfl,hb,hck⟩:=HC.out k hlt
   have hck':wr.cell? ⟨b,off + k,none⟩=some (.string l[k]):=(HB.out.cell (p:=⟨b,off + k,none⟩) hb).trans hck
   have hki:(k:Int) < (l.length:Int):=by omega
   obtain ⟨y,hy⟩:∃ y,y=l[k]:=⟨_,rfl⟩
   rw [← hy] at hck'
   have hysz:y.size≤maxLen:=by rw [hy];exact HS.out _ (List.getElem_mem hlt)
   have HYS:=Lib.hid hysz
   have hlook:=SeenAt.look HM.out y hysz
   have HNM:=Lib.hid (fun w=>isName_any y w hysz)
   have HT:=Lib.hid (List.take_succ_eq_append_getElem hlt)
   have HY:=Lib.hid hy
   clear hy hck hysz
   cases hhas:Tess.hasW (l.take k) y
   ·cases hnm:Tess.nameOk y
    ·rw [hhas] at hlook
     go_wp2_with (go_at_call 147;refine (HNM.out _).mono ?_;rintro e w2 ⟨rfl,hB2⟩;rw [hnm];have HB2:=Lib.hid (Bt HB.out hB2);clear hB2)
     go_ret
     refine ⟨ret_bool' ?_,HB2.out⟩
     rw [eq_comm,Bool.eq_false_iff,ne_eq,Tess.namesOk_iff]
     rintro ⟨_,h⟩
     have:=h y (by rw [HY.out];exact List.getElem_mem hlt)
     rw [hnm] at this;cases this
    ·rw [hhas] at hlook
     go_wp2_with (first
      | (go_at_call 147;refine (HNM.out _).mono ?_;rintro e w2 ⟨rfl,hB2⟩;rw [hnm];have HM2:=Lib.hid (World.ownsMap.kept HM.out (Below.grownNone hB2) (by simp));have HB2:=Lib.hid (Bt HB.out hB2);clear hB2 hlook)
      | (at_mapUpdate;refine wpList_mapUpdate_own _ rfl _ _ _ 237 rfl 9 4 lawStr Tryz.underlying237 _ w.heap.size k _ rfl HM2.out (by unfold maxLen;omega) _ _ _ rfl rfl (keyOf_string_mk Tryz.underlying9 HYS.out) _ [] (plainElem_bool Tryz.underlying4 true) ?_;intro w3 hown3 hg3;have HM3:=Lib.hid hown3;have HB3:=Lib.hid (HB2.out.grown hg3 HB2.out.size (fun j e=>by cases e;exact Nat.le_refl _));clear hown3 hg3))
     go_roundw
     case rel=>
      refine ⟨k + 1,by omega,by go_num,?_,?_,?_,HB3.out⟩
      ·unfold SeenAt
       rw [HT.out,List.map_append,List.map_singleton,setOf_snoc,← HY.out]
       exact HM3.out
      ·rw [HT.out,List.nodup_append]
       refine ⟨HND.out,by simp,fun z hz z' hz' e => ?_⟩
       rw [List.mem_singleton] at hz'
       rw [Tess.hasW_not] at hhas
       exact hhas (by rw [HY.out,← hz',← e];exact hz)
      ·intro z hz
       rw [HT.out,List.mem_append,List.mem_singleton] at hz
       rcases hz with hz | rfl
       ·exact HOK.out z hz
       ·rw [← HY.out];exact hnm
     case measure=>simp [intOf];omega
   ·rw [hhas] at hlook
    go_wp2_with fail
    go_ret
    refine ⟨ret_bool' ?_,HB.out⟩
    rw [eq_comm,Bool.eq_false_iff,ne_eq,Tess.namesOk_iff]
    rintro ⟨h,_⟩
    rw [Tess.hasW_iff] at hhas
    have h1:(l.take (k + 1)).Nodup:=List.Sublist.nodup (List.take_sublist _ _) h
    rw [HT.out,List.nodup_append] at h1
    exact h1.2.2 y hhas y (by rw [HY.out];simp) rfl
  ·have hki:¬ (k:Int) < (l.length:Int):=by omega
   have e:l.take k=l:=List.take_of_length_le (by omega)
   have HE:=Lib.hid e
   clear e
   go_wp2
   go_ret
   exact ⟨ret_bool' ((Tess.namesOk_iff l).2 ⟨HE.out ▸ HND.out,HE.out ▸ HOK.out⟩).symm,HB.out⟩
end Go.Proofs.YtbbgjjjeecfnoaaGreatDoor
namespace Go.Proofs.YtbbgjjjeecfnoaaGreatDoor
open Go.RowKit Go.Sort
set_option maxRecDepth 100000 in
set_option maxHeartbeats 2000000 in
theorem concat_any (b:Nat) (vd vm:Value) (ds ms:List ByteArray) (w:World) (hd:SlOf w vd (ds.map .string)) (hm:SlOf w vm (ms.map .string)) (hnil:NilOk vm) (h1:1≤ds.length) (h2:ds.length≤6) (h3:ms.length≤4)
  (c0:w.cell? ⟨b,0,none⟩=some vd) (c1:w.cell? ⟨b,1,none⟩=some vm) :
  Calls Tryz.prog 72 #[.slice (some ⟨b,0,none⟩) 2 2] w fun e w' => ∃ v',e = .returned v'∧SlOf w' v' ((ds ++ ms).map .string)∧Below w.heap.size w w':=by
 obtain ⟨_,ad,capd,rfl,hcd⟩:=hd
 obtain ⟨_,am,capm,rfl,hcm⟩:=hm
 simp only [List.length_map] at hcd hcm c0 c1
 obtain ⟨db,doff,rfl,hdb,hdc⟩:=hcd (by omega)
 have HDC:=Lib.hid hdc
 have HCM:=Lib.hid hcm
 clear hcd hdc hcm
 obtain ⟨nd,hnd⟩:∃ nd,ds.length=nd:=⟨_,rfl⟩
 obtain ⟨nm,hnm⟩:∃ nm,ms.length=nm:=⟨_,rfl⟩
 rw [hnd] at h1 h2 c0
 rw [hnm] at h3 c1
 have HND:=Lib.hid hnd
 have HNM:=Lib.hid hnm
 clear hnd hnm
 have e1:((nd:Int) + (nm:Int))=((nd + nm:Nat):Int):=by omega
 have hb0:=World.block_lt_of_cell? w _ c0
 simp only at hb0
 obtain ⟨i0,hi,hz0,hz1,hz2⟩:=info_parts infoStr
 have HG:=Lib.hid (grow_any (nd + nm) w (by omega) (by omega))
 have HE1:=Lib.hid e1
 clear e1
 go_enter Tryz.func72,Tryz.ntmps72
 go_wp2_with fail
 refine wp_loop_rounds 3 ?_
 rw [rounds_succ]
 go_wp2_with fail
 rw [rounds_succ]
 go_wp2_with fail
 rw [rounds_succ]
 go_wp2_with (go_at_call 148;rw [HE1.out];refine HG.out.mono ?_;rintro e w1 ⟨G,rfl,hown,hB1,hs1⟩;have HO:=Lib.hid hown;have HB1:=Lib.hid hB1;have HS1:=Lib.hid hs1;clear hown hB1 hs1)
 have c0a:=(HB1.out.cell (p:=⟨b,0,none⟩) hb0).trans c0
 have c1a:=(HB1.out.cell (p:=⟨b,1,none⟩) hb0).trans c1
 refine wp_loop_rounds 3 ?_
 rw [rounds_succ]
 go_wp2_with (at_builtin;refine wpList_append_own _ rfl _ _ 22 rfl w.heap.size 9 i0 (.string ByteArray.empty) 1 16 Tryz.underlying22 hi hz0 hz1 hz2 rfl (by decide) _ 0 [] rfl HO.out ⟨db,doff,none⟩ nd capd (ds.map .string) rfl ?_ ?_ ?_ ?_ ?_ ?_ ?_)
 ·rw [List.length_map,HND.out,Nat.mul_one]
 ·intro j u hj
  rw [List.getElem?_map] at hj
  obtain ⟨x,hx,rfl⟩:=Option.map_eq_some_iff.1 hj
  obtain ⟨hj',rfl⟩:=List.getElem?_eq_some_iff.1 hx
  have:=HDC.out j hj'
  rw [show (⟨db,doff,none⟩:Addr).add j=⟨db,doff + j,none⟩ by unfold Addr.add;split <;> simp_all]
  rw [HB1.out.cell (p:=⟨db,doff + j,none⟩) hdb]
  simpa using this
 ·intro u hu;obtain ⟨x,_,rfl⟩:=List.mem_map.1 hu;rfl
 ·unfold maxLen;omega
 ·omega
 ·exact HB1.out.size
 intro v2 w2 hown2 hg2 _
 obtain ⟨g2,cp2,rfl,_⟩:=owns_cell hown2 (by omega)
 have HO2:=Lib.hid hown2
 have hB2:=HB1.out.grown hg2 HB1.out.size (fun j e=>(HO.out.lt j e).1)
 have HB2:=Lib.hid hB2
 have c1b:=(hB2.cell (p:=⟨b,1,none⟩) hb0).trans c1
 clear hown2 hg2 hB2 c0a c1a
 go_wp2
 rw [rounds_succ]
 have hsz2:=HB2.out.size
 cases am with
 | none=>
   have hc0:capm=0:=hnil _ _ rfl
   subst hc0
   have h0:nm=0:=by
    rcases Nat.eq_zero_or_pos nm with h | h
    ·exact h
    ·obtain ⟨_,_,e,_⟩:=HCM.out (by rw [HNM.out];exact h)
     cases e
   subst h0
   have he:ms=[]:=List.eq_nil_of_length_eq_zero HNM.out
   go_wp2_with (at_builtin;refine wpList_append_own_none rfl _ _ 22 rfl w.heap.size 9 i0 1 Tryz.underlying22 hi _ _ _ rfl HO2.out rfl ?_)
   rw [rounds_succ]
   go_wp2
   go_ret
   refine ⟨_,rfl,?_,HB2.out⟩
   rw [he,List.append_nil]
   simpa using SlOf.owned HO2.out
 | some ma=>
   obtain ⟨mb,moff,msp⟩:=ma
   have hcm:∀ j u,(ms.map Value.string)[j]? = some u→w2.cell? ((⟨mb,moff,msp⟩:Addr).add j)=some u:=by
    intro j u hj
    obtain ⟨hj',rfl⟩:=List.getElem?_eq_some_iff.1 hj
    have hjm:j < ms.length:=by simpa using hj'
    obtain ⟨b',off',e,hb',hcell⟩:=HCM.out (by omega)
    cases e
    rw [show (⟨mb,moff,none⟩:Addr).add j=⟨mb,moff + j,none⟩ by unfold Addr.add;split <;> simp_all]
    rw [HB2.out.cell (p:=⟨mb,moff + j,none⟩) hb']
    exact hcell j hjm
   have HX:=Lib.hid hcm
   clear hcm
   go_wp2_with (at_builtin;refine wpList_append_own _ rfl _ _ 22 rfl w.heap.size 9 i0 (.string ByteArray.empty) 1 16 Tryz.underlying22 hi hz0 hz1 hz2 rfl (by decide) _ _ _ rfl HO2.out ⟨mb,moff,msp⟩ nm capm (ms.map .string) rfl ?_ HX.out ?_ ?_ ?_ ?_ ?_)
   ·rw [List.length_map,HNM.out,Nat.mul_one]
   ·intro u hu;obtain ⟨x,_,rfl⟩:=List.mem_map.1 hu;rfl
   ·unfold maxLen;omega
   ·omega
   ·exact HB2.out.size
   intro v3 w3 hown3 hg3 _
   have HO3:=Lib.hid hown3
   have HB3:=Lib.hid (HB2.out.grown hg3 HB2.out.size (fun j e=>(HO2.out.lt j e).1))
   clear hown3 hg3
   go_wp2
   rw [rounds_succ]
   go_wp2
   go_ret
   refine ⟨_,rfl,?_,HB3.out⟩
   rw [List.map_append]
   simpa using SlOf.owned HO3.out
theorem swithin_any (n a b:Nat) (w:World):Calls Tryz.prog 70 #[.int .i64 n,.int .i64 a,.int .i64 b] w fun e w'=>e = .returned (.bool (Tess.Fil.inW n (a,b)))∧w=w':=by
 unfold Tess.Fil.inW
 by_cases h1:a≤n
 ·have h1i:(a:Int)≤(n:Int):=by omega
  have h1d:decide ((a:Int)≤(n:Int))=true:=decide_eq_true h1i
  obtain ⟨r,hr⟩:∃ r,decide (n≤b)=r:=⟨_,rfl⟩
  have hri:decide ((n:Int)≤(b:Int))=r:=by rw [← hr];exact decide_eq_decide.2 (by omega)
  rw [decide_eq_true h1,hr]
  go_enter Tryz.func70,Tryz.ntmps70
  go_wp2
  go_ret
  exact ⟨rfl,rfl⟩
 ·have h1d:decide ((a:Int)≤(n:Int))=false:=decide_eq_false (by omega)
  rw [decide_eq_false h1,Bool.false_and]
  go_enter Tryz.func70,Tryz.ntmps70
  go_wp2
  go_ret
  exact ⟨rfl,rfl⟩
theorem slp_len {p:Nat→Prop} {w:World} {v:Value} {l:List ByteArray} (h:SlP p w v (l.map .string)):∃ a cap,v = .slice a l.length cap∧l.length≤9223372036854775807:=by
 obtain ⟨a,cap,hv,hl,_⟩:=sls_open h.1
 exact ⟨a,cap,hv,hl⟩
end Go.Proofs.YtbbgjjjeecfnoaaGreatDoor
namespace Go.Proofs.YtbbgjjjeecfnoaaGreatDoor
open Go.RowKit Go.Sort
set_option maxRecDepth 100000 in
set_option maxHeartbeats 2000000 in
theorem schRight_any (v:Value) (s:Tess.Sch) (p:Nat→Prop) (w:World) (hv:SchAt p w v s) :
  Calls Tryz.prog 36 #[v] w fun e w'=>e = .returned (.bool (Tess.schOk s))∧Below w.heap.size w w':=by
 obtain ⟨vd,vm,rfl,hd,hm,hds,hms⟩:=hv
 obtain ⟨ds,ms,g⟩:=s
 simp only at hd hm hds hms
 obtain ⟨ad,capd,rfl,hld⟩:=slp_len hd
 obtain ⟨am,capm,rfl,hlm⟩:=slp_len hm
 have HSM:=Lib.hid (show ∀ x ∈ ds ++ ms,x.size≤maxLen from fun x hx=>by rcases List.mem_append.1 hx with h | h;exact hds x h;exact hms x h)
 have HD:=Lib.hid hd
 have HM:=Lib.hid hm
 clear hd hm hds hms
 have HW:=Lib.hid (fun w=>swithin_any ds.length 1 6 w)
 have HOK:RowKit.Hid (Tess.schOk ⟨ds,ms,g⟩=(Tess.Fil.inW ds.length (1,6) && decide (ms.length≤4) && decide (1≤g) && decide (g≤1000000000) && Tess.namesOk (ds ++ ms))):=Lib.hid rfl
 by_cases h1:Tess.Fil.inW ds.length (1,6)=true
 ·by_cases h2:ms.length≤4
  ·have h2i:decide ((ms.length:Int)≤4)=true:=decide_eq_true (by omega)
   by_cases h3:1≤g
   ·by_cases h4:g≤1000000000
    ·have hlen:1≤ds.length∧ds.length≤6:=by unfold Tess.Fil.inW at h1;simpa using h1
     have HF:RowKit.Hid (Tess.schOk ⟨ds,ms,g⟩=Tess.namesOk (ds ++ ms)):=Lib.hid (by rw [HOK.out,h1,decide_eq_true h2,decide_eq_true h3,decide_eq_true h4];rfl)
     have HL:=Lib.hid hlen
     clear HOK
     have h3i:decide (1≤g)=true:=decide_eq_true h3
     have h4i:decide (g≤1000000000)=true:=decide_eq_true h4
     clear hlen
     rw [HF.out]
     have HCC:=Lib.hid (fun (b:Nat) (W:World) (hB:Below w.heap.size w W)=>concat_any b _ _ ds ms W (HD.out.1.below hB) (HM.out.1.below hB) HM.out.2.2 HL.out.1 HL.out.2 (by omega))
     have HAN:=Lib.hid (fun (v:Value) (W:World) (h:SlOf W v ((ds ++ ms).map .string))=>areNames_any v (ds ++ ms) W h HSM.out)
     generalize Tess.namesOk (ds ++ ms)=nk at *
     go_enter Tryz.func36,Tryz.ntmps36
     go_wp2_with (first
      | (go_at_call 70;refine (HW.out _).mono ?_;rintro e w2 ⟨rfl,rfl⟩;rw [h1])
      | (go_at_call 72;refine (HCC.out _ _ (((Below.refl _ _).alloc (Nat.le_refl _) _).alloc (by simp) _) (by simp) (by simp)).mono ?_;rintro e w3 ⟨v3,rfl,hv3,hB3⟩;have HV3:=Lib.hid hv3;have HB3:=Lib.hid ((((Below.refl _ _).alloc (Nat.le_refl _) _).alloc (by simp) _).trans (hB3.mono (by simp <;> omega)));clear hv3 hB3)
      | (go_at_call 71;refine (HAN.out _ _ HV3.out).mono ?_;rintro e w4 ⟨rfl,hB4⟩;have HB4:=Lib.hid (Bt HB3.out hB4);clear hB4))
     go_ret
     exact ⟨rfl,HB4.out⟩
    ·have h4i:decide (g≤1000000000)=false:=decide_eq_false h4
     have h3i:decide (1≤g)=true:=decide_eq_true h3
     rw [HOK.out,h4i,Bool.and_false,Bool.false_and]
     clear HOK
     go_enter Tryz.func36,Tryz.ntmps36
     go_wp2_with (go_at_call 70;refine (HW.out _).mono ?_;rintro e w2 ⟨rfl,rfl⟩;rw [h1])
     go_ret
     exact ⟨rfl,(Below.refl _ _).alloc (Nat.le_refl _) _⟩
   ·have h3i:decide (1≤g)=false:=decide_eq_false h3
    rw [HOK.out,h3i,Bool.and_false,Bool.false_and,Bool.false_and]
    clear HOK
    go_enter Tryz.func36,Tryz.ntmps36
    go_wp2_with (go_at_call 70;refine (HW.out _).mono ?_;rintro e w2 ⟨rfl,rfl⟩;rw [h1])
    go_ret
    exact ⟨rfl,(Below.refl _ _).alloc (Nat.le_refl _) _⟩
  ·have h2i:decide ((ms.length:Int)≤4)=false:=decide_eq_false (by omega)
   rw [HOK.out,decide_eq_false h2,Bool.and_false,Bool.false_and,Bool.false_and,Bool.false_and]
   clear HOK
   go_enter Tryz.func36,Tryz.ntmps36
   go_wp2_with (go_at_call 70;refine (HW.out _).mono ?_;rintro e w2 ⟨rfl,rfl⟩;rw [h1])
   go_ret
   exact ⟨rfl,(Below.refl _ _).alloc (Nat.le_refl _) _⟩
 ·have h1:Tess.Fil.inW ds.length (1,6)=false:=by simpa using h1
  rw [HOK.out,h1,Bool.false_and,Bool.false_and,Bool.false_and,Bool.false_and]
  clear HOK
  go_enter Tryz.func36,Tryz.ntmps36
  go_wp2_with (go_at_call 70;refine (HW.out _).mono ?_;rintro e w2 ⟨rfl,rfl⟩;rw [h1])
  go_ret
  exact ⟨rfl,(Below.refl _ _).alloc (Nat.le_refl _) _⟩
end Go.Proofs.YtbbgjjjeecfnoaaGreatDoor
namespace Go.Proofs.YtbbgjjjeecfnoaaGreatDoor
open Go.RowKit Go.Sort
set_option maxRecDepth 100000 in
set_option maxHeartbeats 2000000 in
theorem place_any (v vl:Value) (s:Tess.Sch) (l:List ByteArray) (x:ByteArray) (p:Nat→Prop) (w:World) (hv:SchAt p w v s) (hl:SlOf w vl (l.map .string)) :
  Calls Tryz.prog 183 #[v,vl,.string x] w fun e w'=>e = .returned (.tuple #[.int .i64 ((Tess.placeW (Tess.schOk s) l x).1:Nat),.bool (Tess.placeW (Tess.schOk s) l x).2])∧Below w.heap.size w w':=by
 have HR:=Lib.hid (fun W (hB:Below w.heap.size w W)=>schRight_any v s p W (hv.ag (Ag.new p hB)))
 have HI:=Lib.hid (fun W (hB:Below w.heap.size w W)=>index_any vl l x W (hl.below hB))
 obtain ⟨vd,vm,rfl,hd,hm,_,_⟩:=hv
 obtain ⟨ad,capd,rfl,_⟩:=slp_len hd
 obtain ⟨am,capm,rfl,_⟩:=slp_len hm
 obtain ⟨al,capl,rfl,_,_⟩:=sls_open hl
 clear hd hm hl
 have HP:RowKit.Hid (∀ r,r=Tess.placeW (Tess.schOk s) l x→r=if Tess.schOk s && Tess.hasW l x then (Tess.idxW l x,true) else (0,false)):=Lib.hid fun r h=>h
 obtain ⟨r,hr⟩:∃ r,r=Tess.placeW (Tess.schOk s) l x:=⟨_,rfl⟩
 rw [← hr]
 have HP2:=Lib.hid (HP.out r hr)
 clear hr HP
 cases hok:Tess.schOk s
 ·rw [hok] at HR HP2
  have HP3:=Lib.hid (show r=(0,false) from HP2.out)
  obtain ⟨i,hi⟩:∃ i:Int,(if Tess.hasW l x then ((Tess.idxW l x:Nat):Int) else -1)=i:=⟨_,rfl⟩
  rw [hi] at HI
  clear hi HP2
  rw [HP3.out]
  go_enter Tryz.func183,Tryz.ntmps183
  go_wp2_with (first
   | (go_at_call 180;refine (HI.out _ ((Below.refl _ _).alloc (Nat.le_refl _) _)).mono ?_;rintro e w2 ⟨rfl,rfl⟩)
   | (go_at_call 36;refine (HR.out _ ((Below.refl _ _).alloc (Nat.le_refl _) _)).mono ?_;rintro e w2 ⟨rfl,hB2⟩;have HB:=Lib.hid (((Below.refl _ _).alloc (Nat.le_refl _) _).trans (hB2.mono (by simp)));clear hB2))
  go_ret2
  exact ⟨rfl,HB.out⟩
 ·rw [hok] at HR HP2
  rw [Bool.true_and] at HP2
  cases hh:Tess.hasW l x
  ·rw [hh] at HI HP2
   have HP3:=Lib.hid (show r=(0,false) from HP2.out)
   simp only [Bool.false_eq_true,if_false] at HI
   rw [HP3.out]
   go_enter Tryz.func183,Tryz.ntmps183
   go_wp2_with (first
    | (go_at_call 180;refine (HI.out _ ((Below.refl _ _).alloc (Nat.le_refl _) _)).mono ?_;rintro e w2 ⟨rfl,rfl⟩)
    | (go_at_call 36;refine (HR.out _ ((Below.refl _ _).alloc (Nat.le_refl _) _)).mono ?_;rintro e w2 ⟨rfl,hB2⟩;have HB:=Lib.hid (((Below.refl _ _).alloc (Nat.le_refl _) _).trans (hB2.mono (by simp)));clear hB2))
   go_ret2
   exact ⟨rfl,HB.out⟩
  ·rw [hh] at HI HP2
   have HP3:=Lib.hid (show r=(Tess.idxW l x,true) from HP2.out)
   simp only [if_true] at HI
   generalize Tess.idxW l x=n at *
   have hn:¬ (n:Int) < 0:=by omega
   have hnd:decide ((n:Int) < 0)=false:=decide_eq_false hn
   rw [HP3.out]
   go_enter Tryz.func183,Tryz.ntmps183
   go_wp2_with (first
    | (go_at_call 180;refine (HI.out _ ((Below.refl _ _).alloc (Nat.le_refl _) _)).mono ?_;rintro e w2 ⟨rfl,rfl⟩)
    | (go_at_call 36;refine (HR.out _ ((Below.refl _ _).alloc (Nat.le_refl _) _)).mono ?_;rintro e w2 ⟨rfl,hB2⟩;have HB:=Lib.hid (((Below.refl _ _).alloc (Nat.le_refl _) _).trans (hB2.mono (by simp)));clear hB2))
   go_ret2
   exact ⟨rfl,HB.out⟩
set_option maxRecDepth 100000 in
set_option maxHeartbeats 1000000 in
theorem dim_any (v:Value) (s:Tess.Sch) (x:ByteArray) (p:Nat→Prop) (w:World) (hv:SchAt p w v s) :
  Calls Tryz.prog 107 #[v,.string x] w fun e w'=>e = .returned (.tuple #[.int .i64 ((Tess.dimW s x).1:Nat),.bool (Tess.dimW s x).2])∧Below w.heap.size w w':=by
 have HV:=Lib.hid hv
 obtain ⟨vd,vm,rfl,hd,hm,_,_⟩:=hv
 have HP:=Lib.hid (fun W (hB:Below w.heap.size w W)=>place_any _ vd s s.dims x p W (HV.out.ag (Ag.new p hB)) (hd.1.below hB))
 obtain ⟨ad,capd,rfl,_⟩:=slp_len hd
 obtain ⟨am,capm,rfl,_⟩:=slp_len hm
 clear hd hm
 have HD:RowKit.Hid (Tess.dimW s x=Tess.placeW (Tess.schOk s) s.dims x):=Lib.hid rfl
 rw [← HD.out] at HP
 generalize Tess.dimW s x=r at *
 obtain ⟨r1,r2⟩:=r
 simp only at HP
 go_enter Tryz.func107,Tryz.ntmps107
 go_wp2_with (go_at_call 183;refine (HP.out _ ((Below.refl _ _).alloc (Nat.le_refl _) _)).mono ?_;rintro e w2 ⟨rfl,hB2⟩;have HB:=Lib.hid (((Below.refl _ _).alloc (Nat.le_refl _) _).trans (hB2.mono (by simp)));clear hB2)
 go_ret2
 exact ⟨rfl,HB.out⟩
end Go.Proofs.YtbbgjjjeecfnoaaGreatDoor
namespace Go.Proofs.YtbbgjjjeecfnoaaGreatDoor
open Go.RowKit Go.Sort
open Tess (Fil)
def FilAt (p:Nat→Prop):Nat→World→Value→Fil→Prop
 | 0,_,_,_=>False
 | n + 1,w,v,f => ∃ vw a cap,v = .agg #[.int .i64 f.kind,.string f.name,vw,.int .i64 f.frm,.int .i64 f.to,.slice a f.l.length cap]∧f.name.size≤maxLen∧SlP p w vw (f.words.map .string)∧(∀ x ∈ f.words,x.size≤maxLen)∧f.l.length≤maxLen∧(a=none→cap=0) ∧
     (0 < f.l.length→∃ b off,a=some ⟨b,off,none⟩∧b < w.heap.size∧p b∧∀ j (h:j < f.l.length),∃ c0 c1 c2 c3 c4 c5,FilAt p n w (.agg #[c0,c1,c2,c3,c4,c5]) f.l[j] ∧
       w.cell? ⟨b,off + j * 6,none⟩=some c0∧w.cell? ⟨b,off + j * 6 + 1,none⟩=some c1∧w.cell? ⟨b,off + j * 6 + 2,none⟩=some c2∧w.cell? ⟨b,off + j * 6 + 3,none⟩=some c3∧w.cell? ⟨b,off + j * 6 + 4,none⟩=some c4∧w.cell? ⟨b,off + j * 6 + 5,none⟩=some c5)
theorem FilAt.ag {p:Nat→Prop}:∀ {n:Nat} {w w':World} {v:Value} {f:Fil},FilAt p n w v f→Ag p w w'→FilAt p n w' v f
 | 0,_,_,_,_,h,_=>h.elim
 | n + 1,w,w',v,f,h,hg=>by
   obtain ⟨vw,a,cap,hv,h1,h2,h3,h4,h5,h6⟩:=h
   refine ⟨vw,a,cap,hv,h1,h2.ag hg,h3,h4,h5,fun hl => ?_⟩
   obtain ⟨b,off,ha,hb,hp,hc⟩:=h6 hl
   refine ⟨b,off,ha,Nat.lt_of_lt_of_le hb hg.1,hp,fun j hj => ?_⟩
   obtain ⟨c0,c1,c2,c3,c4,c5,hf,e0,e1,e2,e3,e4,e5⟩:=hc j hj
   exact ⟨c0,c1,c2,c3,c4,c5,hf.ag hg,(hg.cell hb hp).trans e0,(hg.cell hb hp).trans e1,(hg.cell hb hp).trans e2,(hg.cell hb hp).trans e3,(hg.cell hb hp).trans e4,(hg.cell hb hp).trans e5⟩
theorem FilAt.weak {p q:Nat→Prop} (hpq:∀ b,p b→q b):∀ {n:Nat} {w:World} {v:Value} {f:Fil},FilAt p n w v f→FilAt q n w v f
 | 0,_,_,_,h=>h.elim
 | n + 1,w,v,f,h=>by
   obtain ⟨vw,a,cap,hv,h1,h2,h3,h4,h5,h6⟩:=h
   refine ⟨vw,a,cap,hv,h1,h2.weak hpq,h3,h4,h5,fun hl => ?_⟩
   obtain ⟨b,off,ha,hb,hp,hc⟩:=h6 hl
   refine ⟨b,off,ha,hb,hpq b hp,fun j hj => ?_⟩
   obtain ⟨c0,c1,c2,c3,c4,c5,hf,e⟩:=hc j hj
   exact ⟨c0,c1,c2,c3,c4,c5,hf.weak hpq,e⟩
theorem FilAt.shape {p:Nat→Prop} {n:Nat} {w:World} {v:Value} {f:Fil} (h:FilAt p n w v f):∃ x a cap,v = .agg #[.int .i64 f.kind,.string f.name,x,.int .i64 f.frm,.int .i64 f.to,.slice a f.l.length cap]:=by
 cases n with
 | zero=>exact h.elim
 | succ n=>obtain ⟨vw,a,cap,hv,_⟩:=h;exact ⟨vw,a,cap,hv⟩
set_option maxRecDepth 100000 in
set_option maxHeartbeats 2000000 in
theorem count_any (p:Nat→Prop) (n:Nat):∀ (v:Value) (f:Fil) (w:World),FilAt p n w v f→f.count≤1000000000 →
  Calls Tryz.prog 68 #[v] w fun e w'=>e = .returned (.int .i64 (f.count:Nat))∧Below w.heap.size w w':=by
 induction n with
 | zero=>intro v f w h;exact h.elim
 | succ n ih=>
   intro v f w h hcnt
   have HF:=Lib.hid h
   obtain ⟨vw,a,cap,rfl,_,hvw,_,hl,_,hc⟩:=h
   obtain ⟨wa,wn,wc,rfl⟩:=hvw.shape
   have HC:=Lib.hid hc
   have hlm:f.l.length≤9223372036854775807:=by unfold maxLen at hl;omega
   have HCE:=Lib.hid (Fil.count_eq f)
   have HCN:=Lib.hid hcnt
   clear hvw hc hl hcnt
   go_enter Tryz.func68,Tryz.ntmps68
   go_wp2_with fail
   obtain ⟨W0,hW0⟩:∃ W0,w.alloc (.cells #[.int .i64 f.kind,.string f.name,.slice wa wn wc,.int .i64 f.frm,.int .i64 f.to,.slice a f.l.length cap] 31)=W0:=⟨_,rfl⟩
   have hB0:Below w.heap.size w W0:=by rw [← hW0];exact (Below.refl _ _).alloc (Nat.le_refl _) _
   have hbox:W0.heap[w.heap.size]? = some (.cells #[.int .i64 f.kind,.string f.name,.slice wa wn wc,.int .i64 f.frm,.int .i64 f.to,.slice a f.l.length cap] 31 (0,0)):=by rw [← hW0];exact heap_alloc_new _ _
   rw [hW0]
   clear hW0
   go_loopw [3,4] (fun c i wr => ∃ k:Nat,k≤f.l.length∧i = .int .i64 k∧c = .int .i64 ((1 + Fil.countL (f.l.take k):Nat):Int)∧Below W0.heap.size W0 wr) (fun _ i _=>f.l.length - (intOf i).toNat)
   case atStart=>exact ⟨0,Nat.zero_le _,rfl,rfl,Below.refl _ _⟩
   case round=>
    obtain ⟨k,hk,rfl,rfl,hB⟩:=hrel
    have hs0:w.heap.size < W0.heap.size:=(Array.getElem?_eq_some_iff.1 hbox).1
    have c5:=cell_of_row wr w.heap.size 5 _ _ _ ((hB.block _ hs0).trans hbox)
    simp only [List.getElem?_toArray,List.getElem?_cons_succ,List.getElem?_cons_zero] at c5
    have HB:=Lib.hid (Bt hB0 hB)
    have HB':=Lib.hid hB
    clear hB
    by_cases hlt:k < f.l.length
    ·obtain ⟨b,off,rfl,hb,hp,hel⟩:=HC.out (by omega)
     obtain ⟨e0,e1,e2,e3,e4,e5,hf,q0,q1,q2,q3,q4,q5⟩:=hel k hlt
     have HIH:=Lib.hid (fun W (hBW:Below w.heap.size w W) (hc:(f.l[k]).count≤1000000000)=>ih _ _ W (hf.ag (Ag.new p hBW)) hc)
     have hki:(k:Int) < (f.l.length:Int):=by omega
     have r0:=(HB.out.cell (p:=⟨b,off + k * 6,none⟩) hb).trans q0
     have r1:=(HB.out.cell (p:=⟨b,off + k * 6 + 1,none⟩) hb).trans q1
     have r2:=(HB.out.cell (p:=⟨b,off + k * 6 + 2,none⟩) hb).trans q2
     have r3:=(HB.out.cell (p:=⟨b,off + k * 6 + 3,none⟩) hb).trans q3
     have r4:=(HB.out.cell (p:=⟨b,off + k * 6 + 4,none⟩) hb).trans q4
     have r5:=(HB.out.cell (p:=⟨b,off + k * 6 + 5,none⟩) hb).trans q5
     clear hel q0 q1 q2 q3 q4 q5 hf
     have hsc:=Fil.countL_take_succ f.l k hlt
     have hle:=Fil.countL_take_le f.l (k + 1)
     have hcn:=HCN.out
     rw [HCE.out] at hcn
     have hck:(f.l[k]).count≤1000000000:=by omega
     have HCK:=Lib.hid (HIH.out wr HB.out hck)
     have HSC:=Lib.hid hsc
     have hm:1 + Fil.countL (f.l.take k) + (f.l[k]).count≤1000000000:=by omega
     clear hsc hle hcn hck HIH
     generalize Fil.countL (f.l.take k)=m at *
     generalize (f.l[k]).count=m2 at *
     go_wp2_with (go_at_call 68;refine HCK.out.mono ?_;rintro e w2 ⟨rfl,hB2⟩;have HB2:=Lib.hid (Bt HB'.out hB2);clear hB2)
     go_roundw
     case rel=>exact ⟨k + 1,by omega,by go_num,by rw [HSC.out];go_num,HB2.out⟩
     case measure=>simp [intOf];omega
    ·have hki:¬ (k:Int) < (f.l.length:Int):=by omega
     have HE:=Lib.hid (show f.l.take k=f.l from List.take_of_length_le (by omega))
     go_wp2
     go_ret
     exact ⟨ret_int (by rw [HCE.out,HE.out];omega),HB.out⟩
theorem FilAt.shape6 {p:Nat→Prop} {n:Nat} {w:World} {v:Value} {f:Fil} (h:FilAt p n w v f):∃ wa wn wc a cap,v = .agg #[.int .i64 f.kind,.string f.name,.slice wa wn wc,.int .i64 f.frm,.int .i64 f.to,.slice a f.l.length cap]:=by
 cases n with
 | zero=>exact h.elim
 | succ n=>
   obtain ⟨vw,a,cap,hv,_,hs,_⟩:=h
   obtain ⟨x,y,z,rfl⟩:=hs.shape
   exact ⟨x,y,z,a,cap,hv⟩
end Go.Proofs.YtbbgjjjeecfnoaaGreatDoor
namespace Go.Proofs.YtbbgjjjeecfnoaaGreatDoor
open Go.RowKit Go.Sort
def RowsAt {α:Type} (k:Nat) (f:α→List Value) (p:Nat→Prop) (w:World) (v:Value) (l:List α):Prop:=
 ∃ a cap,v = .slice a l.length cap∧l.length≤maxLen∧l.length≤cap∧(a=none→cap=0) ∧
   (0 < l.length→∃ b off,a=some ⟨b,off,none⟩∧b < w.heap.size∧p b∧∀ j (h:j < l.length) i,i < k→w.cell? ⟨b,off + j * k + i,none⟩=(f l[j])[i]?)
section
variable {α:Type} {k:Nat} {f:α→List Value} {p q:Nat→Prop} {w w':World} {v:Value} {l:List α}
theorem RowsAt.ag (h:RowsAt k f p w v l) (hg:Ag p w w'):RowsAt k f p w' v l:=by
 obtain ⟨a,cap,hv,h1,h2,h3,h4⟩:=h
 refine ⟨a,cap,hv,h1,h2,h3,fun hl => ?_⟩
 obtain ⟨b,off,ha,hb,hp,hc⟩:=h4 hl
 exact ⟨b,off,ha,Nat.lt_of_lt_of_le hb hg.1,hp,fun j hj i hi=>(hg.cell hb hp).trans (hc j hj i hi)⟩
theorem RowsAt.weak (hpq:∀ b,p b→q b) (h:RowsAt k f p w v l):RowsAt k f q w v l:=by
 obtain ⟨a,cap,hv,h1,h2,h3,h4⟩:=h
 refine ⟨a,cap,hv,h1,h2,h3,fun hl => ?_⟩
 obtain ⟨b,off,ha,hb,hp,hc⟩:=h4 hl
 exact ⟨b,off,ha,hb,hpq b hp,hc⟩
theorem RowsAt.lt (h:RowsAt k f p w v l):RowsAt k f (fun b=>p b∧b < w.heap.size) w v l:=by
 obtain ⟨a,cap,hv,h1,h2,h3,h4⟩:=h
 refine ⟨a,cap,hv,h1,h2,h3,fun hl => ?_⟩
 obtain ⟨b,off,ha,hb,hp,hc⟩:=h4 hl
 exact ⟨b,off,ha,hb,⟨hp,hb⟩,hc⟩
theorem RowsAt.nil (k:Nat) (f:α→List Value) (p:Nat→Prop) (w:World):RowsAt k f p w (.slice none 0 0) []:=⟨none,0,rfl,Nat.zero_le _,Nat.zero_le _,fun _=>rfl,fun h=>absurd h (Nat.lt_irrefl 0)⟩
theorem RowsAt.take (h:RowsAt k f p w v l) (n:Nat) (hn:n≤l.length):∃ a cap,v = .slice a l.length cap∧RowsAt k f p w (.slice a n cap) (l.take n):=by
 obtain ⟨a,cap,hv,h1,h2,h3,h4⟩:=h
 have e:(l.take n).length=n:=by simp;omega
 refine ⟨a,cap,hv,a,cap,by rw [e],by rw [e];omega,by rw [e];omega,h3,fun hl => ?_⟩
 rw [e] at hl
 obtain ⟨b,off,ha,hb,hp,hc⟩:=h4 (by omega)
 refine ⟨b,off,ha,hb,hp,fun j hj i hi => ?_⟩
 rw [e] at hj
 rw [hc j (by omega) i hi];simp
end
end Go.Proofs.YtbbgjjjeecfnoaaGreatDoor
namespace Go.Proofs.YtbbgjjjeecfnoaaGreatDoor
open Go.RowKit Go.Sort
open Tess (Fil Que)
def aggF (a:Tess.Agg):List Value:=[.int .i64 a.kind,.string a.met]
def condF (c:Tess.Cond):List Value:=[.int .i64 c.pos,.int .i64 c.op,.int .i64 c.n]
def keyF (k:Tess.Key):List Value:=[.bool k.agg,.int .i64 k.pos,.bool k.desc]
def SetsAt (p:Nat→Prop) (w:World) (v:Value) (l:List (List ByteArray)):Prop:=
 ∃ a cap,v = .slice a l.length cap∧l.length≤maxLen∧l.length≤cap∧(a=none→cap=0) ∧
   (0 < l.length→∃ b off,a=some ⟨b,off,none⟩∧b < w.heap.size∧p b∧∀ j (h:j < l.length),∃ c,w.cell? ⟨b,off + j,none⟩=some c∧SlP p w c (l[j].map .string)∧∀ x ∈ l[j],x.size≤maxLen)
section
variable {p q:Nat→Prop} {w w':World} {v:Value} {l:List (List ByteArray)}
theorem SetsAt.ag (h:SetsAt p w v l) (hg:Ag p w w'):SetsAt p w' v l:=by
 obtain ⟨a,cap,hv,h1,h2,h3,h4⟩:=h
 refine ⟨a,cap,hv,h1,h2,h3,fun hl => ?_⟩
 obtain ⟨b,off,ha,hb,hp,hc⟩:=h4 hl
 refine ⟨b,off,ha,Nat.lt_of_lt_of_le hb hg.1,hp,fun j hj => ?_⟩
 obtain ⟨c,e1,e2,e3⟩:=hc j hj
 exact ⟨c,(hg.cell hb hp).trans e1,e2.ag hg,e3⟩
theorem SetsAt.weak (hpq:∀ b,p b→q b) (h:SetsAt p w v l):SetsAt q w v l:=by
 obtain ⟨a,cap,hv,h1,h2,h3,h4⟩:=h
 refine ⟨a,cap,hv,h1,h2,h3,fun hl => ?_⟩
 obtain ⟨b,off,ha,hb,hp,hc⟩:=h4 hl
 refine ⟨b,off,ha,hb,hpq b hp,fun j hj => ?_⟩
 obtain ⟨c,e1,e2,e3⟩:=hc j hj
 exact ⟨c,e1,e2.weak hpq,e3⟩
theorem SetsAt.nil (p:Nat→Prop) (w:World):SetsAt p w (.slice none 0 0) []:=⟨none,0,rfl,Nat.zero_le _,Nat.zero_le _,fun _=>rfl,fun h=>absurd h (Nat.lt_irrefl 0)⟩
end
structure QueAt (p:Nat→Prop) (n:Nat) (w:World) (v:Value) (q:Que) (va vb vs f0 f1 f2 f3 f4 f5 vh vo:Value):Prop where
 e:v = .agg #[va,vb,.int .i64 q.mode,vs,.int .i64 q.every,f0,f1,f2,f3,f4,f5,vh,vo,.int .i64 q.limit]
 aggs:RowsAt 2 aggF p w va q.aggs
 mets:∀ x ∈ q.aggs,x.met.size≤maxLen
 names:SlP p w vb (q.names.map .string)
 small:∀ x ∈ q.names,x.size≤maxLen
 sets:SetsAt p w vs q.sets
 fil:FilAt p n w (.agg #[f0,f1,f2,f3,f4,f5]) q.fil
 conds:RowsAt 3 condF p w vh q.conds
 keys:RowsAt 3 keyF p w vo q.keys
section
variable {p q:Nat→Prop} {n:Nat} {w w':World} {v:Value} {x:Que} {va vb vs f0 f1 f2 f3 f4 f5 vh vo:Value}
theorem QueAt.ag (h:QueAt p n w v x va vb vs f0 f1 f2 f3 f4 f5 vh vo) (hg:Ag p w w'):QueAt p n w' v x va vb vs f0 f1 f2 f3 f4 f5 vh vo:=
 ⟨h.e,h.aggs.ag hg,h.mets,h.names.ag hg,h.small,h.sets.ag hg,h.fil.ag hg,h.conds.ag hg,h.keys.ag hg⟩
theorem QueAt.weak (hpq:∀ b,p b→q b) (h:QueAt p n w v x va vb vs f0 f1 f2 f3 f4 f5 vh vo):QueAt q n w v x va vb vs f0 f1 f2 f3 f4 f5 vh vo:=
 ⟨h.e,h.aggs.weak hpq,h.mets,h.names.weak hpq,h.small,h.sets.weak hpq,h.fil.weak hpq,h.conds.weak hpq,h.keys.weak hpq⟩
end
section
variable {W:World} {B:Nat} {t:TypeId} {x0 x1 x2 x3 x4 x5 x6 x7 x8 x9 xa xb xc xd:Value}
theorem can14 (h:W.heap[B]? = some (.cells #[x0,x1,x2,x3,x4,x5,x6,x7,x8,x9,xa,xb,xc,xd] t (0,0))) :
  (W.cell? ⟨B,0,none⟩=some x0∧W.cell? ⟨B,1,none⟩=some x1∧W.cell? ⟨B,2,none⟩=some x2∧W.cell? ⟨B,3,none⟩=some x3∧W.cell? ⟨B,4,none⟩=some x4∧W.cell? ⟨B,5,none⟩=some x5∧W.cell? ⟨B,6,none⟩=some x6∧W.cell? ⟨B,7,none⟩=some x7∧W.cell? ⟨B,8,none⟩=some x8∧W.cell? ⟨B,9,none⟩=some x9∧W.cell? ⟨B,10,none⟩=some xa∧W.cell? ⟨B,11,none⟩=some xb∧W.cell? ⟨B,12,none⟩=some xc∧W.cell? ⟨B,13,none⟩=some xd) ∧
   ∀ i,i < 14→W.frozen? ⟨B,i,none⟩=false:=
 ⟨⟨cell_of_row _ _ 0 _ _ _ h,cell_of_row _ _ 1 _ _ _ h,cell_of_row _ _ 2 _ _ _ h,cell_of_row _ _ 3 _ _ _ h,cell_of_row _ _ 4 _ _ _ h,cell_of_row _ _ 5 _ _ _ h,cell_of_row _ _ 6 _ _ _ h,cell_of_row _ _ 7 _ _ _ h,cell_of_row _ _ 8 _ _ _ h,cell_of_row _ _ 9 _ _ _ h,cell_of_row _ _ 10 _ _ _ h,cell_of_row _ _ 11 _ _ _ h,cell_of_row _ _ 12 _ _ _ h,cell_of_row _ _ 13 _ _ _ h⟩,fun i _=>frozen_of_row _ _ i _ _ h⟩
end
end Go.Proofs.YtbbgjjjeecfnoaaGreatDoor
namespace Tess
open Go
namespace Fil
def cut:Nat→Fil→Fil
 | 0,f=>mk f.kind (cutN 30 f.name) ((f.words.take 10).map (cutN 110)) f.frm f.to []
 | d + 1,f=>mk f.kind (cutN 30 f.name) ((f.words.take 10).map (cutN 110)) f.frm f.to ((f.l.take 10).map (cut d))
def tops:Nat→Nat
 | 0=>1
 | d + 1=>1 + 10 * tops d
theorem cut_count (d:Nat):∀ f:Fil,(cut d f).count≤tops d:=by
 induction d with
 | zero=>intro f;rw [count_eq];simp [cut,l,countL,tops]
 | succ d ih=>
   intro f
   rw [count_eq]
   have h:∀ q:List Fil,countL (q.map (cut d))≤q.length * tops d:=fun q=>by
    induction q with
    | nil=>simp [countL]
    | cons a r ihr=>
      have:=ih a
      rw [List.map_cons,List.length_cons,Nat.add_mul]
      unfold countL
      omega
   have h1:=h (f.l.take 10)
   have h2:(f.l.take 10).length≤10:=by rw [List.length_take];omega
   have h3:(f.l.take 10).length * tops d≤10 * tops d:=Nat.mul_le_mul_right _ h2
   show 1 + countL ((f.l.take 10).map (cut d))≤1 + 10 * tops d
   omega
end Fil
end Tess
namespace Go.Proofs.YtbbgjjjeecfnoaaGreatDoor
open Go.RowKit Go.Sort
open Tess (Fil)
theorem FilAt.lt {p:Nat→Prop}:∀ {n:Nat} {w:World} {v:Value} {f:Fil},FilAt p n w v f→FilAt (fun b=>p b∧b < w.heap.size) n w v f
 | 0,_,_,_,h=>h.elim
 | n + 1,w,v,f,h=>by
   obtain ⟨vw,a,cap,hv,h1,h2,h3,h4,h5,h6⟩:=h
   refine ⟨vw,a,cap,hv,h1,h2.lt,h3,h4,h5,fun hl => ?_⟩
   obtain ⟨b,off,ha,hb,hp,hc⟩:=h6 hl
   refine ⟨b,off,ha,hb,⟨hp,hb⟩,fun j hj => ?_⟩
   obtain ⟨c0,c1,c2,c3,c4,c5,hf,e⟩:=hc j hj
   exact ⟨c0,c1,c2,c3,c4,c5,hf.lt,e⟩
theorem FilAt.mono {p:Nat→Prop}:∀ {n m:Nat} {w:World} {v:Value} {f:Fil},n≤m→FilAt p n w v f→FilAt p m w v f
 | 0,_,_,_,_,_,h=>h.elim
 | n + 1,0,_,_,_,hnm,_=>by omega
 | n + 1,m + 1,w,v,f,hnm,h=>by
   obtain ⟨vw,a,cap,hv,h1,h2,h3,h4,h5,h6⟩:=h
   refine ⟨vw,a,cap,hv,h1,h2,h3,h4,h5,fun hl => ?_⟩
   obtain ⟨b,off,ha,hb,hp,hc⟩:=h6 hl
   refine ⟨b,off,ha,hb,hp,fun j hj => ?_⟩
   obtain ⟨c0,c1,c2,c3,c4,c5,hf,e⟩:=hc j hj
   exact ⟨c0,c1,c2,c3,c4,c5,hf.mono (by omega),e⟩
def newAt (B:Nat) (cs:Array Value) (t:TypeId) (v:Value) (w:World):Prop:=∃ g,v = .pointer (some ⟨g,0,none⟩)∧B≤g∧w.heap[g]? = some (.cells cs t (0,0))
theorem newAt_mono (B:Nat) (cs:Array Value) (t:TypeId):Flow.Spec.mono (.inr (newAt B cs t)):=fun _ _ _ ⟨g,h1,h2,h3⟩ hb=>⟨g,h1,h2,(hb.block g (Array.getElem?_eq_some_iff.1 h3).1).trans h3⟩
def cells6:Value→List Value
 | .agg cs=>cs.toList
 | _=>[]
structure Fils (N:Nat) (p:Nat→Prop) (n:Nat) (W:World) (lv:Value) (us:List Value) (fs:List Fil):Prop where
 own:W.ownsRow N 31 6 lv us.length (us.flatMap cells6)
 len:us.length=fs.length
 at_:∀ j (h:j < fs.length) (h':j < us.length),FilAt p n W us[j] fs[j]
theorem cells6_len {p:Nat→Prop} {n:Nat} {w:World} {v:Value} {f:Fil} (h:FilAt p n w v f):(cells6 v).length=6:=by
 obtain ⟨x,a,cap,rfl⟩:=h.shape;rfl
theorem flat6 (us:List Value) (h:∀ u ∈ us,(cells6 u).length=6):∀ (j i:Nat) (hj:j < us.length),i < 6→(us.flatMap cells6)[j * 6 + i]? = (cells6 us[j])[i]? := by
 induction us with
 | nil=>intro j i hj;simp at hj
 | cons u r ih=>
   intro j i hj hi
   rw [List.flatMap_cons]
   cases j with
   | zero=>
     rw [List.getElem?_append_left (by rw [h u (List.mem_cons_self)];omega)]
     simp
   | succ j=>
     rw [List.getElem?_append_right (by rw [h u (List.mem_cons_self)];omega),h u (List.mem_cons_self),show (j + 1) * 6 + i - 6=j * 6 + i by omega]
     exact ih (fun x hx=>h x (List.mem_cons_of_mem _ hx)) j i (by simpa using hj) hi
theorem owns_cell_any {w:World} {base:Nat} {e:TypeId} {size:Nat} {v:Value} {n:Nat} {xs:List Value} (h:w.ownsRow base e size v n xs) (hn:0 < n) :
  ∃ g cap,v = .slice (some ⟨g,0,none⟩) n cap∧base≤g∧g < w.heap.size∧n≤cap∧cap≤maxLen∧∀ j,j < n * size→w.cell? ⟨g,j,none⟩=xs[j]? := by
 obtain ⟨hl,h⟩:=h
 rcases h with ⟨_,h0⟩ | ⟨g,cap,cur,hv,hb,hg,hcap,hm,hs,ht⟩
 ·omega
 ·refine ⟨g,cap,hv,hb,(Array.getElem?_eq_some_iff.1 hg).1,hcap,hm,fun j hj => ?_⟩
  rw [cell_of_row _ _ _ _ _ _ hg,← ht,List.getElem?_take,if_pos hj,Array.getElem?_toList]
theorem Fils.listed {N:Nat} {p q:Nat→Prop} {n:Nat} {W:World} {lv:Value} {us:List Value} {fs:List Fil} (h:Fils N p n W lv us fs) (hpq:∀ b,p b→q b) (hN:∀ b,N≤b→q b) :
  ∃ a cap,lv = .slice a fs.length cap∧fs.length≤maxLen∧(a=none→cap=0) ∧
    (0 < fs.length→∃ b off,a=some ⟨b,off,none⟩∧b < W.heap.size∧q b∧∀ j (h:j < fs.length),∃ c0 c1 c2 c3 c4 c5,FilAt q n W (.agg #[c0,c1,c2,c3,c4,c5]) fs[j] ∧
      W.cell? ⟨b,off + j * 6,none⟩=some c0∧W.cell? ⟨b,off + j * 6 + 1,none⟩=some c1∧W.cell? ⟨b,off + j * 6 + 2,none⟩=some c2∧W.cell? ⟨b,off + j * 6 + 3,none⟩=some c3∧W.cell? ⟨b,off + j * 6 + 4,none⟩=some c4∧W.cell? ⟨b,off + j * 6 + 5,none⟩=some c5):=by
 have hlen:=h.len
 rcases Nat.eq_zero_or_pos us.length with h0 | h0
 ·have hf0:fs=[]:=List.eq_nil_of_length_eq_zero (by omega)
  subst hf0
  obtain ⟨_,⟨hv,_⟩ | ⟨g,cap,cur,hv,hb,hg,_⟩⟩:=h.own
  ·exact ⟨none,0,hv,Nat.zero_le _,fun _=>rfl,fun h=>absurd h (by simp)⟩
  ·rw [h0] at hv
   exact ⟨_,cap,hv,Nat.zero_le _,(fun e=>by cases e),fun h=>absurd h (by simp)⟩
 ·obtain ⟨g,cap,hv,hb,hlt,hcap,hm,hc⟩:=owns_cell_any h.own h0
  refine ⟨_,cap,by rw [hv,hlen],by omega,(fun e=>by cases e),fun _=>⟨g,0,rfl,hlt,hN g hb,fun j hj => ?_⟩⟩
  have hj':j < us.length:=by omega
  have hat:=h.at_ j hj hj'
  obtain ⟨x,a,c,hs⟩:=hat.shape
  have h6:∀ u ∈ us,(cells6 u).length=6:=fun u hu=>by
   obtain ⟨i,hi,rfl⟩:=List.getElem_of_mem hu
   exact cells6_len (h.at_ i (by omega) hi)
  have hcell:∀ i,i < 6→W.cell? ⟨g,0 + j * 6 + i,none⟩=(cells6 us[j])[i]? := fun i hi=>by
   rw [show 0 + j * 6 + i=j * 6 + i by omega,hc _ (by omega),flat6 us h6 j i hj' hi]
  rw [hs] at hat hcell
  exact ⟨_,_,_,_,_,_,hat.weak hpq,hcell 0 (by omega),hcell 1 (by omega),hcell 2 (by omega),hcell 3 (by omega),hcell 4 (by omega),hcell 5 (by omega)⟩
theorem infoFil:(Tryz.prog.info? 31).map (fun i=>(i.zero,i.size,i.bytes))=some (some (.agg #[.int .i64 0,.string ⟨#[]⟩,.slice none 0 0,.int .i64 0,.int .i64 0,.slice none 0 0]),6,88):=by kernel_rfl
theorem set6 {W:World} {g:Nat} {x0 x1 x2 x3 x4 x5:Value} {t:TypeId} (y0 y1 y2 y3 y4 y5:Value) (h:W.heap[g]? = some (.cells #[x0,x1,x2,x3,x4,x5] t (0,0))) :
  ((((((W.setCell ⟨g,0,none⟩ y0).setCell ⟨g,1,none⟩ y1).setCell ⟨g,2,none⟩ y2).setCell ⟨g,3,none⟩ y3).setCell ⟨g,4,none⟩ y4).setCell ⟨g,5,none⟩ y5).heap[g]? = some (.cells #[y0,y1,y2,y3,y4,y5] t (0,0)):=
 heap_setCell_same _ _ _ _ _ _ (heap_setCell_same _ _ _ _ _ _ (heap_setCell_same _ _ _ _ _ _ (heap_setCell_same _ _ _ _ _ _ (heap_setCell_same _ _ _ _ _ _ (heap_setCell_same _ _ _ _ _ _ h)))))
theorem set6_other {W:World} {g k:Nat} (y0 y1 y2 y3 y4 y5:Value) (h:k≠g) :
  ((((((W.setCell ⟨g,0,none⟩ y0).setCell ⟨g,1,none⟩ y1).setCell ⟨g,2,none⟩ y2).setCell ⟨g,3,none⟩ y3).setCell ⟨g,4,none⟩ y4).setCell ⟨g,5,none⟩ y5).heap[k]? = W.heap[k]? := by
 rw [heap_setCell_other _ _ _ _ h,heap_setCell_other _ _ _ _ h,heap_setCell_other _ _ _ _ h,heap_setCell_other _ _ _ _ h,heap_setCell_other _ _ _ _ h,heap_setCell_other _ _ _ _ h]
theorem set6_below {B:Nat} {a W:World} {g:Nat} (y0 y1 y2 y3 y4 y5:Value) (h:Below B a W) (hg:B≤g) :
  Below B a ((((((W.setCell ⟨g,0,none⟩ y0).setCell ⟨g,1,none⟩ y1).setCell ⟨g,2,none⟩ y2).setCell ⟨g,3,none⟩ y3).setCell ⟨g,4,none⟩ y4).setCell ⟨g,5,none⟩ y5):=
 (((((h.setCell hg _).setCell hg _).setCell hg _).setCell hg _).setCell hg _).setCell hg _
theorem set6_size {W:World} {g:Nat} (y0 y1 y2 y3 y4 y5:Value):((((((W.setCell ⟨g,0,none⟩ y0).setCell ⟨g,1,none⟩ y1).setCell ⟨g,2,none⟩ y2).setCell ⟨g,3,none⟩ y3).setCell ⟨g,4,none⟩ y4).setCell ⟨g,5,none⟩ y5).heap.size=W.heap.size:=by simp [World.setCell]
theorem set6_ag (q:Nat→Prop) {W:World} {g:Nat} (y0 y1 y2 y3 y4 y5:Value) (h:¬ q g) :
  Ag q W ((((((W.setCell ⟨g,0,none⟩ y0).setCell ⟨g,1,none⟩ y1).setCell ⟨g,2,none⟩ y2).setCell ⟨g,3,none⟩ y3).setCell ⟨g,4,none⟩ y4).setCell ⟨g,5,none⟩ y5):=
 (((((Ag.set q _ _ h).trans (Ag.set q _ _ h)).trans (Ag.set q _ _ h)).trans (Ag.set q _ _ h)).trans (Ag.set q _ _ h)).trans (Ag.set q _ _ h)
structure Cf (w:World) (g:Nat) (bx:Array Value) (k:Int) (nm:ByteArray) (wv:Value) (fr to:Int) (lv:Value) (W:World):Prop where
 k1:W.heap[w.heap.size]? = some (.cells bx 31 (0,0))
 k2:W.heap[w.heap.size + 1]? = some (.cells #[.int .i64 0,.string ⟨#[]⟩,.slice none 0 0,.int .i64 0,.int .i64 0,.slice none 0 0] 31 (0,0))
 k3:W.heap[g]? = some (.cells #[.int .i64 k,.string nm,wv,.int .i64 fr,.int .i64 to,lv] 31 (0,0))
 below:Below w.heap.size w W
 hg:w.heap.size + 2≤g
section
variable {w W W':World} {g:Nat} {bx:Array Value} {k fr to:Int} {nm:ByteArray} {wv lv:Value}
theorem Cf.lt (h:Cf w g bx k nm wv fr to lv W):g < W.heap.size:=(Array.getElem?_eq_some_iff.1 h.k3).1
theorem Cf.later (h:Cf w g bx k nm wv fr to lv W) (hb:Below W.heap.size W W'):Cf w g bx k nm wv fr to lv W':=
 have:=h.lt;have:=h.hg
 ⟨(hb.block _ (by omega)).trans h.k1,(hb.block _ (by omega)).trans h.k2,(hb.block _ (by omega)).trans h.k3,Bt h.below hb,h.hg⟩
theorem Cf.grown (h:Cf w g bx k nm wv fr to lv W) {o:Option Nat} (hg:W.grownBy W' o) (ho:∀ k,o=some k→g < k):Cf w g bx k nm wv fr to lv W':=
 have h1:=h.lt;have h2:=h.hg
 ⟨(hg.block _ (by omega) (fun e=>by have:=ho _ e.symm;omega)).trans h.k1,(hg.block _ (by omega) (fun e=>by have:=ho _ e.symm;omega)).trans h.k2,(hg.block _ (by omega) (fun e=>by have:=ho _ e.symm;omega)).trans h.k3,
   h.below.grown hg h.below.size (fun k e=>by have:=ho k e;omega),h.hg⟩
theorem Cf.set2 (h:Cf w g bx k nm wv fr to lv W) (wv':Value):Cf w g bx k nm wv' fr to lv (W.setCell ⟨g,2,none⟩ wv'):=
 have h2:=h.hg
 ⟨(heap_setCell_other _ _ _ _ (by show _≠g;omega)).trans h.k1,(heap_setCell_other _ _ _ _ (by show _≠g;omega)).trans h.k2,heap_setCell_same _ _ _ _ _ _ h.k3,h.below.setCell (by show _≤g;omega) _,h.hg⟩
theorem Cf.set5 (h:Cf w g bx k nm wv fr to lv W) (lv':Value):Cf w g bx k nm wv fr to lv' (W.setCell ⟨g,5,none⟩ lv'):=
 have h2:=h.hg
 ⟨(heap_setCell_other _ _ _ _ (by show _≠g;omega)).trans h.k1,(heap_setCell_other _ _ _ _ (by show _≠g;omega)).trans h.k2,heap_setCell_same _ _ _ _ _ _ h.k3,h.below.setCell (by show _≤g;omega) _,h.hg⟩
end
theorem cf_start {w W0 w2:World} {g:Nat} {bx:Array Value} {k fr to:Int} (nm nm':ByteArray) (hn:nm=nm') (hB0:Below w.heap.size w W0) (hS0:W0.heap.size=w.heap.size + 2) (hw2:Below W0.heap.size W0 w2)
  (hk1:W0.heap[w.heap.size]? = some (.cells bx 31 (0,0)))
  (hk2:W0.heap[w.heap.size + 1]? = some (.cells #[.int .i64 0,.string ⟨#[]⟩,.slice none 0 0,.int .i64 0,.int .i64 0,.slice none 0 0] 31 (0,0)))
  (hgb:w.heap.size + 2≤g) (hk3:w2.heap[g]? = some (.cells #[.int .i64 0,.string ⟨#[]⟩,.slice none 0 0,.int .i64 0,.int .i64 0,.slice none 0 0] 31 (0,0))) :
  ∃ W1,((((((w2.setCell ⟨g,0,none⟩ (.int .i64 k)).setCell ⟨g,1,none⟩ (.string nm)).setCell ⟨g,2,none⟩ (.slice none 0 0)).setCell ⟨g,3,none⟩ (.int .i64 fr)).setCell ⟨g,4,none⟩ (.int .i64 to)).setCell ⟨g,5,none⟩ (.slice none 0 0))=W1∧Cf w g bx k nm' (.slice none 0 0) fr to (.slice none 0 0) W1:=by
 subst hn
 refine ⟨_,rfl,⟨?_,?_,set6 _ _ _ _ _ _ hk3,set6_below _ _ _ _ _ _ (hB0.trans (hw2.mono hB0.size)) (by omega),hgb⟩⟩
 ·rw [set6_other _ _ _ _ _ _ (by omega)];exact (hw2.block _ (by omega)).trans hk1
 ·rw [set6_other _ _ _ _ _ _ (by omega)];exact (hw2.block _ (by omega)).trans hk2
theorem cut_fil {q:Nat→Prop} {n:Nat} {W:World} {k fr to:Int} {nm:ByteArray} {ws:List ByteArray} {fs:List Fil} {wv:Value} {la:Option Addr} {len lc:Nat} (hlen:len=fs.length) (h1:nm.size≤maxLen) (h2:SlP q W wv (ws.map .string)) (h3:∀ x ∈ ws,x.size≤maxLen) (h4:fs.length≤maxLen) (h5:la=none→lc=0)
  (h6:0 < fs.length→∃ b off,la=some ⟨b,off,none⟩∧b < W.heap.size∧q b∧∀ j (h:j < fs.length),∃ c0 c1 c2 c3 c4 c5,FilAt q n W (.agg #[c0,c1,c2,c3,c4,c5]) fs[j] ∧
     W.cell? ⟨b,off + j * 6,none⟩=some c0∧W.cell? ⟨b,off + j * 6 + 1,none⟩=some c1∧W.cell? ⟨b,off + j * 6 + 2,none⟩=some c2∧W.cell? ⟨b,off + j * 6 + 3,none⟩=some c3∧W.cell? ⟨b,off + j * 6 + 4,none⟩=some c4∧W.cell? ⟨b,off + j * 6 + 5,none⟩=some c5) :
  FilAt q (n + 1) W (.agg #[.int .i64 k,.string nm,wv,.int .i64 fr,.int .i64 to,.slice la len lc]) (Fil.mk k nm ws fr to fs):=by
 subst hlen
 exact ⟨wv,la,lc,rfl,h1,h2,h3,h4,h5,h6⟩
def newFil (N n:Nat) (f:Fil) (v:Value) (W:World):Prop:=∃ gn x,v = .slice (some ⟨gn,0,none⟩) 1 1∧gn < W.heap.size∧FilAt (fun b=>N≤b) n W x f∧∀ j u,(cells6 x)[j]? = some u→W.cell? ⟨gn,j,none⟩=some u
theorem newFil_mono (N n:Nat) (f:Fil):Flow.Spec.mono (.inr (newFil N n f)):=fun _ _ _ ⟨gn,x,h1,h2,h3,h4⟩ hb=>⟨gn,x,h1,Nat.lt_of_lt_of_le h2 hb.size,h3.ag (Ag.new _ hb),fun j u hj=>(hb.cell (p:=⟨gn,j,none⟩) h2).trans (h4 j u hj)⟩
def isFil (N n:Nat) (f:Fil) (v:Value) (W:World):Prop:=FilAt (fun b=>N≤b) n W v f
theorem isFil_mono (N n:Nat) (f:Fil):Flow.Spec.mono (.inr (isFil N n f)):=fun _ _ _ h hb=>FilAt.ag h (Ag.new _ hb)
theorem cells6_one {p:Nat→Prop} {n:Nat} {w:World} {v:Value} {f:Fil} (h:FilAt p n w v f):∀ u ∈ cells6 v,u.oneCell'=true:=by
 cases n with
 | zero=>exact h.elim
 | succ n=>
   obtain ⟨vw,a,cap,rfl,_,hs,_⟩:=h
   obtain ⟨x,y,z,rfl⟩:=hs.shape
   intro u hu
   simp only [cells6,List.mem_cons,List.not_mem_nil,or_false] at hu
   rcases hu with rfl | rfl | rfl | rfl | rfl | rfl <;> rfl
theorem Fils.below {N:Nat} {q:Nat→Prop} {n:Nat} {W W':World} {lv:Value} {us:List Value} {fs:List Fil} (h:Fils N q n W lv us fs) (hb:Below W.heap.size W W'):Fils N q n W' lv us fs:=
 ⟨owns_below h.own hb,h.len,fun j hj hj'=>(h.at_ j hj hj').ag (Ag.new _ hb)⟩
theorem Fils.set {N:Nat} {q:Nat→Prop} {n:Nat} {W:World} {lv:Value} {us:List Value} {fs:List Fil} (h:Fils N q n W lv us fs) {g i:Nat} (hg:g < N) (hq:∀ b,q b→N≤b) (u:Value):Fils N q n (W.setCell ⟨g,i,none⟩ u) lv us fs:=
 ⟨ownsRow_setCell_below h.own (by show g < N;exact hg) _,h.len,fun j hj hj'=>(h.at_ j hj hj').ag (Ag.set q W u (fun e=>by have:=hq _ e;simp only at this;omega))⟩
theorem Fils.more {N:Nat} {n:Nat} {W W':World} {lv lv':Value} {us:List Value} {fs:List Fil} {x:Value} {f:Fil} {L:Nat}
  (h:Fils N (fun b=>N≤b∧lv.ownBlock≠some b) n W lv us fs) (hx:FilAt (fun b=>L≤b) n W x f) (hL:∀ g,lv.ownBlock=some g→g < L) (hNL:N≤L)
  (hown:W'.ownsRow N 31 6 lv' (us.length + 1) (us.flatMap cells6 ++ cells6 x)) (hg:W.grownBy W' lv.ownBlock) (hloc:lv'.ownBlock=lv.ownBlock∨lv'.ownBlock=some W.heap.size) :
  Fils N (fun b=>N≤b∧lv'.ownBlock≠some b) n W' lv' (us ++ [x]) (fs ++ [f]):=by
 have hag:Ag (fun b=>lv.ownBlock≠some b) W W':=Ag.grown hg fun g e=>by rw [e];simp
 have key:∀ {v f},FilAt (fun b=>N≤b∧lv.ownBlock≠some b) n W v f→FilAt (fun b=>N≤b∧lv'.ownBlock≠some b) n W' v f:=fun h=>
  (h.lt.ag (hag.weak fun b hb=>hb.1.2)).weak fun b hb=>⟨hb.1.1,by
   rcases hloc with e | e
   ·rw [e];exact hb.1.2
   ·rw [e];intro e';have:=hb.2;simp only [Option.some.injEq] at e';omega⟩
 refine ⟨by simpa using hown,by simp [h.len],fun j hj hj' => ?_⟩
 have hlen:=h.len
 by_cases e:j < us.length
 ·rw [List.getElem_append_left e,List.getElem_append_left (by omega)]
  exact key (h.at_ j (by omega) e)
 ·have ej:j=us.length:=by simp at hj';omega
  subst ej
  rw [List.getElem_append_right (by omega)]
  have:(fs ++ [f])[us.length]=f:=by rw [List.getElem_append_right (by omega)];simp
  rw [this]
  simp only [Nat.sub_self,List.getElem_cons_zero]
  exact key (hx.weak fun b hb=>⟨Nat.le_trans hNL hb,fun e=>by have:=hL b e;have:L≤b:=hb;omega⟩)
end Go.Proofs.YtbbgjjjeecfnoaaGreatDoor
namespace Go.Proofs.YtbbgjjjeecfnoaaGreatDoor
open Go.RowKit Go.Sort
open Tess (Fil Que)
theorem flatK {α:Type} {k:Nat} {f:α→List Value} (l:List α) (h:∀ x ∈ l,(f x).length=k):∀ (j i:Nat) (hj:j < l.length),i < k→(l.flatMap f)[j * k + i]? = (f l[j])[i]? := by
 induction l with
 | nil=>intro j i hj;simp at hj
 | cons u r ih=>
   intro j i hj hi
   rw [List.flatMap_cons]
   cases j with
   | zero=>
     rw [List.getElem?_append_left (by rw [h u (List.mem_cons_self)];omega)]
     simp
   | succ j=>
     have e:(j + 1) * k + i=k + (j * k + i):=by rw [Nat.succ_mul];omega
     rw [e,List.getElem?_append_right (by rw [h u (List.mem_cons_self)];omega),h u (List.mem_cons_self),Nat.add_sub_cancel_left]
     exact ih (fun x hx=>h x (List.mem_cons_of_mem _ hx)) j i (by simpa using hj) hi
theorem rows_owned {α:Type} {k:Nat} {f:α→List Value} {w:World} {base:Nat} {t:TypeId} {v:Value} {l:List α} (hf:∀ x ∈ l,(f x).length=k) (h:w.ownsRow base t k v l.length (l.flatMap f)) (hl:l.length≤maxLen) (hn:l=[]→v = .slice none 0 0):RowsAt k f (fun b=>base≤b) w v l:=by
 rcases Nat.eq_zero_or_pos l.length with h0 | h0
 ·have:l=[]:=List.length_eq_zero_iff.1 h0
  subst this
  rw [hn rfl]
  exact RowsAt.nil _ _ _ _
 ·obtain ⟨g,cap,hv,hb,hg,hcap,_,hc⟩:=owns_cell_any h h0
  refine ⟨_,_,hv,hl,hcap,(fun e=>by cases e),fun _=>⟨g,0,rfl,hg,hb,fun j hj i hi => ?_⟩⟩
  have hjk:j * k + i < l.length * k:=by
   have:=Nat.mul_le_mul_right k (show j + 1≤l.length from hj)
   rw [Nat.succ_mul] at this;omega
  rw [Nat.zero_add,hc _ hjk]
  exact flatK l hf j i hj hi
structure Setl (N:Nat) (p:Nat→Prop) (W:World) (lv:Value) (us:List Value) (ls:List (List ByteArray)):Prop where
 own:W.ownsRow N 22 1 lv us.length us
 len:us.length=ls.length
 at_:∀ j (h:j < ls.length) (h':j < us.length),SlP p W us[j] (ls[j].map .string)
theorem Setl.below {N:Nat} {q:Nat→Prop} {W W':World} {lv:Value} {us:List Value} {ls:List (List ByteArray)} (h:Setl N q W lv us ls) (hb:Below W.heap.size W W'):Setl N q W' lv us ls:=
 ⟨owns_below h.own hb,h.len,fun j hj hj'=>(h.at_ j hj hj').ag (Ag.new _ hb)⟩
theorem Setl.set {N:Nat} {q:Nat→Prop} {W:World} {lv:Value} {us:List Value} {ls:List (List ByteArray)} (h:Setl N q W lv us ls) {g i:Nat} (hg:g < N) (hq:∀ b,q b→N≤b) (u:Value):Setl N q (W.setCell ⟨g,i,none⟩ u) lv us ls:=
 ⟨ownsRow_setCell_below h.own (by show g < N;exact hg) _,h.len,fun j hj hj'=>(h.at_ j hj hj').ag (Ag.set q W u (fun e=>by have:=hq _ e;simp only at this;omega))⟩
theorem Setl.more {N:Nat} {W W':World} {lv lv':Value} {us:List Value} {ls:List (List ByteArray)} {x:Value} {l:List ByteArray} {L:Nat}
  (h:Setl N (fun b=>N≤b∧lv.ownBlock≠some b) W lv us ls) (hx:SlP (fun b=>L≤b) W x (l.map .string)) (hL:∀ g,lv.ownBlock=some g→g < L) (hNL:N≤L)
  (hown:W'.ownsRow N 22 1 lv' (us.length + 1) (us ++ [x])) (hg:W.grownBy W' lv.ownBlock) (hloc:lv'.ownBlock=lv.ownBlock∨lv'.ownBlock=some W.heap.size) :
  Setl N (fun b=>N≤b∧lv'.ownBlock≠some b) W' lv' (us ++ [x]) (ls ++ [l]):=by
 have hag:Ag (fun b=>lv.ownBlock≠some b) W W':=Ag.grown hg fun g e=>by rw [e];simp
 have key:∀ {v cs},SlP (fun b=>N≤b∧lv.ownBlock≠some b) W v cs→SlP (fun b=>N≤b∧lv'.ownBlock≠some b) W' v cs:=fun h=>
  ((h.lt).ag (hag.weak fun b hb=>hb.1.2)).weak fun b hb=>⟨hb.1.1,by
    rcases hloc with e | e
    ·rw [e];exact hb.1.2
    ·rw [e];intro e2;have:=Option.some.inj e2;have:=hb.2;omega⟩
 refine ⟨by simpa using hown,by simp [h.len],fun j hj hj' => ?_⟩
 by_cases hjl:j < us.length
 ·have hjl':j < ls.length:=by have:=h.len;omega
  rw [List.getElem_append_left hjl,List.getElem_append_left hjl']
  exact key (h.at_ j hjl' hjl)
 ·have e1:j=us.length:=by simp at hj';omega
  have e2:j=ls.length:=by have:=h.len;omega
  rw [List.getElem_append_right (by omega),List.getElem_append_right (by omega)]
  simp only [e1,h.len,Nat.sub_self,List.getElem_cons_zero]
  exact key (hx.weak fun b hb=>⟨by have:L≤b:=hb;omega,fun e=>by have:=hL b e;have:L≤b:=hb;omega⟩)
theorem Setl.listed {N:Nat} {p q:Nat→Prop} {W:World} {lv:Value} {us:List Value} {ls:List (List ByteArray)} (h:Setl N p W lv us ls) (hpq:∀ b,p b→q b) (hN:∀ b,N≤b→q b) (hs:∀ l ∈ ls,∀ x ∈ l,x.size≤maxLen) (hl:ls.length≤maxLen) (hn:ls=[]→lv = .slice none 0 0):SetsAt q W lv ls:=by
 have hlen:=h.len
 rcases Nat.eq_zero_or_pos us.length with h0 | h0
 ·have hf0:ls=[]:=List.eq_nil_of_length_eq_zero (by omega)
  rw [hn hf0,hf0]
  exact SetsAt.nil _ _
 ·obtain ⟨g,cap,hv,hb,hlt,hcap,hm,hc⟩:=owns_cell_any h.own h0
  refine ⟨_,cap,by rw [hv,hlen],by omega,by omega,(fun e=>by cases e),fun _=>⟨g,0,rfl,hlt,hN g hb,fun j hj => ?_⟩⟩
  have hj':j < us.length:=by omega
  exact ⟨us[j],by rw [Nat.zero_add,hc j (by omega)];simp [hj'],(h.at_ j hj hj').weak hpq,fun x hx=>hs _ (List.getElem_mem hj) x hx⟩
theorem infoAgg:(Tryz.prog.info? 83).map (fun i=>(i.zero,i.size,i.bytes))=some (some (.agg #[.int .i64 0,.string ⟨#[]⟩]),2,24):=by kernel_rfl
theorem infoSet:(Tryz.prog.info? 22).map (fun i=>(i.zero,i.size,i.bytes))=some (some (.slice none 0 0),1,24):=by kernel_rfl
end Go.Proofs.YtbbgjjjeecfnoaaGreatDoor
