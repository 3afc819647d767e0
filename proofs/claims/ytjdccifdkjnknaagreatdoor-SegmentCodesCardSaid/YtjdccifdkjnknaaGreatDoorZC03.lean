/- Joined. -/
import Derived.Test.YtjdccifdkjnknaaGreatDoorZC02
import Derived.Lib.AppendZerosOnto
import Derived.Test.YtjdccifdkjnknaaGreatDoorZC00
import Derived.Sort.Walk0
set_option maxRecDepth 100000
set_option maxHeartbeats 2000000
namespace Tess
open Go
def nT(s:ByteArray)(k:Nat):Prop:=∀j (h:j<s.size),j<k->(if j=0 then iL s[j]else iR s[j])=true
theorem nTs{s:ByteArray}{k:Nat}(hk:k<s.size)(h:nT s k)(hc:(if k=0 then iL s[k]else iR s[k])=true):nT s (k+1):=by
 intro j hj Aa;by_cases e:j<k
 ·exact h j hj e
 ·obtain rfl:j=k:=by omega
  exact hc
theorem nLi(l:List UInt8):nL2 l=true↔0<l.length/\∀j (h:j<l.length),(if j=0 then iL l[j]else iR l[j])=true:=by
 cases l with
 |nil=>simp[nL2]
 |cons c r=>
   simp only[nL2,qb,qx,qU];constructor
   ·rintro⟨h1,h2⟩;refine⟨by omega,fun j hj=>?_⟩;cases j with
    |zero=>simpa using h1
    |succ j=>simpa using h2 _ (qP (by omega))
   ·rintro⟨_,h⟩;refine⟨by simpa using h 0 (by omega),fun x hx=>?_⟩;obtain⟨j,hj,rfl⟩:=zq hx;have:=h (j+1) (by omega);rwa [qH (by omega),zR]at this
theorem bget(s:ByteArray)(j:Nat)(h:j<s.size):s.data.toList[j]'(by simpa using h)=s[j]:=by simp;rfl
theorem oi2(s:ByteArray)(k:Nat)(hk:k<s.size)(c:Nat)(hc:c=s[k].toNat) :
  (if k=0 then iL s[k]else iR s[k])=true↔(97<=c/\c<=122)∨(0<k/\(c=95∨(48<=c/\c<=57))):=by
 unfold iR iL;rw[<-hc];by_cases h:k=0
 ·simp[h]
 ·rw[qH h];simp only[qAe,qb,qn,xM];omega
theorem on2(s:ByteArray)(k:Nat)(hk:k<s.size)(c:Nat)(hc:c=s[k].toNat)(h:¬((97<=c/\c<=122)∨(0<k/\(c=95∨(48<=c/\c<=57))))) :
  (if k=0 then iL s[k]else iR s[k])=false:=qBg.2 fun e=>h ((oi2 s k hk c hc).1 e)
theorem nOe(s:ByteArray)(h:nT s s.size):nO s=(decide (0<s.size)&&decide (s.size<=20)):=by
 have hl:s.data.toList.length=s.size:=by simp
 have e:nL2 s.data.toList=decide (0<s.size):=by
  rw[Bool.eq_iff_iff,nLi,decide_eq_true_iff];constructor
  ·exact fun h=>by omega
  ·exact fun h0=>⟨by omega,fun j hj=>by rw[bget s j (by omega)];exact h j (by omega) (by omega)⟩
 unfold nO;rw[e,Bool.and_comm]
theorem nOn(s:ByteArray)(k:Nat)(hk:k<s.size)(h:(if k=0 then iL s[k]else iR s[k])=false):nO s=false:=by
 unfold nO
 have e:nL2 s.data.toList=false:=by
  rw[qBg];intro hn;have:=(nLi _).1 hn |>.2 k (by simpa using hk)
  rw[bget s k hk,h]at this;cases this
 rw[e,yp]
end Tess
namespace Go.Proofs.Q9
open Go.RowKit Go.Sort
theorem ib(w:World)(s:ByteArray)(k:Nat):Below w.heap.size w (w.iter s k):=(qJ _ _).alloc (qC _) _
theorem rb2{a b:Bool}(h:a=b):Ending.returned (.bool a) = .returned (.bool b):=by rw[h]
theorem iNz(w:World) :
  Calls Tryz.prog 107 #[.string ByteArray.empty] w fun e w'=>e = .returned (.bool false)/\Below w.heap.size w w':=by
 have Aa:=@run_range_string Tryz.prog w 9 ByteArray.empty Tryz.underlying9;have Ab:=fun ty=>run_next_end (P:=Tryz.prog) w ByteArray.empty 0 ty (by decide);go_enter Tryz.func107,Tryz.ntmps107;go_wp2;refine qBh ?_;go_wp2;refine wp_label ?_;go_wp2;refine jv 1 ?_;rw[jR];go_wp2
 try rw[zI]
 go_ret;exact⟨rfl,ib _ _ _⟩
theorem iNs(s:ByteArray)(w:World)(hs:s.size<=maxLen)(hpos:0<s.size) :
  Calls Tryz.prog 107 #[.string s] w fun e w'=>e = .returned (.bool (Tess.nO s))/\Below w.heap.size w w':=by
 unfold maxLen at hs;have Aj:=@run_range_string Tryz.prog w 9 s Tryz.underlying9
 have he:s.toList.isEmpty=false:=by
  rw[Tess.tl,List.isEmpty_eq_false_iff];intro h;have:s.data.toList.length=0:=by rw[h];rfl
  have h2:s.data.toList.length=s.size:=by simp
  omega
 have Ao:s.toList.isEmpty=false:=he;obtain⟨Ad,Am⟩:=XQ (decide ((s.size:Int)<=20))
 have HX:RowKit.Hid (Ad=(decide (0<s.size)&&decide (s.size<=20))):=Hd (by rw[<-Am,decide_eq_true hpos,zl];exact yi.2 (by omega))
 go_enter Tryz.func107,Tryz.ntmps107;go_wp2
 all_goals
  refine qBh ?_;go_wp2;refine wp_label ?_;go_wp2;clear Am;go_loopw [3] (fun b wr=>∃k:Nat,k<=s.size/\b = .bool Ad/\wr=w.iter s k/\Tess.nT s k) (fun _ wr=>s.size-wr.iterPos w.heap.size)
  case atStart=>exact⟨0,qN _,rfl,rfl,fun j _ h=>absurd h (by omega)⟩
  case round=>
   obtain⟨k,hk,rfl,rfl,hN⟩:=hrel;have HN:=Hd hN;clear hN;by_cases hlt:k<s.size
   ·obtain⟨c,hc⟩:=Xq (s[k].toNat:Nat)
    have Aa:c<256:=by rw[hc];exact UInt8.toNat_lt _
    have Al:RowKit.Hid (∀(_:(97<=c/\c<=122)∨(0<k/\(c=95∨(48<=c/\c<=57)))),Tess.nT s (k+1)):=Hd fun h=>Tess.nTs hlt HN.out ((Tess.oi2 s k hlt c hc).2 h);have Ac:RowKit.Hid (∀(_:¬((97<=c/\c<=122)∨(0<k/\(c=95∨(48<=c/\c<=57))))),Tess.nO s=false):=Hd fun h=>Tess.nOn s k hlt (Tess.on2 s k hlt c hc h);by_cases h128:c<128
    ·have Ah:=fun ty=>run_next_ascii (P:=Tryz.prog) w s k ty hlt (by omega);rw[<-hc]at Ah;clear hc
     rcases (show((97:Int)<=c/\(c:Int)<=122)∨((k:Int)<1/\(c:Int)<97)∨((k:Int)<1/\(122:Int)<c)∨((0:Int)<k/\(c:Int)<=95/\(95:Int)<=c)∨((0:Int)<k/\(48:Int)<=c/\(c:Int)<=57)∨((0:Int)<k/\(c:Int)<48)∨((0:Int)<k/\(57:Int)<c/\(c:Int)<95)∨((0:Int)<k/\(95:Int)<c/\(c:Int)<97)∨((0:Int)<k/\(122:Int)<c) by omega)with⟨h1,h2⟩|⟨h1,h2⟩|⟨h1,h2⟩|⟨h1,h2,h3⟩|⟨h1,h2,h3⟩|⟨h1,h2⟩|⟨h1,h2,h3⟩|⟨h1,h2,h3⟩|⟨h1,h2⟩
     all_goals
      clear Aj h128 Aa
      first|have Ag:decide ((97:Int)<=c)=true:=decide_eq_true (by omega)|have Ag:decide ((97:Int)<=c)=false:=qG (by omega)|skip
      first|have Ab:decide ((c:Int)<=122)=true:=decide_eq_true (by omega)|have Ab:decide ((c:Int)<=122)=false:=qG (by omega)|skip
      first|have Af:decide ((c:Int)<48)=true:=decide_eq_true (by omega)|have Af:decide ((c:Int)<48)=false:=qG (by omega)|skip
      first|have Ae:decide ((57:Int)<c)=true:=decide_eq_true (by omega)|have Ae:decide ((57:Int)<c)=false:=qG (by omega)|skip
      first|have Ai:((c:Int) !=95)=true:=zj.2 (by omega)|have Ai:((c:Int) !=95)=false:=zg.2 (by omega)|skip
      first|have h0:((k:Int)==0)=true:=xM.2 (by omega)|have h0:((k:Int)==0)=false:=qi.2 (by omega)|skip
      go_wp2
      first
       |exact⟨⟨k+1,by omega,rfl,rfl,Al.out (by omega)⟩,by simp only[World.iterPos_iter];omega⟩
       |(try rw[zI]
         go_ret
         exact⟨rb2 (Ac.out (by omega)).symm,ib _ _ _⟩)
    ·have Ah:=fun ty=>run_next_any (P:=Tryz.prog) w s k ty hlt;have Ak:=decode_high s k hlt (by omega);have An:=decode_le s k;have Ac:=Hd (Ac.out (by omega));generalize Utf8.decode s k=dc at *;obtain⟨r,n⟩:=dc;simp only at Ak An;obtain⟨r1,r2⟩:=Ak;have r3:(122:Int)<r:=by omega
     have r4:((r:Int) !=95)=true:=by rw[zj];omega
     clear hc Al;rcases (show(k:Int)<1∨(0:Int)<k by omega)with h1|h1
     all_goals
      clear Aj h128 Aa
      first|have Ag:decide ((97:Int)<=r)=true:=decide_eq_true (by omega)|have Ag:decide ((97:Int)<=r)=false:=qG (by omega)|skip
      first|have Ab:decide ((r:Int)<=122)=true:=decide_eq_true (by omega)|have Ab:decide ((r:Int)<=122)=false:=qG (by omega)|skip
      first|have Af:decide ((r:Int)<48)=true:=decide_eq_true (by omega)|have Af:decide ((r:Int)<48)=false:=qG (by omega)|skip
      first|have Ae:decide ((57:Int)<r)=true:=decide_eq_true (by omega)|have Ae:decide ((57:Int)<r)=false:=qG (by omega)|skip
      first|have Ai:((r:Int) !=95)=true:=zj.2 (by omega)|have Ai:((r:Int) !=95)=false:=zg.2 (by omega)|skip
      first|have h0:((k:Int)==0)=true:=xM.2 (by omega)|have h0:((k:Int)==0)=false:=qi.2 (by omega)|skip
      go_wp2
      try rw[zI]
      go_ret;exact⟨rb2 Ac.out.symm,ib _ _ _⟩
   ·have Ah:=fun ty=>run_next_end (P:=Tryz.prog) w s k ty hlt;obtain rfl:k=s.size:=by omega
    have HE:=Hd (Tess.nOe s HN.out);go_wp2
    try rw[zI]
    go_ret;exact⟨rb2 (by rw[HE.out,HX.out]),ib _ _ _⟩
theorem iNa(s:ByteArray)(w:World)(hs:s.size<=maxLen) :
  Calls Tryz.prog 107 #[.string s] w fun e w'=>e = .returned (.bool (Tess.nO s))/\Below w.heap.size w w':=by
 rcases jI s.size with h|h
 ·have e:s=ByteArray.empty:=yF (Array.eq_empty_of_size_eq_zero h);subst e;exact iNz w
 ·exact iNs s w hs h
theorem ga3(n:Nat)(w:World)(h0:0<n)(hn:n<=1000) :
  Calls Tryz.prog 108 #[.slice none 0 0,.int .i64 n] w fun e w'=>∃cap,e = .returned (.slice (some ⟨w.heap.size,0,none⟩) 0 cap)/\w'.ownsRow w.heap.size 9 1 (.slice (some ⟨w.heap.size,0,none⟩) 0 cap) 0 []/\Below w.heap.size w w'/\w'.heap.size=w.heap.size+1:=by
 obtain⟨i0,hi,Af,Ag,Ad⟩:=zF iS2;have Ab:(Builtin.firstCells i0.size 0 (.slice none 0 0)).run Tryz.prog w.drew = .ok ([]:List Value).toArray w.drew:=run_firstCells_none w.drew i0.size 0 0 0
 have Ac:∀ty,(Builtin.append_ #[22,3] ty #[.slice none 0 0,.int .i64 (n:Nat)]).run Tryz.prog w=_:=fun ty=>
  Lib.run_append_grow_zeros w 22 3 ty 9 i0 _ .i64 .i64 Tryz.underlying22 Tryz.underlying3 hi Af none 0 0 [] Ab n h0 (by omega) (by omega) (by omega) (by rw[Ad];omega)
   (by have:=growslice_fits (need:=0+n) (old:=0) (bytes:=i0.bytes) (by omega) (by rw[Ad];omega);simpa using this)
 have Ae:=grownCap_ge w (0+n) 0 9;have Aa:=grownCap_le_maxLen w (0+n) 0 9 (by unfold maxLen;omega);rw[qj]at Ac Ae Aa;obtain⟨G,hG⟩:=Xq (grownCap w n 0 9)
 rw[<-hG]at Ac Ae Aa;have hm:=Aa;unfold maxLen at hm;clear hG Ab;have n1:¬(n:Int)<0:=by omega
 have n2:(0:Int)<n:=by omega
 go_enter Tryz.func108,Tryz.ntmps108;go_wp2_with (at_builtin;refine Lib.wpList_append_run _ rfl _ _ _ _ rfl _ _ rfl rfl _ _ (Ac _) ?_);go_ret;refine⟨G,rfl,⟨rfl,.inr ⟨w.heap.size,G,_,rfl,qC _,jY w.drew _,qN _,Aa,?_,by simp⟩⟩,(qJ _ _).drew.alloc (qC _) _,by simp⟩;simp[size_zeroCells];omega
end Go.Proofs.Q9
namespace Tess
open Go
theorem di2(l:List ByteArray):distinct l=true↔l.Nodup:=by
 induction l with
 |nil=>simp[distinct]
 |cons a r ih=>simp[distinct,ih,hWn]
theorem nOi(l:List ByteArray):nO3 l=true↔l.Nodup/\∀x∈l,nO x=true:=by simp[nO3,di2]
end Tess
namespace Go.Maps
variable {H:Type}
theorem aKf(u z:DataW H)(k:Lit):∀(acc:List Lit) (m:DataW H),k∉acc->(acc.foldl (fun m x=>m.put x u) m).atKey k z=m.atKey k z
 |[],m,_=>rfl
 |x::r,m,h=>by rw[jJ,aKf u z k r _ (fun e=>h (yk _ e)),atKey_put_other (show k≠x from fun e=>h (by rw[e];exact qAb))]
theorem aKf2(u z:DataW H)(k:Lit):∀(acc:List Lit) (m:DataW H),IsMap m->WideAt.IsKeyLit k->k∈acc->(acc.foldl (fun m x=>m.put x u) m).atKey k z=u
 |[],m,_,_,h=>by cases h
 |x::r,m,hm,hk,h=>by
   rw[jJ];by_cases e:k∈r
   ·exact aKf2 u z k r _ (hm.put x u) hk e
   ·rcases qm.1 h with rfl|h
    ·rw[aKf u z k r _ e,atKey_put_same hm hk]
    ·exact absurd h e
end Go.Maps
namespace Go
theorem pEb{H:Type}{P:Program}{e:TypeId}(he:P.underlying e=some .bool){v:Value}{z:DataW H×List MemPlace}(h:plainElem P e v=some z):∃c,v = .bool c/\z=(.lit (.bool c),[]):=by
 unfold plainElem at h;rw[he]at h;cases v<;>simp at h
 subst h;exact⟨_,rfl,rfl⟩
end Go
namespace Go.Proofs.Q9
open Go.RowKit Go.Sort Go.Maps Go.WideMaps
theorem lS3:Keyed Tryz.prog 9:=string_keyed Tryz.underlying9
theorem zB(w:World):(zeroValue 4).run Tryz.prog w = .ok (.bool false) w:=by kernel_rfl
def skey(s:ByteArray):Lit:=.string s.data.toList
theorem si3{x y:ByteArray}(h:skey x=skey y):x=y:=by unfold skey at h;exact yF (yG.1 (by simpa using h))
def SA2(w:World)(b:Nat)(l:List ByteArray)(k:Nat):Prop:=w.ownsMap Tryz.prog 9 (plainElem (H:=Unit) Tryz.prog 4) b k (setOf (.lit (.bool true)) ((l.take k).map skey))
theorem SA2.look{w:World}{b:Nat}{l:List ByteArray}{k:Nat}(h:SA2 w b l k)(x:ByteArray)(hx:x.size<=maxLen) :
  (Instr.lookup 154 (.map (some b)) (.string x) false).run Tryz.prog w = .ok (.bool (Tess.hasW (l.take k) x)) w:=by
 obtain⟨v,ps,Ab,hv⟩:=World.ownsMap.lookup h lS3 Tryz.underlying154 (zB w) (plainElem_bool Tryz.underlying4 false) (keyOf_string_mk Tryz.underlying9 hx);obtain⟨c,rfl,hc⟩:=pEb Tryz.underlying4 hv;rw[Ab];have Aa:(setOf (H:=Unit) (.lit (.bool true)) ((l.take k).map skey)).atKey (skey x) (.lit (.bool false)) = .lit (.bool c):=(Prod.ext_iff.1 hc).1;cases hh:Tess.hasW (l.take k) x
 ·rw[Tess.hWn]at hh;unfold setOf at Aa;rw[aKf _ _ _ _ _ (fun e=>by obtain⟨y,hy,e⟩:=qd.1 e;exact hh (si3 e▸hy))]at Aa;have:(DataW.map (H:=Unit) []).atKey (skey x) (.lit (.bool false)) = .lit (.bool false):=rfl;rw[this]at Aa;cases Aa;rfl
 ·rw[Tess.hWi]at hh;unfold setOf at Aa;rw[aKf2 _ _ _ _ _ isMap_empty (by unfold skey WideAt.IsKeyLit;trivial) (qd.2 ⟨x,hh,rfl⟩)]at Aa;cases Aa;rfl
theorem aNa(v:Value)(l:List ByteArray)(w:World)(hv:SlOf w v (l.map .string))(hs:∀x∈l,x.size<=maxLen) :
  Calls Tryz.prog 55 #[v] w fun e w'=>e = .returned (.bool (Tess.nO3 l))/\Below w.heap.size w w':=by
 obtain⟨a,Au,rfl,hl,hc⟩:=so2 hv;have HC:=Hd hc;have HS:=Hd hs;clear hc hv hs;have Aq:=@run_makeMap Tryz.prog;go_enter Tryz.func55,Tryz.ntmps55;go_wp2;go_loopw [9] (fun i wr=>∃k:Nat,k<=l.length/\i = .int .i64 k/\SA2 wr w.heap.size l k/\(l.take k).Nodup/\(∀x∈l.take k,Tess.nO x=true)/\Below w.heap.size w wr) (fun i _=>l.length-(intOf i).toNat)
 case atStart=>exact⟨0,qN _,rfl,World.ownsMap_made _ _ _ _,by simp,by simp,(qJ _ _).alloc (qC _) _⟩
 case round=>
  obtain⟨k,hk,rfl,hm,Aj,Ah,hB⟩:=hrel;have HM:=Hd hm;have Am:=Hd Aj;have An:=Hd Ah;have HB:=Hd hB;clear hm Aj Ah hB Aq;by_cases hlt:k<l.length
  ·obtain⟨b,Al,rfl,hb,Ai⟩:=HC.out k hlt;have Af:wr.cell? ⟨b,Al+k,none⟩=some (.string l[k]):=(HB.out.cell (p:=⟨b,Al+k,none⟩) hb).trans Ai;have Ao:(k:Int)<(l.length:Int):=by omega
   obtain⟨y,hy⟩:=Xq (l[k])
   rw[<-hy]at Af;have Ab:y.size<=maxLen:=by rw[hy];exact HS.out _ (qP hlt)
   have As:=Hd Ab;have Aa:=SA2.look HM.out y Ab;have Ag:=Hd (fun w=>iNa y w Ab);have HT:=Hd (qQ hlt);have HY:=Hd hy;clear hy Ai Ab;cases hhas:Tess.hasW (l.take k) y
   ·cases hnm:Tess.nO y
    ·rw[hhas]at Aa;go_wp2_with (go_at_call 107;refine(Ag.out _).mono ?_;rintro e w2 ⟨rfl,Ad⟩;rw[hnm];have Ae:=Hd (Bt HB.out Ad);clear Ad);go_ret;refine⟨rb2 ?_,Ae.out⟩;rw[qBy,qBg,ne_eq,Tess.nOi];rintro⟨_,h⟩;have:=h y (by rw[HY.out];exact qP hlt);rw[hnm]at this;cases this
    ·rw[hhas]at Aa
     go_wp2_with (first
      |(go_at_call 107;refine(Ag.out _).mono ?_;rintro e w2 ⟨rfl,Ad⟩;rw[hnm];have Ap:=Hd (World.ownsMap.kept HM.out (Below.gN Ad) (by simp));have Ae:=Hd (Bt HB.out Ad);clear Ad Aa)
      |(at_mapUpdate;refine wpList_mapUpdate_own _ rfl _ _ _ 154 rfl 9 4 lS3 Tryz.underlying154 _ w.heap.size k _ rfl Ap.out (by unfold maxLen;omega) _ _ _ rfl rfl (keyOf_string_mk Tryz.underlying9 As.out) _ [] (plainElem_bool Tryz.underlying4 true) ?_;intro w3 Ac Ak;have Ar:=Hd Ac;have At:=Hd (Ae.out.grown Ak Ae.out.size (fun j e=>by cases e;exact qC _));clear Ac Ak))
     go_roundw
     case rel=>
      refine⟨k+1,by omega,by go_num,?_,?_,?_,At.out⟩
      ·unfold SA2;rw[HT.out,qs,List.map_singleton,setOf_snoc,<-HY.out];exact Ar.out
      ·rw[HT.out,List.nodup_append];refine⟨Am.out,by simp,fun z hz z' hz' e=>?_⟩;rw[zJ]at hz';rw[Tess.hWn]at hhas;exact hhas (by rw[HY.out,<-hz',<-e];exact hz)
      ·intro z hz;rw[HT.out,zk,zJ]at hz;rcases hz with hz|rfl
       ·exact An.out z hz
       ·rw[<-HY.out];exact hnm
     case measure=>simp[intOf];omega
   ·rw[hhas]at Aa;go_wp2_with fail;go_ret;refine⟨rb2 ?_,HB.out⟩;rw[qBy,qBg,ne_eq,Tess.nOi];rintro⟨h,_⟩;rw[Tess.hWi]at hhas;have h1:(l.take (k+1)).Nodup:=List.Sublist.nodup (List.take_sublist _ _) h;rw[HT.out,List.nodup_append]at h1;exact h1.2.2 y hhas y (by rw[HY.out];simp) rfl
  ·have Ao:¬(k:Int)<(l.length:Int):=by omega
   have e:l.take k=l:=qh (by omega);have HE:=Hd e;clear e;go_wp2;go_ret;exact⟨rb2 ((Tess.nOi l).2 ⟨HE.out▸Am.out,HE.out▸An.out⟩).symm,HB.out⟩
end Go.Proofs.Q9
namespace Go.Proofs.Q9
open Go.RowKit Go.Sort
theorem ca3(b:Nat)(vd vm:Value)(ds ms:List ByteArray)(w:World)(hd:SlOf w vd (ds.map .string))(hm:SlOf w vm (ms.map .string))(hnil:NO2 vm)(h1:1<=ds.length)(h2:ds.length<=6)(h3:ms.length<=4)
  (c0:w.cell? ⟨b,0,none⟩=some vd) (c1:w.cell? ⟨b,1,none⟩=some vm) :
  Calls Tryz.prog 56 #[.slice (some ⟨b,0,none⟩) 2 2] w fun e w'=>∃v',e = .returned v'/\SlOf w' v' ((ds++ms).map .string)/\Below w.heap.size w w':=by
 obtain⟨_,ad,Aq,rfl,An⟩:=hd;obtain⟨_,am,Ai,rfl,Af⟩:=hm;simp only[qX]at An Af c0 c1;obtain⟨db,Ac,rfl,A8,Ay⟩:=An (by omega);have Ba:=Hd Ay;have Ax:=Hd Af;clear An Ay Af;obtain⟨nd,As⟩:=XQ ds.length
 obtain⟨nm,Ao⟩:=XQ ms.length
 rw[As]at h1 h2 c0;rw[Ao]at h3 c1;have A6:=Hd As;have Am:=Hd Ao;clear As Ao;have e1:((nd:Int)+(nm:Int))=((nd+nm:Nat):Int):=by omega
 have Ak:=qK w _ c0;simp only at Ak;obtain⟨i0,hi,Aw,A1,Az⟩:=zF iS2;have HG:=Hd (ga3 (nd+nm) w (by omega) (by omega));have A9:=Hd e1;clear e1;go_enter Tryz.func56,Tryz.ntmps56;go_wp2_with fail;refine jv 3 ?_;rw[jR];go_wp2_with fail;rw[jR];go_wp2_with fail;rw[jR]
 go_wp2_with (go_at_call 108;rw[A9.out];refine HG.out.mono ?_;rintro e w1 ⟨G,rfl,Aj,A0,Au⟩;have HO:=Hd Aj;have Ae:=Hd A0;have Bh:=Hd Au;clear Aj A0 Au);have Bb:=(Ae.out.cell (p:=⟨b,0,none⟩) Ak).trans c0;have A5:=(Ae.out.cell (p:=⟨b,1,none⟩) Ak).trans c1;refine jv 3 ?_;rw[jR]
 go_wp2_with (at_builtin;refine qq _ rfl _ _ 22 rfl w.heap.size 9 i0 (.string ByteArray.empty) 1 16 Tryz.underlying22 hi Aw A1 Az rfl (by decide) _ 0 [] rfl HO.out ⟨db,Ac,none⟩ nd Aq (ds.map .string) rfl ?_ ?_ ?_ ?_ ?_ ?_ ?_)
 ·rw[qX,A6.out,yY]
 ·intro j u hj;rw[qp]at hj;obtain⟨x,hx,rfl⟩:=jM.1 hj;obtain⟨Ar,rfl⟩:=zW.1 hx;have:=Ba.out j Ar;rw[show(⟨db,Ac,none⟩:Addr).add j=⟨db,Ac+j,none⟩ by unfold Addr.add;split<;>simp_all];rw[Ae.out.cell (p:=⟨db,Ac+j,none⟩) A8];simpa using this
 ·intro u hu;obtain⟨x,_,rfl⟩:=qd.1 hu;rfl
 ·unfold maxLen;omega
 ·omega
 ·exact Ae.out.size
 intro v2 w2 Aa A2 _;obtain⟨g2,Bi,rfl,_⟩:=oc2 Aa (by omega);have Al:=Hd Aa;have Ap:=Ae.out.grown A2 Ae.out.size (fun j e=>(HO.out.lt j e).1);have Ag:=Hd Ap;have Bg:=(Ap.cell (p:=⟨b,1,none⟩) Ak).trans c1;clear Aa A2 Ap Bb A5;go_wp2;rw[jR];have Be:=Ag.out.size;cases am with
 |none=>
   have Bf:Ai=0:=hnil _ _ rfl;subst Bf
   have h0:nm=0:=by
    rcases jI nm with h|h
    ·exact h
    ·obtain⟨_,_,e,_⟩:=Ax.out (by rw[Am.out];exact h);cases e
   subst h0;have he:ms=[]:=jQ Am.out;go_wp2_with (at_builtin;refine wpList_append_own_none rfl _ _ 22 rfl w.heap.size 9 i0 1 Tryz.underlying22 hi _ _ _ rfl Al.out rfl ?_);rw[jR];go_wp2;go_ret;refine⟨_,rfl,?_,Ag.out⟩;rw[he,zZ];simpa using SlOf.owned Al.out
 |some ma=>
   obtain⟨mb,Ab,At⟩:=ma
   have Af:∀j u,(ms.map Value.string)[j]?=some u->w2.cell? ((⟨mb,Ab,At⟩:Addr).add j)=some u:=by
    intro j u hj;obtain⟨Ar,rfl⟩:=zW.1 hj;have Bc:j<ms.length:=by simpa using Ar
    obtain⟨b',A4,e,Bd,Ah⟩:=Ax.out (by omega);cases e
    rw[show(⟨mb,Ab,none⟩:Addr).add j=⟨mb,Ab+j,none⟩ by unfold Addr.add;split<;>simp_all];rw[Ag.out.cell (p:=⟨mb,Ab+j,none⟩) Bd];exact Ah j Bc
   have HX:=Hd Af;clear Af;go_wp2_with (at_builtin;refine qq _ rfl _ _ 22 rfl w.heap.size 9 i0 (.string ByteArray.empty) 1 16 Tryz.underlying22 hi Aw A1 Az rfl (by decide) _ _ _ rfl Al.out ⟨mb,Ab,At⟩ nm Ai (ms.map .string) rfl ?_ HX.out ?_ ?_ ?_ ?_ ?_)
   ·rw[qX,Am.out,yY]
   ·intro u hu;obtain⟨x,_,rfl⟩:=qd.1 hu;rfl
   ·unfold maxLen;omega
   ·omega
   ·exact Ag.out.size
   intro v3 w3 Ad Av _;have A3:=Hd Ad;have A7:=Hd (Ag.out.grown Av Ag.out.size (fun j e=>(Al.out.lt j e).1));clear Ad Av;go_wp2;rw[jR];go_wp2;go_ret;refine⟨_,rfl,?_,A7.out⟩;rw[qs];simpa using SlOf.owned A3.out
theorem sa9(n a b:Nat)(w:World):Calls Tryz.prog 54 #[.int .i64 n,.int .i64 a,.int .i64 b] w fun e w'=>e = .returned (.bool (Tess.Fil.inW n (a,b)))/\w=w':=by
 unfold Tess.Fil.inW;by_cases h1:a<=n
 ·have Ab:(a:Int)<=(n:Int):=by omega
  have Aa:decide ((a:Int)<=(n:Int))=true:=decide_eq_true Ab;obtain⟨r,hr⟩:=XQ (decide (n<=b))
  have Ac:decide ((n:Int)<=(b:Int))=r:=by rw[<-hr];exact yi.2 (by omega)
  rw[decide_eq_true h1,hr];go_enter Tryz.func54,Tryz.ntmps54;go_wp2;go_ret;exact⟨rfl,rfl⟩
 ·have Aa:decide ((a:Int)<=(n:Int))=false:=qG (by omega);rw[qG h1,qo];go_enter Tryz.func54,Tryz.ntmps54;go_wp2;go_ret;exact⟨rfl,rfl⟩
theorem sl3{p:Nat->Prop}{w:World}{v:Value}{l:List ByteArray}(h:SlP p w v (l.map .string)):∃a cap,v = .slice a l.length cap/\l.length<=9223372036854775807:=by obtain⟨a,cap,hv,hl,_⟩:=so2 h.1;exact⟨a,cap,hv,hl⟩
theorem sRa(v:Value)(s:Tess.Sch)(p:Nat->Prop)(w:World)(hv:SA p w v s) :
  Calls Tryz.prog 23 #[v] w fun e w'=>e = .returned (.bool (Tess.sO s))/\Below w.heap.size w w':=by
 obtain⟨vd,vm,rfl,hd,hm,Ac,Ae⟩:=hv;obtain⟨ds,ms,g⟩:=s;simp only at hd hm Ac Ae;obtain⟨ad,Am,rfl,At⟩:=sl3 hd;obtain⟨am,An,rfl,As⟩:=sl3 hm;have Ak:=Hd (show ∀x∈ds++ms,x.size<=maxLen from fun x hx=>by rcases zk.1 hx with h|h;exact Ac x h;exact Ae x h);have HD:=Hd hd;have HM:=Hd hm;clear hd hm Ac Ae;have HW:=Hd (fun w=>sa9 ds.length 1 6 w)
 have Aa:RowKit.Hid (Tess.sO ⟨ds,ms,g⟩=(Tess.Fil.inW ds.length (1,6)&&decide (ms.length<=4)&&decide (1<=g)&&decide (g<=1000000000)&&Tess.nO3 (ds++ms))):=Hd rfl;by_cases h1:Tess.Fil.inW ds.length (1,6)=true
 ·by_cases h2:ms.length<=4
  ·have Ar:decide ((ms.length:Int)<=4)=true:=decide_eq_true (by omega);by_cases h3:1<=g
   ·by_cases h4:g<=1000000000
    ·have Ab:1<=ds.length/\ds.length<=6:=by unfold Tess.Fil.inW at h1;simpa using h1
     have HF:RowKit.Hid (Tess.sO ⟨ds,ms,g⟩=Tess.nO3 (ds++ms)):=Hd (by rw[Aa.out,h1,decide_eq_true h2,decide_eq_true h3,decide_eq_true h4];rfl);have HL:=Hd Ab;clear Aa;have Ad:decide (1<=g)=true:=decide_eq_true h3;have Ag:decide (g<=1000000000)=true:=decide_eq_true h4;clear Ab;rw[HF.out]
     have Ap:=Hd (fun(b:Nat) (W:World) (hB:Below w.heap.size w W)=>ca3 b _ _ ds ms W (HD.out.1.below hB) (HM.out.1.below hB) HM.out.2.2 HL.out.1 HL.out.2 (by omega));have Ao:=Hd (fun(v:Value) (W:World) (h:SlOf W v ((ds++ms).map .string))=>aNa v (ds++ms) W h Ak.out);generalize Tess.nO3 (ds++ms)=nk at *;go_enter Tryz.func23,Tryz.ntmps23
     go_wp2_with (first
      |(go_at_call 54;refine(HW.out _).mono ?_;rintro e w2 ⟨rfl,rfl⟩;rw[h1])
      |(go_at_call 56;refine(Ap.out _ _ (((qJ _ _).alloc (qC _) _).alloc (by simp) _) (by simp) (by simp)).mono ?_;rintro e w3 ⟨v3,rfl,Ah,Af⟩;have Al:=Hd Ah;have Aq:=Hd ((((qJ _ _).alloc (qC _) _).alloc (by simp) _).trans (Af.mono (by simp<;>omega)));clear Ah Af)
      |(go_at_call 55;refine(Ao.out _ _ Al.out).mono ?_;rintro e w4 ⟨rfl,Ai⟩;have Aj:=Hd (Bt Aq.out Ai);clear Ai))
     go_ret;exact⟨rfl,Aj.out⟩
    ·have Ag:decide (g<=1000000000)=false:=qG h4;have Ad:decide (1<=g)=true:=decide_eq_true h3;rw[Aa.out,Ag,yp,qo];clear Aa;go_enter Tryz.func23,Tryz.ntmps23;go_wp2_with (go_at_call 54;refine(HW.out _).mono ?_;rintro e w2 ⟨rfl,rfl⟩;rw[h1]);go_ret;exact⟨rfl,(qJ _ _).alloc (qC _) _⟩
   ·have Ad:decide (1<=g)=false:=qG h3;rw[Aa.out,Ad,yp,qo,qo];clear Aa;go_enter Tryz.func23,Tryz.ntmps23;go_wp2_with (go_at_call 54;refine(HW.out _).mono ?_;rintro e w2 ⟨rfl,rfl⟩;rw[h1]);go_ret;exact⟨rfl,(qJ _ _).alloc (qC _) _⟩
  ·have Ar:decide ((ms.length:Int)<=4)=false:=qG (by omega);rw[Aa.out,qG h2,yp,qo,qo,qo];clear Aa;go_enter Tryz.func23,Tryz.ntmps23;go_wp2_with (go_at_call 54;refine(HW.out _).mono ?_;rintro e w2 ⟨rfl,rfl⟩;rw[h1]);go_ret;exact⟨rfl,(qJ _ _).alloc (qC _) _⟩
 ·have h1:Tess.Fil.inW ds.length (1,6)=false:=by simpa using h1
  rw[Aa.out,h1,qo,qo,qo,qo];clear Aa;go_enter Tryz.func23,Tryz.ntmps23;go_wp2_with (go_at_call 54;refine(HW.out _).mono ?_;rintro e w2 ⟨rfl,rfl⟩;rw[h1]);go_ret;exact⟨rfl,(qJ _ _).alloc (qC _) _⟩
theorem diS:(Tryz.prog.info? 9).map (fun i=>(i.zero,i.size,i.bytes))=some (some (.string ByteArray.empty),1,16):=by kernel_rfl
end Go.Proofs.Q9
namespace Tess
open Go
def vO(v:Val):Bool:=(v.null&&decide (v.s=ByteArray.empty))||(!v.null&&decide (v.s.size<=100))
def rowFits(s:Sch)(t:Int)(l:List Val)(n:Nat):Bool:=sO s&&decide (0<=t)&&decide (t<=1000000000000)&&decide (l.length=s.dims.length)&&decide (n=s.mets.length)&&l.all vO
structure Agg where
 kind:Int
 met:ByteArray
structure Cond where
 pos:Int
 op:Int
 n:Int
structure Key where
 agg:Bool
 pos:Int
 desc:Bool
structure Que where
 aggs:List Agg
 names:List ByteArray
 mode:Int
 sets:List (List ByteArray)
 every:Int
 fil:Fil
 conds:List Cond
 keys:List Key
 limit:Int
namespace Que
def sF3(l:List ByteArray):Nat->List ByteArray->Nat
 |_,[]=>0
 |i,x::r=>(if hasW l x then 0 else 2^i)+sF3 l (i+1) r
def setOf(names l:List ByteArray):Nat:=sF3 l 0 names
end Que
end Tess
namespace Tess
open Go Kl
abbrev DV:=Option ByteArray
def Val.c(v:Val):DV:=if v.null then none else some v.s
def valOf:DV->Val
 |none=>⟨ByteArray.empty,true⟩
 |some b=>⟨b,false⟩
theorem cvO(x:DV):(valOf x).c=x:=by cases x<;>rfl
theorem vOc2{v:Val}(h:vO v=true):valOf v.c=v:=by
 obtain⟨s,b⟩:=v;cases b
 ·rfl
 ·simp only[vO,zl,Bool.not_true,qo,Bool.or_false,qn]at h;subst h;rfl
theorem vOc{l:List Val}(h:l.all vO=true):(l.map Val.c).map valOf=l:=by rw[xe];refine(yI fun v hv=>?_).trans (List.map_id l);exact vOc2 (qx.1 h v hv)
theorem blT(a b:ByteArray):bl a b=decide (a.toList<b.toList):=Go.Proofs.bytesLess_eq _ _
def vLt:DV->DV->Bool
 |_,none=>false
 |none,some _=>true
 |some a,some b=>bl a b
theorem vs6:Sto vLt where
 irr a:=by
  cases a with
  |none=>rfl
  |some a=>rw[vLt,blT];exact qG (List.lt_irrefl _)
 trans {a b c}:=by
  cases a<;>cases b<;>cases c<;>simp only[vLt,Bool.false_eq_true,false_implies,implies_true]
  rw[blT,blT,blT];intro h h';exact decide_eq_true (List.lt_trans (zT h) (zT h'))
 tri {a b}:=by
  cases a<;>cases b<;>simp only[vLt,Bool.true_eq_false,false_implies,implies_true]
  rw[blT,blT];intro h h';have:=List.le_antisymm (List.not_lt.1 (qAz h')) (List.not_lt.1 (qAz h));rw[jn,jn]at this;rw[yF (yG.1 this)]
def iLt(a b:Int):Bool:=decide (a<b)
theorem is2:Sto iLt where
 irr a:=by simp[iLt]
 trans {a b c}:=by simp only[iLt,qn];omega
 tri {a b}:=by simp only[iLt,jw];omega
abbrev CK:=Int×List DV
def ckLt:CK->CK->Bool:=pair iLt (lex vLt)
theorem cs5:Sto ckLt:=ps6 is2 (ls3 vs6)
structure Pay where
 n:Int
 sums:List Int
 mins:List Int
 maxs:List Int
def Pay.add(a b:Pay):Pay:=⟨a.n+b.n,List.zipWith (· + ·) a.sums b.sums,List.zipWith min a.mins b.mins,List.zipWith max a.maxs b.maxs⟩
structure Row where
 t:Int
 l:List Val
 ns:List Int
def Row.ok(s:Sch)(r:Row):Bool:=rowFits s r.t r.l r.ns.length
section
variable (s:Sch) (q:Que) (set:Nat) (g:Int)
end
namespace Kl
section
variable {K P:Type} {lt:K->K->Bool} {add:P->P->P}
def put(lt:K->K->Bool)(add:P->P->P)(l:List (K×P))(x:K×P):List (K×P):=
 match l with
 |[]=>[x]
 |y::r=>if at' lt x.1 y.1 then(y.1,add y.2 x.2)::r else y::put lt add r x
end
end Kl
def Pay.len(M:Nat)(p:Pay):Prop:=p.sums.length=M/\p.mins.length=M/\p.maxs.length=M
section
variable {s:Sch} {q:Que} {set:Nat} {C:List (CK×Pay)}
end
def iSP(s n l h:Int):Bool:=if n=1 then decide (l=h)&&decide (s=l)else decide (l<=h)&&decide (l+h+l*(n-2)<=s)&&decide (s<=l+h+h*(n-2))
def SO2(s n l h:Int):Prop:=l<=h/\l*(n-1)+h<=s/\s<=h*(n-1)+l
theorem iSo3{s n l h:Int}(hs:SO2 s n l h):iSP s n l h=true:=by
 obtain⟨h1,h2,h3⟩:=hs;unfold iSP;split
 ·rename_i hn;subst hn;rw[qb,qn,qn];omega
 ·rw[qb,qb,qn,qn,qn];have e1:l*(n-1)=l*(n-2)+l:=by rw[show n-1=(n-2)+1 by omega,qBt,qBu]
  have e2:h*(n-1)=h*(n-2)+h:=by rw[show n-1=(n-2)+1 by omega,qBt,qBu]
  omega
structure PO(M:Nat)(p:Pay):Prop where
 len:p.len M
 one:1<=p.n
 sum:∀m<M,SO2 (p.sums.getD m 0) p.n (p.mins.getD m 0) (p.maxs.getD m 0)
 rng:∀m<M,-9223372036854775808<=p.mins.getD m 0/\p.mins.getD m 0<=9223372036854775807 /\ -9223372036854775808<=p.maxs.getD m 0/\p.maxs.getD m 0<=9223372036854775807
structure CO2(s:Sch)(x:CK×Pay):Prop where
 time:0<=x.1.1/\x.1.1<=1000000000000/\x.1.1%s.grain=0
 dims:x.1.2.length=s.dims.length/\(x.1.2.map valOf).all vO=true
 most:x.2.n<=1000000
 pay:PO s.mets.length x.2
structure CO(s:Sch)(C:List (CK×Pay)):Prop where
 sch:sO s=true
 len:C.length<=1000
 each:∀x∈C,CO2 s x
 asc:Asc ckLt C
def Row.rng(r:Row):Prop:=∀z∈r.ns,-9223372036854775808<=z/\z<=9223372036854775807
end Tess
namespace Go.Proofs.Q9
open Go.RowKit Go.Sort
def RA{α:Type}(k:Nat)(f:α->List Value)(p:Nat->Prop)(w:World)(v:Value)(l:List α):Prop:=
 ∃a cap,v = .slice a l.length cap/\l.length<=maxLen/\l.length<=cap/\(a=none->cap=0) /\
   (0<l.length->∃b off,a=some ⟨b,off,none⟩/\b<w.heap.size/\p b/\∀j (h:j<l.length) i,i<k->w.cell? ⟨b,off+j*k+i,none⟩=(f l[j])[i]?)
section
variable {α:Type} {k:Nat} {f:α->List Value} {p q:Nat->Prop} {w w':World} {v:Value} {l:List α}
theorem RA.ag(h:RA k f p w v l)(hg:Ag p w w'):RA k f p w' v l:=by obtain⟨a,Aa,hv,h1,h2,h3,h4⟩:=h;refine⟨a,Aa,hv,h1,h2,h3,fun hl=>?_⟩;obtain⟨b,Ab,ha,hb,hp,hc⟩:=h4 hl;exact⟨b,Ab,ha,qF hb hg.1,hp,fun j hj i hi=>(hg.cell hb hp).trans (hc j hj i hi)⟩
theorem RA.weak(hpq:∀b,p b->q b)(h:RA k f p w v l):RA k f q w v l:=by obtain⟨a,Aa,hv,h1,h2,h3,h4⟩:=h;refine⟨a,Aa,hv,h1,h2,h3,fun hl=>?_⟩;obtain⟨b,Ab,ha,hb,hp,hc⟩:=h4 hl;exact⟨b,Ab,ha,hb,hpq b hp,hc⟩
theorem RA.lt(h:RA k f p w v l):RA k f (fun b=>p b/\b<w.heap.size) w v l:=by obtain⟨a,Aa,hv,h1,h2,h3,h4⟩:=h;refine⟨a,Aa,hv,h1,h2,h3,fun hl=>?_⟩;obtain⟨b,Ab,ha,hb,hp,hc⟩:=h4 hl;exact⟨b,Ab,ha,hb,⟨hp,hb⟩,hc⟩
theorem RA.nil(k:Nat)(f:α->List Value)(p:Nat->Prop)(w:World):RA k f p w (.slice none 0 0) []:=⟨none,0,rfl,qN _,qN _,fun _=>rfl,fun h=>absurd h (jC 0)⟩
end
theorem can2{W:World}{B:Nat}{t:TypeId}{x0 x1:Value}(h:W.heap[B]?=some (.cells #[x0,x1] t (0,0))) :
  (W.cell? ⟨B,0,none⟩=some x0/\W.cell? ⟨B,1,none⟩=some x1)/\W.frozen? ⟨B,0,none⟩=false/\W.frozen? ⟨B,1,none⟩=false:=
 ⟨⟨qT _ _ 0 _ _ _ h,qT _ _ 1 _ _ _ h⟩,zY _ _ 0 _ _ h,zY _ _ 1 _ _ h⟩
def wHi(n:Int):Int:=n/18446744073709551616
def wLo(n:Int):Int:=n%18446744073709551616
def wF(n:Int):List Value:=[.int .i64 (wHi n),.int .u64 (wLo n)]
def intF(n:Int):List Value:=[.int .i64 n]
def WOk(n:Int):Prop:= -170141183460469231731687303715884105728<=n/\n<170141183460469231731687303715884105728
def I64(n:Int):Prop:= -9223372036854775808<=n/\n<=9223372036854775807
theorem wHi2{n:Int}(h:I64 n):n/9223372036854775808=wHi n:=by unfold I64 at h;unfold wHi;rcases Int.lt_or_le n 0 with h0|h0<;>omega
theorem wu(n:Int):IntKind.u64.wrap n=n%18446744073709551616:=by rw[zy]
theorem wOe(n:Int)(h:I64 n)(w:World):Calls Tryz.prog 59 #[.int .i64 n] w fun e w'=>e = .returned (.agg #[.int .i64 (wHi n),.int .u64 (wLo n)])/\Below w.heap.size w w':=by
 have HH:=Hd (wHi2 h);go_enter Tryz.func59,Tryz.ntmps59;go_wp2;have hB:=(la2 w (.cells #[.int .i64 (n/9223372036854775808),.int .u64 (IntKind.u64.wrap n)] 100)).2.2;have hl:=(la2 w (.cells #[.int .i64 (n/9223372036854775808),.int .u64 (IntKind.u64.wrap n)] 100)).1;have e0:=qT _ w.heap.size 0 _ _ _ hl;have e1:=qT _ w.heap.size 1 _ _ _ hl
 refine jW (v:=.agg #[.int .i64 (n/9223372036854775808),.int .u64 (IntKind.u64.wrap n)]) (by simp[results,Tryz.results59,go_sem]) rfl ⟨?_,hB⟩;rw[HH.out,wu];rfl
theorem ar2(x y c:Nat)(hc:c<=1)(w:World) :
  (callFunc 154 #[.int .u64 x,.int .u64 y,.int .u64 c]).run Tryz.prog w =
   .ok (.value (.tuple #[.int .u64 (((x+y+c)%18446744073709551616:Nat):Int),.int .u64 (((x+y+c)/18446744073709551616:Nat):Int)])) w:=by
 rw[run_callFunc_extern Tryz.func154 (by kernel_rfl) (by kernel_rfl) (by kernel_rfl) (e:=add64Entry) (by kernel_rfl),run_add64 x y c (by omega) (by omega) (by omega) (by omega)];simp only[Result.andThen];congr 5<;>omega
theorem wAa(n m:Int)(hs:WOk (n+m))(w:World):Calls Tryz.prog 117 #[.agg #[.int .i64 (wHi n),.int .u64 (wLo n)],.agg #[.int .i64 (wHi m),.int .u64 (wLo m)]] w fun e w'=>e = .returned (.agg #[.int .i64 (wHi (n+m)),.int .u64 (wLo (n+m))])/\Below w.heap.size w w':=by
 obtain⟨l,hl⟩:∃l:Nat,wLo n=l:=⟨(wLo n).toNat,by unfold wLo;omega⟩
 obtain⟨l',Ab⟩:∃l:Nat,wLo m=l:=⟨(wLo m).toNat,by unfold wLo;omega⟩
 obtain⟨u,hu⟩:∃u:Nat,IntKind.u64.wrap (wHi n)=u:=⟨(wHi n%18446744073709551616).toNat,by rw[wu];omega⟩
 obtain⟨u',Af⟩:∃u:Nat,IntKind.u64.wrap (wHi m)=u:=⟨(wHi m%18446744073709551616).toNat,by rw[wu];omega⟩
 have Ad:=hu;have Aa:=Af;rw[wu]at Ad Aa;obtain⟨c,hc⟩:=XQ ((l+l'+0)/18446744073709551616)
 obtain⟨x,hx⟩:=XQ ((l+l'+0)%18446744073709551616)
 obtain⟨y,hy⟩:=XQ ((u+u'+c)%18446744073709551616)
 have Ae:c<=1:=by unfold wLo at hl Ab;omega
 have A1:∀w,(callFunc 154 #[.int .u64 l,.int .u64 l',.int .u64 0]).run Tryz.prog w = .ok (.value (.tuple #[.int .u64 x,.int .u64 c])) w:=fun w=>by have:=ar2 l l' 0 (by omega) w;rwa [hc,hx]at this
 have A2:∀w,(callFunc 154 #[.int .u64 u,.int .u64 u',.int .u64 c]).run Tryz.prog w = .ok (.value (.tuple #[.int .u64 y,.int .u64 _])) w:=fun w=>by have:=ar2 u u' c Ae w;rwa [hy]at this
 have Ah:IntKind.i64.wrap (y:Int)=wHi (n+m):=by unfold wLo wHi WOk at *;rw[zU];omega
 have Ac:(x:Int)=wLo (n+m):=by unfold wLo at *;omega
 rw[hl,Ab,<-Ac];generalize wHi (n+m)=z at *;clear hl Ab Ad Aa hx hy hc Ac hs;generalize wHi n=h at *;generalize wHi m=h' at *;obtain⟨W0,Ag⟩:=XQ (((w.alloc (.cells #[.int .i64 h,.int .u64 l] 100)).alloc (.cells #[.int .i64 h',.int .u64 l'] 100)).alloc (.cells #[.int .i64 0,.int .u64 0] 100))
 obtain⟨k0,k1,k2,kS,kB⟩:=la5 w (.cells #[.int .i64 h,.int .u64 l] 100) (.cells #[.int .i64 h',.int .u64 l'] 100) (.cells #[.int .i64 0,.int .u64 0] 100);rw[Ag]at k0 k1 k2 kS kB;rw[show w.heap.size+2=w.heap.size+1+1 by omega]at k2;obtain⟨⟨x0,x1⟩,_⟩:=can2 k0;obtain⟨⟨y0,y1⟩,_⟩:=can2 k1;obtain⟨_,z0,z1⟩:=can2 k2;go_enter Tryz.func117,Tryz.ntmps117;go_wp2
 have q1:=qO _ _ 1 _ _ (.int .u64 x) (qO _ _ 0 _ _ (.int .i64 z) k2);obtain⟨⟨e0,e1⟩,_⟩:=can2 q1;refine jW (v:=.agg #[.int .i64 z,.int .u64 x]) (by simp[results,Tryz.results117,go_sem,e0,e1]) rfl ⟨rfl,(kB.setCell (by show _<=w.heap.size+1+1;omega) _).setCell (by show _<=w.heap.size+1+1;omega) _⟩
end Go.Proofs.Q9
namespace Go
open Go.RowKit
theorem so3{α:Type}(f:α->Value){w:World}{v:Value}{l:List α}(h:SlOf w v (l.map f)):∃a cap,v = .slice a l.length cap/\l.length<=9223372036854775807 /\
  ∀W,Below w.heap.size w W->∀k,(hk:k<l.length)->∃b off,a=some ⟨b,off,none⟩/\b<W.heap.size/\W.cell? ⟨b,off+k,none⟩=some (f l[k]):=by
 obtain⟨h0,a,cap,hv,hc⟩:=h;simp only[qX]at h0 hv hc;refine⟨a,cap,hv,by unfold maxLen at h0;omega,fun W hW k hk=>?_⟩;obtain⟨b,off,ha,hb,Aa⟩:=hc (by omega);exact⟨b,off,ha,qF hb hW.size,by rw[hW.cell (p:=⟨b,off+k,none⟩) hb,Aa k (by simpa using hk),zL]⟩
theorem ap2(b off n:Nat):(⟨b,off,none⟩:Addr).add n=⟨b,off+n,none⟩:=by unfold Addr.add;split<;>simp_all
end Go
namespace Tess
open Go
namespace Fil
end Fil
end Tess
namespace Go.Proofs.Q9
open Go.RowKit Go.Sort
open Tess (Fil)
theorem oca{w:World}{base:Nat}{e:TypeId}{size:Nat}{v:Value}{n:Nat}{xs:List Value}(h:w.ownsRow base e size v n xs)(hn:0<n) :
  ∃g cap,v = .slice (some ⟨g,0,none⟩) n cap/\base<=g/\g<w.heap.size/\n<=cap/\cap<=maxLen/\∀j,j<n*size->w.cell? ⟨g,j,none⟩=xs[j]?:=by
 obtain⟨hl,h⟩:=h;rcases h with⟨_,h0⟩|⟨g,cap,Ab,hv,hb,hg,Aa,hm,hs,ht⟩
 ·omega
 ·refine⟨g,cap,hv,hb,(qA.1 hg).1,Aa,hm,fun j hj=>?_⟩;rw[qT _ _ _ _ _ _ hg,<-ht,List.getElem?_take,qR hj,Array.getElem?_toList]
theorem set6{W:World}{g:Nat}{x0 x1 x2 x3 x4 x5:Value}{t:TypeId}(y0 y1 y2 y3 y4 y5:Value)(h:W.heap[g]?=some (.cells #[x0,x1,x2,x3,x4,x5] t (0,0))) :
  ((((((W.setCell ⟨g,0,none⟩ y0).setCell ⟨g,1,none⟩ y1).setCell ⟨g,2,none⟩ y2).setCell ⟨g,3,none⟩ y3).setCell ⟨g,4,none⟩ y4).setCell ⟨g,5,none⟩ y5).heap[g]?=some (.cells #[y0,y1,y2,y3,y4,y5] t (0,0)):=
 qO _ _ _ _ _ _ (qO _ _ _ _ _ _ (qO _ _ _ _ _ _ (qO _ _ _ _ _ _ (qO _ _ _ _ _ _ (qO _ _ _ _ _ _ h)))))
theorem sb2{B:Nat}{a W:World}{g:Nat}(y0 y1 y2 y3 y4 y5:Value)(h:Below B a W)(hg:B<=g) :
  Below B a ((((((W.setCell ⟨g,0,none⟩ y0).setCell ⟨g,1,none⟩ y1).setCell ⟨g,2,none⟩ y2).setCell ⟨g,3,none⟩ y3).setCell ⟨g,4,none⟩ y4).setCell ⟨g,5,none⟩ y5):=
 (((((h.setCell hg _).setCell hg _).setCell hg _).setCell hg _).setCell hg _).setCell hg _
section
variable {w W W':World} {g:Nat} {bx:Array Value} {k fr to:Int} {nm:ByteArray} {wv lv:Value}
end
end Go.Proofs.Q9
namespace Go.FlowR
open Go Go.RowKit
structure Rel where
 r:World->World->Prop
 rf:∀w,r w w
 tr:∀{a b c},r a b->r b c->r a c
 drew:∀w:World,r w { w with drawn:=w.drawn+1 }
abbrev Spec:=Value ⊕ (Value->World->Prop)
def Spec.holds:Spec->Value->World->Prop
 |.inl u,v,_=>v=u
 |.inr V,v,w=>V v w
def Spec.ok:Spec->Value->Prop
 |.inl u,v=>v=u
 |.inr _,_=>True
def Mono(R:Rel)(p:World->Prop):Prop:=∀w w',p w->R.r w w'->p w'
def Spec.mono(R:Rel)(s:Spec):Prop:=∀v,Mono R (s.holds v)
theorem mi{R:Rel}(u:Value):Spec.mono R (.inl u):=fun _ _ _ h _=>h
section
variable {R:Rel} {P:Program} {ops:Array Oper}
def yields(P:Program)(o:Oper)(ρ:Operand->Value)(w:World)(R:Value->World->Prop):Prop:=
 match (execOp ρ o).run P w with
 |.ok (.value v) w'=>R v w'
 |.ok .skip w'=>R undef w'
 |.ok (.enter f args) w'=>Calls P f args w' fun e w''=>∃v,e = .returned v/\R v w''
 |_=>False
theorem ym{o:Oper}{ρ:Operand->Value}{w:World}{R R':Value->World->Prop}(h:∀v w,R v w->R' v w)(hy:yields P o ρ w R):yields P o ρ w R':=by
 unfold yields at *;generalize (execOp ρ o).run P w=r at *;cases r with
 |ok n w'=>
   cases n<;>first
    |exact h _ _ hy
    |exact xL hy (fun e w'' ⟨v,he,hr⟩=>⟨v,he,h _ _ hr⟩)
    |exact hy
 |halt x w'=>exact hy
theorem woy{o:Oper}{a:Act}{w:World}{K:Act->World->Prop}{Q:Exit->Act->World->Prop}(hy:yields P o a.eval w fun v w'=>K (a.put o.dst v) w'):o.wp P a w K Q:=by
 unfold yields at hy;unfold Oper.wp;generalize (execOp a.eval o).run P w=r at *;cases r with
 |ok n w'=>
   cases n<;>simp only[Oper.upon]<;>first
    |exact hy
    |exact(show False from hy).elim
    |exact xL hy (fun e w'' ⟨v,he,hr⟩=>by subst he;exact hr)
 |halt x w'=>exact hy.elim
def Runs(R:Rel)(P:Program)(ops:Array Oper)(o:Oper)(s:Spec)(a:Act)(w:World):Prop:=
 if Region.wanted o (yielded ops a.tmps)then yields P o a.eval w (fun v w'=>R.r w w'/\s.holds v w')else s.holds undef w
def dep(o:Oper)(j:Nat):Bool:=o.after.any fun e=>Region.binds .any e&&e.on==j
def Ru(R:Rel)(P:Program)(ops:Array Oper)(w0:World)(o:Oper)(s:Spec)(a:Act)(Γ:Nat->World->Prop):Prop:=
 ∀w,R.r w0 w->(∀j,dep o j=true->Γ j w)->Runs R P ops o s a w
def upd(Γ:Nat->World->Prop)(i:Nat)(p:World->Prop):Nat->World->Prop:=fun j=>if j=i then p else Γ j
theorem upd_ne{Γ:Nat->World->Prop}{i j:Nat}{p:World->Prop}(h:j≠i):upd Γ i p j=Γ j:=by simp[upd,h]
theorem upd_same{Γ:Nat->World->Prop}{i:Nat}{p:World->Prop}:upd Γ i p i=p:=by simp[upd]
theorem uc2{Γ:Nat->World->Prop}{i j:Nat}{p q:World->Prop}(h:j≠i):upd (upd Γ i p) j q=upd (upd Γ j q) i p:=by
 funext k;unfold upd;by_cases h1:k=j
 ·subst h1;simp[h]
 ·simp[h1]
def sp(S:Nat->Value->Spec)(σ:Nat->Nat)(i:Nat)(a:Act):Spec:=S i (a.tmps.getD (σ i) undef)
def SpOk(ops:Array Oper)(S:Nat->Value->Spec)(σ:Nat->Nat):Prop:=∀i oi,ops[i]?=some oi->σ i∈oi.looksAt ops∨∀x y,S i x=S i y
theorem sp4{S:Nat->Value->Spec}{σ:Nat->Nat}(hS:SpOk ops S σ){i:Nat}{oi:Oper}(hi:ops[i]?=some oi)(a:Act)(dst:Option Tmp)(v:Value)(h:∀d,dst=some d->d∉oi.looksAt ops):sp S σ i (a.put dst v)=sp S σ i a:=by
 rcases hS i oi hi with h1|h1
 ·unfold sp;cases dst with
  |none=>rfl
  |some d=>
    have Aa:d≠σ i:=fun e=>h d rfl (e▸h1);congr 1;simp[Act.put,Aa]
 ·exact h1 _ _
def fOp(R:Rel)(P:Program)(ops:Array Oper)(S:Nat->Value->Spec)(σ:Nat->Nat)(w0:World)(i:Nat)(K:Act->(Nat->World->Prop)->Prop)(a:Act)(Γ:Nat->World->Prop):Prop:=
 match ops[i]? with
 |none=>K a Γ
 |some o=>Ru R P ops w0 o (sp S σ i a) a Γ/\∀v,(sp S σ i a).ok v->K (a.put o.dst v) (upd Γ i ((sp S σ i a).holds v))
def anyF(R:Rel)(P:Program)(ops:Array Oper)(S:Nat->Value->Spec)(σ:Nat->Nat)(w0:World)(E:Act->(Nat->World->Prop)->Prop):Nat->Array Bool->Act->(Nat->World->Prop)->Prop
 |0,listed,a,Γ=>Region.ready .any ops listed=[]/\E a Γ
 |fuel+1,listed,a,Γ=>
   (Region.ready .any ops listed=[]->E a Γ) /\
   ∀i∈Region.ready .any ops listed,fOp R P ops S σ w0 i (anyF R P ops S σ w0 E fuel (listed.setIfInBounds i true)) a Γ
theorem Ru.of_same{w0:World}{o:Oper}{s:Spec}{a a':Act}{Γ Γ':Nat->World->Prop}(h:Ru R P ops w0 o s a Γ)(he:execOp a'.eval o=execOp a.eval o)
  (hw:Region.wanted o (yielded ops a'.tmps)=Region.wanted o (yielded ops a.tmps)) (hg:∀j,dep o j=true->Γ' j=Γ j):Ru R P ops w0 o s a' Γ':=by
 intro w hB hG;have:=h w hB (fun j hj=>by rw[<-hg j hj];exact hG j hj);unfold Runs yields at *;rw[he,hw];exact this
theorem nd2{o:Oper}{i:Nat}(h:∀e∈o.after,Region.binds .any e=true->e.on≠i){j:Nat}(hj:dep o j=true):j≠i:=by obtain⟨e,he,hb⟩:=Array.any_eq_true'.1 hj;rw[qb,xM]at hb;intro e2;exact h e he hb.1 (by rw[hb.2,e2])
def Tree(R:Rel)(P:Program)(ops:Array Oper)(S:Nat->Value->Spec)(σ:Nat->Nat)(w0:World)(E:Act->(Nat->World->Prop)->Prop):List Oper->Nat->Act->(Nat->World->Prop)->Prop
 |[],_,a,Γ=>E a Γ
 |o::rest,i,a,Γ=>Ru R P ops w0 o (sp S σ i a) a Γ/\∀v,(sp S σ i a).ok v->Tree R P ops S σ w0 E rest (i+1) (a.put o.dst v) (upd Γ i ((sp S σ i a).holds v))
theorem tn2{S:Nat->Value->Spec}{σ:Nat->Nat}{w0:World}{E:Act->(Nat->World->Prop)->Prop}{i:Nat}{a:Act}{Γ:Nat->World->Prop}(h:E a Γ):Tree R P ops S σ w0 E [] i a Γ:=h
theorem tv3{S:Nat->Value->Spec}{σ:Nat->Nat}{w0:World}{E:Act->(Nat->World->Prop)->Prop}{o:Oper}{rest:List Oper}{i:Nat}{a:Act}{Γ:Nat->World->Prop}(u:Value)(hs:sp S σ i a = .inl u)
  (hr:∀w,R.r w0 w->(∀j,dep o j=true->Γ j w)->Runs R P ops o (.inl u) a w) (h:Tree R P ops S σ w0 E rest (i+1) (a.put o.dst u) (upd Γ i (fun _=>True))):Tree R P ops S σ w0 E (o::rest) i a Γ:=by
 refine⟨by rw[hs];exact hr,fun v hv=>?_⟩;rw[hs]at hv⊢;cases hv
 have:(fun w=>Spec.holds (.inl u) u w)=fun _=>True:=by funext w;simp[Spec.holds]
 rw[show Spec.holds (.inl u) u=fun _=>True from this];exact h
theorem tv2{S:Nat->Value->Spec}{σ:Nat->Nat}{w0:World}{E:Act->(Nat->World->Prop)->Prop}{o:Oper}{rest:List Oper}{i:Nat}{a:Act}{Γ:Nat->World->Prop}(V:Value->World->Prop)(hs:sp S σ i a = .inr V)
  (hr:∀w,R.r w0 w->(∀j,dep o j=true->Γ j w)->Runs R P ops o (.inr V) a w) (h:∀v,Tree R P ops S σ w0 E rest (i+1) (a.put o.dst v) (upd Γ i (V v))):Tree R P ops S σ w0 E (o::rest) i a Γ:=by
 refine⟨by rw[hs];exact hr,fun v _=>?_⟩;rw[hs];exact h v
@[go_sem] theorem rr3(R:Rel)(w:World):R.r w w=True:=eq_true (R.rf w)
def sp3(n:Nat)(f:Value->Spec)(l:List Spec):Nat->Value->Spec:=fun i x=>if i=n then f x else l.getD i (.inl undef)
theorem sm2{n:Nat}{f:Value->Spec}{l:List Spec}(hf:∀x,Spec.mono R (f x))(h:∀s∈l,Spec.mono R s):∀i x,Spec.mono R (sp3 n f l i x):=fun i x=>by
 unfold sp3;split
 ·exact hf x
 ·rcases jb i l.length with h'|h'
  ·rw[qE,qD h'];exact h _ (qP h')
  ·rw[qE,yL h'];exact mi _
theorem so4{n s:Nat}{f:Value->Spec}{l:List Spec}(h:(match ops[n]? with|some o=>(o.looksAt ops).contains s|none=>true)=true):SpOk ops (sp3 n f l) (fun _=>s):=fun i oi hi=>by
 by_cases e:i=n
 ·subst e;rw[hi]at h;exact .inl (by simpa using h)
 ·exact .inr fun x y=>by unfold sp3;rw[qH e,qH e]
theorem ro3{o:Oper}{a:Act}{w w':World}{s:Spec}{u:Value}(hw:Region.wanted o (yielded ops a.tmps)=true)(h:(execOp a.eval o).run P w = .ok (.value u) w')(hb:R.r w w')(hv:s.holds u w'):Runs R P ops o s a w:=by unfold Runs yields;rw[qR hw,h];exact⟨hb,hv⟩
theorem tvK{S:Nat->Value->Spec}{σ:Nat->Nat}{w0:World}{E:Act->(Nat->World->Prop)->Prop}{o:Oper}{rest:List Oper}{i:Nat}{a:Act}{Γ:Nat->World->Prop}{u:Value}(hs:sp S σ i a = .inl u)
  (h:∀K:Act->Prop,(∀a',Tree R P ops S σ w0 E rest (i+1) a' (upd Γ i (fun _=>True))->K a')->(∀w,R.r w0 w->(∀j,dep o j=true->Γ j w)->Runs R P ops o (.inl u) a w)/\K (a.put o.dst u)):Tree R P ops S σ w0 E (o::rest) i a Γ:=
 tv3 u hs (h (fun _=>True) (fun _ _=>trivial)).1 (h _ (fun _ h=>h)).2
theorem tvK2{S:Nat->Value->Spec}{σ:Nat->Nat}{w0:World}{E:Act->(Nat->World->Prop)->Prop}{o:Oper}{rest:List Oper}{i:Nat}{a:Act}{Γ:Nat->World->Prop}{V:Value->World->Prop}(hs:sp S σ i a = .inr V)
  (h:∀K:Act->(World->Prop)->Prop,(∀a' v,Tree R P ops S σ w0 E rest (i+1) a' (upd Γ i (V v))->K a' (V v))->(∀w,R.r w0 w->(∀j,dep o j=true->Γ j w)->Runs R P ops o (.inr V) a w)/\∀v,K (a.put o.dst v) (V v)):Tree R P ops S σ w0 E (o::rest) i a Γ:=by
 refine tv2 V hs (h (fun _ _=>True) (fun _ _ _=>trivial)).1 fun v=>?_;have:=(h (fun a' p=>Tree R P ops S σ w0 E rest (i+1) a' (upd Γ i p)) (fun _ _ h=>h)).2 v;exact this
@[go_sem] theorem hi6(u v:Value)(w:World):Spec.holds (.inl u) v w=(v=u):=rfl
theorem ln2:∀s∈([]:List Spec),Spec.mono R s:=fun _ h=>by cases h
theorem li2{u:Value}{l:List Spec}(h:∀s∈l,Spec.mono R s):∀s∈(.inl u::l:List Spec),Spec.mono R s:=fun s hs=>by
 rcases qm.1 hs with rfl|hs
 ·exact mi u
 ·exact h s hs
theorem li3{V:Value->World->Prop}{l:List Spec}(hV:Spec.mono R (.inr V))(h:∀s∈l,Spec.mono R s):∀s∈(.inr V::l:List Spec),Spec.mono R s:=fun s hs=>by
 rcases qm.1 hs with rfl|hs
 ·exact hV
 ·exact h s hs
end
section
variable {B:Nat} {t:TypeId} {Z Y:Array Value} {w w':World}
end
end Go.FlowR
namespace Go.Proofs.Q9
open Go.RowKit Go.Sort
open Tess (Fil)
open Tess.Fil (sO3 gO2 sF2 sH)
theorem aG(b:Nat)(g:Int)(w:World)(hc:w.cell? ⟨b,0,none⟩=some (.int .i64 g)) :
  Calls Tryz.prog 113 #[.slice (some ⟨b,0,none⟩) 1 1] w fun e w'=>e = .returned (.bool (gO2 g))/\w=w':=by
 unfold gO2;by_cases h1:1<=g
 ·have d1:decide (1<=g)=true:=decide_eq_true h1;have Ab:decide (g<1)=false:=qG (by omega);by_cases h2:g<=1000000000
  ·have d2:decide (g<=1000000000)=true:=decide_eq_true h2;have Aa:decide (1000000000<g)=false:=qG (by omega);rw[d1,d2];go_enter Tryz.func113,Tryz.ntmps113;go_wp2;refine jv 2 ?_;rw[jR];go_wp2;rw[jR];go_wp2;go_ret;exact⟨rfl,rfl⟩
  ·have d2:decide (g<=1000000000)=false:=qG h2;have Aa:decide (1000000000<g)=true:=decide_eq_true (by omega);rw[d1,d2];go_enter Tryz.func113,Tryz.ntmps113;go_wp2;refine jv 2 ?_;rw[jR];go_wp2;go_ret;exact⟨rfl,rfl⟩
 ·have d1:decide (1<=g)=false:=qG h1;have Ab:decide (g<1)=true:=decide_eq_true (by omega);rw[d1,qo];go_enter Tryz.func113,Tryz.ntmps113;go_wp2;refine jv 2 ?_;rw[jR];go_wp2;go_ret;exact⟨rfl,rfl⟩
end Go.Proofs.Q9
namespace Go.Proofs.Q9
open Go.RowKit Go.Sort
open Tess (Fil Que)
theorem flatK{α:Type}{k:Nat}{f:α->List Value}(l:List α)(h:∀x∈l,(f x).length=k):∀(j i:Nat) (hj:j<l.length),i<k->(l.flatMap f)[j*k+i]?=(f l[j])[i]?:=by
 induction l with
 |nil=>intro j i hj;simp at hj
 |cons u r ih=>
   intro j i hj hi;rw[zp];cases j with
   |zero=>
     rw[jX (by rw[h u (qAb)];omega)];simp
   |succ j=>
     have e:(j+1)*k+i=k+(j*k+i):=by rw[qAs];omega
     rw[e,jk (by rw[h u (qAb)];omega),h u (qAb),qBd];exact ih (fun x hx=>h x (yk _ hx)) j i (by simpa using hj) hi
theorem ro2{α:Type}{k:Nat}{f:α->List Value}{w:World}{base:Nat}{t:TypeId}{v:Value}{l:List α}(hf:∀x∈l,(f x).length=k)(h:w.ownsRow base t k v l.length (l.flatMap f))(hl:l.length<=maxLen)(hn:l=[]->v = .slice none 0 0):RA k f (fun b=>base<=b) w v l:=by
 rcases jI l.length with h0|h0
 ·have:l=[]:=yl.1 h0;subst this;rw[hn rfl];exact RA.nil _ _ _ _
 ·obtain⟨g,Ac,hv,hb,hg,Aa,_,hc⟩:=oca h h0;refine⟨_,_,hv,hl,Aa,(fun e=>by cases e),fun _=>⟨g,0,rfl,hg,hb,fun j hj i hi=>?_⟩⟩
  have Ab:j*k+i<l.length*k:=by have:=jO k (show j+1<=l.length from hj);rw[qAs]at this;omega
  rw[qj,hc _ Ab];exact flatK l hf j i hj hi
