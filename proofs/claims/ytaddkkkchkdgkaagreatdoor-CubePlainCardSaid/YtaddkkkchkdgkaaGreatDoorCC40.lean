/- Joined by mergeK.py: H12, H10, K57, K60, K61, K62 -/
import Derived.Test.YtaddkkkchkdgkaaGreatDoorCC39
import Derived.Test.YtaddkkkchkdgkaaGreatDoorCC36
import Derived.Test.YtaddkkkchkdgkaaGreatDoorCC19
import Derived.Test.YtaddkkkchkdgkaaGreatDoorCC23
import Derived.Test.YtaddkkkchkdgkaaGreatDoorCC16
namespace Go.Proofs.YtaddkkkchkdgkaaGreatDoor
open Go.RowKit Go.Sort
open Tess (Fil Que)
set_option maxRecDepth 100000 in
set_option maxHeartbeats 4000000 in
theorem qa3 (a0 a1:Addr) (p:Nat→Prop) (n:Nat) (vs v:Value) (s:Tess.Sch) (q:Que) (va vb vS f0 f1 f2 f3 f4 f5 vh vo:Value) (w:World) (hV:Vars a0 a1 w) (hs:SA p w vs s) (hq:QA p n w v q va vb vS f0 f1 f2 f3 f4 f5 vh vo) (hn:n≤100) (hK:kO2 q.fil) :
  Calls Tryz.prog 44 #[vs,v] w fun e w'=>e = .returned (.int .i64 (Que.check s q:Nat))∧Below w.heap.size w w':=by
 have HR:=Hd (fun W (hB:Below w.heap.size w W)=>sRa vs s p W (hs.ag (Ag.new p hB)))
 have HI:=Hd (fun W (hB:Below w.heap.size w W)=>isOf_any p n vs v s q va vb vS f0 f1 f2 f3 f4 f5 vh vo W (hs.ag (Ag.new p hB)) (hq.ag (Ag.new p hB)))
 have HF:=Hd (fun W (hB:Below w.heap.size w W)=>check_any a0 a1 p n vs (.agg #[f0,f1,f2,f3,f4,f5]) s q.fil W (hV.below hB) (hs.ag (Ag.new p hB)) (hq.fil.ag (Ag.new p hB)) hn hK)
 have HE:RowKit.Hid (Que.check s q=if Tess.sO2 s then (if Que.isOf s q then (if decide (q.every≠0) && !Tess.co2 s.grain q.every then 110 else Fil.cE2 s q.fil) else 152) else 100):=Hd rfl
 obtain ⟨vd,vm,rfl,_,_,_,_⟩:=hs
 have hv:=hq.e
 subst hv
 clear hq hV
 obtain ⟨W0,An⟩:∃ W0,(w.alloc (.cells #[vd,vm,.int .i64 s.grain] 24)).alloc (.cells #[va,vb,.int .i64 q.mode,vS,.int .i64 q.every,f0,f1,f2,f3,f4,f5,vh,vo,.int .i64 q.limit] 35)=W0:=⟨_,rfl⟩
 obtain ⟨h1,h2,Al,Ah⟩:=la3 w (.cells #[vd,vm,.int .i64 s.grain] 24) (.cells #[va,vb,.int .i64 q.mode,vS,.int .i64 q.every,f0,f1,f2,f3,f4,f5,vh,vo,.int .i64 q.limit] 35)
 rw [An] at h1 h2 Al Ah
 have Ad:=Hd (fun X (hX:Below W0.heap.size W0 X)=>And.intro (can3 ((hX.block _ (Array.getElem?_eq_some_iff.1 h1).1).trans h1)).1 (ca2 ((hX.block _ (Array.getElem?_eq_some_iff.1 h2).1).trans h2)).1)
 have HG:=Hd (fun W=>coarser_any s.grain q.every W)
 have Aa:=Hd Ah
 have Ab:=Below.refl W0.heap.size W0
 clear h1 h2 Al Ah
 obtain ⟨⟨x0,x1,x2⟩,y0,y1,y2,y3,y4,y5,y6,y7,y8,y9,ya,yb,yc,yd⟩:=Ad.out W0 Ab
 generalize Que.check s q=r at *
 generalize Tess.sO2 s=c1 at *
 generalize Que.isOf s q=c2 at *
 generalize Tess.co2 s.grain q.every=c3 at *
 generalize Fil.cE2 s q.fil=c4 at *
 go_enter Tryz.func44,Tryz.ntmps44
 go_wp2_with (fail)
 go_at_call 30
 refine (HR.out W0 Aa.out).mono ?_
 rintro e W1 ⟨rfl,hx⟩
 have Ai:=Bt Ab hx
 clear hx x0 x1 x2 y0 y1 y2 y3 y4 y5 y6 y7 y8 y9 ya yb yc yd
 obtain ⟨⟨x0,x1,x2⟩,y0,y1,y2,y3,y4,y5,y6,y7,y8,y9,ya,yb,yc,yd⟩:=Ad.out W1 Ai
 have Af:=Hd Ai
 clear Ai
 cases c1
 ·have HZ:=Hd (show r=100 from HE.out)
  go_wp2
  go_ret
  exact ⟨ri2 (by rw [HZ.out];rfl),Bt Aa.out Af.out⟩
 have HE:=Hd (show r=if c2 then (if decide (q.every≠0) && !c3 then 110 else c4) else 152 from HE.out)
 go_wp2_with (fail)
 go_at_call 78
 refine (HI.out W1 (Bt Aa.out Af.out)).mono ?_
 rintro e W2 ⟨rfl,hx⟩
 have Aj:=Bt Af.out hx
 clear hx x0 x1 x2 y0 y1 y2 y3 y4 y5 y6 y7 y8 y9 ya yb yc yd
 obtain ⟨⟨x0,x1,x2⟩,y0,y1,y2,y3,y4,y5,y6,y7,y8,y9,ya,yb,yc,yd⟩:=Ad.out W2 Aj
 have Ae:=Hd Aj
 clear Aj
 cases c2
 ·have HZ:=Hd (show r=152 from HE.out)
  go_wp2
  go_ret
  exact ⟨ri2 (by rw [HZ.out];rfl),Bt Aa.out Ae.out⟩
 have HE:=Hd (show r=if decide (q.every≠0) && !c3 then 110 else c4 from HE.out)
 by_cases h0:q.every=0
 ·have HZ:=Hd (show r=c4 by rw [HE.out];simp [h0])
  have Ao:(q.every != 0)=false:=by simp [h0]
  clear h0
  go_wp2_with (go_at_call 80;refine (HF.out _ (Bt Aa.out Ae.out)).mono ?_;rintro e W3 ⟨rfl,hx⟩;have Ac:=Hd (Bt Ae.out hx);clear hx)
  go_ret
  exact ⟨ri2 (by rw [HZ.out]),Bt Aa.out Ac.out⟩
 ·have Ao:(q.every != 0)=true:=by simp [h0]
  have HZ:=Hd (show r=if c3 then c4 else 110 by rw [HE.out];cases c3 <;> simp [h0])
  clear h0
  go_wp2_with (fail)
  go_at_call 79
  refine (HG.out W2).mono ?_
  rintro e W3 ⟨rfl,hx⟩
  have Ak:=Bt Ae.out hx
  clear hx x0 x1 x2 y0 y1 y2 y3 y4 y5 y6 y7 y8 y9 ya yb yc yd
  obtain ⟨⟨x0,x1,x2⟩,y0,y1,y2,y3,y4,y5,y6,y7,y8,y9,ya,yb,yc,yd⟩:=Ad.out W3 Ak
  have Ac:=Hd Ak
  clear Ak
  cases c3
  ·go_wp2
   go_ret
   exact ⟨ri2 (by rw [HZ.out];rfl),Bt Aa.out Ac.out⟩
  ·go_wp2_with (go_at_call 80;refine (HF.out _ (Bt Aa.out Ac.out)).mono ?_;rintro e W4 ⟨rfl,hx⟩;have Am:=Hd (Bt Ac.out hx);clear hx)
   go_ret
   exact ⟨ri2 (by rw [HZ.out];rfl),Bt Aa.out Am.out⟩
end Go.Proofs.YtaddkkkchkdgkaaGreatDoor
namespace Tess
open Go
namespace Que
theorem setFrom_le (l:List ByteArray) (names:List ByteArray):∀ i,sF2 l i names + 2 ^ i≤2 ^ (i + names.length):=by
 induction names with
 | nil=>intro i;simp [sF2]
 | cons x r ih=>
   intro i
   have h:=ih (i + 1)
   have e:i + 1 + r.length=i + (r.length + 1):=by omega
   rw [e] at h
   have e2:2 ^ (i + 1)=2 ^ i + 2 ^ i:=by rw [Nat.pow_succ];omega
   rw [List.length_cons]
   have e3:sF2 l i (x :: r)=(if hasW l x then 0 else 2 ^ i) + sF2 l (i + 1) r:=rfl
   rw [e3]
   have hp:=Nat.two_pow_pos i
   generalize 2 ^ i=P at *
   split <;> omega
theorem sFa2 (l a b:List ByteArray):∀ i,sF2 l i (a ++ b)=sF2 l i a + sF2 l (i + a.length) b:=by
 induction a with
 | nil=>intro i;simp [sF2]
 | cons x r ih=>
   intro i
   show (if hasW l x then 0 else 2 ^ i) + sF2 l (i + 1) (r ++ b)=(if hasW l x then 0 else 2 ^ i) + sF2 l (i + 1) r + sF2 l (i + (r.length + 1)) b
   rw [ih,show i + 1 + r.length=i + (r.length + 1) by omega];omega
theorem setTo_succ (l names:List ByteArray) (k:Nat) (h:k < names.length):sF2 l 0 (names.take (k + 1))=sF2 l 0 (names.take k) + if hasW l names[k] then 0 else 2 ^ k:=by
 rw [List.take_succ_eq_append_getElem h,sFa2]
 have:(names.take k).length=k:=by simp;omega
 rw [this]
 simp [sF2]
theorem setTo_lt (l names:List ByteArray) (k:Nat) (h:k≤names.length):sF2 l 0 (names.take k) < 2 ^ k:=by
 have:=setFrom_le l (names.take k) 0
 have e:(names.take k).length=k:=by simp;omega
 rw [e] at this
 simp at this;omega
end Que
end Tess
namespace Go.Proofs.YtaddkkkchkdgkaaGreatDoor
open Go.RowKit Go.Sort
open Tess (Fil Que)
theorem ps3 (n:Nat) (h:n≤10):(2:Int) ^ n=((2 ^ n:Nat):Int)∧1≤2 ^ n∧2 ^ n≤1024:=by
 refine ⟨by simp,Nat.one_le_two_pow,?_⟩
 calc 2 ^ n≤2 ^ 10:=Nat.pow_le_pow_right (by omega) h
  _=1024:=rfl
theorem or_pow:∀ k,k < 6→∀ s,s < 2 ^ k→bits .or .i64 ((s:Nat):Int) ((2 ^ k:Nat):Int)=((s + 2 ^ k:Nat):Int):=by decide +kernel
theorem andNot_all:∀ n,n≤6→∀ k,k≤n→bits .andNot .i64 ((2 ^ n - 1:Nat):Int) (((2 ^ n - 1) / 2 ^ k:Nat):Int)=((2 ^ n - 2 ^ (n - k):Nat):Int):=by decide +kernel
set_option maxRecDepth 100000 in
theorem allL_any (x0 x2 x3 x4 x5 x6 x7 x8 x9 xa xb xc xd:Value) (ab:Option Addr) (nb cb:Nat) (hn:nb≤10) (w:World) :
  Calls Tryz.prog 132 #[.agg #[x0,.slice ab nb cb,x2,x3,x4,x5,x6,x7,x8,x9,xa,xb,xc,xd]] w fun e w'=>e = .returned (.int .i64 ((2 ^ nb - 1:Nat):Int))∧Below w.heap.size w w':=by
 obtain ⟨h0,hS,hB⟩:=la2 w (.cells #[x0,.slice ab nb cb,x2,x3,x4,x5,x6,x7,x8,x9,xa,xb,xc,xd] 108)
 obtain ⟨p1,p2,p3⟩:=ps3 nb hn
 have HB:=Hd hB
 clear hB hS h0
 obtain ⟨P,hP⟩:∃ P,P=2 ^ nb:=⟨_,rfl⟩
 rw [← hP] at p1 p2 p3
 have e:((2 ^ nb - 1:Nat):Int)=(P:Int) - 1:=by rw [← hP];omega
 rw [e]
 clear hP e
 go_enter Tryz.func132,Tryz.ntmps132
 go_wp2
 go_ret
 exact ⟨rfl,HB.out⟩
set_option maxRecDepth 100000 in
set_option maxHeartbeats 2000000 in
theorem set_any (x0 x2 x3 x4 x5 x6 x7 x8 x9 xa xb xc xd vb vl:Value) (names l:List ByteArray) (hn:names.length≤6) (w:World) (hb:SlOf w vb (names.map .string)) (hl:SlOf w vl (l.map .string)) :
  Calls Tryz.prog 135 #[.agg #[x0,vb,x2,x3,x4,x5,x6,x7,x8,x9,xa,xb,xc,xd],vl] w fun e w'=>e = .returned (.int .i64 ((Que.setOf names l:Nat):Int))∧Below w.heap.size w w':=by
 have Af:=Hd (fun (W:World) (hB:Below w.heap.size w W) (x:ByteArray)=>ca4 vl l x W (hl.below hB))
 obtain ⟨ab,cb,rfl,_,hc⟩:=so2 hb
 obtain ⟨al,cl,rfl,_,_⟩:=so2 hl
 have HC:=Hd hc
 clear hc hb hl
 obtain ⟨W0,Ag⟩:∃ W0,w.alloc (.cells #[x0,.slice ab names.length cb,x2,x3,x4,x5,x6,x7,x8,x9,xa,xb,xc,xd] 108)=W0:=⟨_,rfl⟩
 obtain ⟨h0,hS,hB⟩:=la2 w (.cells #[x0,.slice ab names.length cb,x2,x3,x4,x5,x6,x7,x8,x9,xa,xb,xc,xd] 108)
 rw [Ag] at h0 hS hB
 have y1:=(ca2 h0).1.2.1
 have Ah:=Hd hB
 clear h0 hS hB
 go_enter Tryz.func135,Tryz.ntmps135
 go_wp2
 go_loopw [5,12] (fun s i wr => ∃ k:Nat,k≤names.length∧i = .int .i64 k∧s = .int .i64 ((Que.sF2 l 0 (names.take k):Nat):Int)∧Below w.heap.size w wr) (fun _ i _=>names.length - (intOf i).toNat)
 case atStart=>exact ⟨0,Nat.zero_le _,rfl,rfl,Ah.out⟩
 case round=>
  obtain ⟨k,hk,rfl,rfl,hB⟩:=hrel
  have HB:=Hd hB
  clear hB
  by_cases hlt:k < names.length
  ·obtain ⟨b,Ai,rfl,hb,Ad⟩:=HC.out k hlt
   have Aj:(k:Int) < (names.length:Int):=by omega
   have Ak:=(HB.out.cell (p:=⟨b,Ai + k,none⟩) hb).trans Ad
   have Ab:=Hd (Que.setTo_succ l names k hlt)
   have Ac:=Que.setTo_lt l names k hk
   have Ae:=or_pow k (by omega) _ Ac
   obtain ⟨p1,p2,p3⟩:=ps3 k (by omega)
   have Aa:=Hd (Af.out wr HB.out names[k])
   clear Ad
   generalize names[k]=y at *
   generalize Que.sF2 l 0 (names.take k)=s at *
   generalize Tess.hasW l y=hb' at *
   obtain ⟨P,hP⟩:∃ P,P=2 ^ k:=⟨_,rfl⟩
   rw [← hP] at p1 p2 p3 Ae Ab Ac
   have Al:s≤1024:=by omega
   clear hP Ac
   cases hb'
   ·go_wp2_with (go_at_call 179;refine Aa.out.mono ?_;rintro e w2 ⟨rfl,rfl⟩)
    go_roundw
    case rel=>exact ⟨k + 1,by omega,by go_num,by rw [Ab.out];simp,HB.out⟩
    case measure=>simp [intOf];omega
   ·go_wp2_with (go_at_call 179;refine Aa.out.mono ?_;rintro e w2 ⟨rfl,rfl⟩)
    go_roundw
    case rel=>exact ⟨k + 1,by omega,by go_num,by rw [Ab.out];simp,HB.out⟩
    case measure=>simp [intOf];omega
  ·have Aj:¬ (k:Int) < (names.length:Int):=by omega
   have HE:=Hd (show Que.setOf names l=Que.sF2 l 0 (names.take k) by rw [List.take_of_length_le (by omega)];rfl)
   go_wp2
   go_ret
   exact ⟨ri2 (by rw [HE.out]),HB.out⟩
end Go.Proofs.YtaddkkkchkdgkaaGreatDoor
namespace Go.Proofs.YtaddkkkchkdgkaaGreatDoor
open Go.RowKit Go.Sort Go.Shelf
open Tess (CK Pay PO CO2 CO Que Fil)
abbrev folC (va vb vS f0 f1 f2 f3 f4 f5 vh vo s0 s1 vp:Value) (q:Que) (g set:Int):Array Value:=#[va,vb,.int .i64 q.mode,vS,.int .i64 q.every,f0,f1,f2,f3,f4,f5,vh,vo,.int .i64 q.limit,s0,s1,.int .i64 g,.int .i64 set,vp]
set_option maxRecDepth 100000 in
set_option maxHeartbeats 8000000 in
theorem foldBad_any (a0 a1:Addr) (p:Nat→Prop) (n:Nat) (s:Tess.Sch) (q:Que) (set:Int) (va vb vS f0 f1 f2 f3 f4 f5 vh vo s0 s1 vp:Value) (w:World) (hV:Vars a0 a1 w) (hs:SA p w (.agg #[s0,s1,.int .i64 s.grain]) s) (hq:QA p n w (.agg #[va,vb,.int .i64 q.mode,vS,.int .i64 q.every,f0,f1,f2,f3,f4,f5,vh,vo,.int .i64 q.limit]) q va vb vS f0 f1 f2 f3 f4 f5 vh vo) (hn:n≤100) (hK:kO2 q.fil) (hnm:q.names.length≤10) (hbad:fE s q set≠0) :
  Calls Tryz.prog 34 #[.agg (folC va vb vS f0 f1 f2 f3 f4 f5 vh vo s0 s1 vp q s.grain set)] w fun e w'=>e = .returned (.tuple #[.slice none 0 0,.iface 143 (.agg #[.int .i64 (fE s q set:Nat)])])∧Below w.heap.size w w':=by
 have HC:=Hd (fun W (hB:Below w.heap.size w W)=>qa3 a0 a1 p n _ _ s q va vb vS f0 f1 f2 f3 f4 f5 vh vo W (hV.below hB) (hs.ag (Ag.new p hB)) (hq.ag (Ag.new p hB)) hn hK)
 obtain ⟨⟨An,ba,bc,rfl,Am⟩,Ak,_⟩:=hq.names
 rw [List.length_map] at *
 obtain ⟨W0,Al⟩:∃ W0,(w.alloc (.cells (folC va (.slice ba q.names.length bc) vS f0 f1 f2 f3 f4 f5 vh vo s0 s1 vp q s.grain set) 92)).alloc (.cells #[.slice none 0 0,.map none] 101)=W0:=⟨_,rfl⟩
 obtain ⟨k0,k1,kS,kB⟩:=la3 w (.cells (folC va (.slice ba q.names.length bc) vS f0 f1 f2 f3 f4 f5 vh vo s0 s1 vp q s.grain set) 92) (.cells #[.slice none 0 0,.map none] 101)
 rw [Al] at k0 k1 kS kB
 obtain ⟨⟨y0,y1,y2,y3,y4,y5,y6,y7,y8,y9,ya,yb,yc,yd⟩,⟨ye,yf,yg⟩,yh,yi⟩:=ca3 k0
 have Ah:=Hd k0
 have Ac:=Hd kB
 have Ai:=Hd kS
 have Ae:=Hd hbad
 have HE:RowKit.Hid (fE s q set=if Que.check s q≠0 then Que.check s q else if set < 0∨((2 ^ q.names.length:Nat):Int)≤set then 152 else 0):=Hd rfl
 generalize fE s q set=E at *
 generalize Que.check s q=c at *
 clear k0 k1 kS kB hV hs hq Am Ak An hbad hK
 by_cases hc:c=0
 ·subst hc
  obtain ⟨p1,p2,p3⟩:=ps3 q.names.length hnm
  have he:=HE.out
  rw [if_neg (by simp)] at he
  have Aa:set < 0∨((2 ^ q.names.length:Nat):Int)≤set:=Classical.byContradiction fun h=>Ae.out (by rw [he,if_neg h])
  rw [if_pos Aa] at he
  subst he
  obtain ⟨P,hP⟩:∃ P,P=2 ^ q.names.length:=⟨_,rfl⟩
  rw [← hP] at p1 p2 p3 Aa
  clear hP HE Ae
  by_cases h0:set < 0
  ·clear Aa
   go_enter Tryz.func34,Tryz.ntmps34
   go_wp2
   refine wsf 0 rfl ?_
   go_wp2_with (go_at_call 44;refine (HC.out W0 Ac.out).mono ?_;rintro e W1 ⟨rfl,Ab⟩;obtain ⟨⟨z0,z1,z2,z3,z4,z5,z6,z7,z8,z9,za,zb,zc,zd⟩,⟨ze,zf,zg⟩,zh,zi⟩:=ca3 ((Ab.block _ (by rw [Ai.out];omega)).trans Ah.out);have Ao:=World.block_lt_of_cell? _ _ z0;have Ad:=Hd (Bt Ac.out Ab);clear Ab)
   refine Flow.wrf 11 (Flow.sp3 [.inl ?_,.inl ?_,.inl ?_,.inl ?_,.inl ?_,.inl ?_,.inl ?_,.inl ?_,.inl ?_,.inl ?_,.inl ?_]) (by kernel_rfl) (by kernel_rfl) ?_ ?_
   rotate_left 11
   ·refine Flow.sm2 ?_
    repeat (first | exact Flow.ln2 | refine Flow.li2 ?_)
   all_goals try simp only [List.take_succ_cons,List.take_zero,List.drop_succ_cons,List.drop_zero]
   iterate 11 (refine Flow.tvK rfl (fun K hK=>⟨fun w hw hG => ?_,?_⟩);(have Aj:=Flow.bc4 hw;clear hG hw;unfold Flow.Runs Flow.yields;go_simp;try rfl);go_simp;refine hK _ ?_;clear hK K)
   refine Flow.tn2 fun w2 hw2 hG => ?_
   clear hG
   have Af:=Hd (Bt Ad.out hw2)
   clear hw2
   go_wp2_with (fail)
   go_step3
   refine Exit.tg2 (Exit.fg2 ?_)
   go_wp2
   rw [Exit.noGoto_ret]
   go_ret2
   exact ⟨rfl,Af.out⟩
  ·have Aa:(P:Int)≤set:=Aa.resolve_left h0
   go_enter Tryz.func34,Tryz.ntmps34
   go_wp2
   refine wsf 0 rfl ?_
   go_wp2_with (go_at_call 44;refine (HC.out W0 Ac.out).mono ?_;rintro e W1 ⟨rfl,Ab⟩;obtain ⟨⟨z0,z1,z2,z3,z4,z5,z6,z7,z8,z9,za,zb,zc,zd⟩,⟨ze,zf,zg⟩,zh,zi⟩:=ca3 ((Ab.block _ (by rw [Ai.out];omega)).trans Ah.out);have Ao:=World.block_lt_of_cell? _ _ z0;have Ad:=Hd (Bt Ac.out Ab);clear Ab)
   refine Flow.wrf 11 (Flow.sp3 [.inl ?_,.inl ?_,.inl ?_,.inl ?_,.inl ?_,.inl ?_,.inl ?_,.inl ?_,.inl ?_,.inl ?_,.inl ?_]) (by kernel_rfl) (by kernel_rfl) ?_ ?_
   rotate_left 11
   ·refine Flow.sm2 ?_
    repeat (first | exact Flow.ln2 | refine Flow.li2 ?_)
   all_goals try simp only [List.take_succ_cons,List.take_zero,List.drop_succ_cons,List.drop_zero]
   iterate 11 (refine Flow.tvK rfl (fun K hK=>⟨fun w hw hG => ?_,?_⟩);(have Aj:=Flow.bc4 hw;clear hG hw;unfold Flow.Runs Flow.yields;go_simp;try rfl);go_simp;refine hK _ ?_;clear hK K)
   refine Flow.tn2 fun w2 hw2 hG => ?_
   clear hG
   have Af:=Hd (Bt Ad.out hw2)
   clear hw2
   go_wp2_with (fail)
   go_step3
   refine Exit.tg2 (Exit.fg2 ?_)
   go_wp2
   rw [Exit.noGoto_ret]
   go_ret2
   exact ⟨rfl,Af.out⟩
 ·have he:=HE.out
  rw [if_pos hc] at he
  subst he
  have Ap:((E:Int) != (0:Int))=true:=by rw [bne_iff_ne];omega
  clear HE Ae
  go_enter Tryz.func34,Tryz.ntmps34
  go_wp2
  refine wsf 0 rfl ?_
  go_wp2_with (go_at_call 44;refine (HC.out W0 Ac.out).mono ?_;rintro e W1 ⟨rfl,Ab⟩;have Ad:=Hd (Bt Ac.out Ab);clear Ab)
  go_step3
  refine Exit.tg2 (Exit.fg2 ?_)
  go_wp2
  rw [Exit.noGoto_ret]
  go_ret2
  exact ⟨rfl,Ad.out⟩
end Go.Proofs.YtaddkkkchkdgkaaGreatDoor
namespace Go.Proofs.YtaddkkkchkdgkaaGreatDoor
open Go.RowKit Go.Sort
open Tess (CK Pay)
attribute [local go_sem] Oper.semAt_some
end Go.Proofs.YtaddkkkchkdgkaaGreatDoor
namespace Go.Proofs.YtaddkkkchkdgkaaGreatDoor
open Go.RowKit Go.Sort
open Tess (CK Pay)
theorem GA2.shapes {p:Nat→Prop} {w:World} {cs:List Value} {x:Int×CK×Pay} (h:GA2 p w cs x):∃ ad nd cd a3 n3 c3 a4 n4 c4 a5 n5 c5,cs=[.int .i64 x.1,.int .i64 x.2.1.1,.slice ad nd cd,.int .i64 x.2.2.n,.slice a3 n3 c3,.slice a4 n4 c4,.slice a5 n5 c5]:=by
 obtain ⟨vd,vs,vm,vx,rfl,h1,h2⟩:=h
 obtain ⟨ad,cd,rfl⟩:=h1.shape
 obtain ⟨a3,c3,rfl⟩:=h2.sums.shape
 obtain ⟨a4,c4,rfl⟩:=h2.mins.shape
 obtain ⟨a5,c5,rfl⟩:=h2.maxs.shape
 exact ⟨_,_,_,_,_,_,_,_,_,_,_,_,rfl⟩
end Go.Proofs.YtaddkkkchkdgkaaGreatDoor
