/- Joined. -/
import Derived.Test.YtjdccifdkjnknaaGreatDoorZC11
set_option maxRecDepth 100000
set_option maxHeartbeats 4000000
namespace Go.Proofs.Q9
open Go.RowKit Go.Sort Go.Shelf
variable {w w':World}
theorem cu2(b:Nat)(w:World)(h0:w.cell? ⟨b,0,none⟩=some (.pointer (some ⟨b,0,none⟩))) :
  Calls Tryz.prog 92 #[.pointer (some ⟨b,0,none⟩)] w fun e w'=>e = .returned (.tuple #[])/\w'=w:=by
 obtain⟨j,hj,_⟩:=jM.1 (show(Tryz.prog.info? 88).map (·.size)=some 2 by kernel_rfl);go_enter Tryz.func92,Tryz.ntmps92;go_wp2;rw[Lib.run_neq_ptr_same w _ Tryz.underlying85 hj];go_wp2;go_end0;exact⟨rfl,rfl⟩
theorem cf2(b:Nat)(w:World)(h0:w.cell? ⟨b,0,none⟩=some (.pointer none))(hsh:w.shape? b=some (88,2))(hfz:w.frozen? ⟨b,0,none⟩=false) :
  Calls Tryz.prog 92 #[.pointer (some ⟨b,0,none⟩)] w fun e w'=>e = .returned (.tuple #[])/\w'=w.setCell ⟨b,0,none⟩ (.pointer (some ⟨b,0,none⟩)):=by
 obtain⟨j,hj,Aa⟩:=jM.1 (show(Tryz.prog.info? 88).map (·.size)=some 2 by kernel_rfl);go_enter Tryz.func92,Tryz.ntmps92;go_wp2;rw[Lib.run_to_unsafe w ⟨b,0,none⟩ Tryz.underlying85 Tryz.underlying194 hj (by rw[Aa];decide) hsh (Nat.zero_lt_succ 1)];simp only[Result.andThen];rw[Oper.upon_value];go_wp2
 rw[run_callFunc_extern Tryz.func140 (by kernel_rfl) (by kernel_rfl) (by kernel_rfl) (e:=Extern.AbiNoEscape.same) (by kernel_rfl)];rw[Lib.run_noEscape];simp only[Result.andThen];rw[Oper.upon_value];go_wp2;rw[Lib.run_from_unsafe w ⟨b,0,none⟩ Tryz.underlying194 Tryz.underlying85 hj hsh (by kernel_rfl)];simp only[Result.andThen];rw[Oper.upon_value];go_wp2;go_end0;exact⟨rfl,rfl⟩
theorem ca12(B b:Nat)(bs:List Value)(w:World)(h:Lib.IsBuilder 88 5 B b bs w) :
  Calls Tryz.prog 92 #[.pointer (some ⟨b,0,none⟩)] w fun e w'=>e = .returned (.tuple #[])/\(Lib.BuilderAt 88 5 B b (.pointer (some ⟨b,0,none⟩)) bs w'/\Below B w w'):=by
 rcases h with h|h
 ·refine(cf2 b w h.cell0 h.shape h.frozen0).mono ?_;rintro e w' ⟨rfl,rfl⟩;exact⟨rfl,h.used _,(qJ B w).setCell (p:=⟨b,0,none⟩) h.1 _⟩
 ·refine(cu2 b w h.cell0).mono ?_;rintro e w' ⟨rfl,rfl⟩;exact⟨rfl,h,qJ B _⟩
theorem wSa(B b:Nat)(bs:List Value)(s:ByteArray)(w:World)(h:Lib.IsBuilder 88 5 B b bs w)(hlen:bs.length+s.size<=140737488355328)(hBw:B<=w.heap.size) :
  Calls Tryz.prog 41 #[.pointer (some ⟨b,0,none⟩),.string s] w fun e w'=>e = .returned (.tuple #[.int .i64 s.size,.nilIface])/\(Lib.BuilderAt 88 5 B b (.pointer (some ⟨b,0,none⟩)) (bs++Lib.strCells s) w'/\Below B w w'):=by
 obtain⟨i0,hi,Ai,Al,Ah⟩:=zF (P:=Tryz.prog) (e:=5) (z:=.int .u8 0) (size:=1) (bytes:=1) (by kernel_rfl);go_enter Tryz.func41,Tryz.ntmps41;go_wp2_with (go_at_call 92;refine(ca12 B b bs _ h).mono ?_);rintro e w1 ⟨rfl,h1,Ag⟩;obtain⟨hB,v,Ad,Ac,Aj⟩:=h1;have c0:w1.cell? ⟨b,0,none⟩=some (.pointer (some ⟨b,0,none⟩)):=by rw[jF Ad];rfl
 have c1:w1.cell? ⟨b,1,none⟩=some v:=by rw[jF Ad];rfl
 go_wp2_with (at_builtin;refine Lib.wpList_append_own_string _ rfl _ _ 86 9 rfl B 5 i0 Tryz.underlying86 Tryz.underlying9 hi Ai Al Ah _ _ _ rfl Ac s rfl ?c3 ?c4 ?c5 ?_)
 case c3=>unfold maxLen;omega
 case c4=>omega
 case c5=>have:=Ag.size;omega
 intro v' w2 Ab Aa _
 have Ak:b<w1.heap.size:=by
  rcases jb b w1.heap.size with h'|h'
  ·exact h'
  ·simp[Array.getElem?_eq_none h']at Ad
 have Ae:w2.heap[b]?=some (.cells #[.pointer (some ⟨b,0,none⟩),v] 88 (0,0)):=by rw[Aa.block b Ak (fun e=>Aj e.symm)];exact Ad
 have d0:w2.cell? ⟨b,0,none⟩=some (.pointer (some ⟨b,0,none⟩)):=by rw[jF Ae];rfl
 have d1:w2.cell? ⟨b,1,none⟩=some v:=by rw[jF Ae];rfl
 have f1:w2.frozen? ⟨b,1,none⟩=false:=qAc Ae 1
 obtain⟨ao,n',Af,rfl⟩:∃ao n' Af,v' = .slice ao n' Af:=by
  rcases Ab.2 with⟨hv,_⟩|⟨g,Af,Am,hv,_⟩
  ·exact⟨_,_,_,hv⟩
  ·exact⟨_,_,_,hv⟩
 go_wp2;go_ret2;refine⟨rfl,?_,?_⟩
 ·exact Lib.BuilderAt.put (T:=88) (e:=5) hB Ae (bs':=bs++Lib.strCells s) (by simpa[Lib.strCells_length]using Ab) (by decide)
 ·exact(Ag.grown Aa (by have:=Ag.size;omega) (fun k hk=>(Ac.lt k hk).1)).setCell (p:=⟨b,1,none⟩) hB _
def BRow(B b:Nat)(p:Value)(bs:List Value)(w:World):Prop:=∃v,w.heap[b]?=some (.cells #[p,v] 88 (0,0))/\w.ownsRow B 5 1 v bs.length bs/\v.ownBlock≠some b
structure Kept(B b:Nat)(w w':World):Prop where
 os:w'.os=w.os
 tape:w'.tape=w.tape
 output:w'.output=w.output
 size:w.heap.size<=w'.heap.size
 block:∀k,k<B->k≠b->w'.heap[k]?=w.heap[k]?
theorem Kept.refl(B b:Nat)(w:World):Kept B b w w:=⟨rfl,rfl,rfl,qC _,fun _ _ _=>rfl⟩
theorem Kept.trans{B b:Nat}{w w1 w2:World}(h:Kept B b w w1)(h':Kept B b w1 w2):Kept B b w w2:=⟨h'.os.trans h.os,h'.tape.trans h.tape,h'.output.trans h.output,qt h.size h'.size,fun k h1 h2=>(h'.block k h1 h2).trans (h.block k h1 h2)⟩
theorem Kept.setCell(B b:Nat)(w:World)(i:Nat)(v:Value):Kept B b w (w.setCell ⟨b,i,none⟩ v):=⟨rfl,rfl,rfl,by simp[World.setCell],fun k _ hk=>yE _ _ _ _ hk⟩
theorem Kept.below{B b:Nat}{w w':World}(h:Kept B b w w')(hb:b<B):Below b w w':=⟨h.os,h.tape,h.output,h.size,fun k hk=>h.block k (by omega) (by omega)⟩
theorem cr3(B b:Nat)(p:Value)(bs:List Value)(w:World)(hp:p = .pointer none∨p = .pointer (some ⟨b,0,none⟩))(h:BRow B b p bs w) :
  Calls Tryz.prog 92 #[.pointer (some ⟨b,0,none⟩)] w fun e w'=>e = .returned (.tuple #[])/\BRow B b (.pointer (some ⟨b,0,none⟩)) bs w'/\Kept B b w w':=by
 obtain⟨v,hb,Aa,Ab⟩:=h;have c0:w.cell? ⟨b,0,none⟩=some p:=by simp[World.cell?,hb]
 rcases hp with rfl|rfl
 ·have Ac:b<w.heap.size:=(qA.1 hb).1;refine(cf2 b w c0 (by simp[World.shape?,hb]) (by simp[World.frozen?,hb])).mono ?_;rintro e w' ⟨rfl,rfl⟩;refine⟨rfl,⟨v,?_,?_,Ab⟩,Kept.setCell _ _ _ _ _⟩
  ·simp[World.setCell,jl,hb]
  ·exact Aa.kept (row:=some b) ⟨rfl,rfl,rfl,by simp[World.setCell],fun k _ hk=>yE _ _ _ _ (fun e=>hk (by simp[e]))⟩ (Or.inr Ab)
 ·refine(cu2 b w c0).mono ?_;rintro e w' ⟨rfl,rfl⟩;exact⟨rfl,⟨v,hb,Aa,Ab⟩,Kept.refl _ _ _⟩
theorem wBr(B b:Nat)(p:Value)(bs:List Value)(c:Int)(w:World)(hp:p = .pointer none∨p = .pointer (some ⟨b,0,none⟩))(h:BRow B b p bs w)(hlen:bs.length+1<=140737488355328)(hBw:B<=w.heap.size)(hbB:b<B) :
  Calls Tryz.prog 142 #[.pointer (some ⟨b,0,none⟩),.int .u8 c] w fun e w'=>e = .returned .nilIface/\BRow B b (.pointer (some ⟨b,0,none⟩)) (bs++[.int .u8 c]) w'/\Kept B b w w':=by
 obtain⟨i0,hi,Ak,An,Ai⟩:=zF (P:=Tryz.prog) (e:=5) (z:=.int .u8 0) (size:=1) (bytes:=1) (by kernel_rfl);go_enter Tryz.func142,Tryz.ntmps142;go_wp2_with (go_at_call 92;refine(cr3 B b p bs _ hp h).mono ?_);rintro e w1 ⟨rfl,h1,Ah⟩;obtain⟨v,Af,Ae,Al⟩:=h1;have c0:w1.cell? ⟨b,0,none⟩=some (.pointer (some ⟨b,0,none⟩)):=by rw[jF Af];rfl
 have c1:w1.cell? ⟨b,1,none⟩=some v:=by rw[jF Af];rfl
 have Ao:=Hd Ah;have Aq:=Ah.size;clear Ah;go_wp2_with (at_builtin;refine qq _ rfl _ _ 86 rfl B 5 i0 (.int .u8 0) 1 1 Tryz.underlying86 hi Ak An Ai rfl (by decide) _ _ _ rfl (Ae.alloc _) ⟨w1.heap.size,0,none⟩ 1 1 [.int .u8 c] rfl rfl ?c1 ?c2 ?c3 ?c4 ?c5 ?_)
 case c1=>
  intro j u hj
  match j,hj with
  |0,hj=>simp at hj;subst hj;simp[Addr.add]
 case c2=>intro u hu;simp at hu;subst hu;rfl
 case c3=>unfold maxLen;omega
 case c4=>omega
 case c5=>simp;omega
 intro v' w2 Ab Aa _;have Am:b<w1.heap.size:=(qA.1 Af).1
 have Ag:w2.heap[b]?=some (.cells #[.pointer (some ⟨b,0,none⟩),v] 88 (0,0)):=by rw[Aa.block b (by simp;omega) (fun e=>Al e.symm),Lib.alloc_old w1 _ b Am];exact Af
 have d0:w2.cell? ⟨b,0,none⟩=some (.pointer (some ⟨b,0,none⟩)):=by rw[jF Ag];rfl
 have d1:w2.cell? ⟨b,1,none⟩=some v:=by rw[jF Ag];rfl
 have f1:w2.frozen? ⟨b,1,none⟩=false:=qAc Ag 1
 obtain⟨g,Ac,rfl⟩:∃g Ac,v' = .slice (some ⟨g,0,none⟩) (bs.length+1) Ac:=by
  rcases Ab.2 with⟨_,h0⟩|⟨g,Ac,Aj,hv,_⟩
  ·omega
  ·exact⟨g,Ac,hv⟩
 have HG:=Hd Aa;have HO:=Hd Ab;clear Aa Ab
 have Ad:g≠b:=by
  rcases HO.out.2 with⟨hv,_⟩|⟨g',Ap,Aj,hv,hg,_⟩
  ·cases hv
  ·cases hv;omega
 go_wp2;go_ret;refine⟨rfl,⟨.slice (some ⟨g,0,none⟩) (bs.length+1) Ac,?_,?_,?_⟩,?_⟩
 ·rw[show(w2.setCell ⟨b,1,none⟩ (.slice (some ⟨g,0,none⟩) (bs.length+1) Ac)).heap[b]?=some (.cells #[.pointer (some ⟨b,0,none⟩),.slice (some ⟨g,0,none⟩) (bs.length+1) Ac] 88 (0,0)) by simp[World.setCell,jl,Ag]]
 ·rw[qI];exact HO.out.kept (row:=some b) ⟨rfl,rfl,rfl,by simp[World.setCell],fun k _ hk=>yE _ _ _ _ (fun e=>hk (by simp[e]))⟩ (Or.inr (by simpa[Value.ownBlock]using Ad))
 ·simpa[Value.ownBlock]using Ad
 ·refine(Ao.out.trans ?_).trans (Kept.setCell _ _ _ _ _);refine⟨HG.out.os,HG.out.tape,HG.out.output,qt (by simp) HG.out.size,fun k hk hkb=>?_⟩;rw[HG.out.block k (by simp;omega) ?_]
  ·exact zu _ _ _ (by omega)
  ·intro e;have:=(Ae.lt k e.symm).1;omega
theorem sr2(B b:Nat)(p:Value)(l:List UInt8)(w:World)(h:BRow B b p (Lib.byteCells l) w)(h0:l≠[]) :
  Calls Tryz.prog 43 #[.pointer (some ⟨b,0,none⟩)] w fun e w'=>e = .returned (.string ⟨l.toArray⟩)/\Below B w w':=by
 obtain⟨v,Ae,Ac,Am⟩:=h;have Ah:l.length≠0:=by simpa using h0
 rw[yA]at Ac
 obtain⟨g,Aa,Ab,rfl,Ai,hg,An,Af,Ak,Ad⟩:∃g Aa Ab,v = .slice (some ⟨g,0,none⟩) l.length Aa/\B<=g/\w.heap[g]?=some (.cells Ab 5 (0,0))/\l.length<=Aa/\Aa<=maxLen/\Ab.size=Aa*1/\Ab.toList.take (l.length*1)=Lib.byteCells l:=by
  rcases Ac.2 with⟨_,hz⟩|⟨g,Aa,Ab,hv,r⟩
  ·exact absurd hz Ah
  ·exact⟨g,Aa,Ab,hv,r⟩
 have c1:w.drew.cell? ⟨b,1,none⟩=some (.slice (some ⟨g,0,none⟩) l.length Aa):=by have:w.drew.heap[b]?=some (.cells #[p,.slice (some ⟨g,0,none⟩) l.length Aa] 88 (0,0)):=Ae;rw[jF this];rfl
 have Al:(Builtin.unsafeSliceData_ #[86] 138 #[.slice (some ⟨g,0,none⟩) l.length Aa]).run Tryz.prog w.drew = .ok (.pointer (some ⟨g,0,none⟩)) w.drew:=
  Lib.run_unsafeSliceData_row _ _ _ _ _ _ (by omega)
 have Aj:(Builtin.unsafeString_ #[138,3] 9 #[.pointer (some ⟨g,0,none⟩),.int .i64 l.length]).run Tryz.prog w.drew = .ok (.string ⟨l.toArray⟩) (w.drew.freeze ⟨g,0,none⟩ l.length):=by refine Lib.run_unsafeString_row w.drew 138 3 9 5 Tryz.underlying138 (by kernel_rfl) g Ab.size (by have Ag:w.drew.heap[g]?=some (.cells Ab 5 (0,0)):=hg;simp[World.shape?,Ag]) l h0 (by omega) (by unfold maxLen at Af;omega) ?_;intro j x hx;have:=Ac.cells (g:=g) rfl j (.int .u8 x.toNat) (by simp[Lib.byteCells,hx]);exact this
 go_enter Tryz.func43,Tryz.ntmps43;go_wp2;go_region
 all_goals(go_wp2;go_ret;exact⟨rfl,Lib.below_freeze (Below.drew (qJ B w)) (p:=⟨g,0,none⟩) Ai _⟩)
end Go.Proofs.Q9
namespace Go.Rf
open Go Go.RowKit
variable {P:Program} {n:Nat}
theorem wIl{F:Fence}{c:Code}{Q:Exit->Act->World->Prop}{a:Act}{w:World}(h:c.wpIn F n P (Exit.then (fun a w=>c.wpIn F n P (Exit.then (fun _ _=>False) Q) a w) Q) a w):(Code.loop c).wpIn F n P Q a w:=by
 intro b k cs Ab hb hr;obtain⟨e,a₁,w₁,hq,Aa⟩:=h b (.inLoop c::k) cs Ab hb hr;have h0:(lone (b.atR a (.code (.loop c)::k)) cs w).fenced P F:=xw hb hr rfl;cases e with
 |normal=>
   obtain⟨e₂,a₂,w₂,hq₂,harr₂⟩:=(show c.wpIn F n P (Exit.then (fun _ _=>False) Q) a₁ w₁ from hq) b (.inLoop c::k) cs Ab hb hr;cases e₂ with
   |normal=>exact hq₂.elim
   |exit id=>exact⟨_,a₂,w₂,hq₂,.of_steps (qAh (.head h0 qAd Aa) (.one (xw hb hr rfl) stepR_inLoop)) (.pass (x:=.inLoop c) rfl (fun _ _=>.inl (by simp)) harr₂)⟩
   |goto l=>exact⟨_,a₂,w₂,hq₂,.of_steps (qAh (.head h0 qAd Aa) (.one (xw hb hr rfl) stepR_inLoop)) (.pass (x:=.inLoop c) rfl (fun _ _=>.inl (by simp)) harr₂)⟩
   |ret=>exact⟨_,a₂,w₂,hq₂,.of_steps (qAh (.head h0 qAd Aa) (.one (xw hb hr rfl) stepR_inLoop)) (.pass (x:=.inLoop c) rfl (fun _ _=>.inl (by simp)) harr₂)⟩
   |panic ch=>exact⟨_,a₂,w₂,hq₂,.of_steps (qAh (.head h0 qAd Aa) (.one (xw hb hr rfl) stepR_inLoop)) (.pass (x:=.inLoop c) rfl (fun _ _=>.inl (by simp)) harr₂)⟩
   |outgrown=>exact⟨_,a₂,w₂,hq₂,.of_steps (qAh (.head h0 qAd Aa) (.one (xw hb hr rfl) stepR_inLoop)) (.pass (x:=.inLoop c) rfl (fun _ _=>.inl (by simp)) harr₂)⟩
 |exit id=>exact⟨_,a₁,w₁,hq,.of_steps (.one h0 qAd) (.pass (x:=.inLoop c) rfl (fun _ _=>.inl (by simp)) Aa)⟩
 |goto l=>exact⟨_,a₁,w₁,hq,.of_steps (.one h0 qAd) (.pass (x:=.inLoop c) rfl (fun _ _=>.inl (by simp)) Aa)⟩
 |ret=>exact⟨_,a₁,w₁,hq,.of_steps (.one h0 qAd) (.pass (x:=.inLoop c) rfl (fun _ _=>.inl (by simp)) Aa)⟩
 |panic ch=>exact⟨_,a₁,w₁,hq,.of_steps (.one h0 qAd) (.pass (x:=.inLoop c) rfl (fun _ _=>.inl (by simp)) Aa)⟩
 |outgrown=>exact⟨_,a₁,w₁,hq,.of_steps (.one h0 qAd) (.pass (x:=.inLoop c) rfl (fun _ _=>.inl (by simp)) Aa)⟩
end Go.Rf
namespace Tess
def putL(n:Nat):List UInt8:=if n<128 then[UInt8.ofNat n]else UInt8.ofNat (128+n%128)::putL (n/128)
termination_by n
decreasing_by omega
theorem pLl2(n:Nat)(h:n<128):putL n=[UInt8.ofNat n]:=by rw[putL,qR h]
theorem pLg(n:Nat)(h:¬n<128):putL n=UInt8.ofNat (128+n%128)::putL (n/128):=by rw[putL,qH h]
theorem pLl3(n:Nat)(k:Nat)(h:n<128^(k+1)):(putL n).length<=k+1:=by
 induction k generalizing n with
 |zero=>rw[pLl2 n (by simpa using h)];simp
 |succ k ih=>
   by_cases h1:n<128
   ·rw[pLl2 n h1];simp
   ·rw[pLg n h1,qU];have:=ih (n/128) (by rw[yN]at h;omega);omega
def putW(n:Nat):ByteArray:=⟨(putL n).toArray⟩
end Tess
namespace Go.Proofs.Q9
open Go.RowKit Go.Sort Go.Shelf
attribute [local go_sem] jK
theorem ba3(n:Int)(w:World) :
  Calls Tryz.prog 141 #[.int .u64 n] w fun e w'=>e = .returned (.func (.func 186) #[] #[.pointer (some ⟨w.heap.size,0,none⟩)])/\w.alloc (.cells #[.int .u64 n] 92)=w':=by
 go_enter Tryz.func141,Tryz.ntmps141;go_wp2;go_ret;exact⟨rfl,rfl⟩
structure Pp(w:World)(rec:Loop)(p:Value)(bs:List UInt8)(m:Nat)(W:World):Prop where
 hp:p = .pointer none∨p = .pointer (some ⟨w.heap.size,0,none⟩)
 kb:BRow (w.heap.size+4) w.heap.size p (Lib.byteCells bs) W
 kn:W.heap[w.heap.size+1]?=some (.cells #[.int .u64 m] 92 (0,0))
 kD:W.heap[w.heap.size+2]?=some (.deferred (some []))
 kL:W.heap[w.heap.size+3]?=some (.loop rec)
 size:w.heap.size+4<=W.heap.size
 below:Below w.heap.size w W
def mea(k:Nat)(w:World):Nat:=((w.cell? ⟨k,0,none⟩).map fun v=>(intOf v).toNat).getD 0
theorem ma3{k m:Nat}{w:World}{t:TypeId}(h:w.heap[k]?=some (.cells #[.int .u64 m] t (0,0))):mea k w=m:=by unfold mea;rw[(dco h).1];simp[intOf]
theorem ob6(m:Nat):bits .or .u8 ((m:Int)%256) 128=((128+m%128:Nat):Int):=by
 have Aa:∀r:Fin 256,bits .or .u8 ((r.val:Nat):Int) 128=((128+r.val%128:Nat):Int):=by decide +kernel
 have:=Aa ⟨m%256,yX _ (by omega)⟩;rw[show(128+m%128:Nat)=128+(m%256)%128 by omega,<-this];rfl
section
variable {w W W':World} {rec rec':Loop} {p:Value} {bs:List UInt8} {m:Nat}
theorem Pp.but(h:Pp w rec p bs m W)(hs:Rf.SB (w.heap.size+2+1) W W')(hl:W'.heap[w.heap.size+2+1]?=some (.loop rec')):Pp w rec' p bs m W':=by refine⟨h.hp,?_,(hs.block _ (by omega)).trans h.kn,(hs.block _ (by omega)).trans h.kD,hl,by rw[hs.size];exact h.size,h.below.trans (hs.below (by omega))⟩;obtain⟨v,h1,h2,h3⟩:=h.kb;exact⟨v,(hs.block _ (by omega)).trans h1,hs.owns h2 h.kL rfl,h3⟩
theorem Pp.wrote{c:UInt8}(h:Pp w rec p bs m W)(hb:BRow (w.heap.size+4) w.heap.size (.pointer (some ⟨w.heap.size,0,none⟩)) (Lib.byteCells bs++[.int .u8 c.toNat]) W')(hk:Kept (w.heap.size+4) w.heap.size W W'):Pp w rec (.pointer (some ⟨w.heap.size,0,none⟩)) (bs++[c]) m W':=
 ⟨.inr rfl,by simpa[Lib.byteCells]using hb,(hk.block _ (by omega) (by omega)).trans h.kn,(hk.block _ (by omega) (by omega)).trans h.kD,(hk.block _ (by omega) (by omega)).trans h.kL,qt h.size hk.size,h.below.trans (hk.below (by omega))⟩
theorem Pp.setn(h:Pp w rec p bs m W)(m':Nat):Pp w rec p bs m' (W.setCell ⟨w.heap.size+1,0,none⟩ (.int .u64 m')):=by
 refine⟨h.hp,?_,dhs _ h.kn,(dhn (by omega)).trans h.kD,(dhn (by omega)).trans h.kL,by simpa[World.setCell]using h.size,h.below.setCell (by show _<=w.heap.size+1;omega) _⟩;obtain⟨v,h1,h2,h3⟩:=h.kb;refine⟨v,(dhn (by omega)).trans h1,?_,h3⟩;refine h2.kept (row:=some (w.heap.size+1)) ⟨rfl,rfl,rfl,by simp[World.setCell],fun k _ hk=>yE _ _ _ _ (fun e=>hk (by simp[e]))⟩ (Or.inr ?_);intro e
 have:=(h2.lt _ e).1;omega
end
theorem po2(g n:Nat)(w:World)(hc:w.cell? ⟨g,0,none⟩=some (.int .u64 n))(hn:n<18446744073709551616) :
  Calls Tryz.prog 93 #[.slice (some ⟨g,0,none⟩) 1 1] w fun e w'=>e = .returned (.string (Tess.putW n))/\Below w.heap.size w w':=by
 have hg:=qK _ _ hc;have A4:=Tess.pLl3 n 9 (by omega);refine(qZ (n:=5)).1 ?_;refine jL Tryz.func93 rfl trivial ?_ rfl;simp only[Tryz.ntmps93,qu,qU,zE,Nat.reduceAdd,Nat.reduceSub,qv,qw,zO,zC,qr,qk];gi_wp2;refine Rf.wIl ?_;gi_wp2_with (refine⟨trivial,?_⟩;gi_at_call 141;refine(qZ.2 (ba3 _ _)).mono ?_;rintro e w' ⟨rfl,rfl⟩)
 obtain⟨w0,Af⟩:=XQ (((w.alloc (.cells #[.pointer none,.slice none 0 0] 88)).alloc (.cells #[.int .u64 n] 92)))
 have hA:w0.heap.size=w.heap.size+2:=by rw[<-Af];simp
 have Ax:Below w.heap.size w w0:=by rw[<-Af];exact((qJ _ _).alloc (qC _) _).alloc (by simp) _
 have A2:w0.heap[w.heap.size]?=some (.cells #[.pointer none,.slice none 0 0] 88 (0,0)):=by rw[<-Af];exact(zu _ _ _ (by simp)).trans (zS w _)
 have Aw:w0.heap[w.heap.size+1]?=some (.cells #[.int .u64 n] 92 (0,0)):=by rw[<-Af];have:=zS (w.alloc (.cells #[.pointer none,.slice none 0 0] 88)) (.cells #[.int .u64 n] 92);rwa [yH]at this
 rw[Af];clear Af;refine Rf.rw3 (gf:=186) (lb:=#[.pointer (some ⟨w.heap.size+1,0,none⟩)]) rfl (yd Tryz.func186 (by kernel_rfl) rfl) ?_;intro fn W2 hL hD Ag Ba;rw[hA]at hL hD Ba Ag⊢;obtain⟨Aa,Ae,hL⟩:∃Aa:Loop,Aa=_/\W2.heap[w.heap.size+2+1]?=some (.loop Aa):=⟨_,rfl,hL⟩
 have Am:=Hd Ae;have Az:Aa.state = .ready/\Aa.params.size=1/\Aa.pending=none:=by rw[Ae];exact⟨rfl,rfl,rfl⟩
 clear Ae;obtain⟨Az,Ay,Bc⟩:=Az;have hI:Pp w Aa (.pointer none) [] n W2:=⟨.inl rfl,⟨_,(Ag.block _ (by omega)).trans A2,qg _ _ _ _,by simp[Value.ownBlock]⟩,(Ag.block _ (by omega)).trans Aw,hD,hL,by omega,Ax.trans (Ag.mono (by omega))⟩
 clear Ax Ag A2 Aw hD hL;refine yg Tryz.func186 rfl trivial ?_ rfl;simp only[Tryz.ntmps186,qu,qU,zE,Nat.reduceAdd,Nat.reduceSub,qv,qw,zO,zC,qr,qk];gi_wp2;gi_loopw [3] (fun _ wr=>∃(m:Nat) (p:Value) (bs:List UInt8),bs++Tess.putL m=Tess.putL n/\m<18446744073709551616/\bs.length<=10/\Pp w Aa p bs m wr) (fun _ wr=>mea (w.heap.size+1) wr)
 case atStart=>exact⟨n,_,[],rfl,hn,by simp,hI⟩
 case round=>
  obtain⟨m,p,bs,A3,hm,Bd,hS⟩:=hrel;have Aq:=Hd A3;have HS:=Hd hS;have A8:=ma3 hS.kn;obtain⟨c1,z1⟩:=dco hS.kn;clear A3 hS;by_cases h128:128<=m
  ·have Ap:(128:Int)<=(m:Int):=by omega
   have Ah:=ob6 m;obtain⟨c,Ar⟩:=Xq (128+m%128)
   rw[<-Ar]at Ah;have A7:=Hd Ar;have An:c<256:=by omega
   clear Ar;have At:=xJ (P:=Tryz.prog) (w:=wr) (l:=w.heap.size+2+1) (r:=Aa) (args:=#[.int .u8 (c:Int)]) HS.out.kL (by rw[Ay];rfl);gi_wp2;refine Rf.rw2 (r:=Aa) ?_;have Au:=Am.out;subst Au;dsimp only;gi_wp2_with (rw[zK _ _ _ (fun c h=>by cases h)];go_simp;try go_bits);refine⟨HS.out.kL,fun W4 hs4 hl4=>?_⟩;have Ac:=Hd (HS.out.but hs4 hl4);clear hs4 hl4 At hL
   gi_wp2_with (rw[zK _ _ _ (fun c h=>by cases h)];go_simp;try go_bits);refine⟨trivial,?_⟩;refine xD (yu _ (qZ.2 (wBr (w.heap.size+4) w.heap.size p (Lib.byteCells bs) c W4 Ac.out.hp Ac.out.kb (by rw[yA];omega) Ac.out.size (by omega)))) ?_;rintro e w5 ⟨rfl,Ad,Al⟩;rw[show(c:Int)=((UInt8.ofNat c).toNat:Int) by rw[zP];omega]at Ad;have Ak:=Hd (Ac.out.wrote Ad Al);clear Ad Al;gi_wp2
   refine⟨Ak.out.kL,fun W6 hs6 hl6=>?_⟩;have Ab:=Hd (Ak.out.but hs6 hl6);clear hs6 hl6;dsimp only;obtain⟨c6,z6⟩:=dco Ab.out.kn;gi_wp2;have Aj:(m:Int)/128=((m/128:Nat):Int):=by omega
   have As:=zM List.length Aq.out;rw[Tess.pLg m (by omega),qI,qU]at As;refine⟨⟨m/128,.pointer (some ⟨w.heap.size,0,none⟩),bs++[UInt8.ofNat c],?_,by omega,by rw[qI,zX];omega,?_⟩,?_⟩
   ·rw[<-Aq.out,Tess.pLg m (by omega),A7.out];simp
   ·rw[Aj];exact Ab.out.setn (m/128)
   ·rw[Aj,ma3 (Ab.out.setn (m/128)).kn];omega
  ·have Ap:¬(128:Int)<=(m:Int):=by omega
   obtain⟨c,Ar⟩:=Xq m
   have An:c<256:=by omega
   have At:=xJ (P:=Tryz.prog) (w:=wr) (l:=w.heap.size+2+1) (r:=Aa) (args:=#[.int .u8 (m:Int)]) HS.out.kL (by rw[Ay];rfl);gi_wp2;refine Rf.rw2 (r:=Aa) ?_;have Au:=Am.out;subst Au;dsimp only;gi_wp2_with (rw[zK _ _ _ (fun c h=>by cases h)];go_simp;try go_bits);refine⟨HS.out.kL,fun W4 hs4 hl4=>?_⟩;have Ac:=Hd (HS.out.but hs4 hl4);clear hs4 hl4 At hL
   gi_wp2_with (rw[zK _ _ _ (fun c h=>by cases h)];go_simp;try go_bits);refine⟨trivial,?_⟩;refine xD (yu _ (qZ.2 (wBr (w.heap.size+4) w.heap.size p (Lib.byteCells bs) m W4 Ac.out.hp Ac.out.kb (by rw[yA];omega) Ac.out.size (by omega)))) ?_;rintro e w5 ⟨rfl,Ad,Al⟩;rw[show(m:Int)=((UInt8.ofNat m).toNat:Int) by rw[zP];omega]at Ad;have Ak:=Hd (Ac.out.wrote Ad Al);clear Ad Al;gi_wp2
   refine⟨Ak.out.kL,fun W6 hs6 hl6=>?_⟩;have Ab:=Hd (Ak.out.but hs6 hl6);clear hs6 hl6;dsimp only;obtain⟨c6,z6⟩:=dco Ab.out.kn;gi_wp2;go_end0;refine⟨⟨_,rfl⟩,_,Ab.out.kL,by simp,?_⟩;intro W7 Ai;dsimp only
   have A0:BRow (w.heap.size+4) w.heap.size (.pointer (some ⟨w.heap.size,0,none⟩)) (Lib.byteCells (Tess.putL n)) W7:=by obtain⟨v,h1,h2,h3⟩:=Ab.out.kb;rw[<-Aq.out,Tess.pLl2 m (by omega)];exact⟨v,(Ai.block _ (by omega)).trans h1,Ai.owns h2 Ab.out.kL rfl,h3⟩
   have Ao:=sr2 (w.heap.size+4) w.heap.size _ _ W7 A0 (by rw[<-Aq.out,Tess.pLl2 m (by omega)];simp);have A5:=(Ai.block (w.heap.size+2) (by omega)).trans Ab.out.kD;have A6:=Hd (Ab.out.below.trans (Ai.below (by omega)));have Bb:w.heap.size+4<=W7.heap.size:=by rw[Ai.size];exact Ab.out.size
   have A9:=Hd Ao;clear Ao A0;gi_wp2_with (refine⟨trivial,?_⟩;gi_at_call 43;refine(qZ.2 A9.out).mono ?_;rintro e w8 ⟨rfl,A1⟩;have Av:=Hd A1;clear A1);refine⟨by simp,.inl ⟨_,_,rfl,jD ((Av.out.block _ (by omega)).trans A5),?_⟩⟩;refine⟨_,qAn rfl _ _ _,rfl,?_⟩
   exact(A6.out.trans (Av.out.mono (by omega))).grown (dgB _ (w.heap.size+2) (.deferred none)) (by have:=Av.out.size;omega) (fun k e=>by cases e;omega)
end Go.Proofs.Q9
namespace Tess
theorem pWs(n:Nat)(h:n<18446744073709551616):(putW n).size<=10:=pLl3 n 9 (by omega)
end Tess
namespace Go.Proofs.Q9
open Go.RowKit Go.Sort Go.Shelf
theorem dpa(n:Nat)(w:World)(hn:n<18446744073709551616):Calls Tryz.prog 42 #[.int .u64 n] w fun e w'=>e = .returned (.string (Tess.putW n))/\Below w.heap.size w w':=by
 obtain⟨w0,Aa⟩:=Xq (w.alloc (.cells #[.int .u64 n] 92))
 have hp:=po2 w.heap.size n w0 (by rw[Aa];exact qBe w _ _) hn;have Ac:Below w.heap.size w w0:=by rw[Aa];exact(qJ _ _).alloc (qC _) _
 have HW:=Hd Aa;have HP:=Hd hp;clear Aa hp;go_enter Tryz.func42,Tryz.ntmps42;go_wp2_with (go_at_call 93;rw[<-HW.out];refine HP.out.mono ?_;rintro e w1 ⟨rfl,Ab⟩;have HB:=Hd Ab;clear Ab);go_ret;exact⟨rfl,Bt Ac HB.out⟩
theorem oc3(c g:Nat)(w:World)(hc:w.cell? ⟨g,0,none⟩=some (.int .u8 c))(h:c<256):(convert 86 9 (.slice (some ⟨g,0,none⟩) 1 1)).run Tryz.prog w = .ok (.string ⟨#[UInt8.ofNat c]⟩) w:=by
 rw[run_convert_bytes_arg w 86 5 Tryz.underlying86 Tryz.underlying5 g 0 1 1 (((⟨#[UInt8.ofNat c]⟩:ByteArray).data.toList).map fun b=>(b.toNat:Int)) rfl ?_ 9 Tryz.underlying9,sON];intro i hi;obtain rfl:i=0:=by omega
 rw[qj,hc];simp;omega
theorem rs4(n:Nat)(w:World)(h:n<128):Calls Tryz.prog 52 #[.int .u64 n] w fun e w'=>e = .returned (.string (Tess.putW n))/\Below w.heap.size w w':=by
 have Aa:(n:Int)<128:=by omega
 go_enter Tryz.func52,Tryz.ntmps52;go_wp2;rw[oc3 n w.heap.size (w.alloc (.cells #[.int .u8 n] 5)) (qBe w _ _) (by omega)];simp only[Result.andThen];rw[Oper.upon_value];go_wp2;go_ret;exact⟨by unfold Tess.putW;rw[Tess.pLl2 n h];rfl,(qJ _ _).alloc (qC _) _⟩
theorem ra6(k:Nat):∀(n:Nat) (w:World),n<128^(k+1)->n<18446744073709551616->Calls Tryz.prog 52 #[.int .u64 n] w fun e w'=>e = .returned (.string (Tess.putW n))/\Below w.heap.size w w':=by
 induction k with
 |zero=>intro n w h hn;exact rs4 n w (by simpa using h)
 |succ k ih=>
   intro n w h hn;by_cases h128:n<128
   ·exact rs4 n w h128
   ·have HI:=Hd (fun W=>ih (n/128) W (by rw[yN]at h;omega) (by omega));clear ih;have Ad:¬(n:Int)<128:=by omega
    have Ac:Tess.putW n=⟨#[UInt8.ofNat (128+n%128)]⟩++Tess.putW (n/128):=by unfold Tess.putW;rw[Tess.pLg n h128];apply yF;simp
    have Ab:=Hd Ac;clear Ac;obtain⟨q,hq⟩:=Xq (n/128)
    obtain⟨c,hc⟩:=Xq (128+n%128)
    rw[<-hq]at HI Ab;rw[<-hc]at Ab;have Ag:q<18446744073709551616:=by omega
    obtain⟨r,hr⟩:=Xq (n%128)
    have Aj:(128:Int)+(r:Int)=(c:Int):=by omega
    have Ak:(n:Int).tmod 128=(r:Int):=by rw[Int.tmod_eq_emod_of_nonneg (by omega)];omega
    have Ai:(n:Int).tdiv 128=(q:Int):=by rw[qAo (by omega)];omega
    have Aa:c<256:=by omega
    have Ae:r<128:=by omega
    have Af:IntKind.u64.wrap (c:Int)=(c:Int):=by go_bits;first|trivial|omega
    have Am:IntKind.u64.wrap (q:Int)=(q:Int):=by go_bits;first|trivial|omega
    have Ah:¬9223372036854775807<1+(Tess.putW q).size:=by have:=Tess.pWs q Ag;omega
    have An:IntKind.u8.wrap (c:Int)=(c:Int):=by go_bits;first|trivial|omega
    clear hc hq hr;go_enter Tryz.func52,Tryz.ntmps52;go_wp2
    refine Flow.wrf2 (Flow.sp3 [.inl (.int .u64 n),.inl (.int .u64 r),.inl (.int .u64 c),.inl (.int .u8 c),.inr (nO2 (.int .u8 c)),.inl (.string ⟨#[UInt8.ofNat c]⟩),.inl (.int .u64 n),.inl (.int .u64 q),.inl (.string (Tess.putW q)),.inl (.string (⟨#[UInt8.ofNat c]⟩++Tess.putW q)),.inl (.string (⟨#[UInt8.ofNat c]⟩++Tess.putW q))]) (by kernel_rfl) (by kernel_rfl) ?_ ?_
    ·apply Flow.sm2;intro s hs;simp only[qm,zG,jr]at hs;rcases hs with rfl|rfl|rfl|rfl|rfl|rfl|rfl|rfl|rfl|rfl|rfl
     all_goals first|exact Flow.mi _|exact nOm _
    iterate 4 (refine Flow.tvK rfl (fun K hK=>⟨fun w hw hG=>?_,?_⟩);(clear hG hw;unfold Flow.Runs Flow.yields;go_simp);go_simp;refine hK _ ?_;clear hK K)
    (refine Flow.tvK2 rfl (fun K hK=>⟨fun w hw hG=>?_,?_⟩);(clear hG hw;unfold Flow.Runs Flow.yields;go_simp;exact⟨(qJ _ _).alloc (qC _) _,nOm2 _ _ _⟩);intro vz;go_simp;refine hK _ _ ?_;clear hK K)
    (refine Flow.tvK rfl (fun K hK=>⟨fun w hw hG=>?_,?_⟩);(obtain⟨gz,h1,h2,h3⟩:=(show nO2 (.int .u8 c) vz w by simpa[Flow.upd]using hG 4 (by simp[Flow.dep,Region.binds]));have Al:=oc3 c gz w h3 Aa;subst h1;clear hG hw h2 h3;unfold Flow.Runs Flow.yields;go_simp);go_simp;refine hK _ ?_;clear hK K)
    iterate 1 (refine Flow.tvK rfl (fun K hK=>⟨fun w hw hG=>?_,?_⟩);(clear hG hw;unfold Flow.Runs Flow.yields;go_simp);go_simp;refine hK _ ?_;clear hK K)
    (refine Flow.tvK rfl (fun K hK=>⟨fun w hw hG=>?_,?_⟩);(clear hG hw;unfold Flow.Runs Flow.yields;go_simp);go_simp;refine hK _ ?_;clear hK K)
    (refine Flow.tvK rfl (fun K hK=>⟨fun w hw hG=>?_,?_⟩);(clear hG hw;unfold Flow.Runs Flow.yields;go_simp;exact xL (HI.out _) (fun e w' ⟨he,hb⟩=>⟨he,hb⟩));go_simp;refine hK _ ?_;clear hK K)
    iterate 2 (refine Flow.tvK rfl (fun K hK=>⟨fun w hw hG=>?_,?_⟩);(clear hG hw;unfold Flow.Runs Flow.yields;go_simp);go_simp;refine hK _ ?_;clear hK K)
    refine Flow.tn2 fun w' hw hG=>?_;clear hG;go_wp2;go_ret;exact⟨by rw[Ab.out];rfl,hw⟩
end Go.Proofs.Q9
namespace Tess
def shr:List UInt8->List UInt8->Nat
 |x::xs,y::ys=>if x=y then shr xs ys+1 else 0
 |_,_=>0
def shared(a b:ByteArray):Nat:=shr a.data.toList b.data.toList
theorem sa19:∀(k:Nat) (x y:List UInt8),k<=x.length->k<=y.length->x.take k=y.take k->(k=x.length∨k=y.length∨∃(h1:k<x.length) (h2:k<y.length),x[k]≠y[k])->shr x y=k:=by
 intro k
 induction k with
 |zero=>
   intro x y _ _ _ h;cases x with
   |nil=>rfl
   |cons a x=>
     cases y with
     |nil=>rfl
     |cons b y=>
       rcases h with h|h|⟨h1,h2,h⟩
       ·simp at h
       ·simp at h
       ·simp only[zo]at h;simp[shr,h]
 |succ k ih=>
   intro x y h1 h2 ht h;cases x with
   |nil=>simp at h1
   |cons a x=>
     cases y with
     |nil=>simp at h2
     |cons b y=>
       rw[qL,qL]at ht;obtain⟨rfl,Aa⟩:=List.cons.inj ht
       have:=ih x y (by simpa using h1) (by simpa using h2) Aa (by
        rcases h with h|h|⟨g1,g2,h⟩
        ·left;simpa using h
        ·right;left;simpa using h
        ·right;right;exact⟨by simpa using g1,by simpa using g2,by simpa using h⟩)
       simp[shr,this]
theorem sa2(a b:ByteArray)(k:Nat)(h1:k<=a.size)(h2:k<=b.size)(ht:a.data.toList.take k=b.data.toList.take k)(h:k=a.size∨k=b.size∨∃(h1:k<a.size) (h2:k<b.size),a[k]≠b[k]):shared a b=k:=by
 refine sa19 k _ _ (by simpa using h1) (by simpa using h2) ht ?_;rcases h with h|h|⟨g1,g2,h⟩
 ·left;simpa using h
 ·right;left;simpa using h
 ·right;right;exact⟨by simpa using g1,by simpa using g2,fun e=>h (show a.data[k]=b.data[k] by simpa using e)⟩
theorem sl7:∀(x y:List UInt8),shr x y<=x.length/\shr x y<=y.length
 |[],_=>⟨qN _,qN _⟩
 |_::_,[]=>⟨qN _,qN _⟩
 |a::x,b::y=>by unfold shr;have:=sl7 x y;split<;>simp only[qU]<;>omega
theorem sl4(a b:ByteArray):shared a b<=a.size/\shared a b<=b.size:=by have:=sl7 a.data.toList b.data.toList;simpa[shared]using this
end Tess
namespace Go.Proofs.Q9
open Go.RowKit Go.Sort Go.Shelf
theorem sa12(a b:ByteArray)(w:World)(ha:a.size<=maxLen) :
  Calls Tryz.prog 121 #[.string a,.string b] w fun e w'=>e = .returned (.int .i64 (Tess.shared a b:Nat))/\Below w.heap.size w w':=by
 unfold maxLen at ha;go_enter Tryz.func121,Tryz.ntmps121;go_wp2;go_loopw [5] (fun i wr=>∃k:Nat,k<=a.size/\k<=b.size/\i = .int .i64 k/\a.data.toList.take k=b.data.toList.take k/\Below w.heap.size w wr) (fun i _=>a.size-(intOf i).toNat)
 case atStart=>exact⟨0,qN _,qN _,rfl,rfl,qJ _ _⟩
 case round=>
  obtain⟨k,Ab,Ad,rfl,Af,hB⟩:=hrel;have HB:=Hd hB;clear hB;have HE:=Hd Af;clear Af;by_cases h1:k<a.size
  ·have Ae:(k:Int)<(a.size:Int):=by omega
   have Ai:decide ((k:Int)<(a.size:Int))=true:=decide_eq_true Ae;by_cases h2:k<b.size
   ·have Ac:(k:Int)<(b.size:Int):=by omega
    have Ah:decide ((k:Int)<(b.size:Int))=true:=decide_eq_true Ac;have Aa:(k:Int)<min (a.size:Int) (b.size:Int):=by omega
    have Ag:decide ((k:Int)<min (a.size:Int) (b.size:Int))=true:=decide_eq_true Aa;by_cases he:a[k]=b[k]
    ·have Aj:((a[k].toNat:Int)==(b[k].toNat:Int))=true:=by rw[he];simp
     have HX:=Hd he;clear he;go_wp2;go_quiet (fail);go_wp2;go_roundw
     case rel=>exact⟨k+1,by omega,by omega,by go_num,Tess.tm2 a b k h1 h2 HE.out HX.out,zi HB.out _⟩
     case measure=>simp[intOf];omega
    ·have Ak:a[k].toNat≠b[k].toNat:=fun e=>he (xW.1 e);have Aj:((a[k].toNat:Int)==(b[k].toNat:Int))=false:=by rw[qi];omega
     have HX:=Hd (Tess.sa2 a b k Ab Ad HE.out (.inr (.inr ⟨h1,h2,he⟩)));clear he;go_wp2;go_quiet (fail);go_wp2;go_ret;exact⟨by rw[HX.out];rfl,zi HB.out _⟩
   ·have Ac:¬(k:Int)<(b.size:Int):=by omega
    have Ah:decide ((k:Int)<(b.size:Int))=false:=qG Ac;have Aa:¬(k:Int)<min (a.size:Int) (b.size:Int):=by omega
    have Ag:decide ((k:Int)<min (a.size:Int) (b.size:Int))=false:=qG Aa;have HX:=Hd (Tess.sa2 a b k Ab Ad HE.out (.inr (.inl (by omega))));go_wp2;go_quiet (fail);go_wp2;go_ret;exact⟨by rw[HX.out];rfl,zi HB.out _⟩
  ·have Ae:¬(k:Int)<(a.size:Int):=by omega
   have Ai:decide ((k:Int)<(a.size:Int))=false:=qG Ae;have Aa:¬(k:Int)<min (a.size:Int) (b.size:Int):=by omega
   have Ag:decide ((k:Int)<min (a.size:Int) (b.size:Int))=false:=qG Aa;have HX:=Hd (Tess.sa2 a b k Ab Ad HE.out (.inl (by omega)));go_wp2;go_quiet (fail);go_wp2;go_ret;exact⟨by rw[HX.out];rfl,zi HB.out _⟩
theorem ra22(a b:ByteArray)(w:World)(ha:a.size<=maxLen) :
  Calls Tryz.prog 100 #[.string a,.string b] w fun e w'=>e = .returned (.int .i64 (Tess.shared a b:Nat))/\Below w.heap.size w w':=by
 unfold maxLen at ha;go_enter Tryz.func100,Tryz.ntmps100;go_wp2;go_loopw [5] (fun i wr=>∃k:Nat,k<=a.size/\k<=b.size/\i = .int .i64 k/\a.data.toList.take k=b.data.toList.take k/\Below w.heap.size w wr) (fun i _=>a.size-(intOf i).toNat)
 case atStart=>exact⟨0,qN _,qN _,rfl,rfl,qJ _ _⟩
 case round=>
  obtain⟨k,Ab,Ad,rfl,Af,hB⟩:=hrel;have HB:=Hd hB;clear hB;have HE:=Hd Af;clear Af;by_cases h1:k<a.size
  ·have Ae:(k:Int)<(a.size:Int):=by omega
   have Ai:decide ((k:Int)<(a.size:Int))=true:=decide_eq_true Ae;by_cases h2:k<b.size
   ·have Ac:(k:Int)<(b.size:Int):=by omega
    have Ah:decide ((k:Int)<(b.size:Int))=true:=decide_eq_true Ac;have Aa:(k:Int)<min (a.size:Int) (b.size:Int):=by omega
    have Ag:decide ((k:Int)<min (a.size:Int) (b.size:Int))=true:=decide_eq_true Aa;by_cases he:a[k]=b[k]
    ·have Aj:((a[k].toNat:Int)==(b[k].toNat:Int))=true:=by rw[he];simp
     have HX:=Hd he;clear he;go_wp2;go_quiet (fail);go_wp2;go_roundw
     case rel=>exact⟨k+1,by omega,by omega,by go_num,Tess.tm2 a b k h1 h2 HE.out HX.out,zi HB.out _⟩
     case measure=>simp[intOf];omega
    ·have Ak:a[k].toNat≠b[k].toNat:=fun e=>he (xW.1 e);have Aj:((a[k].toNat:Int)==(b[k].toNat:Int))=false:=by rw[qi];omega
     have HX:=Hd (Tess.sa2 a b k Ab Ad HE.out (.inr (.inr ⟨h1,h2,he⟩)));clear he;go_wp2;go_quiet (fail);go_wp2;go_ret;exact⟨by rw[HX.out];rfl,zi HB.out _⟩
   ·have Ac:¬(k:Int)<(b.size:Int):=by omega
    have Ah:decide ((k:Int)<(b.size:Int))=false:=qG Ac;have Aa:¬(k:Int)<min (a.size:Int) (b.size:Int):=by omega
    have Ag:decide ((k:Int)<min (a.size:Int) (b.size:Int))=false:=qG Aa;have HX:=Hd (Tess.sa2 a b k Ab Ad HE.out (.inr (.inl (by omega))));go_wp2;go_quiet (fail);go_wp2;go_ret;exact⟨by rw[HX.out];rfl,zi HB.out _⟩
  ·have Ae:¬(k:Int)<(a.size:Int):=by omega
   have Ai:decide ((k:Int)<(a.size:Int))=false:=qG Ae;have Aa:¬(k:Int)<min (a.size:Int) (b.size:Int):=by omega
   have Ag:decide ((k:Int)<min (a.size:Int) (b.size:Int))=false:=qG Aa;have HX:=Hd (Tess.sa2 a b k Ab Ad HE.out (.inl (by omega)));go_wp2;go_quiet (fail);go_wp2;go_ret;exact⟨by rw[HX.out];rfl,zi HB.out _⟩
end Go.Proofs.Q9
namespace Tess
open Go Go.Proofs
theorem bl3(a b:ByteArray):bl a b=decide (a.toList<b.toList):=bytesLess_eq _ _
theorem bi2(a:ByteArray):bl a a=false:=by rw[bl3];exact qG (List.lt_irrefl _)
theorem bt2{a b c:ByteArray}(h:bl a b=true)(h':bl b c=true):bl a c=true:=by rw[bl3]at *;exact decide_eq_true (List.lt_trans (zT h) (zT h'))
theorem toList_inj{a b:ByteArray}(h:a.toList=b.toList):a=b:=by rw[tl,tl]at h;exact yF (yG.1 h)
theorem ba4{a b:ByteArray}(h:bl a b=false)(h':bl b a=false):a=b:=by rw[bl3]at *;exact toList_inj (List.le_antisymm (List.not_lt.1 (qAz h')) (List.not_lt.1 (qAz h)))
def Asc(l:List ByteArray):Prop:=∀i j,i<j->j<l.length->bl (l.getD i w0) (l.getD j w0)=true
theorem ra54(l:List ByteArray)(h:right l=true):Asc l:=by
 rw[rp2,qb]at h;have hc:=h.2;unfold chainTo at hc;rw[qx]at hc
 have step:∀i,i+1<l.length->bl (l.getD i w0) (l.getD (i+1) w0)=true:=fun i hi=>by have:=hc (i+1) (zV.2 hi);unfold ord at this;rw[yx]at this;simpa using this
 intro i j Aa
 induction j with
 |zero=>omega
 |succ j ih=>
   intro hj;by_cases e:i=j
   ·subst e;exact step i hj
   ·exact bt2 (ih (by omega) (by omega)) (step j hj)
theorem rl2(l:List ByteArray)(h:right l=true):l.length<=1000:=by unfold right at h;rw[qb]at h;exact zT h.2
theorem fIs(p:ByteArray->Bool)(l:List ByteArray):(∀j,j<l.findIdx p->p (l.getD j w0)=false)/\(l.findIdx p<l.length->p (l.getD (l.findIdx p) w0)=true):=by
 constructor
 ·intro j hj;have Aa:j<l.length:=qF hj qAa;rw[getD_lt l j Aa];have:=List.not_of_lt_findIdx hj;simpa using this
 ·intro h;rw[getD_lt l _ h];exact List.findIdx_getElem
theorem ps3(l:List ByteArray)(x:ByteArray):(∀j,j<place l x->bl (l.getD j w0) x=true)/\(place l x<l.length->bl (l.getD (place l x) w0) x=false):=by have:=fIs (fun y=> !bl y x) l;refine⟨fun j hj=>by have:=this.1 j hj;simpa using this,fun h=>?_⟩;have:=this.2 h;rw[xd]at this;exact this
theorem ab2{l:List ByteArray}(ha:Asc l){x:ByteArray}{i j:Nat}(hij:i<=j)(hj:j<l.length)(h:bl (l.getD i w0) x=false):bl (l.getD j w0) x=false:=by
 rcases jb i j with Aa|Ab
 ·by_cases hb:bl (l.getD j w0) x=true
  ·rw[bt2 (ha i j Aa hj) hb]at h;cases h
  ·simpa using hb
 ·rwa [show j=i by omega]
theorem bp2(l:List ByteArray)(ha:Asc l)(x:ByteArray):Lib.bsGo (fun t=>Op.bytesLess (l.getD t w0).toList x.toList) l.length 0 l.length=place l x:=by
 obtain⟨h1,h2⟩:=ps3 l x;have Aa:place l x<=l.length:=qAa
 have e:Lib.bsGo (fun t=>Op.bytesLess (l.getD t w0).toList x.toList) l.length 0 l.length=Lib.bsGo (fun t=>decide (t<l.length)&&Op.bytesLess (l.getD t w0).toList x.toList) l.length 0 l.length:=by
  have Ab:∀(f lo hi:Nat),hi<=l.length->Lib.bsGo (fun t=>Op.bytesLess (l.getD t w0).toList x.toList) f lo hi=Lib.bsGo (fun t=>decide (t<l.length)&&Op.bytesLess (l.getD t w0).toList x.toList) f lo hi:=by
   intro f
   induction f with
   |zero=>intro lo hi _;rfl
   |succ f ih=>
     intro lo hi Ac;unfold Lib.bsGo;by_cases hlt:lo<hi
     ·simp only[hlt,jH];have:decide ((lo+hi)/2<l.length)=true:=decide_eq_true (by omega);simp only[this,zl];rw[ih _ _ Ac,ih _ _ (by omega)]
     ·simp only[hlt,qBi]
  exact Ab _ _ _ (qC _)
 rw[e];refine Lib.bsGo_spec _ _ (fun t ht=>?_) (fun t ht=>?_) _ _ _ (by omega) (qN _) Aa
 ·have:=h1 t ht;rw[show decide (t<l.length)=true from decide_eq_true (by omega),zl];exact this
 ·by_cases htl:t<l.length
  ·have:=ab2 ha ht htl (h2 (by omega));rw[show decide (t<l.length)=true from decide_eq_true htl,zl];exact this
  ·rw[show decide (t<l.length)=false from qG htl];rfl
end Tess
namespace Go.Proofs.Q9
open Go.RowKit Go.Sort Go.Shelf
theorem ba8(v:Value)(l:List ByteArray)(x:ByteArray)(w:World)(hv:SlOf w v (l.map .string))(ha:Tess.Asc l)(hsz:l.length<4611686018427387904) :
  Calls Tryz.prog 167 #[v,.string x] w fun e w'=>e = .returned (.tuple #[.int .i64 (Tess.place l x:Nat),.bool (decide (Tess.place l x<l.length)&&decide (l.getD (Tess.place l x) Tess.w0=x))])/\Below w.heap.size w w':=by
 obtain⟨a,Ab,rfl,Ad,hc⟩:=so2 hv;by_cases h0:l.length=0
 ·have e0:l=[]:=yl.1 h0;subst e0;refine(Any2.slices_BinarySearch_string_empty Tryz.lB5 a Ab x w).mono ?_;rintro e w' ⟨rfl,rfl⟩;exact⟨rfl,qJ _ _⟩
 ·obtain⟨b,Ae,rfl,hb,_⟩:=hc 0 (by omega)
  have:=Any2.slices_BinarySearch_string Tryz.lB5 b Ae l.length Ab (fun i=>l.getD i Tess.w0) x w hsz (fun j hj=>by
   obtain⟨b',Ac,he,_,Aa⟩:=hc j hj;cases he
   show _=some (Value.string (l.getD j Tess.w0))
   rw[Tess.getD_lt l j hj];exact Aa)
  refine this.mono ?_;rintro e w' ⟨rfl,q,rfl⟩;rw[Tess.bp2 l ha x];exact⟨by rw[Bool.decide_and],zi (qJ _ _) _⟩
theorem fa12(v:Value)(l:List ByteArray)(x:ByteArray)(w:World)(hv:SlOf w v (l.map .string)):Calls Tryz.prog 124 #[v,.string x] w (FP l x w):=by
 have Ab:=dra v l w hv;have HV:=Hd hv;clear hv;unfold FP Tess.fW2;cases hr:Tess.right l
 ·rw[hr]at Ab;have HR:=Hd Ab;clear Ab;go_enter Tryz.func124,Tryz.ntmps124;go_wp2_with (go_at_call 120;refine HR.out.mono ?_;rintro e w1 ⟨rfl,Aa⟩;have HB:=Hd Aa;clear Aa);go_ret2;exact⟨rfl,HB.out⟩
 ·rw[hr]at Ab;have HR:=Hd Ab;have Ac:=Tess.rl2 l hr;have HA:=Hd (Tess.ra54 l hr);clear Ab;go_enter Tryz.func124,Tryz.ntmps124
  go_wp2_with (first
   |(go_at_call 120;refine HR.out.mono ?_;rintro e w1 ⟨rfl,Aa⟩;have HB:=Hd Aa;clear Aa)
   |(go_at_call 167;refine(ba8 v l x _ (HV.out.below HB.out) HA.out (by omega)).mono ?_;rintro e w1 ⟨rfl,Aa⟩;have HB:=Hd (Bt HB.out Aa);clear Aa))
  go_ret2;exact⟨rfl,HB.out⟩
end Go.Proofs.Q9
namespace Tess
def lastOf(l:List ByteArray)(k:Nat):ByteArray:=if k=0 then w0 else l.getD (k-1) w0
def one(a y:ByteArray):List UInt8:=putL (shared a y)++putL (y.size-shared a y)++y.data.toList.drop (shared a y)
def eT(l:List ByteArray):Nat->List UInt8
 |0=>[]
 |k+1=>eT l k++one (lastOf l k) (l.getD k w0)
def encL(l:List ByteArray):List UInt8:=putL l.length++eT l l.length
def encW(l:List ByteArray):ByteArray×Nat:=if right l then(⟨(encL l).toArray⟩,0)else(⟨#[]⟩,50)
theorem lOs(l:List ByteArray)(k:Nat):lastOf l (k+1)=l.getD k w0:=by unfold lastOf;simp
theorem rs2(l:List ByteArray)(h:right l=true)(i:Nat)(hi:i<l.length):(l.getD i w0).size<=100:=by unfold right rT at h;rw[qb,qx]at h;have:=h.1 i (zV.2 hi);unfold fits at this;rw[qb]at this;exact zT this.1
theorem lOs2(l:List ByteArray)(h:right l=true)(k:Nat)(hk:k<=l.length):(lastOf l k).size<=100:=by
 unfold lastOf;split
 ·exact qN _
 ·exact rs2 l h _ (by omega)
theorem ol4(a y:ByteArray)(h:y.size<=100):(one a y).length<=120:=by unfold one;have h1:=(sl4 a y).2;have h2:=pLl3 (shared a y) 9 (by omega);have h3:=pLl3 (y.size-shared a y) 9 (by omega);simp only[qI,zn,ju];have:y.data.size=y.size:=rfl;omega
theorem eTl(l:List ByteArray)(h:right l=true)(k:Nat)(hk:k<=l.length):(eT l k).length<=120*k:=by
 induction k with
 |zero=>exact qN _
 |succ k ih=>
   have h1:=ih (by omega);have h2:=ol4 (lastOf l k) (l.getD k w0) (rs2 l h k (by omega));show(eT l k++one (lastOf l k) (l.getD k w0)).length<=_;rw[qI];omega
def oneW(a y:ByteArray):ByteArray:=(putW (shared a y)++putW (y.size-shared a y))++y.extract (shared a y) y.size
theorem oWl(a y:ByteArray):(oneW a y).data.toList=one a y:=by unfold oneW one putW;simp;exact qh (by simp)
end Tess
namespace Go.Proofs.Q9
open Go.RowKit Go.Sort Go.Shelf
theorem bb4{B b:Nat}{bs:List Value}{w w':World}(h:Lib.IsBuilder 88 5 B b bs w)(hb:Below w.heap.size w w'):Lib.IsBuilder 88 5 B b bs w':=by
 have Aa:∀p,Lib.BuilderAt 88 5 B b p bs w->Lib.BuilderAt 88 5 B b p bs w':=fun p ⟨h1,v,h2,h3,h4⟩=>
  ⟨h1,v,(hb.block _ (qA.1 h2).1).trans h2,ob2 h3 hb,h4⟩
 exact h.imp (Aa _) (Aa _)
theorem strCells_eq(s:ByteArray):Lib.strCells s=Lib.byteCells s.data.toList:=by
 unfold Lib.strCells Lib.byteCells
 first|rfl|simp
def EP(l:List ByteArray)(w:World)(e:Ending)(w':World):Prop:=e = .returned (.tuple #[.string (Tess.encW l).1,.int .i64 ((Tess.encW l).2:Nat)])/\Below w.heap.size w w'
theorem ea2(v:Value)(l:List ByteArray)(w:World)(hv:SlOf w v (l.map .string)):Calls Tryz.prog 70 #[v] w (EP l w):=by
 have Ac:=dra v l w hv;unfold EP Tess.encW;cases hr:Tess.right l
 ·rw[hr]at Ac;have HR:=Hd Ac;clear Ac hv;go_enter Tryz.func70,Tryz.ntmps70;go_wp2_with (go_at_call 120;refine HR.out.mono ?_;rintro e w1 ⟨rfl,Ag⟩;have HB:=Hd Ag;clear Ag);go_ret2;exact⟨rfl,HB.out⟩
 ·rw[hr]at Ac;have HR:=Hd Ac;have Bg:=Tess.rl2 l hr;have Bk:=Hd (Tess.rs2 l hr);have Bo:=Hd (Tess.lOs2 l hr);have Bd:=Hd (Tess.eTl l hr);obtain⟨a,By,rfl,A6,hc⟩:=so2 hv;have HC:=Hd hc;clear Ac hv hc hr;have Bs:IntKind.u64.wrap (l.length:Int)=(l.length:Int):=by go_bits;first|trivial|omega
  have Bv:=Tess.pWs l.length (by omega);go_enter Tryz.func70,Tryz.ntmps70
  go_wp2_with (first
   |(go_at_call 120;refine HR.out.mono ?_;rintro e w1 ⟨rfl,Ag⟩;have HB:=Hd Ag;clear Ag)
   |(go_at_call 42;refine(dpa l.length _ (by omega)).mono ?_;rintro e w2 ⟨rfl,An⟩))
  have A4:Lib.IsBuilder 88 5 w.heap.size w1.heap.size (Lib.byteCells []) (w1.alloc (.cells #[.pointer none,.slice none 0 0] 88)):=.inl ⟨HB.out.size,.slice none 0 0,zS w1 _,qg _ _ _ _,by simp[Value.ownBlock]⟩;have Bc:=bb4 A4 An;have Ap:Below w.heap.size w w2:=Bt (HB.out.alloc HB.out.size _) An;clear A4 An
  refine(wSa w.heap.size w1.heap.size (Lib.byteCells []) (Tess.putW l.length) w2 Bc (by rw[yA];simp;omega) Ap.size).mono ?_;rintro e w3 ⟨rfl,Al,Ay⟩;rw[strCells_eq]at Al;have Ah:=Hd (show Lib.IsBuilder 88 5 w.heap.size w1.heap.size (Lib.byteCells (Tess.putL l.length++Tess.eT l 0)) w3 from .inr (by rw[show Tess.putL l.length++Tess.eT l 0=Tess.putL l.length from zZ _];exact Al))
  have A5:=Hd (Ap.trans Ay);clear Al Ay Bc Ap;go_wp2;go_loopw [5,19] (fun s5 i wr=>∃k:Nat,k<=l.length/\s5 = .string (Tess.lastOf l k)/\i = .int .i64 k/\Lib.IsBuilder 88 5 w.heap.size w1.heap.size (Lib.byteCells (Tess.putL l.length++Tess.eT l k)) wr/\Below w.heap.size w wr) (fun _ i _=>l.length-(intOf i).toNat)
  case atStart=>exact⟨0,qN _,rfl,rfl,Ah.out,A5.out⟩
  case round=>
   clear Ah A5;obtain⟨k,hk,rfl,rfl,A1,hB⟩:=hrel;have Ah:=Hd A1;have Ai:=Hd hB;clear A1 hB;have B2:=Bd.out k hk;by_cases hlt:k<l.length
   ·obtain⟨b,At,rfl,hb,Ab⟩:=HC.out k hlt;have Bi:wr.cell? ⟨b,At+k,none⟩=some (.string l[k]):=(Ai.out.cell (p:=⟨b,At+k,none⟩) hb).trans Ab;have Be:(k:Int)<(l.length:Int):=by omega
    have Aa:=Bk.out k hlt;have Ad:=Bo.out k hk;rw[Tess.getD_lt l k hlt]at Aa;have Ak:=Tess.getD_lt l k hlt;obtain⟨y,hy⟩:=Xq (l[k])
    rw[<-hy]at Bi Aa Ak;obtain⟨x,hx⟩:=Xq (Tess.lastOf l k)
    rw[<-hx]at Ad;have Bm:=(Tess.sl4 x y).2;have Bn:=Tess.ol4 x y Aa;have As:=Hd (Tess.oWl x y);have Bb:=Hd Ak;have Bf:=Hd hx;rw[<-hx];clear Ab hy Ak hx;have c1:=fun W=>sa12 x y W (by unfold maxLen;omega);obtain⟨n,hn⟩:=Xq (Tess.shared x y)
    rw[<-hn]at c1 Bm;have c2:=fun W=>dpa n W (by omega);have c3:=fun W=>dpa (y.size-n) W (by omega);have hA:=Tess.pWs n (by omega);have Ba:=Tess.pWs (y.size-n) (by omega);have Af:=Hd (show Tess.oneW x y=(Tess.putW n++Tess.putW (y.size-n))++y.extract n y.size by unfold Tess.oneW;rw[<-hn]);clear hn;obtain⟨d,hd⟩:=Xq (y.size-n)
    rw[<-hd]at c3 Ba Af;have Bu:(y.size:Int)-(n:Int)=(d:Int):=by omega
    have Bx:d<=100:=by omega
    have B3:(n:Int)<=(y.size:Int):=by omega
    clear hd;obtain⟨R,hR⟩:=Xq (y.extract n y.size)
    have Bw:R.size=y.size-n:=by rw[hR];simp
    obtain⟨A,Ax⟩:=Xq (Tess.putW n)
    obtain⟨C,Av⟩:=Xq (Tess.putW d)
    rw[<-Ax]at c2 hA Af;rw[<-Av]at c3 Ba Af;rw[<-hR]at Af;have B0:y.extract n y.size=R:=hR.symm;clear hR Ax Av;have C1:=Hd c1;have C2:=Hd c2;have C3:=Hd c3;clear c1 c2 c3;have B1:IntKind.u64.wrap (n:Int)=(n:Int):=by go_bits;first|trivial|omega
    have Bz:IntKind.i64.wrap (d:Int)=(d:Int):=by go_bits;first|trivial|omega
    have Bp:IntKind.u64.wrap (d:Int)=(d:Int):=by go_bits;first|trivial|omega
    have Aw:¬9223372036854775807<A.size+C.size:=by omega
    have Az:¬9223372036854775807<A.size+C.size+(y.size-n):=by omega
    go_wp2_with (go_at_call 121;refine(C1.out _).mono ?_;rintro e w4 ⟨rfl,A3⟩;have A7:=Hd A3;clear A3);have Aq:=Hd (bb4 Ah.out A7.out);have Am:=Hd (Bt Ai.out A7.out)
    refine Flow.wrf 14 (Flow.sp3 [.inl (.int .i64 n),.inl (.int .u64 n),.inl (.string A),.inl (.string y),.inl (.int .i64 (y.size:Nat)),.inl (.int .i64 n),.inl (.int .i64 d),.inl (.int .u64 d),.inl (.string C),.inl (.string (A++C)),.inl (.string y),.inl (.int .i64 n),.inl (.string R),.inl (.string ((A++C)++R))]) (by kernel_rfl) (by kernel_rfl) ?_ ?_
    ·apply Flow.sm2;intro s hs;simp only[qm,zG,jr]at hs;rcases hs with rfl|rfl|rfl|rfl|rfl|rfl|rfl|rfl|rfl|rfl|rfl|rfl|rfl|rfl
     all_goals exact Flow.mi _
    iterate 2 (refine Flow.tvK rfl (fun K hK=>⟨fun w hw hG=>?_,?_⟩);(clear hG hw;unfold Flow.Runs Flow.yields;go_simp);go_simp;refine hK _ ?_;clear hK K)
    (refine Flow.tvK rfl (fun K hK=>⟨fun w hw hG=>?_,?_⟩);(clear hG hw;unfold Flow.Runs Flow.yields;go_simp;exact xL (C2.out _) (fun e w' ⟨he,hb⟩=>⟨he,hb⟩));go_simp;refine hK _ ?_;clear hK K)
    iterate 5 (refine Flow.tvK rfl (fun K hK=>⟨fun w hw hG=>?_,?_⟩);(clear hG hw;unfold Flow.Runs Flow.yields;go_simp);go_simp;refine hK _ ?_;clear hK K)
    (refine Flow.tvK rfl (fun K hK=>⟨fun w hw hG=>?_,?_⟩);(clear hG hw;unfold Flow.Runs Flow.yields;go_simp;exact xL (C3.out _) (fun e w' ⟨he,hb⟩=>⟨he,hb⟩));go_simp;refine hK _ ?_;clear hK K)
    iterate 5 (refine Flow.tvK rfl (fun K hK=>⟨fun w hw hG=>?_,?_⟩);(clear hG hw;unfold Flow.Runs Flow.yields;go_simp);go_simp;refine hK _ ?_;clear hK K)
    refine Flow.tn2 fun w5 hw5 hG=>?_;clear hG;have A2:=bb4 Aq.out hw5;have Ao:=Bt Am.out hw5;clear hw5;simp only[qM,qV]
    have Br:(Lib.byteCells (Tess.putL l.length++Tess.eT l k)).length+(A++C++R).size<=140737488355328:=by
     rw[yA,qI];have Au:(Tess.putL l.length).length=(Tess.putW l.length).size:=rfl;have Bl:(A++C++R).size=A.size+C.size+R.size:=by simp
     omega
    have A8:=wSa w.heap.size w1.heap.size (Lib.byteCells (Tess.putL l.length++Tess.eT l k)) (A++C++R) w5 A2 Br Ao.size;have Bj:=Hd A8;have Bq:=Hd Ao;clear A8 Ao A2;go_wp2_with (go_at_call 41;refine Bj.out.mono ?_;rintro e w6 ⟨rfl,A0,Ae⟩;have Aj:=Hd A0;have Ar:=Hd (Bq.out.trans Ae);clear A0 Ae);go_roundw
    case rel=>
     refine⟨k+1,by omega,by rw[Tess.lOs,Bb.out],by go_num,.inr ?_,Ar.out⟩;have:=Aj.out;rw[strCells_eq,<-Af.out,As.out]at this;rw[show Tess.eT l (k+1)=Tess.eT l k++Tess.one (Tess.lastOf l k) (l.getD k Tess.w0)from rfl,<-Bf.out,Bb.out,<-zN];unfold Lib.byteCells at *;rw[qs];exact this
    case measure=>simp[intOf];omega
   ·have Be:¬(k:Int)<(l.length:Int):=by omega
    obtain rfl:k=l.length:=by omega
    have A9:=Any.Builder_String_any Tryz.la6 Tryz.BE1 w.heap.size w1.heap.size (Tess.putL l.length++Tess.eT l l.length) wr Ah.out Ai.out.size;have Bh:=Hd A9;clear A9;go_wp2_with (go_at_call 43;refine Bh.out.mono ?_;rintro e w6 ⟨rfl,Ae⟩;have Aj:=Hd Ae;clear Ae);go_ret2;exact⟨rfl,Ai.out.trans Aj.out⟩
