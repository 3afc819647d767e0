/- Joined. -/
import Derived.Test.YtjdccifdkjnknaaGreatDoorZC31
set_option maxRecDepth 100000
set_option maxHeartbeats 4000000
namespace Go.Proofs.Q9
open Go.RowKit Go.Sort
abbrev Rdr(r:Nat)(b:ByteArray)(v1 v2 v3 v4:Value)(w:World):Prop:=w.heap[r]?=some (.cells #[.string b,v1,v2,v3,v4] 72 (0,0))
section
variable {r:Nat} {b:ByteArray} {v1 v2 v3 v4:Value} {w w':World}
theorem Rdr.lt(h:Rdr r b v1 v2 v3 v4 w):r<w.heap.size:=(qA.1 h).1
theorem Rdr.cells(h:Rdr r b v1 v2 v3 v4 w):w.cell? ⟨r,0,none⟩=some (.string b)/\w.cell? ⟨r,1,none⟩=some v1/\w.cell? ⟨r,2,none⟩=some v2/\w.cell? ⟨r,3,none⟩=some v3/\w.cell? ⟨r,4,none⟩=some v4:=by simp[World.cell?,h]
theorem Rdr.z(h:Rdr r b v1 v2 v3 v4 w)(i:Nat):w.frozen? ⟨r,i,none⟩=false:=by simp[World.frozen?,h]
theorem Rdr.below(h:Rdr r b v1 v2 v3 v4 w)(hb:Below w.heap.size w w'):Rdr r b v1 v2 v3 v4 w':=(hb.block _ h.lt).trans h
theorem Rdr.set0(h:Rdr r b v1 v2 v3 v4 w)(x:ByteArray):Rdr r x v1 v2 v3 v4 (w.setCell ⟨r,0,none⟩ (.string x)):=by show(w.setCell ⟨r,0,none⟩ _).heap[r]?=_;simp[World.setCell,jl,h]
theorem Rdr.set4(h:Rdr r b v1 v2 v3 v4 w)(x:Value):Rdr r b v1 v2 v3 x (w.setCell ⟨r,4,none⟩ x):=by show(w.setCell ⟨r,4,none⟩ _).heap[r]?=_;simp[World.setCell,jl,h]
end
def NumP(ad2:Addr)(r:Nat)(o:Option (List Int×ByteArray))(b:ByteArray)(v1 v2 v3 v4:Value)(w:World)(e:Ending)(w':World):Prop:=
 ∃v,e = .returned (.tuple #[v,sErr ad2 o.isSome])/\Kept w.heap.size r w w'/\(match o with
   |none=>Rdr r b v1 v2 v3 v4 w'
   |some x=>w'.ownsRow w.heap.size 2 1 v x.1.length (x.1.map (.int .i64))/\Rdr r x.2 v1 v2 v3 v4 w')
theorem ok2{W:World}{base:Nat}{e t:TypeId}{size:Nat}{v:Value}{m g i:Nat}{xs:List Value}{cur:Array Value}{fz:Nat×Nat}(h:W.ownsRow base e size v m xs)(hg:W.heap[g]?=some (.cells cur t fz))(hne:t≠e)(u:Value):(W.setCell ⟨g,i,none⟩ u).ownsRow base e size v m xs:=by
 obtain⟨hl,h2|⟨g',Aa,Ac,Ae,Ad,Ab,r'⟩⟩:=h
 ·exact⟨hl,.inl h2⟩
 ·exact⟨hl,.inr ⟨g',Aa,Ac,Ae,Ad,(qW _ _ _ _ (show g'≠g from fun e=>by subst e;rw[hg]at Ab;cases Ab;exact hne rfl)).trans Ab,r'⟩⟩
theorem ko2{B r:Nat}{w w':World}(h:Below B w w'):Kept B r w w':=⟨h.os,h.tape,h.output,h.size,fun k hk _=>h.block k hk⟩
theorem sa3(a0 a1 a2:Addr)(r n:Nat)(b:ByteArray)(v1 v2 v3 v4:Value)(w:World)(hv:DV2 a0 a1 w)(hs:SV a2 w)(hr:Rdr r b v1 v2 v3 v4 w)(hn:n<=1000) :
  Calls Tryz.prog 131 #[.pointer (some ⟨r,0,none⟩),.int .i64 n] w (NumP a2 r (Tess.nR n b) b v1 v2 v3 v4 w):=by
 have HU:=Hd (ua2 a0 a1 b w hv);have HS:=Hd hs;have HR:=Hd hr;have HN:RowKit.Hid (Tess.nR n b=if(Tess.uW b).2.2=0/\(Tess.uW b).1.length=n then some ((Tess.uW b).1,(Tess.uW b).2.1)else none):=Hd rfl;obtain⟨c0,_⟩:=hr.cells;have Aj:=hr.lt;clear hv hs hr;generalize Tess.uW b=u at *;obtain⟨l,rest,Ad⟩:=u;dsimp only at HU HN;go_enter Tryz.func131,Tryz.ntmps131;by_cases hc:Ad=0
 ·subst hc;by_cases hl:l.length=n
  ·subst hl;rw[qR ⟨rfl,rfl⟩]at HN;go_wp2_with (go_at_call 132;refine HU.out.mono ?_;rintro e w1 ⟨v,rfl,hv,hB⟩;obtain⟨a,Ah,rfl,Ac,_⟩:=so3 (Value.int .i64) (SlOf.owned hv);have HV:=Hd hv;have HB:=Hd hB;have Ab:=Hd (HR.out.below hB);have z0:=Ab.out.z 0;have q0:=Ab.out.cells.1;clear hv hB);go_ret2;rw[HN.out]
   refine⟨_,rfl,(ko2 HB.out).trans ((ko2 (qJ _ _)).trans (Kept.setCell _ _ _ _ _)),?_,Ab.out.set0 rest⟩;exact ok2 HV.out Ab.out (by decide) _
  ·have Ak:¬(l.length:Int)=(n:Int):=by omega
   rw[qH (fun h=>hl h.2)]at HN;go_wp2_with (go_at_call 132;refine HU.out.mono ?_;rintro e w1 ⟨v,rfl,hv,hB⟩;obtain⟨a,Ah,rfl,Ac,_⟩:=so3 (Value.int .i64) (SlOf.owned hv);have HB:=Hd hB;have g3:=(HS.out.below hB).g3;have Ab:=Hd (HR.out.below hB);clear hv hB);refine FlowO.wp_region [1] 2 rfl (by kernel_rfl) ?_
   iterate 1 (refine⟨_,_,rfl,rfl,(fun w=>by go_simp;try rfl),?_⟩)
   intro w7 Aa Ag;have g7:=(SV.below ⟨g3⟩ Aa).g3;have Af:=Hd (Bt HB.out Aa);have Ae:=Hd (Ab.out.below Aa);clear g3 Aa Ag;refine FlowO.seq [0,2] (by kernel_rfl) (by kernel_rfl) ?_;simp only[FlowP.pick,zp,jg,qM,qV,qL,qY,zZ,qk,qr];go_wp2_with (fail);refine⟨rfl,?_⟩;go_wp2_with (fail);go_ret2;rw[HN.out];exact⟨_,rfl,ko2 Af.out,Ae.out⟩
 ·have Ai:¬(Ad:Int)=0:=by omega
  rw[qH (fun h=>hc h.1)]at HN;go_wp2_with (go_at_call 132;refine HU.out.mono ?_;rintro e w1 ⟨v,rfl,hv,hB⟩;obtain⟨a,Ah,rfl,Ac,_⟩:=so3 (Value.int .i64) (SlOf.owned hv);have HB:=Hd hB;have g3:=(HS.out.below hB).g3;have Ab:=Hd (HR.out.below hB);clear hv hB);refine FlowO.wp_region [1] 2 rfl (by kernel_rfl) ?_
  iterate 1 (refine⟨_,_,rfl,rfl,(fun w=>by go_simp;try rfl),?_⟩)
  intro w7 Aa Ag;have g7:=(SV.below ⟨g3⟩ Aa).g3;have Af:=Hd (Bt HB.out Aa);have Ae:=Hd (Ab.out.below Aa);clear g3 Aa Ag;refine FlowO.seq [0,2] (by kernel_rfl) (by kernel_rfl) ?_;simp only[FlowP.pick,zp,jg,qM,qV,qL,qY,zZ,qk,qr];go_wp2_with (fail);refine⟨rfl,?_⟩;go_wp2_with (fail);go_ret2;rw[HN.out];exact⟨_,rfl,ko2 Af.out,Ae.out⟩
end Go.Proofs.Q9
namespace Go.Proofs.Q9
open Go.RowKit Go.Sort
open Tess (CK Pay)
theorem okK{W W':World}{base:Nat}{e t:TypeId}{size:Nat}{v:Value}{m r:Nat}{xs:List Value}{cur:Array Value}{fz:Nat×Nat}(h:W.ownsRow base e size v m xs)(hk:Kept W.heap.size r W W')(hr:W.heap[r]?=some (.cells cur t fz))(hne:t≠e):W'.ownsRow base e size v m xs:=by
 obtain⟨hl,h2|⟨g',Ab,Ac,Ae,Ad,Aa,r'⟩⟩:=h
 ·exact⟨hl,.inl h2⟩
 ·exact⟨hl,.inr ⟨g',Ab,Ac,Ae,Ad,(hk.block g' (qA.1 Aa).1 (fun e=>by subst e;rw[hr]at Aa;cases Aa;exact hne rfl)).trans Aa,r'⟩⟩
theorem Kt{r:Nat}{wb w w':World}(h:Kept wb.heap.size r wb w)(hb:Below w.heap.size w w'):Kept wb.heap.size r wb w':=
 ⟨hb.os.trans h.os,hb.tape.trans h.tape,hb.output.trans h.output,qt h.size hb.size,fun k hk hne=>(hb.block k (qF hk h.size)).trans (h.block k hk hne)⟩
theorem Kk{r:Nat}{wb w w':World}(h:Kept wb.heap.size r wb w)(hk:Kept w.heap.size r w w'):Kept wb.heap.size r wb w':=
 ⟨hk.os.trans h.os,hk.tape.trans h.tape,hk.output.trans h.output,qt h.size hk.size,fun k h1 h2=>(hk.block k (qF h1 h.size) h2).trans (h.block k h1 h2)⟩
theorem Kg{r g i:Nat}{wb w:World}(h:Kept wb.heap.size r wb w)(hg:wb.heap.size<=g)(v:Value):Kept wb.heap.size r wb (w.setCell ⟨g,i,none⟩ v):=
 ⟨h.os,h.tape,h.output,by simpa[World.setCell]using h.size,fun k h1 h2=>(qW _ _ _ _ (show k≠g by omega)).trans (h.block k h1 h2)⟩
structure Fam(N:Nat)(D:Nat×Nat->Prop)(T S:Nat->Nat)(V:Nat×Nat->Value)(L:Nat×Nat->List (List Value))(W:World):Prop where
 own:∀i,D i->W.ownsRow N (T i.2) (S i.2) (V i) (L i).length (L i).flatten
 apart:∀i j,D i->D j->i≠j->(V i).ownBlock=none∨(V i).ownBlock≠(V j).ownBlock
 nil:∀i,D i->L i=[]->V i = .slice none 0 0
section
variable {N:Nat} {D:Nat×Nat->Prop} {T S:Nat->Nat} {V:Nat×Nat->Value} {L:Nat×Nat->List (List Value)} {W W':World}
theorem Fam.new(W:World):Fam N D T S (fun _=>.slice none 0 0) (fun _=>[]) W:=
 ⟨fun _ _=>qg _ _ _ _,fun _ _ _ _ _=>.inl rfl,fun _ _ _=>rfl⟩
theorem Fam.below(h:Fam N D T S V L W)(hb:Below W.heap.size W W'):Fam N D T S V L W':=⟨fun i hi=>ob2 (h.own i hi) hb,h.apart,h.nil⟩
theorem Fam.set(h:Fam N D T S V L W){g i:Nat}(hg:g<N)(u:Value):Fam N D T S V L (W.setCell ⟨g,i,none⟩ u):=⟨fun i hi=>jt (h.own i hi) (by show g<N;exact hg) _,h.apart,h.nil⟩
theorem Fam.kept(h:Fam N D T S V L W){r:Nat}(hr:r<N)(hb:Kept W.heap.size r W W'):Fam N D T S V L W':=by
 refine⟨fun i hi=>?_,h.apart,h.nil⟩;refine(h.own i hi).kept (⟨hb.os,hb.tape,hb.output,hb.size,fun k hk hne=>hb.block k hk fun e=>hne (by rw[e])⟩:W.grownBy W' (some r)) ?_;cases e:(V i).ownBlock with
 |none=>exact .inl rfl
 |some g=>exact .inr fun e2=>by have:=((h.own i hi).lt g e).1;have:=zr e2;omega
end
def valC(v:Tess.Val):List Value:=[.string v.s,.bool v.null]
def celT:Nat->Nat:=fun f=>if f=0 then 47 else if f=1 then 100 else 2
def celS:Nat->Nat:=fun f=>if f=0 then 2 else if f=1 then 2 else 1
def celL(E:Nat->CK×Pay):Nat×Nat->List (List Value):=fun i=>
 if i.2=0 then((E i.1).1.2.map Tess.valOf).map valC else if i.2=1 then(E i.1).2.sums.map wF else if i.2=2 then(E i.1).2.mins.map intF else(E i.1).2.maxs.map intF
def celC(E:Nat->CK×Pay)(V:Nat×Nat->Value)(k:Nat):List Value:=[.int .i64 (E k).1.1,V (k,0),.int .i64 (E k).2.n,V (k,1),V (k,2),V (k,3)]
structure SRd(r g n:Nat)(E:Nat->CK×Pay)(V:Nat×Nat->Value)(b:ByteArray)(v1 v2 v3:Value)(W:World):Prop where
 rg:r<g
 rdr:Rdr r b v1 v2 v3 (.slice (some ⟨g,0,none⟩) n n) W
 arr:∃A,W.heap[g]?=some (.cells A 56 (0,0))/\∀k,k<n->∀i,i<6->A[k*6+i]?=(celC E V k)[i]?
 fam:Fam (g+1) (fun i=>i.1<n/\i.2<4) celT celS V (celL E) W
end Go.Proofs.Q9
namespace Tess
open Go Kl Go.RowKit Go.Proofs.Q9
theorem tNf:∀(m:Nat) (last:Int) (r:ByteArray),(takeN m last r).1.length<=m/\∀x∈(takeN m last r).1,-9223372036854775808<=x/\x<=9223372036854775807
 |0,_,_=>⟨qC _,fun _ h=>by cases h⟩
 |m+1,last,r=>by
   unfold takeN;split
   ·obtain⟨h1,h2⟩:=tNf m (wrap64 (last+bN2 (getW r).1)) (getW r).2.1;refine⟨by simpa using h1,fun x hx=>?_⟩;rcases qm.1 hx with rfl|hx
    ·exact wr5 _
    ·exact h2 x hx
   ·exact⟨qN _,fun _ h=>by cases h⟩
theorem uWf(s:ByteArray):(uW s).1.length<=1000/\∀x∈(uW s).1,-9223372036854775808<=x/\x<=9223372036854775807:=by
 unfold uW;split
 ·exact⟨qN _,fun _ h=>by cases h⟩
 ·split
  ·exact⟨qN _,fun _ h=>by cases h⟩
  ·rename_i h;obtain⟨h1,h2⟩:=tNf (getW s).1 0 (getW s).2.1;dsimp only;split
   ·exact⟨by omega,h2⟩
   ·exact⟨qN _,fun _ h=>by cases h⟩
theorem nRl{n:Nat}{s:ByteArray}{l:List Int}{e:ByteArray}(h:nR n s=some (l,e)):l.length=n/\∀x∈l,-9223372036854775808<=x/\x<=9223372036854775807:=by
 unfold nR at h;split at h
 ·rename_i h2;cases h
  exact⟨h2.2,(uWf s).2⟩
 ·cases h
def tS2(s:ByteArray):Option (List Int×List Int×ByteArray):=
 if(uW s).2.2=0 then
  match nR (uW s).1.length (uW s).2.1 with
  |some (m,e)=>some ((uW s).1,m,e)
  |none=>none
 else none
theorem nRo(s:ByteArray)(h:(uW s).2.2=0):nR (uW s).1.length s=some ((uW s).1,(uW s).2.1):=by unfold nR;rw[qR ⟨h,rfl⟩]
theorem tRe(s:ByteArray):tR2 s=match tS2 s with
  |some (l,m,e)=>if e.size=0 then some (l,m)else none
  |none=>none:=by
 unfold tR2 tS2;by_cases h:(uW s).2.2=0
 ·rw[qR h,qR h,nRo s h];simp only;cases nR (uW s).1.length (uW s).2.1 with
  |none=>rfl
  |some x=>rfl
 ·rw[qH h,qH h]
def dimS(n:Nat)(s:ByteArray):Option (List DV×ByteArray):=
 if(decW s).2.2=0 then
  (if(uP (decW s).2.1).2.2=0/\(uP (decW s).2.1).1.length=n then
    (match (uP (decW s).2.1).1.mapM (vA2 (decW s).1)with
    |some l=>some (l,(uP (decW s).2.1).2.1)
    |none=>none)
  else none)
 else none
theorem dRe(n:Nat)(s:ByteArray):dimR n s=match dimS n s with
  |some (l,e)=>if e.size=0 then some l else none
  |none=>none:=by
 unfold dimR dimS;by_cases h:(decW s).2.2=0
 ·rw[qR h,qR h];by_cases h2:(uP (decW s).2.1).2.2=0/\(uP (decW s).2.1).1.length=n
  ·rw[qR h2,qR h2];cases (uP (decW s).2.1).1.mapM (vA2 (decW s).1)with
   |none=>simp
   |some l=>rfl
  ·rw[qH h2,qH h2]
 ·rw[qH h,qH h]
def metS(n:Nat)(s:ByteArray):Option ((List Int×List Int×List Int×List Int)×ByteArray):=
 match nR n s with
 |some (a,r1)=>match nR n r1 with
   |some (b,r2)=>match nR n r2 with
     |some (c,r3)=>match nR n r3 with
       |some (d,r4)=>some ((a,b,c,d),r4)
       |none=>none
     |none=>none
   |none=>none
 |none=>none
theorem mRe(n:Nat)(s:ByteArray):metR n s=match metS n s with
  |some ((a,b,c,d),e)=>if e.size=0 then some (List.zipWith wO a b,c,d)else none
  |none=>none:=by
 unfold metR metS;cases nR n s with
 |none=>rfl
 |some x1=>
   obtain⟨a,r1⟩:=x1;dsimp only;cases nR n r1 with
   |none=>rfl
   |some x2=>
     obtain⟨b,r2⟩:=x2;dsimp only;cases nR n r2 with
     |none=>rfl
     |some x3=>
       obtain⟨c,r3⟩:=x3;dsimp only;cases nR n r3 with
       |none=>rfl
       |some x4=>rfl
end Tess
namespace Go.Proofs.Q9
open Go.RowKit Go.Sort
def turns(f:Nat->Option (Obj×Obj)):FlowR.Rel where
 r w w':=w'.os=w.os/\w'.tape=w.tape/\w'.output=w.output/\w.heap.size<=w'.heap.size /\
   ∀k,k<w.heap.size->w'.heap[k]?=w.heap[k]?∨∃Z Y,f k=some (Z,Y)/\w.heap[k]?=some Z/\w'.heap[k]?=some Y
 rf w:=⟨rfl,rfl,rfl,qC _,fun _ _=>.inl rfl⟩
 tr:=by
  rintro a b c ⟨h1,h2,h3,h4,h5⟩ ⟨k1,k2,k3,k4,k5⟩;refine⟨k1.trans h1,k2.trans h2,k3.trans h3,qt h4 k4,fun k hk=>?_⟩;rcases h5 k hk with e1|⟨Z,Y,e0,e1,e2⟩<;>rcases k5 k (qF hk h4)with e3|⟨Z',Y',e3,e4,e5⟩
  ·exact .inl (e3.trans e1)
  ·exact .inr ⟨Z',Y',e3,e1▸e4,e5⟩
  ·exact .inr ⟨Z,Y,e0,e1,e3.trans e2⟩
  ·rw[e0]at e3;cases e3
   exact .inr ⟨Z,Y,e0,e1,e5⟩
 drew w:=⟨rfl,rfl,rfl,qC _,fun _ _=>.inl rfl⟩
section
variable {f:Nat->Option (Obj×Obj)} {w w':World}
theorem tb2(hr:(turns f).r w w'){b:Nat}(hb:b<w.heap.size)(hf:f b=none):w'.heap[b]?=w.heap[b]?:=by
 rcases hr.2.2.2.2 b hb with e|⟨_,_,e,_⟩
 ·exact e
 ·rw[hf]at e;cases e
theorem ta2(hr:(turns f).r w w'){b o:Nat}(hb:b<w.heap.size)(hf:f b=none):w'.cell? ⟨b,o,none⟩=w.cell? ⟨b,o,none⟩:=
 jz (a:=⟨b,o,none⟩) (tb2 hr hb hf)
theorem tt2(hr:(turns f).r w w'){b:Nat}{Z Y:Obj}(hf:f b=some (Z,Y))(hZ:w.heap[b]?=some Z):w'.heap[b]?=some Z∨w'.heap[b]?=some Y:=by
 rcases hr.2.2.2.2 b (qA.1 hZ).1 with e|⟨_,_,e,_,e2⟩
 ·exact .inl (e.trans hZ)
 ·rw[hf]at e;cases e;exact .inr e2
theorem td2(hr:(turns f).r w w'){b:Nat}{Z Y:Obj}(hf:f b=some (Z,Y))(hY:w.heap[b]?=some Y):w'.heap[b]?=some Y:=by
 rcases hr.2.2.2.2 b (qA.1 hY).1 with e|⟨_,_,e,_,e2⟩
 ·exact e.trans hY
 ·rw[hf]at e;cases e;exact e2
theorem ta3(w:World)(o:Obj):(turns f).r w (w.alloc o):=⟨rfl,rfl,rfl,by simp,fun _ hk=>.inl (heap_alloc_old w _ hk)⟩
theorem tb4{N:Nat}(hr:(turns f).r w w')(hN:N<=w.heap.size)(hf:∀k,k<N->f k=none):Below N w w':=
 ⟨hr.1,hr.2.1,hr.2.2.1,hr.2.2.2.1,fun k hk=>tb2 hr (by omega) (hf k hk)⟩
theorem to2{base:Nat}{e:TypeId}{size:Nat}{v:Value}{m:Nat}{xs:List Value}(h:w.ownsRow base e size v m xs)(hr:(turns f).r w w')(hf:∀g,v.ownBlock=some g->f g=none):w'.ownsRow base e size v m xs:=by
 obtain⟨hl,h2|⟨g',Aa,Ab,Ad,Ae,Ac,r'⟩⟩:=h
 ·exact⟨hl,.inl h2⟩
 ·exact⟨hl,.inr ⟨g',Aa,Ab,Ad,Ae,(tb2 hr (qA.1 Ac).1 (hf g' (by rw[Ad];rfl))).trans Ac,r'⟩⟩
def newR(B:Nat)(cs:List Value)(v:Value)(w:World):Prop:=∃h,v = .slice (some ⟨h,0,none⟩) 1 1/\B<=h/\h<w.heap.size/\∀j u,cs[j]?=some u->w.cell? ⟨h,j,none⟩=some u
theorem nRm{B:Nat}(hf:∀h,B<=h->f h=none)(cs:List Value):FlowR.Spec.mono (turns f) (.inr (newR B cs)):=by rintro v a b ⟨h,h1,h2,h3,h4⟩ hr;exact⟨h,h1,h2,qF h3 hr.2.2.2.1,fun j u hu=>(ta2 hr h3 (hf h h2)).trans (h4 j u hu)⟩
def tu(f:Nat->Option (Obj×Obj))(g:Nat)(u v:Value)(w:World):Prop:=v=u/\∃Z Y,f g=some (Z,Y)/\w.heap[g]?=some Y
theorem tm3(g:Nat)(u:Value):FlowR.Spec.mono (turns f) (.inr (tu f g u)):=by rintro v a b ⟨h1,Z,Y,h2,h3⟩ hr;exact⟨h1,Z,Y,h2,td2 hr h2 h3⟩
theorem ss5(A:Array Value)(i:Nat)(x:Value):(A.setIfInBounds i x).setIfInBounds i x=A.setIfInBounds i x:=by refine Array.ext_getElem? fun j=>?_;simp only[zt,xp];split<;>rfl
theorem ts3{g i:Nat}{A:Array Value}{t:TypeId}{x:Value}(hfg:f g=some (.cells A t (0,0),.cells (A.setIfInBounds i x) t (0,0)))(hV:w.heap[g]?=some (.cells A t (0,0))∨w.heap[g]?=some (.cells (A.setIfInBounds i x) t (0,0))) :
  (turns f).r w (w.setCell ⟨g,i,none⟩ x)/\tu f g undef undef (w.setCell ⟨g,i,none⟩ x):=by
 have hb:(w.setCell ⟨g,i,none⟩ x).heap[g]?=some (.cells (A.setIfInBounds i x) t (0,0)):=by
  rcases hV with h|h
  ·exact qO _ _ _ _ _ x h
  ·rw[qO _ _ _ _ _ x h,ss5]
 refine⟨⟨rfl,rfl,rfl,by simp[World.setCell],fun k hk=>?_⟩,rfl,_,_,hfg,hb⟩;by_cases e:k=g
 ·subst e;rcases hV with h|h
  ·exact .inr ⟨_,_,hfg,h,hb⟩
  ·exact .inl (hb.trans h.symm)
 ·exact .inl (qW _ _ _ _ (show k≠g from e))
def appd(f:Nat->Option (Obj×Obj))(B N:Nat)(T:TypeId)(k n:Nat)(xs:List Value)(o:Option Nat)(v:Value)(w:World):Prop:=
 w.ownsRow N T k v n xs/\((v.ownBlock=o/\∃h Z Y,o=some h/\f h=some (Z,Y)/\w.heap[h]?=some Y)∨∃h,v.ownBlock=some h/\B<=h)
theorem am2{B N k n:Nat}{T:TypeId}{xs:List Value}{o:Option Nat}(hf:∀h,B<=h->f h=none):FlowR.Spec.mono (turns f) (.inr (appd f B N T k n xs o)):=by
 rintro v a b ⟨h1,h2⟩ hr
 have Ac:∀h,v.ownBlock=some h->b.heap[h]?=a.heap[h]?:=fun h e=>by
  rcases h2 with⟨h3,h',Z,Y,h4,h5,h6⟩|⟨h',h3,h4⟩
  ·rw[e,h4]at h3;cases h3
   exact(td2 hr h5 h6).trans h6.symm
  ·rw[e]at h3;cases h3
   exact tb2 hr (h1.lt h e).2 (hf h h4)
 refine⟨?_,?_⟩
 ·obtain⟨hl,h|⟨g,Ab,Aa,e1,e2,e3,r⟩⟩:=h1
  ·exact⟨hl,.inl h⟩
  ·exact⟨hl,.inr ⟨g,Ab,Aa,e1,e2,(Ac g (by rw[e1];rfl)).trans e3,r⟩⟩
 ·rcases h2 with⟨h3,h',Z,Y,h4,h5,h6⟩|h2
  ·exact .inl ⟨h3,h',Z,Y,h4,h5,td2 hr h5 h6⟩
  ·exact .inr h2
end
def fOf(w:World)(v:Value)(k:Nat)(cs:List Value)(h:Nat):Option (Obj×Obj):=
 match v with
 |.slice (some a) n cap=>if a.block=h/\n<cap then(match w.heap[h]? with
   |some (.cells cur t fz)=>some (.cells cur t fz,.cells (over cur (n*k) cs) t fz)
   |_=>none)else none
 |_=>none
theorem fOn{w:World}{v:Value}{k:Nat}{cs:List Value}{h:Nat}(hv:v.ownBlock≠some h):fOf w v k cs h=none:=by
 unfold fOf;split
 ·rename_i a n cap;rw[qH];rintro⟨e,_⟩;exact hv (by simp[Value.ownBlock,e])
 ·rfl
theorem taa{P:Program}{f:Nat->Option (Obj×Obj)}{N k n bytes:Nat}{t ty T:TypeId}{i:TypeInfo}{z v vs:Value}{xs cs:List Value}{w0 W:World}
  (ht:P.underlying t=some (.slice T)) (hi:P.info? T=some i) (hz:i.zero=some z) (hsize:i.size=k) (hby:i.bytes=bytes) (hzs:z.cells.size=k) (hk:0<k)
  (hW:(turns f).r w0 W) (hown:w0.ownsRow N T k v n xs) (hf:∀h,v.ownBlock=some h->f h=fOf w0 v k cs h)
  (hcs:cs.length=k) (h1:∀u∈cs,u.oneCell'=true) (hn:n+1<=maxLen) (hbytes:(n+1)*bytes<=140737488355328) (hNB:N<=w0.heap.size) (hv:newR w0.heap.size cs vs W) :
  ∃v' W',(Builtin.append_ #[t,t] ty #[v,vs]).run P W = .ok v' W'/\(turns f).r W W'/\appd f w0.heap.size N T k (n+1) (xs++cs) v.ownBlock v' W'/\(v'.ownBlock=v.ownBlock∨v'.ownBlock=some W.heap.size):=by
 subst hsize;subst hby
 obtain⟨h,rfl,Au,Av,Ah⟩:=hv;have At:=hW.2.2.2.1;have An:n+1<=9223372036854775807:=by simp only[maxLen]at hn;omega
 have Ae:(xs++cs).length=(n+1)*i.size:=by rw[qI,hown.1,hcs,jd,ya]
 have Ad:∀j u,cs[j]?=some u->W.cell? ((⟨h,0,none⟩:Addr).add j)=some u:=fun j u hu=>by rw[Addr.add_lit,qj];exact Ah j u hu
 have grown:∀(old:Nat),(W.drew.alloc (.cells (xs.toArray++cs.toArray++Builtin.zeroCells z.cells (grownCap W (n+1) old T-(n+1))) T)).ownsRow N T i.size
    (.slice (some ⟨W.heap.size,0,none⟩) (n+1) (grownCap W (n+1) old T)) (n+1) (xs++cs) /\
   (turns f).r W (W.drew.alloc (.cells (xs.toArray++cs.toArray++Builtin.zeroCells z.cells (grownCap W (n+1) old T-(n+1))) T)):=by
  intro old;have Ar:=grownCap_ge W (n+1) old T;have Ak:grownCap W (n+1) old T<=maxLen:=grownCap_le_maxLen W (n+1) old T hn;refine⟨⟨Ae,.inr ⟨W.heap.size,_,_,rfl,by omega,jY W.drew _,Ar,Ak,?_,?_⟩⟩,⟨rfl,rfl,rfl,by simp,fun j hj=>.inl (heap_alloc_old W.drew _ hj)⟩⟩
  ·simp only[Array.size_append,qu,size_zeroCells,hzs,hown.1,hcs];rw[<-qAs,<-jd];congr 1;omega
  ·simp only[xq,zN];rw[<-zN,<-Ae];exact qBk
 rcases hown.2 with⟨rfl,rfl⟩|⟨g,Ac,Ab,rfl,Ap,hg,As,Ak,Ai,Ag⟩
 ·have hx:xs=[]:=jQ (by simpa using hown.1);subst hx;have hr:=_root_.Go.run_append_nil (P:=P) W t ty T i z ht hi hz ⟨h,0,none⟩ 1 1 cs (by rw[hcs,ya]) Ad (by omega) (by omega) (by omega);obtain⟨g1,g2⟩:=grown 0;simp only[qj,qr,Array.empty_append]at g1 g2⊢;exact⟨_,_,hr,g2,⟨g1,.inr ⟨_,rfl,by omega⟩⟩,.inr rfl⟩
 ·have Ao:=hf g rfl;by_cases hroom:n+1<=Ac
  ·have Aa:f g=some (.cells Ab T (0,0),.cells (over Ab (n*i.size) cs) T (0,0)):=by
    rw[Ao];simp[fOf,hg,show n<Ac by omega]
   have Am:Ab.size=Ac*i.size:=Ai;have Al:(n+1)*i.size<=Ac*i.size:=jO _ hroom;rw[jd,ya]at Al;have Af:n*i.size+cs.length<=Ab.size:=by omega
   obtain⟨c2,e2,e3,e4,e5⟩:∃c2,W.heap[g]?=some (.cells c2 T (0,0))/\c2.size=Ab.size/\over c2 (n*i.size) cs=over Ab (n*i.size) cs/\c2.toList.take (n*i.size)=Ab.toList.take (n*i.size):=by
    rcases tt2 hW Aa hg with e|e
    ·exact⟨Ab,e,rfl,rfl,rfl⟩
    ·refine⟨_,e,os5 Af,oo3 Af,?_⟩;have hl:(Ab.toList.take (n*i.size)).length=n*i.size:=by simp;omega
     unfold over;rw[zN];exact qAx hl
   have hr:=run_append_room (P:=P) W t ty T i ht hi g n Ac c2 e2 ⟨h,0,none⟩ 1 1 cs (by rw[hcs,ya]) Ad h1 hroom (by omega);have hb:(W.setRow g (over c2 (n*i.size) cs)).heap[g]?=some (.cells (over Ab (n*i.size) cs) T (0,0)):=by rw[e4];exact setRow_heap W g c2 _ T _ e2
   refine⟨_,_,hr,⟨rfl,rfl,rfl,by rw[setRow_size];exact qC _,fun j hj=>?_⟩,⟨⟨Ae,.inr ⟨g,Ac,_,rfl,Ap,hb,hroom,Ak,by rw[os5 Af,Am],?_⟩⟩,.inl ⟨rfl,g,_,_,rfl,Aa,hb⟩⟩,.inl rfl⟩
   ·by_cases hjg:j=g
    ·subst hjg;rcases tt2 hW Aa hg with e|e
     ·exact .inr ⟨_,_,Aa,e,hb⟩
     ·exact .inl (hb.trans e.symm)
    ·exact .inl (setRow_other W g j _ hjg)
   ·have:=ot2 Af;rw[<-Ae,qI,hown.1,this,Ag]
  ·have Aa:f g=none:=by
    rw[Ao];simp[fOf,show ¬n<Ac by omega]
   have Aq:W.heap[g]?=some (.cells Ab T (0,0)):=(tb2 hW (qA.1 hg).1 Aa).trans hg;have Aj:W.ownsRow N T i.size (.slice (some ⟨g,0,none⟩) n Ac) n xs:=⟨hown.1,.inr ⟨g,Ac,Ab,rfl,Ap,Aq,As,Ak,Ai,Ag⟩⟩
   have hr:=run_append_grow (P:=P) W t ty T i z ht hi hz ⟨g,0,none⟩ n Ac xs hown.1 (Aj.cells (g:=g) rfl) ⟨h,0,none⟩ 1 1 cs (by rw[hcs,ya]) Ad (by omega) (by omega) (growslice_fits (by omega) hbytes);obtain⟨g1,g2⟩:=grown Ac;exact⟨_,_,hr,g2,⟨g1,.inr ⟨_,rfl,by omega⟩⟩,.inr rfl⟩
theorem ta4{P:Program}{f:Nat->Option (Obj×Obj)}{N k n bytes:Nat}{t ty T:TypeId}{i:TypeInfo}{z v vs:Value}{xs cs:List Value}{w0 W:World}
  (ht:P.underlying t=some (.slice T)) (hi:P.info? T=some i) (hz:i.zero=some z) (hsize:i.size=k) (hby:i.bytes=bytes) (hzs:z.cells.size=k) (hk:0<k)
  (hW:(turns f).r w0 W) (hown:w0.ownsRow N T k v n xs) (hf:∀h,v.ownBlock=some h->f h=fOf w0 v k cs h)
  (hcs:cs.length=k) (h1:∀u∈cs,u.oneCell'=true) (hn:n+1<=maxLen) (hbytes:(n+1)*bytes<=140737488355328) (hNB:N<=w0.heap.size) (hv:newR w0.heap.size cs vs W) :
  ∃v' W',(Builtin.append_ #[t,t] ty #[v,vs]).run P W = .ok v' W'/\(turns f).r W W'/\appd f w0.heap.size N T k (n+1) (xs++cs) v.ownBlock v' W':=
 let⟨v',W',h1,h2,h3,_⟩:=taa (ty:=ty) ht hi hz hsize hby hzs hk hW hown hf hcs h1 hn hbytes hNB hv
 ⟨v',W',h1,h2,h3⟩
end Go.Proofs.Q9
namespace Go.Proofs.Q9
open Go.RowKit Go.Sort
open Tess (CK Pay)
section
variable {N:Nat} {D:Nat×Nat->Prop} {T S:Nat->Nat} {V:Nat×Nat->Value} {L:Nat×Nat->List (List Value)} {W W':World}
theorem Fam.puts(h:Fam N D T S V L W){f:Nat->Option (Obj×Obj)}(hW:(turns f).r W W')(V':Nat×Nat->Value)(L':Nat×Nat->List (List Value))
  (hk:∀i,D i->(V' i=V i/\L' i=L i/\∀g,(V i).ownBlock=some g->f g=none) ∨
    ∃x,L' i=L i++[x]/\appd f W.heap.size N (T i.2) (S i.2) ((L i).length+1) ((L i).flatten++x) (V i).ownBlock (V' i) W')
  (hnn:∀i j,D i->D j->i≠j->∀g,(V' i).ownBlock=some g->W.heap.size<=g->(V' j).ownBlock≠some g):Fam N D T S V' L' W':=by
 have hb:∀i,D i->(V' i).ownBlock=(V i).ownBlock∨∃g,(V' i).ownBlock=some g/\W.heap.size<=g:=fun i hi=>by
  rcases hk i hi with⟨e,_⟩|⟨x,_,_,⟨e,_⟩|e⟩
  ·exact .inl (by rw[e])
  ·exact .inl e
  ·exact .inr e
 refine⟨fun i hi=>?_,fun i j hi hj hne=>?_,fun i hi hl=>?_⟩
 ·rcases hk i hi with⟨e1,e2,e3⟩|⟨x,e1,e2,_⟩
  ·rw[e1,e2];obtain⟨hl,h2|⟨g',Aa,Ab,Ad,Ae,Ac,r'⟩⟩:=h.own i hi
   ·exact⟨hl,.inl h2⟩
   ·exact⟨hl,.inr ⟨g',Aa,Ab,Ad,Ae,(tb2 hW (qA.1 Ac).1 (e3 g' (by rw[Ad];rfl))).trans Ac,r'⟩⟩
  ·rw[e1];simpa using e2
 ·rcases hb i hi with e|⟨g,e1,e2⟩
  ·rcases hb j hj with e'|⟨g,e1,e2⟩
   ·rw[e,e'];exact h.apart i j hi hj hne
   ·exact .inr fun e3=>hnn j i hj hi (xR hne) g e1 e2 (e3.trans e1)
  ·exact .inr fun e3=>hnn i j hi hj hne g e1 e2 (e3.symm.trans e1)
 ·rcases hk i hi with⟨e1,e2,_⟩|⟨x,e1,_⟩
  ·rw[e1];exact h.nil i hi (by rw[<-e2];exact hl)
  ·rw[e1]at hl;exact absurd hl (by simp)
end
theorem Kn{f:Nat->Option (Obj×Obj)}{r:Nat}{wb w w':World}(h:Kept wb.heap.size r wb w)(hr:(turns f).r w w')(hf:∀y,y<wb.heap.size->y≠r->f y=none):Kept wb.heap.size r wb w':=
 ⟨hr.1.trans h.os,hr.2.1.trans h.tape,hr.2.2.1.trans h.output,qt h.size hr.2.2.2.1,fun k h1 h2=>(tb2 hr (qF h1 h.size) (hf k h1 h2)).trans (h.block k h1 h2)⟩
theorem fOk{W:World}{N:Nat}{T t:TypeId}{k kk n y:Nat}{v:Value}{xs cs:List Value}{cur:Array Value}{fz:Nat×Nat}(ho:W.ownsRow N T k v n xs)(hy:W.heap[y]?=some (.cells cur t fz))(hne:t≠T):fOf W v kk cs y=none:=
 fOn fun e=>by
  rcases ho.2 with⟨rfl,_⟩|⟨g',cap,c2,hv,_,h3,_⟩
  ·simp[Value.ownBlock]at e
  ·rw[hv]at e;have e:=zr e;change g'=y at e;rw[e,hy]at h3;cases h3
   exact hne rfl
def posF(fd:Nat):Nat:=if fd=0 then 1 else fd+2
theorem cCa(E:Nat->CK×Pay)(V:Nat×Nat->Value)(k i:Nat)(hi:i<6):(celC E V k)[i]?=some (if i=0 then .int .i64 (E k).1.1 else if i=1 then V (k,0)else if i=2 then .int .i64 (E k).2.n else if i=3 then V (k,1)else if i=4 then V (k,2)else V (k,3)):=by unfold celC;rcases i with _|_|_|_|_|_|i<;>first|rfl|omega
theorem cCs{E E':Nat->CK×Pay}{V:Nat×Nat->Value}{A:Array Value}{n k fd:Nat}{v':Value}(hk:k<n)(hfd:fd<4)(hA:∀j,j<n->∀i,i<6->A[j*6+i]?=(celC E V j)[i]?)(hT:∀j,(E' j).1.1=(E j).1.1/\(E' j).2.n=(E j).2.n) :
  ∀j,j<n->∀i,i<6->(A.setIfInBounds (k*6+posF fd) v')[j*6+i]?=(celC E' (fun i=>if i=(k,fd)then v' else V i) j)[i]?:=by
 intro j hj i hi;have hp:posF fd<6/\(posF fd=1∨posF fd=3∨posF fd=4∨posF fd=5):=by unfold posF;split<;>omega
 have h0:=hA j hj i hi;rw[cCa _ _ _ _ hi]at h0⊢;rw[(hT j).1,(hT j).2];by_cases e:k*6+posF fd=j*6+i
 ·have e1:j=k:=by omega
  have e2:i=posF fd:=by omega
  subst e1;subst e2;have Ac:j*6+posF fd<A.size:=(qA.1 h0).1;rw[zt,qR rfl,qR Ac];unfold posF;rcases fd with _|_|_|_|fd
  ·simp
  ·simp
  ·simp
  ·simp
  ·omega
 ·rw[zt,qH e,h0];congr 1;have Ab:∀m,(j=k/\m=fd)->i≠posF m:=fun m ⟨h1,h2⟩ h3=>e (by subst h1;subst h2;omega)
  have Aa:∀m,i=posF m->V (j,m)=(if(j,m)=(k,fd)then v' else V (j,m)):=fun m hm=>by
   rw[qH];intro h3;cases h3
   exact Ab _ ⟨rfl,rfl⟩ hm
  split
  ·rfl
  split
  ·rename_i h1;exact Aa 0 h1
  split
  ·rfl
  split
  ·rename_i h1;exact Aa 1 h1
  split
  ·rename_i h1;exact Aa 2 h1
  ·exact Aa 3 (by show i=5;omega)
section
variable {r g n:Nat} {E E':Nat->CK×Pay} {V:Nat×Nat->Value} {b:ByteArray} {v1 v2 v3:Value} {W W':World}
theorem SRd.lt(h:SRd r g n E V b v1 v2 v3 W):g<W.heap.size:=by obtain⟨A,hA,_⟩:=h.arr;exact(qA.1 hA).1
theorem SRd.below(h:SRd r g n E V b v1 v2 v3 W)(hb:Below W.heap.size W W'):SRd r g n E V b v1 v2 v3 W':=
 ⟨h.rg,h.rdr.below hb,by obtain⟨A,hA,hc⟩:=h.arr;exact⟨A,(hb.block g (qA.1 hA).1).trans hA,hc⟩,h.fam.below hb⟩
theorem SRd.congr(h:SRd r g n E V b v1 v2 v3 W)(hE:∀k,k<n->E' k=E k):SRd r g n E' V b v1 v2 v3 W:=by
 have hL:∀i:Nat×Nat,i.1<n->celL E' i=celL E i:=fun i hi=>by unfold celL;rw[hE i.1 hi]
 obtain⟨A,hA,hc⟩:=h.arr;refine⟨h.rg,h.rdr,⟨A,hA,fun k hk i hi=>?_⟩,fun i hi=>?_,h.fam.apart,fun i hi e=>h.fam.nil i hi (by rw[<-hL i hi.1];exact e)⟩
 ·rw[hc k hk i hi];unfold celC;rw[hE k hk]
 ·rw[hL i hi.1];exact h.fam.own i hi
theorem SRd.kR2(h:SRd r g n E V b v1 v2 v3 W)(hk:Kept W.heap.size r W W'){b':ByteArray}(hr:Rdr r b' v1 v2 v3 (.slice (some ⟨g,0,none⟩) n n) W'):SRd r g n E V b' v1 v2 v3 W':=by have Aa:=h.rg;obtain⟨A,hA,hc⟩:=h.arr;exact⟨Aa,hr,⟨A,(hk.block g (qA.1 hA).1 (by omega)).trans hA,hc⟩,h.fam.kept (by omega) hk⟩
theorem SRd.other(h:SRd r g n E V b v1 v2 v3 W){y i:Nat}{cur:Array Value}{t:TypeId}{fz:Nat×Nat}(hy:W.heap[y]?=some (.cells cur t fz))(h1:t≠72)(h2:t≠56)(h3:∀fd,fd<4->t≠celT fd)(u:Value):SRd r g n E V b v1 v2 v3 (W.setCell ⟨y,i,none⟩ u):=by
 obtain⟨A,hA,hc⟩:=h.arr;have e1:r≠y:=fun e=>by have:=h.rdr;unfold Rdr at this;rw[e,hy]at this;cases this;exact h1 rfl
 have e2:g≠y:=fun e=>by rw[e,hy]at hA;cases hA;exact h2 rfl
 exact⟨h.rg,(qW _ _ _ _ e1).trans h.rdr,⟨A,(qW _ _ _ _ e2).trans hA,hc⟩,fun i hi=>ok2 (h.fam.own i hi) hy (h3 i.2 hi.2) u,h.fam.apart,h.fam.nil⟩
theorem SRd.low(h:SRd r g n E V b v1 v2 v3 W){i:Nat×Nat}(hi:i.1<n/\i.2<4):∀x,(V i).ownBlock=some x->g<x/\x<W.heap.size:=fun x e=>(h.fam.own i hi).lt x e
theorem SRd.push(h:SRd r g n E V b v1 v2 v3 W){k fd:Nat}(hk:k<n)(hfd:fd<4){x:List Value}{v':Value}(hE:∀i,celL E' i=if i=(k,fd)then celL E i++[x]else celL E i)(hT:∀j,(E' j).1.1=(E j).1.1/\(E' j).2.n=(E j).2.n)
  (hW:(turns (fOf W (V (k,fd)) (celS fd) x)).r W W') (ha:appd (fOf W (V (k,fd)) (celS fd) x) W.heap.size (g+1) (celT fd) (celS fd) ((celL E (k,fd)).length+1) ((celL E (k,fd)).flatten++x) (V (k,fd)).ownBlock v' W') :
  SRd r g n E' (fun i=>if i=(k,fd)then v' else V i) b v1 v2 v3 (W'.setCell ⟨g,k*6+posF fd,none⟩ v'):=by
 have Ad:=h.rg;have Aa:∀y,y<=g->fOf W (V (k,fd)) (celS fd) x y=none:=fun y hy=>fOn fun e=>by have:=(h.low (i:=(k,fd)) ⟨hk,hfd⟩ y e).1;omega
 obtain⟨A,hA,hc⟩:=h.arr;have Ab:=(tb2 hW (qA.1 hA).1 (Aa g (qC _))).trans hA;have Ac:=(tb2 hW h.rdr.lt (Aa r (by omega))).trans h.rdr;refine⟨Ad,(qW _ _ _ _ (show r≠g by omega)).trans Ac,⟨_,qO _ _ _ _ _ v' Ab,cCs hk hfd hc hT⟩,?_⟩;refine Fam.set ?_ (zQ g) _;refine Fam.puts h.fam hW _ _ (fun i hi=>?_) (fun i j hi hj hne y e1 e2=>?_)
 ·by_cases e:i=(k,fd)
  ·refine .inr ⟨x,by rw[hE,qR e],?_⟩;subst e;simpa using ha
  ·refine .inl ⟨qH e,by rw[hE,qH e],fun y hy=>fOn fun e3=>?_⟩;rcases h.fam.apart i (k,fd) hi ⟨hk,hfd⟩ e with e4|e4
   ·rw[hy]at e4;cases e4
   ·exact e4 (hy.trans e3.symm)
 ·by_cases e:i=(k,fd)
  ·have e':j≠(k,fd):=fun e'=>hne (e.trans e'.symm);simp only[qH e'];intro e3;have:=(h.low hj y e3).2;omega
  ·simp only[qH e]at e1;have:=(h.low hi y e1).2;omega
theorem SRd.pu2(h:SRd r g n E V b v1 v2 v3 W){k:Nat}(hk:k<n){x y:List Value}{v' u':Value}(hE:∀i:Nat×Nat,i.2<4->celL E' i=if i=(k,3)then celL E i++[y]else if i=(k,2)then celL E i++[x]else celL E i)(hT:∀j,(E' j).1.1=(E j).1.1/\(E' j).2.n=(E j).2.n)
  {f:Nat->Option (Obj×Obj)} (hf:∀z,f z=(fOf W (V (k,2)) (celS 2) x z).or (fOf W (V (k,3)) (celS 3) y z)) (hW:(turns f).r W W')
  (ha:appd f W.heap.size (g+1) (celT 2) (celS 2) ((celL E (k,2)).length+1) ((celL E (k,2)).flatten++x) (V (k,2)).ownBlock v' W')
  (hb:appd f W.heap.size (g+1) (celT 3) (celS 3) ((celL E (k,3)).length+1) ((celL E (k,3)).flatten++y) (V (k,3)).ownBlock u' W')
  (hne:∀z,u'.ownBlock=some z->W.heap.size<=z->v'.ownBlock≠some z) :
  SRd r g n E' (fun i=>if i=(k,3)then u' else if i=(k,2)then v' else V i) b v1 v2 v3 ((W'.setCell ⟨g,k*6+4,none⟩ v').setCell ⟨g,k*6+5,none⟩ u'):=by
 have Af:=h.rg
 have Ac:∀z,z<=g->f z=none:=fun z hz=>by rw[hf,fOn fun e=>by have:=(h.low (i:=(k,2)) ⟨hk,by omega⟩ z e).1;omega,fOn fun e=>by have:=(h.low (i:=(k,3)) ⟨hk,by omega⟩ z e).1;omega];rfl
 obtain⟨A,hA,hc⟩:=h.arr;have Ad:=(tb2 hW (qA.1 hA).1 (Ac g (qC _))).trans hA;have Ae:=(tb2 hW h.rdr.lt (Ac r (by omega))).trans h.rdr;have h1:=cCs (E:=E) (E':=E) (V:=V) (fd:=2) (v':=v') hk (by omega) hc (fun _=>⟨rfl,rfl⟩);have h2:=cCs (E:=E) (E':=E') (fd:=3) (v':=u') hk (by omega) h1 hT
 refine⟨Af,(qW _ _ _ _ (show r≠g by omega)).trans ((qW _ _ _ _ (show r≠g by omega)).trans Ae),⟨_,qO _ _ _ _ _ u' (qO _ _ _ _ _ v' Ad),h2⟩,?_⟩;refine Fam.set (Fam.set ?_ (zQ g) _) (zQ g) _;have Ab:((k,3):Nat×Nat)≠(k,2):=fun e=>by cases e
 refine Fam.puts h.fam hW _ _ (fun i hi=>?_) (fun i j hi hj hne' z e1 e2=>?_)
 ·by_cases e:i=(k,3)
  ·refine .inr ⟨y,by rw[hE i hi.2,qR e],?_⟩;subst e;simpa using hb
  ·by_cases e':i=(k,2)
   ·refine .inr ⟨x,by rw[hE i hi.2,qH e,qR e'],?_⟩;subst e';simpa[Ab]using ha
   ·refine .inl ⟨by simp only[qH e,qH e'],by rw[hE i hi.2,qH e,qH e'],fun z hz=>?_⟩;rw[hf,fOn,fOn]
    ·rfl
    ·intro e3;rcases h.fam.apart i (k,3) hi ⟨hk,by omega⟩ e with e4|e4
     ·rw[hz]at e4;cases e4
     ·exact e4 (hz.trans e3.symm)
    ·intro e3;rcases h.fam.apart i (k,2) hi ⟨hk,by omega⟩ e' with e4|e4
     ·rw[hz]at e4;cases e4
     ·exact e4 (hz.trans e3.symm)
 ·by_cases ei:i=(k,3)
  ·by_cases ej:j=(k,2)
   ·subst ei;subst ej;simp only[jH,qH (xR Ab)]at e1⊢;exact hne z e1 e2
   ·have Aa:j≠(k,3):=fun e=>hne' (ei.trans e.symm);simp only[qH ej,qH Aa];intro e3;have:=(h.low hj z e3).2;omega
  ·by_cases ei2:i=(k,2)
   ·by_cases ej:j=(k,3)
    ·subst ei2;subst ej;simp only[qH (xR Ab),jH]at e1⊢;exact fun e3=>hne z e3 e2 e1
    ·have Aa:j≠(k,2):=fun e=>hne' (ei2.trans e.symm);simp only[qH ej,qH Aa];intro e3;have:=(h.low hj z e3).2;omega
   ·simp only[qH ei,qH ei2]at e1;have:=(h.low hi z e1).2;omega
end
end Go.Proofs.Q9
namespace Tess
open Go Go.RowKit Go.Proofs.Q9
def cel0(ts ns:List Int):Nat->CK×Pay:=fun k=>((ts.getD k 0,[]),⟨ns.getD k 0,[],[],[]⟩)
end Tess
namespace Go.Proofs.Q9
open Go.RowKit Go.Sort
open Tess (CK Pay cel0)
section
variable {P:Program} {w:World} {ops:Array Oper} {rest:List Oper} {o:Oper} {a:Act} {Q:Exit->Act->World->Prop}
theorem wLm(l c:Operand)(t:TypeId)(hop:o.op=Op.makeSlice t l c)
  (e:TypeId) (i:TypeInfo) (z:Value) (h1:P.underlying t=some (.slice e)) (h2:P.info? e=some i) (h3:i.zero=some z)
  (kl kc:IntKind) (L C:Int) (n:Nat) (hl:a.eval l = .int kl L) (hc:a.eval c = .int kc C) (hL:L=(n:Int)) (hC:C=(n:Int)) (b2:i.bytes*n<=281474976710656) (b3:n<=9223372036854775807)
  (h:∀w1:World,Below w.heap.size w w1->w1.heap.size=w.heap.size+1->w1.heap[w.heap.size]?=some (.cells (madeCells z.cells (n*i.size)) e (0,0))->wpList P ops Q rest (a.put o.dst (.slice (some ⟨w.heap.size,0,none⟩) n n)) w1) (hgd:Region.wanted o (yielded ops a.tmps)=true:=by first|(simp only[Region.wanted];done)|(simp[Region.wanted,yielded];done)) :
  wpList P ops Q (o::rest) a w:=by
 refine wLw hgd fun K hK=>?_;subst hL;subst hC;have Aa:=run_make (P:=P) w t e i z h1 h2 h3 kl kc n n (by omega) (by omega) (by rw[<-xZ];omega) (by omega);simp only[xj]at Aa;unfold Oper.wp;simp only[execOp,hop,hl,hc,Aa,Result.andThen,xz,Sem.run_pure];exact hK _ _ (h _ ((qJ _ _).alloc (qC _) _) (by simp) (jY _ _))
end
theorem ma4(z:Array Value)(n k i:Nat)(hz:z.size=6)(hk:k<n)(hi:i<6):(madeCells z (n*6))[k*6+i]?=z[i]?:=by
 have Aa:k*6+i<n*6:=by omega
 have hm:(k*6+i)%6=i:=by omega
 simp[madeCells,hz,Aa,hm,hi]
def TimP(a2:Addr)(wb:World)(r:Nat)(o:Option (List Int×List Int×ByteArray))(v1 v2 v3:Value)(e:Ending)(w':World):Prop:=
 e = .returned (sErr a2 o.isSome)/\Kept wb.heap.size r wb w'/\∀x,o=some x->∃g,SRd r g x.1.length (cel0 x.1 x.2.1) (fun _=>.slice none 0 0) x.2.2 v1 v2 v3 w'/\wb.heap.size<=g
theorem sa13(a0 a1 a2:Addr)(wb:World)(r:Nat)(i:Int)(b:ByteArray)(v1 v2 v3 v4:Value)(w:World)(hv:∀W,Kept wb.heap.size r wb W->DV2 a0 a1 W/\SV a2 W)(hwb:Kept wb.heap.size r wb w)(hr:Rdr r b v1 v2 v3 v4 w) :
  Calls Tryz.prog 83 #[.pointer (some ⟨r,0,none⟩),.int .i64 i] w (TimP a2 wb r (Tess.tS2 b) v1 v2 v3):=by
 have HU:=Hd (ua2 a0 a1 b w (hv _ hwb).1);have HV:=Hd hv;have HR:=Hd hr;have Bj:=Hd hwb;have HT:RowKit.Hid (Tess.tS2 b=if(Tess.uW b).2.2=0 then match Tess.nR (Tess.uW b).1.length (Tess.uW b).2.1 with|some (m,e)=>some ((Tess.uW b).1,m,e)|none=>none else none):=Hd rfl;have Au:=Hd (Tess.nRo b);have HL:=Hd (Tess.uWf b);obtain⟨c0,_⟩:=hr.cells;have Co:=hr.lt;obtain⟨T,hT⟩:=Xq (Tess.tS2 b)
 rw[<-hT]at HT⊢;clear hT hv hwb hr;obtain⟨⟨l,rest,As⟩,hu⟩:∃u,u=Tess.uW b:=⟨_,rfl⟩
 rw[<-hu]at HU HT Au HL;dsimp only at HU HT Au HL;clear hu;go_enter Tryz.func83,Tryz.ntmps83;by_cases hc:As=0;rotate_left
 ·have Cl:¬(As:Int)=0:=by omega
  rw[qH hc]at HT;go_wp2_with (go_at_call 132;refine HU.out.mono ?_;rintro e w1 ⟨v,rfl,hv,hB⟩;obtain⟨a,B4,rfl,A5,_⟩:=so3 (Value.int .i64) (SlOf.owned hv);have HB:=Hd (Kt Bj.out hB);have g3:=(HV.out _ HB.out).2.g3;clear hv hB);go_ret;rw[HT.out];exact⟨rfl,HB.out,fun x h=>by cases h⟩
 subst hc;rw[qR rfl]at HT;have Ab:=HL.out.1;have Ba:=Au.out rfl;obtain⟨n,hn⟩:=Xq l.length
 rw[<-hn]at HT Ba Ab;have Cg:=Hd Ba;clear Ba Au;have Aq:=Hd hn;clear hn;obtain⟨i0,hi,By,Cp,B9⟩:=zF iC
 go_wp2_with (first
  |(go_at_call 132;refine HU.out.mono ?_;rintro e w1 ⟨v,rfl,hv,hB⟩;obtain⟨a,B4,rfl,A5,_⟩:=so3 (Value.int .i64) (SlOf.owned hv);rw[<-Aq.out];have HB:=Hd (Kt Bj.out hB);have Bt:=Hd (HR.out.below hB);clear hv hB)
  |(at_make;refine wLm (.tmp 27) (.tmp 27) 28 rfl 56 i0 _ Tryz.underlying28 hi By .i64 .i64 _ _ n rfl rfl rfl rfl (by rw[B9];omega) (by omega) ?_))
 intro w2 A6 Ak Ax;have HA:=Hd (fun k i (hk:k<n) (hi:i<6)=>ma4 #[.int .i64 0,.slice none 0 0,.int .i64 0,.slice none 0 0,.slice none 0 0,.slice none 0 0] n k i rfl hk hi);obtain⟨g,hg⟩:=Xq w1.heap.size
 have B2:r<g:=by rw[hg];exact Bt.out.lt
 have A2:=Hd (show wb.heap.size<=g by rw[hg];exact HB.out.size);have A9:=Hd (Bt.out.below A6);have Ch:=Hd (Kt HB.out A6);rw[<-hg]at Ak Ax⊢;generalize madeCells #[Value.int .i64 0,.slice none 0 0,.int .i64 0,.slice none 0 0,.slice none 0 0,.slice none 0 0] (n*6)=A0 at Ax HA;have B3:=Hd Ax;have q4:=A9.out.cells.2.2.2.2;have z4:=A9.out.z 4;clear A6 Ak Ax hg;go_wp2_with (fail)
 have Br:=Hd (A9.out.set4 (.slice (some ⟨g,0,none⟩) n n));have Bc:=Hd ((qW w2 ⟨r,4,none⟩ g (.slice (some ⟨g,0,none⟩) n n) (show g≠r by omega)).trans B3.out);have Av:=Hd (show Kept wb.heap.size r wb (w2.setCell ⟨r,4,none⟩ (.slice (some ⟨g,0,none⟩) n n))from Ch.out.trans (Kept.setCell _ _ _ _ _));obtain⟨w3,Bl⟩:=XQ (w2.setCell ⟨r,4,none⟩ (.slice (some ⟨g,0,none⟩) n n))
 rw[Bl]at Br Bc Av⊢;have Aa:=sa3 a0 a1 a2 r n b v1 v2 v3 (.slice (some ⟨g,0,none⟩) n n) w3 (HV.out _ Av.out).1 (HV.out _ Av.out).2 Br.out Ab;unfold NumP at Aa;rw[Cg.out]at Aa;dsimp only at Aa;rw[<-Aq.out]at Aa;refine Aa.mono ?_;clear Aa q4 z4 Bl;rintro e w4 ⟨Cn,rfl,A4,Al,Bq⟩;have Al:=ol2 Al (qN _);obtain⟨Bw,Ci,rfl,_⟩:=os4 Al;rw[show sErr a2 (some (l,rest)).isSome = .nilIface from rfl]
 have Az:=Hd ((A4.block g (qA.1 Bc.out).1 (by omega)).trans Bc.out);have An:=Hd (Kk Av.out A4);have Bd:=Hd Bq;have Bo:=Hd Al;clear A4 Al Bq;go_wp2_with (fail);have Aa:=sa3 a0 a1 a2 r n rest v1 v2 v3 (.slice (some ⟨g,0,none⟩) n n) w4 (HV.out _ An.out).1 (HV.out _ An.out).2 Bd.out Ab;unfold NumP at Aa;refine Aa.mono ?_;clear Aa;obtain⟨o,ho⟩:=Xq (Tess.nR n rest)
 have B8:=Hd (fun l e (h:o=some (l,e))=>Tess.nRl (ho.symm.trans h));rw[<-ho]at HT⊢;clear ho;cases o with
 |none=>
   dsimp only at HT;rintro e w5 ⟨v5,rfl,Ac,Ah⟩;rw[show sErr a2 (none:Option (List Int×ByteArray)).isSome = .iface 314 (.pointer (some a2))from rfl];have Ay:=Hd (Kk An.out Ac);clear Ac Ah;go_wp2_with (fail);go_ret;rw[HT.out];exact⟨rfl,Ay.out,fun x h=>by cases h⟩
 |some x=>
   obtain⟨m,e2⟩:=x;dsimp only at HT;rintro e w5 ⟨v5,rfl,Ac,Ad,Ah⟩;dsimp only at Ad Ah;have Af:=(B8.out m e2 rfl).1;rw[Af]at Ad;have Ad:=ol2 Ad (qN _);obtain⟨Ca,B6,rfl,_⟩:=os4 Ad;rw[show sErr a2 (some (m,e2)).isSome = .nilIface from rfl];have Bp:=Hd ((Ac.block g (qA.1 Az.out).1 (by omega)).trans Az.out);have Ay:=Hd (Kk An.out Ac);have Be:=Hd Ah;have Bi:=Hd Ad
   have Ao:=Hd (okK Bo.out Ac Bd.out (by decide));have q4:=Be.out.cells.2.2.2.2;have B7:=Hd Af;clear Ac Ad Ah Af;go_wp2_with (fail)
   go_loopw [56] (fun v56 wr=>∃(k:Nat) (A:Array Value),k<=n/\v56 = .int .i64 k/\Rdr r e2 v1 v2 v3 (.slice (some ⟨g,0,none⟩) n n) wr/\wr.heap[g]?=some (.cells A 56 (0,0))/\(∀j,j<n->∀i,i<6->A[j*6+i]?=if j<k then(celC (cel0 l m) (fun _=>.slice none 0 0) j)[i]? else(#[Value.int .i64 0,.slice none 0 0,.int .i64 0,.slice none 0 0,.slice none 0 0,.slice none 0 0]:Array Value)[i]?)/\wr.ownsRow 0 2 1 (.slice Bw n Ci) n (l.map (.int .i64))/\wr.ownsRow 0 2 1 (.slice Ca n B6) n (m.map (.int .i64))/\Kept wb.heap.size r wb wr) (fun v56 _=>n-(intOf v56).toNat)
   case atStart=>exact⟨0,A0,qN _,rfl,Be.out,Bp.out,fun j hj i hi=>by rw[qH (zH j)];exact HA.out j i hj hi,Ao.out,Bi.out,Ay.out⟩
   case round=>
    obtain⟨k,A,Cm,rfl,hR,hK,hA,hO,Bs,hB⟩:=hrel;have Am:=Hd hR;have Ag:=Hd hK;have Aj:=Hd hA;have A8:=Hd hO;have Ae:=Hd Bs;have Bm:=Hd hB;clear hR hK hA hO Bs hB Be Bp Ao Bi Ay Bd Az Bo An;by_cases hk:k<n
    ·have Bg:k<l.length:=by rw[<-Aq.out];exact hk
     have Bu:k<m.length:=by rw[B7.out];exact hk
     obtain⟨tb,tc,et,_,Cd,_,Bk⟩:=oc2 A8.out (by omega);obtain⟨mb,mc,em,_,Bx,_,Af⟩:=oc2 Ae.out (by omega);obtain⟨Ap,_⟩:=Bk k hk;obtain⟨Ai,_⟩:=Af k hk;rw[qp,qD Bg]at Ap;rw[qp,qD Bu]at Ai;simp only[ji,qj]at Ap Ai;have Bn:tb≠g:=fun e=>by obtain⟨c,fz,h⟩:=ok3 A8.out tb (by rw[et];rfl);rw[e,Ag.out]at h;cases h
     have Bh:mb≠g:=fun e=>by obtain⟨c,fz,h⟩:=ok3 Ae.out mb (by rw[em];rfl);rw[e,Ag.out]at h;cases h
     simp only[yQ,qAq]at et em;obtain⟨rfl,rfl⟩:=et;obtain⟨rfl,rfl⟩:=em;obtain⟨x,hx⟩:=Xq (l[k])
     obtain⟨y,hy⟩:=Xq (m[k])
     rw[<-hx]at Ap;rw[<-hy]at Ai;have HX:=Hd hx;have HY:=Hd hy;obtain⟨f,hf⟩:=Xq (fun h=>if h=g then some (.cells A 56 (0,0),.cells (A.setIfInBounds (k*6) (.int .i64 x)) 56 (0,0))else none:Nat->Option (Obj×Obj))
     have Ar:∀h,h≠g->f h=none:=fun h hh=>by rw[hf];exact qH hh
     have Bb:f g=some (.cells A 56 (0,0),.cells (A.setIfInBounds (k*6) (.int .i64 x)) 56 (0,0)):=by rw[hf];exact qR rfl
     have Cc:=Hd (fun V (hV:(turns f).r wr V)=>(ta2 hV Am.out.lt (Ar r (by omega)) (o:=4)).trans Am.out.cells.2.2.2.2);have B5:=Hd (fun V (hV:(turns f).r wr V)=>(ta2 hV Cd (Ar tb Bn) (o:=k)).trans Ap);have Ck:=Hd (fun V (hV:(turns f).r wr V)=>(ta2 hV Bx (Ar mb Bh) (o:=k)).trans Ai)
     have Cj:=Hd (fun V (hV:(turns f).r wr V)=>(show(∃old,V.cell? ⟨g,k*6,none⟩=some old)/\V.frozen? ⟨g,k*6,none⟩=false from by
      have h0:=Aj.out k hk 0 (by omega);rw[qH (jC k)]at h0;have h1:k*6<A.size:=(qA.1 h0).1;rcases tt2 hV Bb Ag.out with h|h
      ·exact⟨⟨A[k*6],by simp[World.cell?,h,h1]⟩,by simp[World.frozen?,h]⟩
      ·exact⟨⟨.int .i64 x,by simp[World.cell?,h,h1]⟩,by simp[World.frozen?,h]⟩))
     have At:=Hd Ar;have A3:=Hd Bb;clear hf Ar Bb hx hy Ap Ai Bk Af;go_wp2_with (fail)
     refine FlowR.wrf (R:=turns f) 21 (FlowR.sp3 44 (fun _=>.inl undef) (.inl ?_ :: .inl ?_ :: .inl ?_ :: .inl ?_ :: .inl ?_ :: .inl ?_ :: .inl ?_ :: .inl ?_ :: .inl ?_ :: .inl ?_ :: .inl ?_ :: .inl ?_ :: .inl ?_ :: .inl ?_ :: .inl ?_ :: .inl ?_ :: .inl ?_ :: .inl ?_ :: .inl ?_ :: .inl ?_ :: .inr (tu f g undef)::[])) (fun _=>0) (FlowR.so4 (by kernel_rfl)) (by kernel_rfl) (by kernel_rfl) ?_ ?_
     rotate_left 20
     ·refine FlowR.sm2 (fun x=>FlowR.mi _) ?_
      repeat(first|exact FlowR.ln2|refine FlowR.li2 ?_|refine FlowR.li3 (tm3 _ _) ?_)
     all_goals try simp only[qL,qY,qM,qV]
     iterate 20 (refine FlowR.tvK rfl (fun K hK=>⟨fun V hw hG=>?_,?_⟩);(have t4:=Cc.out V hw;have t5:=B5.out V hw;have t6:=Ck.out V hw;clear hG hw;unfold FlowR.Runs FlowR.yields;go_simp;try rfl);go_simp;refine hK _ ?_;clear hK K)
     (refine FlowR.tvK2 rfl (fun K hK=>⟨fun V hw hG=>?_,?_⟩);(obtain⟨c6,z6⟩:=Cj.out V hw;obtain⟨old,c6⟩:=c6;have hs:=ts3 A3.out (tt2 hw A3.out Ag.out);clear hG hw;unfold FlowR.Runs FlowR.yields;go_simp;exact hs.2);intro vt;go_simp;refine hK _ _ ?_;clear hK K)
     refine FlowR.tn2 fun w8 hw8 hG=>?_;obtain⟨_,Z,Y,h1,h2⟩:=(show tu f g undef vt w8 by simpa[FlowR.upd]using hG 20)
     rw[A3.out]at h1;cases h1
     clear hG;have Bf:=Aj.out k hk 0 (by omega);have A1:=Aj.out k hk 2 (by omega);rw[qH (jC k)]at Bf A1;have Bz:k*6<A.size:=(qA.1 Bf).1;have Ak:k*6+2<A.size:=(qA.1 A1).1
     have c2:w8.cell? ⟨g,k*6+2,none⟩=some A[k*6+2]:=by rw[qT _ _ _ _ _ _ h2,zt,qH (by omega),yB Ak]
     have z2:=zY w8 g (k*6+2) _ _ h2;have A7:=Hd h2;have B0:=Hd (show Rdr r e2 v1 v2 v3 (.slice (some ⟨g,0,none⟩) n n) w8 from(tb2 hw8 Am.out.lt (At.out r (by omega))).trans Am.out);have Bv:=Hd (to2 A8.out hw8 (fun y e=>by cases e;exact At.out _ Bn));have B1:=Hd (to2 Ae.out hw8 (fun y e=>by cases e;exact At.out _ Bh));have Ce:=Hd (Kn Bm.out hw8 (fun y hy _=>At.out y (by have:=A2.out;omega)))
     have Cb:=Hd (show ∀j,j<n->∀i,i<6->((A.setIfInBounds (k*6) (.int .i64 x)).setIfInBounds (k*6+2) (.int .i64 y))[j*6+i]?=if j<k+1 then(celC (cel0 l m) (fun _=>.slice none 0 0) j)[i]? else(#[Value.int .i64 0,.slice none 0 0,.int .i64 0,.slice none 0 0,.slice none 0 0,.slice none 0 0]:Array Value)[i]? from fun j hj i hi=>by
      have Aw:=Aj.out j hj i hi;rw[zt,zt,xp];by_cases ej:j=k
      ·subst ej;rw[qH (jC _)]at Aw;rw[qR (zQ _),cCa _ _ _ _ hi];have e1:l.getD j 0=x:=by rw[qE,qD Bg,HX.out];rfl
       have e2:m.getD j 0=y:=by rw[qE,qD Bu,HY.out];rfl
       unfold cel0;simp only[e1,e2];rcases i with _|_|_|i
       ·rw[qH (by omega),qR (by omega),qR Bz];rfl
       ·rw[qH (by omega),qH (by omega),Aw];rfl
       ·rw[qR (by omega),qR Ak];rfl
       ·rw[qH (by omega),qH (by omega),Aw];rcases i with _|_|_|i
        ·rfl
        ·rfl
        ·rfl
        ·omega
      ·rw[qH (by omega),qH (by omega),Aw];by_cases e:j<k
       ·rw[qR e,qR (by omega)]
       ·rw[qH e,qH (by omega)])
     clear hw8 h2 Bf A1;go_wp2_with (fail);go_roundw
     case rel=>
      refine⟨k+1,_,by omega,by go_num,(qW _ _ _ _ (show r≠g by omega)).trans B0.out,qO _ _ _ _ _ (.int .i64 y) A7.out,Cb.out,ok2 Bv.out A7.out (by decide) _,ok2 B1.out A7.out (by decide) _,Kg Ce.out A2.out _⟩
     case measure=>simp[intOf];omega
    ·have Cf:k=n:=by omega
     subst Cf;go_wp2_with (fail);go_ret;rw[HT.out];refine⟨rfl,Bm.out,fun x h=>?_⟩;cases h
     refine⟨g,⟨B2,by rw[<-Aq.out];exact Am.out,⟨A,Ag.out,fun j hj i hi=>?_⟩,?_⟩,A2.out⟩
     ·dsimp only at hj;rw[<-Aq.out]at hj;rw[Aj.out j hj i hi,qR hj]
     ·have e:celL (cel0 l m)=fun _=>[]:=by
       funext i;unfold celL cel0;simp
      rw[e];exact Fam.new _
end Go.Proofs.Q9
namespace Tess
open Go Go.RowKit Go.Proofs.Q9
def pD2(c:CK×Pay)(d:DV):CK×Pay:=((c.1.1,c.1.2++[d]),c.2)
theorem mMn{α β:Type}(f:α->Option β):∀(l:List α),(∃x∈l,f x=none)->l.mapM f=none
 |[],h=>by obtain⟨x,hx,_⟩:=h;cases hx
 |y::l,h=>by
   rw[qBn];cases hy:f y with
   |none=>rfl
   |some z=>
     obtain⟨x,hx,hn⟩:=h;rcases qm.1 hx with rfl|hx
     ·rw[hy]at hn;cases hn
     ·rw[mMn f l ⟨x,hx,hn⟩];rfl
end Tess
namespace Go.Proofs.Q9
open Go.RowKit Go.Sort
open Tess (CK Pay DV pD2)
def DimP(a2:Addr)(wb:World)(r g n:Nat)(E:Nat->CK×Pay)(o:Option (List DV×ByteArray))(v1 v2 v3:Value)(e:Ending)(w':World):Prop:=
 e = .returned (sErr a2 o.isSome)/\Kept wb.heap.size r wb w'/\∀x,o=some x->∃V,SRd r g n (fun k=>pD2 (E k) (x.1.getD k none)) V x.2 v1 v2 v3 w'
theorem sb3(a0 a1 a2:Addr)(wb:World)(r g n:Nat)(i:Int)(E:Nat->CK×Pay)(V:Nat×Nat->Value)(b:ByteArray)(v1 v2 v3:Value)(w:World)(hv:∀W,Kept wb.heap.size r wb W->DV2 a0 a1 W/\SV a2 W)(hwb:Kept wb.heap.size r wb w)(hr:SRd r g n E V b v1 v2 v3 w)(hb:b.size<=1000000)(hbad:¬((Tess.decW b).2.2=0/\(Tess.uP (Tess.decW b).2.1).2.2=0/\(Tess.uP (Tess.decW b).2.1).1.length=n)) :
  Calls Tryz.prog 84 #[.pointer (some ⟨r,0,none⟩),.int .i64 i] w (DimP a2 wb r g n E (Tess.dimS n b) v1 v2 v3):=by
 have HD:=Hd (do3 a0 a1 b w (hv _ hwb).1 hb);have HV:=Hd hv;have HR:=Hd hr;have Ae:=Hd hwb;have HT:RowKit.Hid (Tess.dimS n b=if(Tess.decW b).2.2=0 then(if(Tess.uP (Tess.decW b).2.1).2.2=0/\(Tess.uP (Tess.decW b).2.1).1.length=n then(match (Tess.uP (Tess.decW b).2.1).1.mapM (Tess.vA2 (Tess.decW b).1)with|some l=>some (l,(Tess.uP (Tess.decW b).2.1).2.1)|none=>none)else none)else none):=Hd rfl
 obtain⟨c0,c1,c2,c3,c4⟩:=hr.rdr.cells;have Al:=hr.rdr.lt;obtain⟨T,hT⟩:=Xq (Tess.dimS n b)
 rw[<-hT]at HT⊢;clear hT hv hwb hr;obtain⟨⟨d,rest,Ad⟩,hu⟩:∃u,u=Tess.decW b:=⟨_,rfl⟩
 unfold DPO at HD;rw[<-hu]at HD HT hbad;dsimp only at HD HT hbad;clear hu;go_enter Tryz.func84,Tryz.ntmps84;by_cases hc:Ad=0;rotate_left
 ·have Aj:¬(Ad:Int)=0:=by omega
  rw[qH hc]at HT;go_wp2_with (go_at_call 133;refine HD.out.mono ?_;rintro e w1 ⟨v,rfl,hv,hB⟩;obtain⟨a,Ah,rfl,Ac,_⟩:=so3 (Value.string) (SlOf.owned hv);have HB:=Hd (Kt Ae.out hB);have g3:=(HV.out _ HB.out).2.g3;clear hv hB);go_ret;rw[HT.out];exact⟨rfl,HB.out,fun x h=>by cases h⟩
 subst hc;rw[qR rfl]at HT;have HU:=Hd (fun(W:World) (hB:Kept wb.heap.size r wb W)=>pa2 a0 a1 rest W (HV.out _ hB).1);unfold PP2 at HU;obtain⟨⟨ls,Ai,Aa⟩,hu⟩:∃u,u=Tess.uP rest:=⟨_,rfl⟩
 rw[<-hu]at HU HT hbad;dsimp only at HU HT hbad;clear hu;by_cases hc:Aa=0;rotate_left
 ·have Aj:¬(Aa:Int)=0:=by omega
  rw[qH (fun h=>hc h.1)]at HT
  go_wp2_with (first
   |(go_at_call 133;refine HD.out.mono ?_;rintro e w1 ⟨v,rfl,hv,hB⟩;obtain⟨a,Ah,rfl,Ac,_⟩:=so3 (Value.string) (SlOf.owned hv);have HB:=Hd (Kt Ae.out hB);have Af:=Hd (HR.out.below hB);clear hv hB)
   |(go_at_call 134;refine(HU.out _ HB.out).mono ?_;rintro e w2 ⟨a',Ag,rfl,hv,hB⟩;have Ak:=(so3 (fun m:Nat=>Value.int .i64 m) (SlOf.owned hv));have Ab:=Hd (Kt HB.out hB);have g3:=(HV.out _ Ab.out).2.g3;have q4:=(Af.out.below hB).rdr.cells.2.2.2.2;clear hv hB))
  go_ret;rw[HT.out];exact⟨rfl,Ab.out,fun x h=>by cases h⟩
 subst hc;have hl:¬ls.length=n:=fun h=>hbad ⟨rfl,rfl,h⟩
 ·have Am:¬(ls.length:Int)=(n:Int):=by omega
  rw[qH (fun h=>hl h.2)]at HT
  go_wp2_with (first
   |(go_at_call 133;refine HD.out.mono ?_;rintro e w1 ⟨v,rfl,hv,hB⟩;obtain⟨a,Ah,rfl,Ac,_⟩:=so3 (Value.string) (SlOf.owned hv);have HB:=Hd (Kt Ae.out hB);have Af:=Hd (HR.out.below hB);clear hv hB)
   |(go_at_call 134;refine(HU.out _ HB.out).mono ?_;rintro e w2 ⟨a',Ag,rfl,hv,hB⟩;have Ab:=Hd (Kt HB.out hB);have g3:=(HV.out _ Ab.out).2.g3;have q4:=(Af.out.below hB).rdr.cells.2.2.2.2;clear hv hB))
  go_ret;rw[HT.out];exact⟨rfl,Ab.out,fun x h=>by cases h⟩
