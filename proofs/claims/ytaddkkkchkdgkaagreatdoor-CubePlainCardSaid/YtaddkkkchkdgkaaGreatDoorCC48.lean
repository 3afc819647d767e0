/- Joined by mergeK.py: H14, F34, H18, H19, K70, K72, K79, K77p, K80p, K80h, K81, K83, K83p, K85p -/
import Derived.Test.YtaddkkkchkdgkaaGreatDoorCC40
import Derived.Test.YtaddkkkchkdgkaaGreatDoorCC46
import Derived.Test.YtaddkkkchkdgkaaGreatDoorCC42
import Derived.Test.YtaddkkkchkdgkaaGreatDoorCC12
import Derived.Lib.SmallJoins
import Derived.Test.YtaddkkkchkdgkaaGreatDoorCC36
import Derived.Test.YtaddkkkchkdgkaaGreatDoorCC44
import Derived.Test.YtaddkkkchkdgkaaGreatDoorCC47
import Derived.Test.YtaddkkkchkdgkaaGreatDoorCC45
import Derived.Test.YtaddkkkchkdgkaaGreatDoorCC17
import Derived.Test.YtaddkkkchkdgkaaGreatDoorCC06
import Derived.Laws.OwnMore
import Derived.Test.YtaddkkkchkdgkaaGreatDoorCC34
namespace Tess
open Go
namespace Que
end Que
end Tess
namespace Go.Proofs.YtaddkkkchkdgkaaGreatDoor
open Go.RowKit Go.Sort
open Tess (Fil Que)
theorem and_one:∀ x:Nat,x < 1024→bits .and .u64 ((x:Nat):Int) 1=((x % 2:Nat):Int):=by decide +kernel
end Go.Proofs.YtaddkkkchkdgkaaGreatDoor
namespace Go
open Go.ChangeShapes Go.WideShapes Go.Deep Go.Joins
theorem array6 {α:Type} {l:List α} (h:l.length=6):∃ c0 c1 c2 c3 c4 c5,l=[c0,c1,c2,c3,c4,c5]:=by
 match l,h with
 | [c0,c1,c2,c3,c4,c5],_=>exact ⟨c0,c1,c2,c3,c4,c5,rfl⟩
section
variable {P:Program} {w:World} {H:Type} {enc:TypeId×Value→H} {held:Bool}
theorem ap2 {w:World} {a:Addr} {v:Value} (h:w.cell? (a.add 0)=some v):∃ b off,a=⟨b,off,none⟩∧b < w.heap.size∧∀ k,a.add k=⟨b,off + k,none⟩:=by
 obtain ⟨ab,ao,Aa⟩:=a
 cases Aa with
 | some x=>exfalso;simp [Addr.add,World.cell?] at h;split at h <;> simp at h
 | none=>
   have hk:∀ k,(⟨ab,ao,none⟩:Addr).add k=⟨ab,ao + k,none⟩:=fun k=>by unfold Addr.add;split <;> simp_all
   rw [hk] at h
   exact ⟨ab,ao,rfl,World.block_lt_of_cell? w _ h,hk⟩
theorem cot {α:Type} [Inhabited α] (f:α→Value) (Q:α→Prop) {t e:TypeId} (ht:P.underlying t=some (.slice e)) (hc:P.cellsOf e=1)
  (hd:∀ n v y,DataW.trod enc P w 0 (fun _=>true) held n e [v]=some y→∃ z,v=f z∧Q z) {fuel:Nat} {v:Value} {x:DataW H×List MemPlace} (h:DataW.trod enc P w 0 (fun _=>true) held fuel t [v]=some x) :
  ∃ zs:List α,SlP (fun _=>True) w v (zs.map f)∧(∀ z ∈ zs,Q z)∧∃ a cap,v = .slice a zs.length cap∧zs.length≤cap:=by
 rcases open_slice1 ht hc h with ⟨Ab,_⟩ | ⟨a,len,cap,m,n,V,D,Pl,Ab,_,hl,hm,Ac,_,hx⟩
 ·simp only [List.cons.injEq,and_true] at Ab
  subst Ab
  exact ⟨[],SlP.nil _ _,(fun z hz=>by cases hz),none,0,rfl,Nat.le_refl _⟩
 ·simp only [List.cons.injEq,and_true] at Ab
  subst Ab
  simp only [if_true] at Ac
  subst Ac
  obtain ⟨Z,hZ⟩:=choose_lt (α:=α) (p:=fun i z=>V i=f z∧Q z) (fun i hi=>hd n _ _ (hx i (Nat.lt_of_lt_of_le hi hl)).2)
  have Aa:(((List.range len).map Z).map f).length=len:=by simp
  refine ⟨(List.range len).map Z,⟨⟨by rw [Aa];omega,some a,m,by rw [Aa],fun hp => ?_⟩,fun _ _ _=>trivial,fun n c e=>by cases e⟩,fun z hz => ?_,some a,m,by simp,by simpa using hl⟩
  ·rw [Aa] at hp
   obtain ⟨b,Ad,rfl,hb,hk⟩:=ap2 (hx 0 (by omega)).1
   refine ⟨b,Ad,rfl,hb,fun j hj => ?_⟩
   rw [Aa] at hj
   rw [← hk j,(hx j (by omega)).1]
   simp [(hZ j hj).1]
  ·obtain ⟨i,hi,rfl⟩:=List.mem_map.1 hz
   exact (hZ i (List.mem_range.1 hi)).2
end
end Go
namespace Go.Proofs.YtaddkkkchkdgkaaGreatDoor
open Go.RowKit Go.ChangeShapes Go.WideShapes Go.Deep Go.Joins
open Tess (Fil)
instance:Inhabited Fil:=⟨.mk 0 ByteArray.empty [] 0 0 []⟩
instance:Inhabited Tess.Val:=⟨⟨ByteArray.empty,false⟩⟩
section
variable {w:World} {H:Type} {enc:TypeId×Value→H} {held:Bool}
theorem sot {fuel:Nat} {v:Value} {x:DataW H×List MemPlace} (h:DataW.trod enc Tryz.prog w 0 (fun _=>true) held fuel 22 [v]=some x) :
  ∃ zs:List ByteArray,SlP (fun _=>True) w v (zs.map .string)∧(∀ z ∈ zs,z.size≤maxLen)∧∃ a cap,v = .slice a zs.length cap∧zs.length≤cap:=
 cot .string (fun z=>z.size≤maxLen) Tryz.underlying22 (by kernel_rfl) (fun n v y hy=>by
  obtain ⟨s,hs,_,hz⟩:=DataW.trod_string Tryz.underlying9 hy
  exact ⟨s,by simpa using hs,hz⟩) h
theorem ints_of_trod {fuel:Nat} {v:Value} {x:DataW H×List MemPlace} (h:DataW.trod enc Tryz.prog w 0 (fun _=>true) held fuel 54 [v]=some x) :
  ∃ zs:List Int,SlP (fun _=>True) w v (zs.map (.int .i64))∧(∀ z ∈ zs,(Lit.int .i64 z).wf=true)∧∃ a cap,v = .slice a zs.length cap∧zs.length≤cap:=
 cot (.int .i64) (fun z=>(Lit.int .i64 z).wf=true) Tryz.underlying54 (by kernel_rfl) (fun n v y hy=>by
  obtain ⟨s,hs,_,hz⟩:=DataW.trod_int Tryz.underlying2 hy
  exact ⟨s,by simpa using hs,hz⟩) h
theorem int_cell {fuel:Nat} {v:Value} {x:DataW H×List MemPlace} (h:DataW.trod enc Tryz.prog w 0 (fun _=>true) held fuel 2 [v]=some x):∃ z,v = .int .i64 z ∧ -9223372036854775808≤z∧z≤9223372036854775807:=by
 obtain ⟨z,hz,_,hw⟩:=DataW.trod_int Tryz.underlying2 h
 simp only [Lit.wf,Bool.and_eq_true,decide_eq_true_eq] at hw
 exact ⟨z,by simpa using hz,hw.1,hw.2⟩
set_option maxRecDepth 100000 in
theorem trod_fil {fuel:Nat} {cs:List Value} {x:DataW H×List MemPlace} (h:DataW.trod enc Tryz.prog w 0 (fun _=>true) held fuel 31 cs=some x) :
  ∃ n k nm c2 frm to c5 y2 y5,fuel=n + 1∧cs=[.int .i64 k,.string nm,c2,.int .i64 frm,.int .i64 to,c5]∧(-9223372036854775808≤k∧k≤9223372036854775807)∧nm.size≤maxLen ∧
    DataW.trod enc Tryz.prog w 0 (fun _=>true) held n 22 [c2]=some y2∧DataW.trod enc Tryz.prog w 0 (fun _=>true) held n 29 [c5]=some y5:=by
 have Ab:Tryz.prog.cellsOf 31=6:=by kernel_rfl
 have kI:Tryz.prog.cellsOf 3=1:=by kernel_rfl
 have kJ:Tryz.prog.cellsOf 2=1:=by kernel_rfl
 have kS:Tryz.prog.cellsOf 9=1:=by kernel_rfl
 have kW:Tryz.prog.cellsOf 22=1:=by kernel_rfl
 have kL:Tryz.prog.cellsOf 29=1:=by kernel_rfl
 have kP:Tryz.prog.cellsOf 28=2:=by kernel_rfl
 obtain ⟨xs,n,rfl,_,hl,Aa,hf⟩:=DataW.trod_struct Tryz.underlying31 h
 obtain ⟨c0,c1,c2,c3,c4,c5,rfl⟩:=array6 (hl.trans Ab)
 obtain ⟨y0,y1,y2,y3,y4,rfl⟩:∃ y0 y1 y2 y3 y4,xs=[y0,y1,y2,y3,y4]:=by
  match xs,(show xs.length=5 from Aa) with
  | [c0,c1,c2,c3,c4],_=>exact ⟨c0,c1,c2,c3,c4,rfl⟩
 obtain ⟨k,hk,_,hw⟩:=DataW.trod_int Tryz.underlying3 (by simpa [kI] using hf 0 _ rfl)
 obtain ⟨nm,Ac,_,hz⟩:=DataW.trod_string Tryz.underlying9 (by simpa [kS] using hf 1 _ rfl)
 have h2:DataW.trod enc Tryz.prog w 0 (fun _=>true) held n 22 [c2]=some y2:=by simpa [kW] using hf 2 _ rfl
 have h3:DataW.trod enc Tryz.prog w 0 (fun _=>true) held n 28 [c3,c4]=some y3:=by simpa [kP] using hf 3 _ rfl
 have h4:DataW.trod enc Tryz.prog w 0 (fun _=>true) held n 29 [c5]=some y4:=by simpa [kL] using hf 4 _ rfl
 obtain ⟨z0,z1,n',_,_,t0,t1⟩:=trod_struct2 Tryz.underlying28 h3
 obtain ⟨fr,Ae,_⟩:=DataW.trod_int Tryz.underlying2 (by simpa [kJ] using t0)
 obtain ⟨to,Ad,_⟩:=DataW.trod_int Tryz.underlying2 (by simpa [kJ] using t1)
 obtain rfl:c0 = .int .i64 k:=by simpa using hk
 obtain rfl:c1 = .string nm:=by simpa using Ac
 obtain rfl:c3 = .int .i64 fr:=by simpa using Ae
 obtain rfl:c4 = .int .i64 to:=by simpa using Ad
 simp only [Lit.wf,Bool.and_eq_true,decide_eq_true_eq] at hw
 exact ⟨n,k,nm,c2,fr,to,c5,y2,y4,rfl,rfl,⟨hw.1,hw.2⟩,hz,h2,h4⟩
set_option maxRecDepth 100000 in
theorem fil_of_trod:∀ (fuel:Nat) (cs:List Value) (x:DataW H×List MemPlace),DataW.trod enc Tryz.prog w 0 (fun _=>true) held fuel 31 cs=some x→∃ f,cs.length=6∧kO2 f∧FA2 (fun _=>True) fuel w (.agg cs.toArray) f:=by
 intro fuel
 induction fuel using Nat.strongRecOn with
 | ind fuel ih=>
   intro cs x h
   obtain ⟨n,k,nm,c2,fr,to,c5,y2,y5,rfl,rfl,⟨Ag,Ak⟩,hz,h2,h5⟩:=trod_fil h
   obtain ⟨ws,Af,Al,_⟩:=sot h2
   rcases DataW.trod_slice Tryz.underlying29 h5 with ⟨Ad,_⟩ | ⟨a,len,Ae,Ah,Ao,n',rfl,Ad,_,_,hl,hm,An,Ap,_,_⟩
   ·obtain rfl:c5 = .slice none 0 0:=by simpa using Ad
    refine ⟨.mk k nm ws fr to [],rfl,?_,_,_,_,rfl,hz,Af,Al,Nat.zero_le _,fun _=>rfl,fun hh=>absurd hh (by simp [Fil.l])⟩
    unfold kO2
    rw [Fil.aPe,Bool.and_eq_true]
    exact ⟨by simp [Fil.kind,Ag,Ak],by simp [Fil.l]⟩
   ·obtain rfl:c5 = .slice (some a) len Ae:=by simpa using Ad
    have Am:Tryz.prog.cellsOf 31=6:=by kernel_rfl
    obtain ⟨F,hF⟩:=choose_lt (α:=Fil) (n:=len) (p:=fun i f => ∃ Ab,w.cells? 0 (a.add (i * 6)) 6=some Ab∧Ab.length=6∧kO2 f∧FA2 (fun _=>True) n' w (.agg Ab.toArray) f) (fun i hi=>by
     have Aj:=Ap i hi
     rw [List.getElem?_eq_getElem (by omega),Am] at Aj
     obtain ⟨Ab,e1,e2⟩:=Option.bind_eq_some_iff.1 Aj
     obtain ⟨f,q1,q2,q3⟩:=ih n' (by omega) Ab _ e2
     exact ⟨f,Ab,e1,q1,q2,q3⟩)
    have Aq:((List.range len).map F).length=len:=by simp
    refine ⟨.mk k nm ws fr to ((List.range len).map F),rfl,?_,_,some a,Ae,?_,hz,Af,Al,?_,(fun e=>by cases e),fun hp => ?_⟩
    ·unfold kO2
     rw [Fil.aPe,Bool.and_eq_true,List.all_eq_true]
     refine ⟨by simp [Fil.kind,Ag,Ak],fun y hy => ?_⟩
     obtain ⟨i,hi,rfl⟩:=List.mem_map.1 (show y ∈ (List.range len).map F from hy)
     obtain ⟨_,_,_,q,_⟩:=hF i (List.mem_range.1 hi)
     exact q
    ·simp [Fil.kind,Fil.name,Fil.frm,Fil.to,Fil.l]
    ·simp [Fil.l];omega
    ·replace hp:0 < len:=by simpa [Fil.l] using hp
     obtain ⟨Ar,z0,l0,_⟩:=hF 0 hp
     obtain ⟨_,_,z2⟩:=World.cells?_some z0
     have z3:=z2 0 (by omega)
     rw [List.getElem?_eq_getElem (by omega),Deep.add_add] at z3
     obtain ⟨b,Ai,rfl,hb,Ac⟩:=ap2 (by simpa using z3)
     refine ⟨b,Ai,rfl,hb,trivial,fun j hj => ?_⟩
     replace hj:j < len:=by simpa [Fil.l] using hj
     obtain ⟨Ab,e1,e2,e3,e4⟩:=hF j hj
     obtain ⟨d0,d1,d2,d3,d4,d5,rfl⟩:=array6 e2
     obtain ⟨_,_,e5⟩:=World.cells?_some e1
     have Aa:∀ i (hi:i < 6),w.cell? ⟨b,Ai + j * 6 + i,none⟩=[d0,d1,d2,d3,d4,d5][i]? := fun i hi=>by
      rw [← e5 i hi,Deep.add_add,Ac,Nat.add_assoc]
     refine ⟨d0,d1,d2,d3,d4,d5,?_,Aa 0 (by omega),Aa 1 (by omega),Aa 2 (by omega),Aa 3 (by omega),Aa 4 (by omega),Aa 5 (by omega)⟩
     have e6:(Fil.mk k nm ws fr to ((List.range len).map F)).l[j]'(by simpa [Fil.l] using hj)=F j:=by simp [Fil.l]
     rw [e6]
     exact FA2.mono (by omega) e4
set_option maxRecDepth 100000 in
theorem vals_of_trod {fuel:Nat} {v:Value} {x:DataW H×List MemPlace} (h:DataW.trod enc Tryz.prog w 0 (fun _=>true) held fuel 52 [v]=some x):∃ l,VA (fun _=>True) w v l:=by
 rcases open_slice Tryz.underlying52 h with ⟨Ad,_⟩ | ⟨a,len,Ai,m,n,D,Pl,Ad,_,hl,hm,Af,_,hx⟩
 ·obtain rfl:v = .slice none 0 0:=by simpa using Ad
  exact ⟨[],none,0,rfl,Nat.zero_le _,(fun z hz=>by cases hz),fun _=>rfl,fun hh=>absurd hh (by simp)⟩
 ·obtain rfl:v = .slice (some a) len Ai:=by simpa using Ad
  simp only [if_true] at Af
  subst Af
  have Ag:Tryz.prog.cellsOf 72=2:=by kernel_rfl
  obtain ⟨Z,hZ⟩:=choose_lt (α:=Tess.Val) (n:=len) (p:=fun i z=>w.cells? 0 (a.add (i * 2)) 2=some [.string z.s,.bool z.null]∧z.s.size≤maxLen) (fun i hi=>by
   obtain ⟨Ah,e1,e2⟩:=hx i (by omega)
   rw [Ag] at e1
   obtain ⟨y0,y1,n',_,Ae,t0,t1⟩:=trod_struct2 Tryz.underlying72 e2
   rw [Ag] at Ae
   match Ah,Ae with
   | [c0,c1],_=>
     have k0:Tryz.prog.cellsOf 9=1:=by kernel_rfl
     have k1:Tryz.prog.cellsOf 4=1:=by kernel_rfl
     obtain ⟨s,hs,_,hz⟩:=DataW.trod_string Tryz.underlying9 (by simpa [k0] using t0)
     obtain ⟨bb,hb,_⟩:=DataW.trod_bool Tryz.underlying4 (by simpa [k1] using t1)
     obtain rfl:c0 = .string s:=by simpa using hs
     obtain rfl:c1 = .bool bb:=by simpa using hb
     exact ⟨⟨s,bb⟩,e1,hz⟩)
  refine ⟨(List.range len).map Z,some a,m,by simp,by simp;omega,fun z hz => ?_,(fun e=>by cases e),fun hp => ?_⟩
  ·obtain ⟨i,hi,rfl⟩:=List.mem_map.1 hz
   exact (hZ i (List.mem_range.1 hi)).2
  ·replace hp:0 < len:=by simpa using hp
   obtain ⟨_,_,z2⟩:=World.cells?_some (hZ 0 hp).1
   have z3:=z2 0 (by omega)
   rw [List.getElem?_cons_zero,Deep.add_add] at z3
   obtain ⟨b,Ab,rfl,hb,Ac⟩:=ap2 (by simpa using z3)
   refine ⟨b,Ab,rfl,hb,trivial,fun j hj => ?_⟩
   replace hj:j < len:=by simpa using hj
   obtain ⟨_,_,e5⟩:=World.cells?_some (hZ j hj).1
   have Aa:∀ i (hi:i < 2),w.cell? ⟨b,Ab + j * 2 + i,none⟩=[Value.string (Z j).s,.bool (Z j).null][i]? := fun i hi=>by
    rw [← e5 i hi,Deep.add_add,Ac,Nat.add_assoc]
   exact ⟨(show w.cell? ⟨b,Ab + j * 2,none⟩=_ from Aa 0 (by omega)).trans (by simp),(show w.cell? ⟨b,Ab + j * 2 + 1,none⟩=_ from Aa 1 (by omega)).trans (by simp)⟩
set_option maxRecDepth 100000 in
theorem open_sch {r:Reach} {b0:Nat} {v:Value} {d:DataW H} {ps:List MemPlace} (hval:Value.okWide Tryz.prog w r b0 24 v) (hd:DataW.Trod enc Tryz.prog w 0 (fun _=>true) held 24 v d ps):∃ s,SA (fun _=>True) w v s:=by
 obtain ⟨v0,v1,v2,y0,y1,y2,n,rfl,_,_,h0,h1,h2⟩:=open_agg3 Tryz.underlying24 (by kernel_rfl) (by kernel_rfl) hval hd
 obtain ⟨zd,s0,q0,_⟩:=sot h0
 obtain ⟨zm,s1,q1,_⟩:=sot h1
 obtain ⟨g,rfl,_⟩:=int_cell h2
 exact ⟨⟨zd,zm,g⟩,v0,v1,rfl,s0,s1,q0,q1⟩
end
end Go.Proofs.YtaddkkkchkdgkaaGreatDoor
namespace Go.Proofs.YtaddkkkchkdgkaaGreatDoor
open Go.RowKit Go.ChangeShapes Go.WideShapes Go.Deep Go.Joins
open Tess (Fil Que)
instance:Inhabited Tess.Agg:=⟨⟨0,ByteArray.empty⟩⟩
instance:Inhabited Tess.Cond:=⟨⟨0,0,0⟩⟩
instance:Inhabited Tess.Key:=⟨⟨false,0,false⟩⟩
section
variable {w:World} {H:Type} {enc:TypeId×Value→H} {held:Bool}
def QueOk (w:World) (v:Value) (q:Que):Prop:=(∃ n va vb vS f0 f1 f2 f3 f4 f5 vh vo,QA (fun _=>True) n w v q va vb vS f0 f1 f2 f3 f4 f5 vh vo)∧kO2 q.fil
theorem rot {α:Type} [Inhabited α] (k:Nat) (hk0:0 < k) (f:α→List Value) (Q:α→Prop) (hfl:∀ z,(f z).length=k) {t e:TypeId} (ht:Tryz.prog.underlying t=some (.slice e)) (hc:Tryz.prog.cellsOf e=k)
  (hd:∀ n cs y,cs.length=k→DataW.trod enc Tryz.prog w 0 (fun _=>true) held n e cs=some y→∃ z,cs=f z∧Q z) {fuel:Nat} {v:Value} {x:DataW H×List MemPlace} (h:DataW.trod enc Tryz.prog w 0 (fun _=>true) held fuel t [v]=some x) :
  ∃ zs:List α,RA k f (fun _=>True) w v zs∧∀ z ∈ zs,Q z:=by
 rcases open_slice ht h with ⟨Ab,_⟩ | ⟨a,len,Ae,m,n,D,Pl,Ab,_,hl,hm,Ac,_,hx⟩
 ·obtain rfl:v = .slice none 0 0:=by simpa using Ab
  exact ⟨[],RA.nil _ _ _ _,fun z hz=>by cases hz⟩
 ·obtain rfl:v = .slice (some a) len Ae:=by simpa using Ab
  simp only [if_true] at Ac
  subst Ac
  obtain ⟨Z,hZ⟩:=choose_lt (α:=α) (n:=len) (p:=fun i z=>w.cells? 0 (a.add (i * k)) k=some (f z)∧Q z) (fun i hi=>by
   obtain ⟨Ad,e1,e2⟩:=hx i (by omega)
   rw [hc] at e1
   obtain ⟨z,hz,hq⟩:=hd n Ad _ (World.cells?_some e1).2.1 e2
   exact ⟨z,by rw [e1,hz],hq⟩)
  refine ⟨(List.range len).map Z,⟨some a,m,by simp,by simp;omega,by simpa using hl,(fun e=>by cases e),fun hp => ?_⟩,fun z hz => ?_⟩
  ·replace hp:0 < len:=by simpa using hp
   obtain ⟨_,_,z2⟩:=World.cells?_some (hZ 0 hp).1
   have z3:=z2 0 hk0
   rw [List.getElem?_eq_getElem (by rw [hfl];exact hk0),Deep.add_add] at z3
   obtain ⟨b,Af,rfl,hb,Aa⟩:=ap2 (by simpa using z3)
   refine ⟨b,Af,rfl,hb,trivial,fun j hj i hi => ?_⟩
   replace hj:j < len:=by simpa using hj
   obtain ⟨_,_,e5⟩:=World.cells?_some (hZ j hj).1
   have:=e5 i hi
   rw [Deep.add_add,Aa] at this
   rw [Nat.add_assoc]
   simpa using this
  ·obtain ⟨i,hi,rfl⟩:=List.mem_map.1 hz
   exact (hZ i (List.mem_range.1 hi)).2
theorem sets_of_trod {fuel:Nat} {v:Value} {x:DataW H×List MemPlace} (h:DataW.trod enc Tryz.prog w 0 (fun _=>true) held fuel 26 [v]=some x):∃ l,SA2 (fun _=>True) w v l:=by
 rcases open_slice1 Tryz.underlying26 (by kernel_rfl) h with ⟨Ab,_⟩ | ⟨a,len,Ad,m,n,V,D,Pl,Ab,_,hl,hm,Ac,_,hx⟩
 ·obtain rfl:v = .slice none 0 0:=by simpa using Ab
  exact ⟨[],SA2.nil _ _⟩
 ·obtain rfl:v = .slice (some a) len Ad:=by simpa using Ab
  simp only [if_true] at Ac
  subst Ac
  obtain ⟨Z,hZ⟩:=choose_lt (α:=List ByteArray) (n:=len) (p:=fun i z=>SlP (fun _=>True) w (V i) (z.map .string)∧∀ x ∈ z,x.size≤maxLen) (fun i hi=>by
   obtain ⟨z,h1,h2,_⟩:=sot (hx i (Nat.lt_of_lt_of_le hi hl)).2
   exact ⟨z,h1,h2⟩)
  refine ⟨(List.range len).map Z,some a,m,by simp,by simp;omega,by simpa using hl,(fun e=>by cases e),fun hp => ?_⟩
  replace hp:0 < len:=by simpa using hp
  obtain ⟨b,Ae,rfl,hb,Aa⟩:=ap2 (hx 0 (by omega)).1
  refine ⟨b,Ae,rfl,hb,trivial,fun j hj => ?_⟩
  replace hj:j < len:=by simpa using hj
  refine ⟨V j,by rw [← Aa j,(hx j (by omega)).1],?_,?_⟩
  ·simpa using (hZ j hj).1
  ·simpa using (hZ j hj).2
set_option maxRecDepth 100000 in
theorem aggs_of_trod {fuel:Nat} {v:Value} {x:DataW H×List MemPlace} (h:DataW.trod enc Tryz.prog w 0 (fun _=>true) held fuel 25 [v]=some x):∃ l,RA 2 aggF (fun _=>True) w v l∧∀ z ∈ l,z.met.size≤maxLen:=
 rot 2 (by omega) aggF (fun z=>z.met.size≤maxLen) (fun _=>rfl) Tryz.underlying25 (by kernel_rfl) (fun n cs y hl hy=>by
  have k0:Tryz.prog.cellsOf 3=1:=by kernel_rfl
  have k1:Tryz.prog.cellsOf 9=1:=by kernel_rfl
  obtain ⟨y0,y1,n',_,Aa,t0,t1⟩:=trod_struct2 Tryz.underlying76 hy
  match cs,hl with
  | [c0,c1],_=>
    obtain ⟨k,rfl⟩:∃ k,c0 = .int .i64 k:=by
     obtain ⟨k,hk,_⟩:=DataW.trod_int Tryz.underlying3 (by simpa [k0] using t0)
     exact ⟨k,by simpa using hk⟩
    obtain ⟨s,hs,_,hz⟩:=DataW.trod_string Tryz.underlying9 (by simpa [k0,k1] using t1)
    obtain rfl:c1 = .string s:=by simpa using hs
    exact ⟨⟨k,s⟩,rfl,hz⟩) h
set_option maxRecDepth 100000 in
theorem conds_of_trod {fuel:Nat} {v:Value} {x:DataW H×List MemPlace} (h:DataW.trod enc Tryz.prog w 0 (fun _=>true) held fuel 32 [v]=some x):∃ l,RA 3 condF (fun _=>True) w v l:=by
 obtain ⟨l,hl,_⟩:=rot 3 (by omega) condF (fun _=>True) (fun _=>rfl) Tryz.underlying32 (by kernel_rfl) (fun n cs y hl hy=>by
  have k0:Tryz.prog.cellsOf 3=1:=by kernel_rfl
  have k1:Tryz.prog.cellsOf 2=1:=by kernel_rfl
  obtain ⟨xs,n',rfl,_,_,Aa,hf⟩:=DataW.trod_struct Tryz.underlying200 hy
  match cs,hl,xs,(show xs.length=3 from Aa) with
  | [c0,c1,c2],_,[y0,y1,y2],_=>
    obtain ⟨a,ha,_⟩:=DataW.trod_int Tryz.underlying3 (by simpa [k0] using hf 0 _ rfl)
    obtain ⟨b,hb,_⟩:=DataW.trod_int Tryz.underlying3 (by simpa [k0] using hf 1 _ rfl)
    obtain ⟨c,hc,_⟩:=DataW.trod_int Tryz.underlying2 (by simpa [k0,k1] using hf 2 _ rfl)
    obtain rfl:c0 = .int .i64 a:=by simpa using ha
    obtain rfl:c1 = .int .i64 b:=by simpa using hb
    obtain rfl:c2 = .int .i64 c:=by simpa using hc
    exact ⟨⟨a,b,c⟩,rfl,trivial⟩) h
 exact ⟨l,hl⟩
set_option maxRecDepth 100000 in
theorem keys_of_trod {fuel:Nat} {v:Value} {x:DataW H×List MemPlace} (h:DataW.trod enc Tryz.prog w 0 (fun _=>true) held fuel 33 [v]=some x):∃ l,RA 3 keyF (fun _=>True) w v l:=by
 obtain ⟨l,hl,_⟩:=rot 3 (by omega) keyF (fun _=>True) (fun _=>rfl) Tryz.underlying33 (by kernel_rfl) (fun n cs y hl hy=>by
  have k0:Tryz.prog.cellsOf 4=1:=by kernel_rfl
  have k1:Tryz.prog.cellsOf 3=1:=by kernel_rfl
  obtain ⟨xs,n',rfl,_,_,Aa,hf⟩:=DataW.trod_struct Tryz.underlying204 hy
  match cs,hl,xs,(show xs.length=3 from Aa) with
  | [c0,c1,c2],_,[y0,y1,y2],_=>
    obtain ⟨a,ha,_⟩:=DataW.trod_bool Tryz.underlying4 (by simpa [k0] using hf 0 _ rfl)
    obtain ⟨b,hb,_⟩:=DataW.trod_int Tryz.underlying3 (by simpa [k0,k1] using hf 1 _ rfl)
    obtain ⟨c,hc,_⟩:=DataW.trod_bool Tryz.underlying4 (by simpa [k0,k1] using hf 2 _ rfl)
    obtain rfl:c0 = .bool a:=by simpa using ha
    obtain rfl:c1 = .int .i64 b:=by simpa using hb
    obtain rfl:c2 = .bool c:=by simpa using hc
    exact ⟨⟨a,b,c⟩,rfl,trivial⟩) h
 exact ⟨l,hl⟩
set_option maxRecDepth 100000 in
theorem que_of_trod {fuel:Nat} {cs:List Value} {x:DataW H×List MemPlace} (hcl:cs.length=14) (h:DataW.trod enc Tryz.prog w 0 (fun _=>true) held fuel 35 cs=some x):∃ q,QueOk w (.agg cs.toArray) q:=by
 have kI:Tryz.prog.cellsOf 3=1:=by kernel_rfl
 have kJ:Tryz.prog.cellsOf 2=1:=by kernel_rfl
 have kA:Tryz.prog.cellsOf 25=1:=by kernel_rfl
 have kW:Tryz.prog.cellsOf 22=1:=by kernel_rfl
 have kS:Tryz.prog.cellsOf 26=1:=by kernel_rfl
 have kF:Tryz.prog.cellsOf 31=6:=by kernel_rfl
 have kC:Tryz.prog.cellsOf 32=1:=by kernel_rfl
 have kK:Tryz.prog.cellsOf 33=1:=by kernel_rfl
 obtain ⟨xs,n,rfl,_,_,Ag,hf⟩:=DataW.trod_struct Tryz.underlying35 h
 match cs,hcl,xs,(show xs.length=9 from Ag) with
 | [c0,c1,c2,c3,c4,c5,c6,c7,c8,c9,ca,cb,cc,cd],_,[u0,u1,u2,u3,u4,u5,u6,u7,u8],_=>
   have h0:DataW.trod enc Tryz.prog w 0 (fun _=>true) held n 25 [c0]=some u0:=by simpa [kA] using hf 0 _ rfl
   have h1:DataW.trod enc Tryz.prog w 0 (fun _=>true) held n 22 [c1]=some u1:=by simpa [kA,kW] using hf 1 _ rfl
   have h2:DataW.trod enc Tryz.prog w 0 (fun _=>true) held n 3 [c2]=some u2:=by simpa [kA,kW,kI] using hf 2 _ rfl
   have h3:DataW.trod enc Tryz.prog w 0 (fun _=>true) held n 26 [c3]=some u3:=by simpa [kA,kW,kI,kS] using hf 3 _ rfl
   have h4:DataW.trod enc Tryz.prog w 0 (fun _=>true) held n 2 [c4]=some u4:=by simpa [kA,kW,kI,kS,kJ] using hf 4 _ rfl
   have h5:DataW.trod enc Tryz.prog w 0 (fun _=>true) held n 31 [c5,c6,c7,c8,c9,ca]=some u5:=by simpa [kA,kW,kI,kS,kJ,kF] using hf 5 _ rfl
   have h6:DataW.trod enc Tryz.prog w 0 (fun _=>true) held n 32 [cb]=some u6:=by simpa [kA,kW,kI,kS,kJ,kF,kC] using hf 6 _ rfl
   have h7:DataW.trod enc Tryz.prog w 0 (fun _=>true) held n 33 [cc]=some u7:=by simpa [kA,kW,kI,kS,kJ,kF,kC,kK] using hf 7 _ rfl
   have h8:DataW.trod enc Tryz.prog w 0 (fun _=>true) held n 3 [cd]=some u8:=by simpa [kA,kW,kI,kS,kJ,kF,kC,kK] using hf 8 _ rfl
   obtain ⟨Ae,ra,rm⟩:=aggs_of_trod h0
   obtain ⟨Ab,rn,rs,_⟩:=sot h1
   obtain ⟨Ac,Ak,_⟩:=DataW.trod_int Tryz.underlying3 h2
   obtain ⟨Af,rS⟩:=sets_of_trod h3
   obtain ⟨every,Aj,_⟩:=DataW.trod_int Tryz.underlying2 h4
   obtain ⟨f,_,hK,hF⟩:=fil_of_trod n _ _ h5
   obtain ⟨Ad,rC⟩:=conds_of_trod h6
   obtain ⟨Ah,rK⟩:=keys_of_trod h7
   obtain ⟨Aa,Ai,_⟩:=DataW.trod_int Tryz.underlying3 h8
   obtain rfl:c2 = .int .i64 Ac:=by simpa using Ak
   obtain rfl:c4 = .int .i64 every:=by simpa using Aj
   obtain rfl:cd = .int .i64 Aa:=by simpa using Ai
   exact ⟨⟨Ae,Ab,Ac,Af,every,f,Ad,Ah,Aa⟩,⟨n,_,_,_,_,_,_,_,_,_,_,_,rfl,ra,rm,rn,rs,rS,hF,rC,rK⟩,hK⟩
set_option maxRecDepth 100000 in
theorem open_que {r:Reach} {b0:Nat} {v:Value} {d:DataW H} {ps:List MemPlace} (hval:Value.okWide Tryz.prog w r b0 35 v) (hd:DataW.Trod enc Tryz.prog w 0 (fun _=>true) held 35 v d ps):∃ q,QueOk w v q:=by
 obtain ⟨cs,rfl,_⟩:=okWide_struct Tryz.underlying35 hval
 obtain ⟨Aa,hf⟩:=hd
 have hC:Tryz.prog.cellsOf 35=14:=by kernel_rfl
 obtain ⟨_,_,_,_,hl,_⟩:=DataW.trod_struct Tryz.underlying35 hf
 obtain ⟨q,hq⟩:=que_of_trod (by simpa [hC] using hl) hf
 exact ⟨q,by simpa [Value.cells] using hq⟩
end
end Go.Proofs.YtaddkkkchkdgkaaGreatDoor
namespace Go.Proofs.YtaddkkkchkdgkaaGreatDoor
open Go.RowKit Go.Sort
open Tess (Fil Que)
section
variable {p:Nat→Prop} {n:Nat} {w:World} {v:Value} {q:Que} {va vb vS f0 f1 f2 f3 f4 f5 vh vo:Value}
theorem QA.ltQ (h:QA p n w v q va vb vS f0 f1 f2 f3 f4 f5 vh vo):QA (fun b=>p b∧b < w.heap.size) n w v q va vb vS f0 f1 f2 f3 f4 f5 vh vo:=
 ⟨h.e,h.aggs.lt,h.mets,h.names.lt,h.small,h.sets.lt,h.fil.lt,h.conds.lt,h.keys.lt⟩
end
structure Bq (w:World) (sc qc:Array Value) (W:World):Prop where
 k0:W.heap[w.heap.size]? = some (.cells sc 24 (0,0))
 k1:W.heap[w.heap.size + 1]? = some (.cells qc 35 (0,0))
 below:Below w.heap.size w W
def Dq (w:World) (b:Nat):Prop:=b≠w.heap.size∧b≠w.heap.size + 1
section
variable {w W W':World} {sc qc:Array Value}
theorem Bq.lt (h:Bq w sc qc W):w.heap.size + 1 < W.heap.size:=(Array.getElem?_eq_some_iff.1 h.k1).1
theorem Bq.later (h:Bq w sc qc W) (hb:Below W.heap.size W W'):Bq w sc qc W':=
 have:=h.lt
 ⟨(hb.block _ (by omega)).trans h.k0,(hb.block _ (by omega)).trans h.k1,Bt h.below hb⟩
theorem Bq.set1 (h:Bq w sc qc W) (i:Nat) (u:Value) (qc':Array Value) (e:qc.setIfInBounds i u=qc'):Bq w sc qc' (W.setCell ⟨w.heap.size + 1,i,none⟩ u)∧Ag (Dq w) W (W.setCell ⟨w.heap.size + 1,i,none⟩ u):=by
 subst e
 exact ⟨⟨(heap_setCell_other _ _ _ _ (by show _≠w.heap.size + 1;omega)).trans h.k0,heap_setCell_same _ _ _ _ _ _ h.k1,h.below.setCell (by show _≤w.heap.size + 1;omega) _⟩,Ag.set _ _ _ (fun h=>h.2 rfl)⟩
theorem Bq.put0 {x0 x1 x2:Value} (y0 y1 y2:Value) (h:Bq w #[x0,x1,x2] qc W):∃ W3,(((W.setCell ⟨w.heap.size,0,none⟩ y0).setCell ⟨w.heap.size,1,none⟩ y1).setCell ⟨w.heap.size,2,none⟩ y2)=W3∧Bq w #[y0,y1,y2] qc W3∧Ag (Dq w) W W3:=by
 obtain ⟨W3,e,q0,qo,qs,qB⟩:=box3 y0 y1 y2 h.k0 h.below (Nat.le_refl _)
 exact ⟨W3,e,⟨q0,(qo _ (by omega)).trans h.k1,qB⟩,by rw [qs];exact Nat.le_refl _,fun b _ hb=>qo b hb.1⟩
theorem Bq.put1 {x0 x1 x2 x3 x4 x5 x6 x7 x8 x9 xa xb xc xd:Value} (y0 y1 y2 y3 y4 y5 y6 y7 y8 y9 ya yb yc yd:Value) (h:Bq w sc #[x0,x1,x2,x3,x4,x5,x6,x7,x8,x9,xa,xb,xc,xd] W) :
  ∃ W3,((((((((((((((W.setCell ⟨w.heap.size + 1,0,none⟩ y0).setCell ⟨w.heap.size + 1,1,none⟩ y1).setCell ⟨w.heap.size + 1,2,none⟩ y2).setCell ⟨w.heap.size + 1,3,none⟩ y3).setCell ⟨w.heap.size + 1,4,none⟩ y4).setCell ⟨w.heap.size + 1,5,none⟩ y5).setCell ⟨w.heap.size + 1,6,none⟩ y6).setCell ⟨w.heap.size + 1,7,none⟩ y7).setCell ⟨w.heap.size + 1,8,none⟩ y8).setCell ⟨w.heap.size + 1,9,none⟩ y9).setCell ⟨w.heap.size + 1,10,none⟩ ya).setCell ⟨w.heap.size + 1,11,none⟩ yb).setCell ⟨w.heap.size + 1,12,none⟩ yc).setCell ⟨w.heap.size + 1,13,none⟩ yd)=W3 ∧
    Bq w sc #[y0,y1,y2,y3,y4,y5,y6,y7,y8,y9,ya,yb,yc,yd] W3∧Ag (Dq w) W W3:=by
 obtain ⟨W3,e,q0,qo,qs,qB,qA⟩:=put14 y0 y1 y2 y3 y4 y5 y6 y7 y8 y9 ya yb yc yd h.k1
 exact ⟨W3,e,⟨(qo _ (by omega)).trans h.k0,q0,qB _ _ h.below (by omega)⟩,qA _ (fun h=>h.2 rfl)⟩
end
theorem Dq.of {w W:World} (h:w.heap.size + 2≤W.heap.size) (b:Nat) (hb:W.heap.size≤b):Dq w b:=⟨by omega,by omega⟩
end Go.Proofs.YtaddkkkchkdgkaaGreatDoor
namespace Go.Proofs.YtaddkkkchkdgkaaGreatDoor
open Go.RowKit Go.Sort
open Tess (Fil Que CK Pay CO gP)
theorem bw2 {P1 P2:Prop} (H:Prop) (f:H→P1) (g:H→P2) (h:H):P1∧P2:=⟨f h,g h⟩
theorem cut_rng {n:Nat} {rows:List Tess.Row} (h:∀ r ∈ rows,r.rng):∀ r ∈ rC3 n rows,r.l.length≤1000∧r.ns.length≤1000∧r.rng:=fun r hr=>by
 unfold rC3 at hr
 obtain ⟨x,hx,rfl⟩:=List.mem_map.1 hr
 unfold rC4
 refine ⟨?_,?_,fun z hz=>h x (List.mem_of_mem_take hx) z (List.mem_of_mem_take hz)⟩
 ·show (cV2 x.l).length≤1000
  unfold cV2
  simp only [List.length_map,List.length_take]
  omega
 ·show (x.ns.take 10).length≤1000
  rw [List.length_take];omega
theorem cut_len {n:Nat} {rows:List Tess.Row}:(rC3 n rows).length≤n:=by unfold rC3;rw [List.length_map,List.length_take];omega
theorem roll_code {s:Tess.Sch} {rows:List Tess.Row} (h:rC2 s rows=0):Tess.sO2 s=true∧∀ r ∈ rows,Tess.Row.ok s r=true:=by
 unfold rC2 at h
 split at h
 ·rename_i h1
  split at h
  ·rename_i h2
   exact ⟨h1,fun r hr=>List.all_eq_true.1 h2 r hr⟩
  ·cases h
 ·cases h
theorem roll_tot (g:Int) (rows:List Tess.Row):((Tess.rP g rows).map (·.2.n)).sum≤rows.length:=by
 cases e:Tess.Kl.sum Pay.add (fun _=>true) (Tess.rP g rows) with
 | none=>rw [Tess.Kl.san e];simp
 | some p=>
   rw [← Tess.tn3 e]
   have h:Tess.Kl.sum Pay.add (fun _=>true) (rows.map (Tess.Row.kp g))=some p:=by rw [← Tess.Kl.sf2 Tess.cs3 Tess.pc2];exact e
   rw [Tess.rows_n g rows p h]
   exact Int.le_refl _
theorem RowsIn.agR {p:Nat→Prop} {w w':World} {v:Value} {l:List Tess.Row} (h:LA 3 (RowC p) p w v l) (hg:Ag p w w'):RowsIn p w' v l:=RowsIn.ag h hg
theorem RowsIn.ltR {p:Nat→Prop} {w:World} {v:Value} {l:List Tess.Row} (h:RowsIn p w v l):RowsIn (fun b=>p b∧b < w.heap.size) w v l:=by
 obtain ⟨a,c,hv,h1,h2,h3,h4⟩:=h
 refine ⟨a,c,hv,h1,h2,h3,fun hl => ?_⟩
 obtain ⟨b,Aa,ha,hb,hp,hc⟩:=h4 hl
 exact ⟨b,Aa,ha,hb,⟨hp,hb⟩,fun j hj=>let ⟨cs,h5,h6,h7⟩:=hc j hj;⟨cs,h5,rn2.lt h6,h7⟩⟩
theorem roll_cels {s:Tess.Sch} {R:List Tess.Row} (h:rC2 s R=0) (hlen:R.length≤50) (hrow:∀ r ∈ R,r.l.length≤1000∧r.ns.length≤1000∧r.rng):CO s (Tess.rP s.grain R):=
 Tess.roll_ok (roll_code h).1 (roll_code h).2 (fun r hr=>(hrow r hr).2.2) (by omega)
end Go.Proofs.YtaddkkkchkdgkaaGreatDoor
namespace Go.Proofs.YtaddkkkchkdgkaaGreatDoor
open Go.RowKit Go.ChangeShapes Go.WideShapes Go.Deep Go.Joins
open Tess (Fil Que)
instance:Inhabited Tess.Row:=⟨⟨0,[],[]⟩⟩
section
variable {w:World} {H:Type} {enc:TypeId×Value→H} {held:Bool}
set_option maxRecDepth 100000 in
theorem rowc_of_trod {n:Nat} {cs:List Value} {y:DataW H×List MemPlace} (hl:cs.length=3) (h:DataW.trod enc Tryz.prog w 0 (fun _=>true) held n 74 cs=some y):∃ r,RowC (fun _=>True) w cs r∧r.rng:=by
 have k0:Tryz.prog.cellsOf 2=1:=by kernel_rfl
 have k1:Tryz.prog.cellsOf 52=1:=by kernel_rfl
 have k2:Tryz.prog.cellsOf 54=1:=by kernel_rfl
 obtain ⟨xs,n',rfl,_,_,Aa,hf⟩:=DataW.trod_struct Tryz.underlying74 h
 match cs,hl,xs,(show xs.length=3 from Aa) with
 | [c0,c1,c2],_,[y0,y1,y2],_=>
   have h0:DataW.trod enc Tryz.prog w 0 (fun _=>true) held n' 2 [c0]=some y0:=by simpa [k0] using hf 0 _ rfl
   have h1:DataW.trod enc Tryz.prog w 0 (fun _=>true) held n' 52 [c1]=some y1:=by simpa [k0,k1] using hf 1 _ rfl
   have h2:DataW.trod enc Tryz.prog w 0 (fun _=>true) held n' 54 [c2]=some y2:=by simpa [k0,k1,k2] using hf 2 _ rfl
   obtain ⟨t,rfl,_⟩:=int_cell h0
   obtain ⟨l,hl⟩:=vals_of_trod h1
   obtain ⟨ns,hs,hw,a,c,rfl,hc⟩:=ints_of_trod h2
   refine ⟨⟨t,l,ns⟩,⟨c1,a,c,rfl,hc,hl,hs⟩,fun z hz => ?_⟩
   have:=hw z hz
   simp only [Lit.wf,Bool.and_eq_true,decide_eq_true_eq] at this
   exact ⟨this.1,this.2⟩
set_option maxRecDepth 100000 in
theorem or2 {r:Reach} {b0:Nat} {v:Value} {d:DataW H} {ps:List MemPlace} (hval:Value.okWide Tryz.prog w r b0 36 v) (hd:DataW.Trod enc Tryz.prog w 0 (fun _=>true) held 36 v d ps):∃ l:List Tess.Row,RowsIn (fun _=>True) w v l∧∀ r ∈ l,r.rng:=by
 obtain ⟨a0,Ac,Aa,rfl⟩:=okWide_slice Tryz.underlying36 hval
 obtain ⟨Ae,hf⟩:=hd
 have hf:DataW.trod enc Tryz.prog w 0 (fun _=>true) held Ae 36 [.slice a0 Ac Aa]=some (d,ps):=by simpa [Value.cells] using hf
 rcases open_slice Tryz.underlying36 hf with ⟨Ab,_⟩ | ⟨a,len,Ai,m,n,D,Pl,Ab,_,hl,hm,Ag,_,hx⟩
 ·have Ab:Value.slice a0 Ac Aa = .slice none 0 0:=by simpa using Ab
  rw [Ab]
  exact ⟨[],LA.nil _ _ _ _,fun z hz=>by cases hz⟩
 ·have Ab:Value.slice a0 Ac Aa = .slice (some a) len Ai:=by simpa using Ab
  rw [Ab]
  simp only [if_true] at Ag
  subst Ag
  have Aj:Tryz.prog.cellsOf 74=3:=by kernel_rfl
  obtain ⟨Z,hZ⟩:=choose_lt (α:=List Value×Tess.Row) (n:=len) (p:=fun i z=>w.cells? 0 (a.add (i * 3)) 3=some z.1∧z.1.length=3∧RowC (fun _=>True) w z.1 z.2∧z.2.rng) (fun i hi=>by
   obtain ⟨Ah,e1,e2⟩:=hx i (by omega)
   rw [Aj] at e1
   have Af:=(World.cells?_some e1).2.1
   obtain ⟨r,h1,h2⟩:=rowc_of_trod Af e2
   exact ⟨(Ah,r),e1,Af,h1,h2⟩)
  refine ⟨(List.range len).map fun i=>(Z i).2,⟨some a,m,by simp,by simp;omega,by simpa using hl,(fun e=>by cases e),fun hp => ?_⟩,fun z hz => ?_⟩
  ·replace hp:0 < len:=by simpa using hp
   obtain ⟨q1,q2,_⟩:=hZ 0 hp
   obtain ⟨_,_,z2⟩:=World.cells?_some q1
   have z3:=z2 0 (by omega)
   rw [List.getElem?_eq_getElem (by omega),Deep.add_add] at z3
   obtain ⟨b,Ak,rfl,hb,Ad⟩:=ap2 (by simpa using z3)
   refine ⟨b,Ak,rfl,hb,trivial,fun j hj => ?_⟩
   replace hj:j < len:=by simpa using hj
   obtain ⟨p1,p2,p3,_⟩:=hZ j hj
   obtain ⟨_,_,e5⟩:=World.cells?_some p1
   refine ⟨(Z j).1,p2,by simpa using p3,fun i hi => ?_⟩
   have:=e5 i hi
   rw [Deep.add_add,Ad] at this
   rw [Nat.add_assoc]
   exact this
  ·obtain ⟨i,hi,rfl⟩:=List.mem_map.1 hz
   exact (hZ i (List.mem_range.1 hi)).2.2.2
end
end Go.Proofs.YtaddkkkchkdgkaaGreatDoor
namespace Go.Proofs.YtaddkkkchkdgkaaGreatDoor
open Go.RowKit Go.Sort
open Tess (CK Pay PO CO2 CO Que ckLt gP gOf)
theorem putsG_perm (s:Tess.Sch) (q:Que) (set:Nat) (C:List (CK×Pay)):(pG s q set C).Perm (oS2 (set:Nat) (gP s q set C)):=by
 rw [putsG_eq]
 unfold oS2
 refine (Tess.Kl.nod_perm (add:=Pay.add) Tess.cs3 (Tess.Kl.puts_nod Tess.cs3 _ [] (show Tess.Kl.Nod ([]:List (CK×Pay)) from List.Pairwise.nil)) (Tess.Kl.asc_nod Tess.cs3 Tess.groups_asc) fun k => ?_).map _
 rw [Tess.Kl.sum_puts Tess.cs3 Tess.pc2,Tess.sg2,Tess.Kl.sum,Tess.Kl.no2]
theorem sumI_perm {l m:List Int} (h:l.Perm m):l.sum=m.sum:=by
 induction h with
 | nil=>rfl
 | cons x _ ih=>rw [List.sum_cons,List.sum_cons,ih]
 | swap x y l=>simp only [List.sum_cons];omega
 | trans _ _ a b=>exact a.trans b
theorem totG_perm {l m:List Grp} (h:l.Perm m):totG l=totG m:=by
 unfold totG
 exact sumI_perm (h.map _)
theorem foldR_ok {s:Tess.Sch} {q:Que} {set:Int} {C:List (CK×Pay)} (hC:∀ x ∈ C,CO2 s x) (hn:q.names.length≤10):(∀ y ∈ fR2 s q set C,GO2 s.mets.length y)∧totG (fR2 s q set C)≤(C.map (·.2.n)).sum:=by
 have Aa:∀ x ∈ C,1≤x.2.n:=fun x hx=>(hC x hx).pay.one
 have h0:0≤(C.map (·.2.n)).sum:=by have:=(Tess.lls Aa).1;omega
 unfold fR2
 split
 ·rename_i h
  obtain ⟨_,k,rfl,hk⟩:=fEz h
  have hp:=putsG_perm s q k C
  rw [show ((k:Int)).toNat=k from rfl]
  constructor
  ·intro y hy
   have hy:=hp.mem_iff.2 hy
   unfold pG at hy
   exact fGo (fun z hz=>by obtain ⟨x,hx,rfl⟩:=List.mem_map.1 hz;exact grpOf_ok (hC x (List.mem_filter.1 hx).1) (by omega) hk) (fun z hz=>by cases hz) y hy
  ·rw [← totG_perm hp]
   unfold pG
   rw [fGt,totG_map]
   have h1:=tf2 (inF s q) C Aa
   have h2:totG []=0:=rfl
   omega
 ·exact ⟨(fun y hy=>by cases hy),h0⟩
end Go.Proofs.YtaddkkkchkdgkaaGreatDoor
namespace Go.Proofs.YtaddkkkchkdgkaaGreatDoor
open Go.RowKit Go.Sort
open Tess (CK Pay PO CO2 CO Que ckLt gP gOf)
theorem ofSet_map {β:Type} (set:Int) (l:List (CK×Pay)) (f:Pay→β):(oS2 set l).map (fun y=>f y.2.2)=l.map (fun y=>f y.2):=by
 unfold oS2;rw [List.map_map];rfl
theorem foldR_key {s:Tess.Sch} {q:Que} {set:Int} {C:List (CK×Pay)}:∀ y ∈ fR2 s q set C,y.2.1.2.length=q.names.length:=by
 intro y hy
 unfold fR2 at hy
 split at hy
 ·unfold oS2 at hy
  obtain ⟨x,hx,rfl⟩:=List.mem_map.1 hy
  exact Tess.groups_key x hx
 ·cases hy
theorem tGt {M:Nat} {A:List Grp} (h:∀ y ∈ A,GO2 M y) (j:Nat):0≤totG (A.take j)∧totG (A.take j)≤totG A:=by
 have h1:=(tGl (L:=A.take j) fun y hy=>h y (List.mem_of_mem_take hy)).1
 have h2:=(tGl (L:=A.drop j) fun y hy=>h y (List.mem_of_mem_drop hy)).1
 have e:totG A=totG (A.take j) + totG (A.drop j):=by
  unfold totG
  rw [← List.sum_append_int,← List.map_append,List.take_append_drop]
 omega
theorem sum_step (A:List Grp) (f:Grp→Int) (j:Nat) (hj:j < A.length):((A.take (j + 1)).map f).sum=((A.take j).map f).sum + f A[j]:=by
 rw [List.take_succ_eq_append_getElem hj,List.map_append,List.sum_append_int];simp
end Go.Proofs.YtaddkkkchkdgkaaGreatDoor
namespace Go.Proofs.YtaddkkkchkdgkaaGreatDoor
open Go.RowKit Go.Sort
open Tess (Fil Que CK Pay CO gP)
def iRI (p:Nat→Prop) (l:List Tess.Row) (v:Value) (W:World):Prop:=RowsIn p W v l
theorem iRI2 (p:Nat→Prop) (l:List Tess.Row):Flow.Spec.mono (.inr (iRI p l)):=fun _ _ _ h hb=>RowsIn.agR h (Ag.new _ hb)
def nP (N:Nat) (x:Value) (v:Value) (W:World):Prop:=∃ g,v = .slice (some ⟨g,0,none⟩) 1 1∧N≤g∧g < W.heap.size∧W.cell? ⟨g,0,none⟩=some x
theorem nPm (N:Nat) (x:Value):Flow.Spec.mono (.inr (nP N x)):=fun _ _ _ ⟨g,h1,h2,h3,h4⟩ hb=>⟨g,h1,h2,Nat.lt_of_lt_of_le h3 hb.size,(hb.cell (p:=⟨g,0,none⟩) h3).trans h4⟩
theorem nPm2 {N:Nat} (x:Value) (w:World) (t:TypeId) (h:N≤w.heap.size):nP N x (.slice (some ⟨w.heap.size,0,none⟩) 1 1) (w.alloc (.cells #[x] t)):=⟨_,rfl,h,by simp,by simp⟩
theorem parts_one {p q:Nat→Prop} {W:World} {u v:Value} {C:List (CK×Pay)} {N:Nat} (h:nP N u v W) (hc:CA3 p W u C) (hp:∀ b,p b→q b) (hN:∀ b,N≤b→q b):PartsAt q W v [C]:=by
 obtain ⟨g,rfl,h1,h2,h3⟩:=h
 refine ⟨_,_,rfl,by show (1:Nat)≤maxLen;decide,Nat.le_refl _,(fun e=>by cases e),fun _=>⟨g,0,rfl,h2,hN _ h1,fun j hj=>⟨[u],rfl,⟨_,rfl,?_⟩,fun i hi => ?_⟩⟩⟩
 ·obtain rfl:j=0:=by have:j < 1:=hj;omega
  exact hc.weak hp
 ·obtain rfl:i=0:=by omega
  obtain rfl:j=0:=by have:j < 1:=hj;omega
  exact h3
section
variable {p:Nat→Prop} {n:Nat} {w:World} {v:Value} {q:Que} {va vb vS f0 f1 f2 f3 f4 f5 vh vo:Value}
theorem QA.every (h:QA p n w v q va vb vS f0 f1 f2 f3 f4 f5 vh vo) (e:Int) :
  QA p n w (.agg #[va,vb,.int .i64 q.mode,vS,.int .i64 e,f0,f1,f2,f3,f4,f5,vh,vo,.int .i64 q.limit]) { q with every:=e } va vb vS f0 f1 f2 f3 f4 f5 vh vo:=
 ⟨rfl,h.aggs,h.mets,h.names,h.small,h.sets,h.fil,h.conds,h.keys⟩
end
theorem GA2.shapesL {p:Nat→Prop} {w:World} {cs:List Value} {x:Int×CK×Pay} (h:GA2 p w cs x):∃ ad cd a3 c3 a4 c4 a5 c5,cs=[.int .i64 x.1,.int .i64 x.2.1.1,.slice ad x.2.1.2.length cd,.int .i64 x.2.2.n,.slice a3 x.2.2.sums.length c3,.slice a4 x.2.2.mins.length c4,.slice a5 x.2.2.maxs.length c5]∧VA p w (.slice ad x.2.1.2.length cd) (x.2.1.2.map Tess.valOf)∧RA 2 wF p w (.slice a3 x.2.2.sums.length c3) x.2.2.sums∧RA 1 intF p w (.slice a4 x.2.2.mins.length c4) x.2.2.mins:=by
 obtain ⟨vd,vs,vm,vx,rfl,h1,h2⟩:=h
 obtain ⟨ad,cd,rfl⟩:=h1.shape
 have h3:=h2.sums
 have h4:=h2.mins
 obtain ⟨a3,c3,rfl⟩:=h2.sums.shape
 obtain ⟨a4,c4,rfl⟩:=h2.mins.shape
 obtain ⟨a5,c5,rfl⟩:=h2.maxs.shape
 rw [List.length_map] at h1 ⊢
 exact ⟨_,_,_,_,_,_,_,_,rfl,h1,h3,h4⟩
end Go.Proofs.YtaddkkkchkdgkaaGreatDoor
namespace Go.Proofs.YtaddkkkchkdgkaaGreatDoor
open Go.RowKit Go.Sort
open Tess (Fil Que CK Pay CO gP)
theorem getD_elem (l:List Int) (m:Nat) (h:m < l.length):l[m]=l.getD m 0:=by simp [List.getD_eq_getElem?_getD,List.getElem?_eq_getElem h]
structure GrpIn (p:Nat→Prop) (w:World) (M N:Nat) (x:Grp) (b o:Nat) (ad:Option Addr) (cd:Nat) (a3:Option Addr) (c3:Nat) (a4:Option Addr) (c4:Nat):Prop where
 lt:b < w.heap.size
 time:w.cell? ⟨b,o + 1,none⟩=some (.int .i64 x.2.1.1)
 key:w.cell? ⟨b,o + 2,none⟩=some (.slice ad N cd)
 n:w.cell? ⟨b,o + 3,none⟩=some (.int .i64 x.2.2.n)
 sums:w.cell? ⟨b,o + 4,none⟩=some (.slice a3 M c3)
 mins:w.cell? ⟨b,o + 5,none⟩=some (.slice a4 M c4)
 vals:VA p w (.slice ad N cd) (x.2.1.2.map Tess.valOf)
 sum:∀ m < M,∃ bs os,a3=some ⟨bs,os,none⟩∧bs < w.heap.size∧w.cell? ⟨bs,os + m * 2,none⟩=some (.int .i64 (wHi (x.2.2.sums.getD m 0)))∧w.cell? ⟨bs,os + m * 2 + 1,none⟩=some (.int .u64 (wLo (x.2.2.sums.getD m 0)))
 min:∀ m < M,∃ bm om,a4=some ⟨bm,om,none⟩∧bm < w.heap.size∧w.cell? ⟨bm,om + m,none⟩=some (.int .i64 (x.2.2.mins.getD m 0))
theorem GrpIn.later {p:Nat→Prop} {w w':World} {M N:Nat} {x:Grp} {b o:Nat} {ad:Option Addr} {cd:Nat} {a3:Option Addr} {c3:Nat} {a4:Option Addr} {c4:Nat} (h:GrpIn p w M N x b o ad cd a3 c3 a4 c4) (hb:Below w.heap.size w w'):GrpIn p w' M N x b o ad cd a3 c3 a4 c4 where
 lt:=Nat.lt_of_lt_of_le h.lt hb.size
 time:=(hb.cell (p:=⟨b,o + 1,none⟩) h.lt).trans h.time
 key:=(hb.cell (p:=⟨b,o + 2,none⟩) h.lt).trans h.key
 n:=(hb.cell (p:=⟨b,o + 3,none⟩) h.lt).trans h.n
 sums:=(hb.cell (p:=⟨b,o + 4,none⟩) h.lt).trans h.sums
 mins:=(hb.cell (p:=⟨b,o + 5,none⟩) h.lt).trans h.mins
 vals:=h.vals.ag (Ag.new p hb)
 sum m hm:=by
  obtain ⟨bs,os,e,h1,h2,h3⟩:=h.sum m hm
  exact ⟨bs,os,e,Nat.lt_of_lt_of_le h1 hb.size,(hb.cell (p:=⟨bs,os + m * 2,none⟩) h1).trans h2,(hb.cell (p:=⟨bs,os + m * 2 + 1,none⟩) h1).trans h3⟩
 min m hm:=by
  obtain ⟨bm,om,e,h1,h2⟩:=h.min m hm
  exact ⟨bm,om,e,Nat.lt_of_lt_of_le h1 hb.size,(hb.cell (p:=⟨bm,om + m,none⟩) h1).trans h2⟩
theorem grps_open {p:Nat→Prop} {w:World} {v:Value} {M N:Nat} {G:List Grp} (h:GA3 p w v G) (hok:∀ y ∈ G,GO2 M y) (hkey:∀ y ∈ G,y.2.1.2.length=N):∃ a c,v = .slice a G.length c∧G.length≤9223372036854775807∧∀ k (hk:k < G.length),∃ b off,a=some ⟨b,off,none⟩∧∃ ad cd a3 c3 a4 c4,GrpIn p w M N G[k] b (off + k * 7) ad cd a3 c3 a4 c4:=by
 obtain ⟨a,c,rfl,_,hl,_,hc⟩:=LA.open h
 refine ⟨a,c,rfl,by unfold maxLen at hl;omega,fun k hk => ?_⟩
 obtain ⟨b,off,rfl,hb,_,cs,_,hR,Aa⟩:=hc k hk
 obtain ⟨ad,cd,a3,c3,a4,c4,a5,c5,rfl,h1,h2,h3⟩:=hR.shapesL
 have ho:=hok _ (List.getElem_mem hk)
 have Ab:=hkey _ (List.getElem_mem hk)
 have hs:=ho.pay.len.1
 have hm:=ho.pay.len.2.1
 have e1:=Aa 1 (by omega)
 have e2:=Aa 2 (by omega)
 have e3:=Aa 3 (by omega)
 have e4:=Aa 4 (by omega)
 have e5:=Aa 5 (by omega)
 simp only [List.getElem?_cons_zero,List.getElem?_cons_succ] at e1 e2 e3 e4 e5
 rw [Ab] at e2 h1
 rw [hs] at e4
 rw [hm] at e5
 refine ⟨b,off,rfl,ad,cd,a3,c3,a4,c4,⟨hb,e1,e2,e3,e4,e5,h1,fun m hm' => ?_,fun m hm' => ?_⟩⟩
 ·obtain ⟨bs,os,e,q1,q2,q3⟩:=h2.num2 (k:=m) (by omega)
  rw [getD_elem] at q2 q3
  exact ⟨bs,os,e,q1,q2,q3⟩
 ·obtain ⟨bm,om,e,q1,q2⟩:=h3.num1 (k:=m) (by omega)
  rw [getD_elem] at q2
  exact ⟨bm,om,e,q1,q2⟩
end Go.Proofs.YtaddkkkchkdgkaaGreatDoor
namespace Go.Proofs.YtaddkkkchkdgkaaGreatDoor
open Go.RowKit Go.Sort
section
variable {α:Type} {N k:Nat} {t:TypeId} {R:(Nat→Prop)→World→List Value→α→Prop} {p q:Nat→Prop} {W W':World} {v lv lv':Value} {us:List (List Value)} {ls:List α}
theorem OwnL.mores (hN:Nest k R) (h:OwnL N k t R p W lv us ls) {xs:List (List Value)} {ys:List α} (hl:xs.length=ys.length)
  (hx:∀ j (hj:j < ys.length) (hj':j < xs.length),R (fun b=>p b∧lv.ownBlock≠some b) W xs[j] ys[j])
  (hown:W'.ownsRow N t k lv' (us.length + xs.length) (us.flatten ++ xs.flatten)) (hg:W.grownBy W' lv.ownBlock) (hloc:lv'.ownBlock=lv.ownBlock∨lv'.ownBlock=some W.heap.size∨lv'.ownBlock=none):OwnL N k t R p W' lv' (us ++ xs) (ls ++ ys):=by
 have Ad:Ag (fun b=>lv.ownBlock≠some b) W W':=Ag.grown hg fun g e=>by rw [e];simp
 have Ac:∀ {cs z},R (fun b=>p b∧lv.ownBlock≠some b) W cs z→R (fun b=>p b∧lv'.ownBlock≠some b) W' cs z:=fun h=>
  hN.weak (hN.ag (hN.lt h) (Ad.weak fun b hb=>hb.1.2)) fun b hb=>⟨hb.1.1,by
   rcases hloc with e | e | e
   ·rw [e];exact hb.1.2
   ·rw [e];intro e2;have:=Option.some.inj e2;have:=hb.2;omega
   ·rw [e];simp⟩
 have Ab:=h.len
 refine ⟨by simpa using hown,by simp [Ab,hl],fun j hj hj' => ?_⟩
 by_cases hjl:j < us.length
 ·have Aa:j < ls.length:=by omega
  rw [List.getElem_append_left hjl,List.getElem_append_left Aa]
  exact Ac (h.at_ j Aa hjl)
 ·rw [List.getElem_append_right (by omega),List.getElem_append_right (by omega)]
  simp only [Ab]
  exact Ac (hx _ (by simp at hj;omega) (by simp at hj';omega))
theorem LA.cells {S:World→List Value→α→Prop} {l:List α} (h:LA k S p W v l) (hk:0 < k):∃ xs:List (List Value),xs.length=l.length∧(∀ x ∈ xs,x.length=k)∧(∀ j (hj:j < l.length) (hj':j < xs.length),S W xs[j] l[j]) ∧
  ((v = .slice none 0 0∧xs=[])∨∃ ad c,v = .slice (some ad) l.length c∧∀ j u,xs.flatten[j]? = some u→W.cell? (ad.add j)=some u):=by
 obtain ⟨a,Ah,rfl,hc,hm,hn,Ab⟩:=LA.open h
 have Ai:∀ j:Nat,∃ cs:List Value,∀ hj:j < l.length,∃ b Ac,a=some ⟨b,Ac,none⟩∧cs.length=k∧S W cs l[j]∧∀ i,i < k→W.cell? ⟨b,Ac + j * k + i,none⟩=cs[i]? := by
  intro j
  by_cases hj:j < l.length
  ·obtain ⟨b,Ac,e,_,_,cs,e1,e2,e3⟩:=Ab j hj
   exact ⟨cs,fun _=>⟨b,Ac,e,e1,e2,e3⟩⟩
  ·exact ⟨[],fun h=>absurd h hj⟩
 obtain ⟨f,hf⟩:=Classical.axiomOfChoice Ai
 refine ⟨(List.range l.length).map f,by simp,?_,?_,?_⟩
 ·intro x hx
  obtain ⟨j,hj,rfl⟩:=List.mem_map.1 hx
  obtain ⟨_,_,_,e,_⟩:=hf j (List.mem_range.1 hj)
  exact e
 ·intro j hj hj'
  obtain ⟨_,_,_,_,e,_⟩:=hf j hj
  simpa using e
 ·cases a with
  | none=>
    have Aj:=hn rfl
    have Al:l.length=0:=by omega
    left
    rw [Aj,Al]
    exact ⟨rfl,rfl⟩
  | some ad=>
    right
    refine ⟨ad,Ah,rfl,fun j u hu => ?_⟩
    have hj:j < ((List.range l.length).map f).flatten.length:=by
     rcases Nat.lt_or_ge j ((List.range l.length).map f).flatten.length with h | h
     ·exact h
     ·rw [List.getElem?_eq_none h] at hu;cases hu
    have Aa:∀ x ∈ (List.range l.length).map f,x.length=k:=by
     intro x hx
     obtain ⟨j,hj,rfl⟩:=List.mem_map.1 hx
     obtain ⟨_,_,_,e,_⟩:=hf j (List.mem_range.1 hj)
     exact e
    have Ak:((List.range l.length).map f).flatten.length=l.length * k:=by
     have:∀ us:List (List Value),(∀ x ∈ us,x.length=k)→us.flatten.length=us.length * k:=by
      intro us
      induction us with
      | nil=>intro _;simp
      | cons x us ih=>intro h;rw [List.flatten_cons,List.length_append,ih (fun y hy=>h y (by simp [hy])),h x (by simp),List.length_cons,Nat.succ_mul,Nat.add_comm]
     rw [this _ Aa];simp
    rw [Ak] at hj
    have Af:j / k < l.length:=Nat.div_lt_of_lt_mul (by rw [Nat.mul_comm];exact hj)
    have Ae:j % k < k:=Nat.mod_lt _ hk
    have Ad:j / k * k + j % k=j:=by rw [Nat.mul_comm];exact Nat.div_add_mod j k
    obtain ⟨b,Ac,e,e1,_,e3⟩:=hf (j / k) Af
    cases e
    have Ag:=flatU ((List.range l.length).map f) Aa (j / k) (j % k) (by simpa using Af) Ae
    rw [Ad] at Ag
    rw [addr_add,← hu,Ag]
    have h3:=e3 _ Ae
    rw [Nat.add_assoc,Ad] at h3
    rw [h3]
    simp
end
end Go.Proofs.YtaddkkkchkdgkaaGreatDoor
namespace Tess
open Go Kl
theorem sFl (l:List ByteArray):∀ (r:List ByteArray) (i:Nat),Que.sF2 l i r + 2 ^ i≤2 ^ (i + r.length)
 | [],i=>by simp [Que.sF2]
 | x :: r,i=>by
   have ih:=sFl l r (i + 1)
   have e:i + (x :: r).length=i + 1 + r.length:=by simp;omega
   rw [e]
   unfold Que.sF2
   rw [Nat.pow_succ] at ih
   split <;> omega
theorem sOl {s:Sch} {q:Que} (_h:Que.check s q=0):∀ x ∈ Que.sO q,x < 2 ^ q.names.length:=by
 intro x hx
 have hp:=Nat.two_pow_pos q.names.length
 unfold Que.sO at hx
 split at hx
 ·have:=List.mem_singleton.1 hx;omega
 split at hx
 ·exact List.mem_range.1 hx
 split at hx
 ·obtain ⟨k,hk,rfl⟩:=List.mem_map.1 hx
  have:=Nat.two_pow_pos (q.names.length - k)
  omega
 ·obtain ⟨k,hk,rfl⟩:=List.mem_map.1 hx
  have:=sFl k q.names 0
  unfold Que.setOf
  simp only [Nat.zero_add] at this
  omega
theorem pow_six {n:Nat} (h:n≤6):2 ^ n≤64:=Nat.le_trans (Nat.pow_le_pow_right (by omega) h) (by decide)
theorem sOf {s:Sch} {q:Que} (h:Que.check s q=0):(Que.sO q).length≤64:=by
 obtain ⟨_,h1,_,h2⟩:=Que.iOn (Que.check_ok h)
 have:=pow_six h1
 unfold Que.sO
 split
 ·simp
 split
 ·simpa using this
 split
 ·simp;omega
 ·simp;omega
theorem gm3 (s:Sch) (q:Que) (set:Nat) (C:List (CK×Pay)):(gP s q set C).length≤C.length:=by
 have h1:∀ (l m:List (CK×Pay)),(l.foldl (fun m x=>ins ckLt Pay.add x m) m).length≤m.length + l.length:=by
  intro l
  induction l with
  | nil=>intro m;simp
  | cons x l ih=>
    intro m
    rw [List.foldl_cons,List.length_cons]
    refine Nat.le_trans (ih _) ?_
    have h2:∀ m:List (CK×Pay),(ins ckLt Pay.add x m).length≤m.length + 1:=by
     intro m
     induction m with
     | nil=>simp [ins]
     | cons y m ih2=>rw [ins];split;· simp only [List.length_cons];omega
                     ·split <;> simp only [List.length_cons] <;> omega
    have:=h2 m
    omega
 refine Nat.le_trans (h1 _ []) ?_
 unfold re
 have:=List.length_filterMap_le (fun x:CK×Pay=>(gOf s q set x.1).map fun k=>(k,x.2)) C
 simpa using this
end Tess
namespace Go.Proofs.YtaddkkkchkdgkaaGreatDoor
open Tess (Que CK Pay gP)
def runG (s:Tess.Sch) (q:Que) (C:List (CK×Pay)):List Grp:=(Que.sO q).flatMap fun (set:Nat)=>oS2 (set:Int) (gP s q set C)
theorem rGr (s:Tess.Sch) (q:Que) (C:List (CK×Pay)):runG s q C=(Tess.runP s q C).map fun x=>((x.1:Int),x.2):=by
 unfold runG Tess.runP oS2
 rw [List.map_flatMap]
 congr 1
 funext k
 rw [List.map_map]
 rfl
def runE (s:Tess.Sch) (q:Que) (C:List (CK×Pay)):Nat:=if Que.check s q≠0 then Que.check s q else if 3000 < (runG s q C).length then 160 else 0
def runR (s:Tess.Sch) (q:Que) (C:List (CK×Pay)):List Grp:=if runE s q C=0 then runG s q C else []
theorem rRz {s:Tess.Sch} {q:Que} {C:List (CK×Pay)} (h:runE s q C=0):runR s q C=runG s q C:=if_pos h
theorem rEz {s:Tess.Sch} {q:Que} {C:List (CK×Pay)} (h:runE s q C=0):Que.check s q=0∧(runG s q C).length≤3000:=by
 unfold runE at h
 split at h
 ·rename_i hc;exact absurd h hc
 ·rename_i hc
  split at h
  ·cases h
  ·exact ⟨by simpa using hc,by omega⟩
def rT (s:Tess.Sch) (q:Que) (C:List (CK×Pay)) (k:Nat):List Grp:=((Que.sO q).take k).flatMap fun (set:Nat)=>oS2 (set:Int) (gP s q set C)
theorem rTs (s:Tess.Sch) (q:Que) (C:List (CK×Pay)) (k:Nat) (hk:k < (Que.sO q).length):rT s q C (k + 1)=rT s q C k ++ oS2 (((Que.sO q)[k]:Nat):Int) (gP s q (Que.sO q)[k] C):=by
 unfold rT
 rw [List.take_succ_eq_append_getElem hk,List.flatMap_append,List.flatMap_singleton]
theorem runTo_all (s:Tess.Sch) (q:Que) (C:List (CK×Pay)):rT s q C (Que.sO q).length=runG s q C:=by unfold rT runG;rw [List.take_length]
theorem runTo_len {s:Tess.Sch} {q:Que} {C:List (CK×Pay)} (M:Nat) (hC:C.length≤M) (k:Nat) (hk:k≤(Que.sO q).length):(rT s q C k).length≤k * M:=by
 induction k with
 | zero=>simp [rT]
 | succ k ih=>
   rw [rTs s q C k (by omega),List.length_append,Nat.succ_mul]
   have h1:=ih (by omega)
   have h2:=Tess.gm3 s q (Que.sO q)[k] C
   have h3:(oS2 (((Que.sO q)[k]:Nat):Int) (gP s q (Que.sO q)[k] C)).length=(gP s q (Que.sO q)[k] C).length:=by unfold oS2;simp
   omega
end Go.Proofs.YtaddkkkchkdgkaaGreatDoor
namespace Go.Proofs.YtaddkkkchkdgkaaGreatDoor
open Go.RowKit Go.Sort
open Tess (CK Pay PO CO2 CO Que ckLt gP gOf)
theorem fEs {s:Tess.Sch} {q:Que} {k:Nat} (h:Que.check s q=0) (hk:k < 2 ^ q.names.length):fE s q (k:Int)=0:=by
 unfold fE
 rw [h,if_neg (by simp),if_neg (by omega)]
theorem fRs {s:Tess.Sch} {q:Que} {k:Nat} (h:Que.check s q=0) (hk:k < 2 ^ q.names.length) (C:List (CK×Pay)):fR2 s q (k:Int) C=oS2 (k:Nat) (gP s q k C):=by
 unfold fR2
 rw [if_pos (fEs h hk)]
 rfl
theorem runG_fold {s:Tess.Sch} {q:Que} (h:Que.check s q=0) (C:List (CK×Pay)) {y:Grp} (hy:y ∈ runG s q C):∃ k:Nat,k ∈ Que.sO q∧k < 2 ^ q.names.length∧y ∈ fR2 s q (k:Int) C:=by
 unfold runG at hy
 obtain ⟨k,hk,hy⟩:=List.mem_flatMap.1 hy
 have Aa:=Tess.sOl h k hk
 exact ⟨k,hk,Aa,by rw [fRs h Aa];exact hy⟩
theorem runG_ok {s:Tess.Sch} {q:Que} {C:List (CK×Pay)} (h:Que.check s q=0) (hC:∀ x ∈ C,CO2 s x) (hn:q.names.length≤10):∀ y ∈ runG s q C,GO2 s.mets.length y:=fun y hy=>by
 obtain ⟨k,_,_,hy⟩:=runG_fold h C hy
 exact (foldR_ok hC hn).1 y hy
theorem runG_key {s:Tess.Sch} {q:Que} {C:List (CK×Pay)} (h:Que.check s q=0):∀ y ∈ runG s q C,y.2.1.2.length=q.names.length:=fun y hy=>by
 obtain ⟨k,_,_,hy⟩:=runG_fold h C hy
 exact foldR_key y hy
theorem totG_ofSet (set:Int) (l:List (CK×Pay)):totG (oS2 set l)=(l.map (·.2.n)).sum:=congrArg List.sum (ofSet_map set l (·.n))
theorem runG_count {s:Tess.Sch} {q:Que} {C:List (CK×Pay)} (h:Que.check s q=0):totG (runG s q C)=totG (fR2 s q ((2 ^ q.names.length - 1:Nat):Int) C) * ((Que.sO q).length:Int):=by
 have hp:=Nat.two_pow_pos q.names.length
 rw [fRs h (by omega),totG_ofSet,← Tess.run_count,rGr]
 unfold totG
 rw [List.map_map]
 rfl
end Go.Proofs.YtaddkkkchkdgkaaGreatDoor
