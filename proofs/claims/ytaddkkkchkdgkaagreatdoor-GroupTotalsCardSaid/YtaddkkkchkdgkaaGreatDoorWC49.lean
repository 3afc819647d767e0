/- Joined by mergeK.py: H14, F34, H18, H19, K70, K72, FlT -/
import Derived.Test.YtaddkkkchkdgkaaGreatDoorWC41
import Derived.Test.YtaddkkkchkdgkaaGreatDoorWC47
import Derived.Test.YtaddkkkchkdgkaaGreatDoorWC43
import Derived.Test.YtaddkkkchkdgkaaGreatDoorWC13
import Derived.Lib.SmallJoins
import Derived.Test.YtaddkkkchkdgkaaGreatDoorWC37
import Derived.Test.YtaddkkkchkdgkaaGreatDoorWC45
import Derived.Test.YtaddkkkchkdgkaaGreatDoorWC48
import Derived.Test.YtaddkkkchkdgkaaGreatDoorWC46
import Derived.Test.YtaddkkkchkdgkaaGreatDoorWC18
import Derived.Test.YtaddkkkchkdgkaaGreatDoorWC28
namespace Tess
open Go
namespace Que
end Que
end Tess
namespace Go.Proofs.YtaddkkkchkdgkaaGreatDoor
open Go.RowKit Go.Sort
open Tess (Fil Que)
theorem and_one:∀ x:Nat,x < 1024→bits .and .u64 ((x:Nat):Int) 1=((x % 2:Nat):Int):=by decide +kernel
end Go.Proofs.YtaddkkkchkdgkaaGreatDoor
namespace Go
open Go.ChangeShapes Go.WideShapes Go.Deep Go.Joins
theorem array6 {α:Type} {l:List α} (h:l.length=6):∃ c0 c1 c2 c3 c4 c5,l=[c0,c1,c2,c3,c4,c5]:=by
 match l,h with
 | [c0,c1,c2,c3,c4,c5],_=>exact ⟨c0,c1,c2,c3,c4,c5,rfl⟩
section
variable {P:Program} {w:World} {H:Type} {enc:TypeId×Value→H} {held:Bool}
theorem addr_plain {w:World} {a:Addr} {v:Value} (h:w.cell? (a.add 0)=some v):∃ b off,a=⟨b,off,none⟩∧b < w.heap.size∧∀ k,a.add k=⟨b,off + k,none⟩:=by
 obtain ⟨ab,ao,asp⟩:=a
 cases asp with
 | some x=>exfalso;simp [Addr.add,World.cell?] at h;split at h <;> simp at h
 | none=>
   have hk:∀ k,(⟨ab,ao,none⟩:Addr).add k=⟨ab,ao + k,none⟩:=fun k=>by unfold Addr.add;split <;> simp_all
   rw [hk] at h
   exact ⟨ab,ao,rfl,World.block_lt_of_cell? w _ h,hk⟩
theorem col_of_trod {α:Type} [Inhabited α] (f:α→Value) (Q:α→Prop) {t e:TypeId} (ht:P.underlying t=some (.slice e)) (hc:P.cellsOf e=1)
  (hd:∀ n v y,DataW.trod enc P w 0 (fun _=>true) held n e [v]=some y→∃ z,v=f z∧Q z) {fuel:Nat} {v:Value} {x:DataW H×List MemPlace} (h:DataW.trod enc P w 0 (fun _=>true) held fuel t [v]=some x) :
  ∃ zs:List α,SlP (fun _=>True) w v (zs.map f)∧(∀ z ∈ zs,Q z)∧∃ a cap,v = .slice a zs.length cap∧zs.length≤cap:=by
 rcases open_slice1 ht hc h with ⟨hcs,_⟩ | ⟨a,len,cap,m,n,V,D,Pl,hcs,_,hl,hm,hmm,_,hx⟩
 ·simp only [List.cons.injEq,and_true] at hcs
  subst hcs
  exact ⟨[],SlP.nil _ _,(fun z hz=>by cases hz),none,0,rfl,Nat.le_refl _⟩
 ·simp only [List.cons.injEq,and_true] at hcs
  subst hcs
  simp only [if_true] at hmm
  subst hmm
  obtain ⟨Z,hZ⟩:=choose_lt (α:=α) (p:=fun i z=>V i=f z∧Q z) (fun i hi=>hd n _ _ (hx i (Nat.lt_of_lt_of_le hi hl)).2)
  have hlen:(((List.range len).map Z).map f).length=len:=by simp
  refine ⟨(List.range len).map Z,⟨⟨by rw [hlen];omega,some a,m,by rw [hlen],fun hp => ?_⟩,fun _ _ _=>trivial,fun n c e=>by cases e⟩,fun z hz => ?_,some a,m,by simp,by simpa using hl⟩
  ·rw [hlen] at hp
   obtain ⟨b,off,rfl,hb,hk⟩:=addr_plain (hx 0 (by omega)).1
   refine ⟨b,off,rfl,hb,fun j hj => ?_⟩
   rw [hlen] at hj
   rw [← hk j,(hx j (by omega)).1]
   simp [(hZ j hj).1]
  ·obtain ⟨i,hi,rfl⟩:=List.mem_map.1 hz
   exact (hZ i (List.mem_range.1 hi)).2
end
end Go
namespace Go.Proofs.YtaddkkkchkdgkaaGreatDoor
open Go.RowKit Go.ChangeShapes Go.WideShapes Go.Deep Go.Joins
open Tess (Fil)
instance:Inhabited Fil:=⟨.mk 0 ByteArray.empty [] 0 0 []⟩
instance:Inhabited Tess.Val:=⟨⟨ByteArray.empty,false⟩⟩
section
variable {w:World} {H:Type} {enc:TypeId×Value→H} {held:Bool}
theorem strs_of_trod {fuel:Nat} {v:Value} {x:DataW H×List MemPlace} (h:DataW.trod enc Tryz.prog w 0 (fun _=>true) held fuel 22 [v]=some x) :
  ∃ zs:List ByteArray,SlP (fun _=>True) w v (zs.map .string)∧(∀ z ∈ zs,z.size≤maxLen)∧∃ a cap,v = .slice a zs.length cap∧zs.length≤cap:=
 col_of_trod .string (fun z=>z.size≤maxLen) Tryz.underlying22 (by kernel_rfl) (fun n v y hy=>by
  obtain ⟨s,hs,_,hz⟩:=DataW.trod_string Tryz.underlying9 hy
  exact ⟨s,by simpa using hs,hz⟩) h
theorem ints_of_trod {fuel:Nat} {v:Value} {x:DataW H×List MemPlace} (h:DataW.trod enc Tryz.prog w 0 (fun _=>true) held fuel 54 [v]=some x) :
  ∃ zs:List Int,SlP (fun _=>True) w v (zs.map (.int .i64))∧(∀ z ∈ zs,(Lit.int .i64 z).wf=true)∧∃ a cap,v = .slice a zs.length cap∧zs.length≤cap:=
 col_of_trod (.int .i64) (fun z=>(Lit.int .i64 z).wf=true) Tryz.underlying54 (by kernel_rfl) (fun n v y hy=>by
  obtain ⟨s,hs,_,hz⟩:=DataW.trod_int Tryz.underlying2 hy
  exact ⟨s,by simpa using hs,hz⟩) h
theorem int_cell {fuel:Nat} {v:Value} {x:DataW H×List MemPlace} (h:DataW.trod enc Tryz.prog w 0 (fun _=>true) held fuel 2 [v]=some x):∃ z,v = .int .i64 z ∧ -9223372036854775808≤z∧z≤9223372036854775807:=by
 obtain ⟨z,hz,_,hw⟩:=DataW.trod_int Tryz.underlying2 h
 simp only [Lit.wf,Bool.and_eq_true,decide_eq_true_eq] at hw
 exact ⟨z,by simpa using hz,hw.1,hw.2⟩
set_option maxRecDepth 100000 in
theorem trod_fil {fuel:Nat} {cs:List Value} {x:DataW H×List MemPlace} (h:DataW.trod enc Tryz.prog w 0 (fun _=>true) held fuel 31 cs=some x) :
  ∃ n k nm c2 frm to c5 y2 y5,fuel=n + 1∧cs=[.int .i64 k,.string nm,c2,.int .i64 frm,.int .i64 to,c5]∧(-9223372036854775808≤k∧k≤9223372036854775807)∧nm.size≤maxLen ∧
    DataW.trod enc Tryz.prog w 0 (fun _=>true) held n 22 [c2]=some y2∧DataW.trod enc Tryz.prog w 0 (fun _=>true) held n 29 [c5]=some y5:=by
 have hC6:Tryz.prog.cellsOf 31=6:=by kernel_rfl
 have kI:Tryz.prog.cellsOf 3=1:=by kernel_rfl
 have kJ:Tryz.prog.cellsOf 2=1:=by kernel_rfl
 have kS:Tryz.prog.cellsOf 9=1:=by kernel_rfl
 have kW:Tryz.prog.cellsOf 22=1:=by kernel_rfl
 have kL:Tryz.prog.cellsOf 29=1:=by kernel_rfl
 have kP:Tryz.prog.cellsOf 28=2:=by kernel_rfl
 obtain ⟨xs,n,rfl,_,hl,hlen,hf⟩:=DataW.trod_struct Tryz.underlying31 h
 obtain ⟨c0,c1,c2,c3,c4,c5,rfl⟩:=array6 (hl.trans hC6)
 obtain ⟨y0,y1,y2,y3,y4,rfl⟩:∃ y0 y1 y2 y3 y4,xs=[y0,y1,y2,y3,y4]:=by
  match xs,(show xs.length=5 from hlen) with
  | [c0,c1,c2,c3,c4],_=>exact ⟨c0,c1,c2,c3,c4,rfl⟩
 obtain ⟨k,hk,_,hw⟩:=DataW.trod_int Tryz.underlying3 (by simpa [kI] using hf 0 _ rfl)
 obtain ⟨nm,hnm,_,hz⟩:=DataW.trod_string Tryz.underlying9 (by simpa [kS] using hf 1 _ rfl)
 have h2:DataW.trod enc Tryz.prog w 0 (fun _=>true) held n 22 [c2]=some y2:=by simpa [kW] using hf 2 _ rfl
 have h3:DataW.trod enc Tryz.prog w 0 (fun _=>true) held n 28 [c3,c4]=some y3:=by simpa [kP] using hf 3 _ rfl
 have h4:DataW.trod enc Tryz.prog w 0 (fun _=>true) held n 29 [c5]=some y4:=by simpa [kL] using hf 4 _ rfl
 obtain ⟨z0,z1,n',_,_,t0,t1⟩:=trod_struct2 Tryz.underlying28 h3
 obtain ⟨fr,hfr,_⟩:=DataW.trod_int Tryz.underlying2 (by simpa [kJ] using t0)
 obtain ⟨to,hto,_⟩:=DataW.trod_int Tryz.underlying2 (by simpa [kJ] using t1)
 obtain rfl:c0 = .int .i64 k:=by simpa using hk
 obtain rfl:c1 = .string nm:=by simpa using hnm
 obtain rfl:c3 = .int .i64 fr:=by simpa using hfr
 obtain rfl:c4 = .int .i64 to:=by simpa using hto
 simp only [Lit.wf,Bool.and_eq_true,decide_eq_true_eq] at hw
 exact ⟨n,k,nm,c2,fr,to,c5,y2,y4,rfl,rfl,⟨hw.1,hw.2⟩,hz,h2,h4⟩
set_option maxRecDepth 100000 in
theorem fil_of_trod:∀ (fuel:Nat) (cs:List Value) (x:DataW H×List MemPlace),DataW.trod enc Tryz.prog w 0 (fun _=>true) held fuel 31 cs=some x→∃ f,cs.length=6∧kindsOk f∧FilAt (fun _=>True) fuel w (.agg cs.toArray) f:=by
 intro fuel
 induction fuel using Nat.strongRecOn with
 | ind fuel ih=>
   intro cs x h
   obtain ⟨n,k,nm,c2,fr,to,c5,y2,y5,rfl,rfl,⟨hk1,hk2⟩,hz,h2,h5⟩:=trod_fil h
   obtain ⟨ws,hws,hwz,_⟩:=strs_of_trod h2
   rcases DataW.trod_slice Tryz.underlying29 h5 with ⟨hcs,_⟩ | ⟨a,len,cap,elems,rest,n',rfl,hcs,_,_,hl,hm,hlen,hel,_,_⟩
   ·obtain rfl:c5 = .slice none 0 0:=by simpa using hcs
    refine ⟨.mk k nm ws fr to [],rfl,?_,_,_,_,rfl,hz,hws,hwz,Nat.zero_le _,fun _=>rfl,fun hh=>absurd hh (by simp [Fil.l])⟩
    unfold kindsOk
    rw [Fil.allP_eq,Bool.and_eq_true]
    exact ⟨by simp [Fil.kind,hk1,hk2],by simp [Fil.l]⟩
   ·obtain rfl:c5 = .slice (some a) len cap:=by simpa using hcs
    have hC6:Tryz.prog.cellsOf 31=6:=by kernel_rfl
    obtain ⟨F,hF⟩:=choose_lt (α:=Fil) (n:=len) (p:=fun i f => ∃ cs',w.cells? 0 (a.add (i * 6)) 6=some cs'∧cs'.length=6∧kindsOk f∧FilAt (fun _=>True) n' w (.agg cs'.toArray) f) (fun i hi=>by
     have key:=hel i hi
     rw [List.getElem?_eq_getElem (by omega),hC6] at key
     obtain ⟨cs',e1,e2⟩:=Option.bind_eq_some_iff.1 key
     obtain ⟨f,q1,q2,q3⟩:=ih n' (by omega) cs' _ e2
     exact ⟨f,cs',e1,q1,q2,q3⟩)
    have hll:((List.range len).map F).length=len:=by simp
    refine ⟨.mk k nm ws fr to ((List.range len).map F),rfl,?_,_,some a,cap,?_,hz,hws,hwz,?_,(fun e=>by cases e),fun hp => ?_⟩
    ·unfold kindsOk
     rw [Fil.allP_eq,Bool.and_eq_true,List.all_eq_true]
     refine ⟨by simp [Fil.kind,hk1,hk2],fun y hy => ?_⟩
     obtain ⟨i,hi,rfl⟩:=List.mem_map.1 (show y ∈ (List.range len).map F from hy)
     obtain ⟨_,_,_,q,_⟩:=hF i (List.mem_range.1 hi)
     exact q
    ·simp [Fil.kind,Fil.name,Fil.frm,Fil.to,Fil.l]
    ·simp [Fil.l];omega
    ·replace hp:0 < len:=by simpa [Fil.l] using hp
     obtain ⟨cs0,z0,l0,_⟩:=hF 0 hp
     obtain ⟨_,_,z2⟩:=World.cells?_some z0
     have z3:=z2 0 (by omega)
     rw [List.getElem?_eq_getElem (by omega),Deep.add_add] at z3
     obtain ⟨b,off,rfl,hb,hadd⟩:=addr_plain (by simpa using z3)
     refine ⟨b,off,rfl,hb,trivial,fun j hj => ?_⟩
     replace hj:j < len:=by simpa [Fil.l] using hj
     obtain ⟨cs',e1,e2,e3,e4⟩:=hF j hj
     obtain ⟨d0,d1,d2,d3,d4,d5,rfl⟩:=array6 e2
     obtain ⟨_,_,e5⟩:=World.cells?_some e1
     have hcell:∀ i (hi:i < 6),w.cell? ⟨b,off + j * 6 + i,none⟩=[d0,d1,d2,d3,d4,d5][i]? := fun i hi=>by
      rw [← e5 i hi,Deep.add_add,hadd,Nat.add_assoc]
     refine ⟨d0,d1,d2,d3,d4,d5,?_,hcell 0 (by omega),hcell 1 (by omega),hcell 2 (by omega),hcell 3 (by omega),hcell 4 (by omega),hcell 5 (by omega)⟩
     have e6:(Fil.mk k nm ws fr to ((List.range len).map F)).l[j]'(by simpa [Fil.l] using hj)=F j:=by simp [Fil.l]
     rw [e6]
     exact FilAt.mono (by omega) e4
set_option maxRecDepth 100000 in
theorem vals_of_trod {fuel:Nat} {v:Value} {x:DataW H×List MemPlace} (h:DataW.trod enc Tryz.prog w 0 (fun _=>true) held fuel 52 [v]=some x):∃ l,ValsAt (fun _=>True) w v l:=by
 rcases open_slice Tryz.underlying52 h with ⟨hcs,_⟩ | ⟨a,len,cap,m,n,D,Pl,hcs,_,hl,hm,hmm,_,hx⟩
 ·obtain rfl:v = .slice none 0 0:=by simpa using hcs
  exact ⟨[],none,0,rfl,Nat.zero_le _,(fun z hz=>by cases hz),fun _=>rfl,fun hh=>absurd hh (by simp)⟩
 ·obtain rfl:v = .slice (some a) len cap:=by simpa using hcs
  simp only [if_true] at hmm
  subst hmm
  have hC2:Tryz.prog.cellsOf 72=2:=by kernel_rfl
  obtain ⟨Z,hZ⟩:=choose_lt (α:=Tess.Val) (n:=len) (p:=fun i z=>w.cells? 0 (a.add (i * 2)) 2=some [.string z.s,.bool z.null]∧z.s.size≤maxLen) (fun i hi=>by
   obtain ⟨cs',e1,e2⟩:=hx i (by omega)
   rw [hC2] at e1
   obtain ⟨y0,y1,n',_,hcl,t0,t1⟩:=trod_struct2 Tryz.underlying72 e2
   rw [hC2] at hcl
   match cs',hcl with
   | [c0,c1],_=>
     have k0:Tryz.prog.cellsOf 9=1:=by kernel_rfl
     have k1:Tryz.prog.cellsOf 4=1:=by kernel_rfl
     obtain ⟨s,hs,_,hz⟩:=DataW.trod_string Tryz.underlying9 (by simpa [k0] using t0)
     obtain ⟨bb,hb,_⟩:=DataW.trod_bool Tryz.underlying4 (by simpa [k1] using t1)
     obtain rfl:c0 = .string s:=by simpa using hs
     obtain rfl:c1 = .bool bb:=by simpa using hb
     exact ⟨⟨s,bb⟩,e1,hz⟩)
  refine ⟨(List.range len).map Z,some a,m,by simp,by simp;omega,fun z hz => ?_,(fun e=>by cases e),fun hp => ?_⟩
  ·obtain ⟨i,hi,rfl⟩:=List.mem_map.1 hz
   exact (hZ i (List.mem_range.1 hi)).2
  ·replace hp:0 < len:=by simpa using hp
   obtain ⟨_,_,z2⟩:=World.cells?_some (hZ 0 hp).1
   have z3:=z2 0 (by omega)
   rw [List.getElem?_cons_zero,Deep.add_add] at z3
   obtain ⟨b,off,rfl,hb,hadd⟩:=addr_plain (by simpa using z3)
   refine ⟨b,off,rfl,hb,trivial,fun j hj => ?_⟩
   replace hj:j < len:=by simpa using hj
   obtain ⟨_,_,e5⟩:=World.cells?_some (hZ j hj).1
   have hcell:∀ i (hi:i < 2),w.cell? ⟨b,off + j * 2 + i,none⟩=[Value.string (Z j).s,.bool (Z j).null][i]? := fun i hi=>by
    rw [← e5 i hi,Deep.add_add,hadd,Nat.add_assoc]
   exact ⟨(show w.cell? ⟨b,off + j * 2,none⟩=_ from hcell 0 (by omega)).trans (by simp),(show w.cell? ⟨b,off + j * 2 + 1,none⟩=_ from hcell 1 (by omega)).trans (by simp)⟩
set_option maxRecDepth 100000 in
theorem open_sch {r:Reach} {b0:Nat} {v:Value} {d:DataW H} {ps:List MemPlace} (hval:Value.okWide Tryz.prog w r b0 24 v) (hd:DataW.Trod enc Tryz.prog w 0 (fun _=>true) held 24 v d ps):∃ s,SchAt (fun _=>True) w v s:=by
 obtain ⟨v0,v1,v2,y0,y1,y2,n,rfl,_,_,h0,h1,h2⟩:=open_agg3 Tryz.underlying24 (by kernel_rfl) (by kernel_rfl) hval hd
 obtain ⟨zd,s0,q0,_⟩:=strs_of_trod h0
 obtain ⟨zm,s1,q1,_⟩:=strs_of_trod h1
 obtain ⟨g,rfl,_⟩:=int_cell h2
 exact ⟨⟨zd,zm,g⟩,v0,v1,rfl,s0,s1,q0,q1⟩
end
end Go.Proofs.YtaddkkkchkdgkaaGreatDoor
namespace Go.Proofs.YtaddkkkchkdgkaaGreatDoor
open Go.RowKit Go.ChangeShapes Go.WideShapes Go.Deep Go.Joins
open Tess (Fil Que)
instance:Inhabited Tess.Agg:=⟨⟨0,ByteArray.empty⟩⟩
instance:Inhabited Tess.Cond:=⟨⟨0,0,0⟩⟩
instance:Inhabited Tess.Key:=⟨⟨false,0,false⟩⟩
section
variable {w:World} {H:Type} {enc:TypeId×Value→H} {held:Bool}
def QueOk (w:World) (v:Value) (q:Que):Prop:=(∃ n va vb vS f0 f1 f2 f3 f4 f5 vh vo,QueAt (fun _=>True) n w v q va vb vS f0 f1 f2 f3 f4 f5 vh vo)∧kindsOk q.fil
theorem rows_of_trod {α:Type} [Inhabited α] (k:Nat) (hk0:0 < k) (f:α→List Value) (Q:α→Prop) (hfl:∀ z,(f z).length=k) {t e:TypeId} (ht:Tryz.prog.underlying t=some (.slice e)) (hc:Tryz.prog.cellsOf e=k)
  (hd:∀ n cs y,cs.length=k→DataW.trod enc Tryz.prog w 0 (fun _=>true) held n e cs=some y→∃ z,cs=f z∧Q z) {fuel:Nat} {v:Value} {x:DataW H×List MemPlace} (h:DataW.trod enc Tryz.prog w 0 (fun _=>true) held fuel t [v]=some x) :
  ∃ zs:List α,RowsAt k f (fun _=>True) w v zs∧∀ z ∈ zs,Q z:=by
 rcases open_slice ht h with ⟨hcs,_⟩ | ⟨a,len,cap,m,n,D,Pl,hcs,_,hl,hm,hmm,_,hx⟩
 ·obtain rfl:v = .slice none 0 0:=by simpa using hcs
  exact ⟨[],RowsAt.nil _ _ _ _,fun z hz=>by cases hz⟩
 ·obtain rfl:v = .slice (some a) len cap:=by simpa using hcs
  simp only [if_true] at hmm
  subst hmm
  obtain ⟨Z,hZ⟩:=choose_lt (α:=α) (n:=len) (p:=fun i z=>w.cells? 0 (a.add (i * k)) k=some (f z)∧Q z) (fun i hi=>by
   obtain ⟨cs',e1,e2⟩:=hx i (by omega)
   rw [hc] at e1
   obtain ⟨z,hz,hq⟩:=hd n cs' _ (World.cells?_some e1).2.1 e2
   exact ⟨z,by rw [e1,hz],hq⟩)
  refine ⟨(List.range len).map Z,⟨some a,m,by simp,by simp;omega,by simpa using hl,(fun e=>by cases e),fun hp => ?_⟩,fun z hz => ?_⟩
  ·replace hp:0 < len:=by simpa using hp
   obtain ⟨_,_,z2⟩:=World.cells?_some (hZ 0 hp).1
   have z3:=z2 0 hk0
   rw [List.getElem?_eq_getElem (by rw [hfl];exact hk0),Deep.add_add] at z3
   obtain ⟨b,off,rfl,hb,hadd⟩:=addr_plain (by simpa using z3)
   refine ⟨b,off,rfl,hb,trivial,fun j hj i hi => ?_⟩
   replace hj:j < len:=by simpa using hj
   obtain ⟨_,_,e5⟩:=World.cells?_some (hZ j hj).1
   have:=e5 i hi
   rw [Deep.add_add,hadd] at this
   rw [Nat.add_assoc]
   simpa using this
  ·obtain ⟨i,hi,rfl⟩:=List.mem_map.1 hz
   exact (hZ i (List.mem_range.1 hi)).2
theorem sets_of_trod {fuel:Nat} {v:Value} {x:DataW H×List MemPlace} (h:DataW.trod enc Tryz.prog w 0 (fun _=>true) held fuel 26 [v]=some x):∃ l,SetsAt (fun _=>True) w v l:=by
 rcases open_slice1 Tryz.underlying26 (by kernel_rfl) h with ⟨hcs,_⟩ | ⟨a,len,cap,m,n,V,D,Pl,hcs,_,hl,hm,hmm,_,hx⟩
 ·obtain rfl:v = .slice none 0 0:=by simpa using hcs
  exact ⟨[],SetsAt.nil _ _⟩
 ·obtain rfl:v = .slice (some a) len cap:=by simpa using hcs
  simp only [if_true] at hmm
  subst hmm
  obtain ⟨Z,hZ⟩:=choose_lt (α:=List ByteArray) (n:=len) (p:=fun i z=>SlP (fun _=>True) w (V i) (z.map .string)∧∀ x ∈ z,x.size≤maxLen) (fun i hi=>by
   obtain ⟨z,h1,h2,_⟩:=strs_of_trod (hx i (Nat.lt_of_lt_of_le hi hl)).2
   exact ⟨z,h1,h2⟩)
  refine ⟨(List.range len).map Z,some a,m,by simp,by simp;omega,by simpa using hl,(fun e=>by cases e),fun hp => ?_⟩
  replace hp:0 < len:=by simpa using hp
  obtain ⟨b,off,rfl,hb,hadd⟩:=addr_plain (hx 0 (by omega)).1
  refine ⟨b,off,rfl,hb,trivial,fun j hj => ?_⟩
  replace hj:j < len:=by simpa using hj
  refine ⟨V j,by rw [← hadd j,(hx j (by omega)).1],?_,?_⟩
  ·simpa using (hZ j hj).1
  ·simpa using (hZ j hj).2
set_option maxRecDepth 100000 in
theorem aggs_of_trod {fuel:Nat} {v:Value} {x:DataW H×List MemPlace} (h:DataW.trod enc Tryz.prog w 0 (fun _=>true) held fuel 25 [v]=some x):∃ l,RowsAt 2 aggF (fun _=>True) w v l∧∀ z ∈ l,z.met.size≤maxLen:=
 rows_of_trod 2 (by omega) aggF (fun z=>z.met.size≤maxLen) (fun _=>rfl) Tryz.underlying25 (by kernel_rfl) (fun n cs y hl hy=>by
  have k0:Tryz.prog.cellsOf 3=1:=by kernel_rfl
  have k1:Tryz.prog.cellsOf 9=1:=by kernel_rfl
  obtain ⟨y0,y1,n',_,hcl,t0,t1⟩:=trod_struct2 Tryz.underlying76 hy
  match cs,hl with
  | [c0,c1],_=>
    obtain ⟨k,rfl⟩:∃ k,c0 = .int .i64 k:=by
     obtain ⟨k,hk,_⟩:=DataW.trod_int Tryz.underlying3 (by simpa [k0] using t0)
     exact ⟨k,by simpa using hk⟩
    obtain ⟨s,hs,_,hz⟩:=DataW.trod_string Tryz.underlying9 (by simpa [k0,k1] using t1)
    obtain rfl:c1 = .string s:=by simpa using hs
    exact ⟨⟨k,s⟩,rfl,hz⟩) h
set_option maxRecDepth 100000 in
theorem conds_of_trod {fuel:Nat} {v:Value} {x:DataW H×List MemPlace} (h:DataW.trod enc Tryz.prog w 0 (fun _=>true) held fuel 32 [v]=some x):∃ l,RowsAt 3 condF (fun _=>True) w v l:=by
 obtain ⟨l,hl,_⟩:=rows_of_trod 3 (by omega) condF (fun _=>True) (fun _=>rfl) Tryz.underlying32 (by kernel_rfl) (fun n cs y hl hy=>by
  have k0:Tryz.prog.cellsOf 3=1:=by kernel_rfl
  have k1:Tryz.prog.cellsOf 2=1:=by kernel_rfl
  obtain ⟨xs,n',rfl,_,_,hlen,hf⟩:=DataW.trod_struct Tryz.underlying200 hy
  match cs,hl,xs,(show xs.length=3 from hlen) with
  | [c0,c1,c2],_,[y0,y1,y2],_=>
    obtain ⟨a,ha,_⟩:=DataW.trod_int Tryz.underlying3 (by simpa [k0] using hf 0 _ rfl)
    obtain ⟨b,hb,_⟩:=DataW.trod_int Tryz.underlying3 (by simpa [k0] using hf 1 _ rfl)
    obtain ⟨c,hc,_⟩:=DataW.trod_int Tryz.underlying2 (by simpa [k0,k1] using hf 2 _ rfl)
    obtain rfl:c0 = .int .i64 a:=by simpa using ha
    obtain rfl:c1 = .int .i64 b:=by simpa using hb
    obtain rfl:c2 = .int .i64 c:=by simpa using hc
    exact ⟨⟨a,b,c⟩,rfl,trivial⟩) h
 exact ⟨l,hl⟩
set_option maxRecDepth 100000 in
theorem keys_of_trod {fuel:Nat} {v:Value} {x:DataW H×List MemPlace} (h:DataW.trod enc Tryz.prog w 0 (fun _=>true) held fuel 33 [v]=some x):∃ l,RowsAt 3 keyF (fun _=>True) w v l:=by
 obtain ⟨l,hl,_⟩:=rows_of_trod 3 (by omega) keyF (fun _=>True) (fun _=>rfl) Tryz.underlying33 (by kernel_rfl) (fun n cs y hl hy=>by
  have k0:Tryz.prog.cellsOf 4=1:=by kernel_rfl
  have k1:Tryz.prog.cellsOf 3=1:=by kernel_rfl
  obtain ⟨xs,n',rfl,_,_,hlen,hf⟩:=DataW.trod_struct Tryz.underlying204 hy
  match cs,hl,xs,(show xs.length=3 from hlen) with
  | [c0,c1,c2],_,[y0,y1,y2],_=>
    obtain ⟨a,ha,_⟩:=DataW.trod_bool Tryz.underlying4 (by simpa [k0] using hf 0 _ rfl)
    obtain ⟨b,hb,_⟩:=DataW.trod_int Tryz.underlying3 (by simpa [k0,k1] using hf 1 _ rfl)
    obtain ⟨c,hc,_⟩:=DataW.trod_bool Tryz.underlying4 (by simpa [k0,k1] using hf 2 _ rfl)
    obtain rfl:c0 = .bool a:=by simpa using ha
    obtain rfl:c1 = .int .i64 b:=by simpa using hb
    obtain rfl:c2 = .bool c:=by simpa using hc
    exact ⟨⟨a,b,c⟩,rfl,trivial⟩) h
 exact ⟨l,hl⟩
set_option maxRecDepth 100000 in
theorem que_of_trod {fuel:Nat} {cs:List Value} {x:DataW H×List MemPlace} (hcl:cs.length=14) (h:DataW.trod enc Tryz.prog w 0 (fun _=>true) held fuel 35 cs=some x):∃ q,QueOk w (.agg cs.toArray) q:=by
 have kI:Tryz.prog.cellsOf 3=1:=by kernel_rfl
 have kJ:Tryz.prog.cellsOf 2=1:=by kernel_rfl
 have kA:Tryz.prog.cellsOf 25=1:=by kernel_rfl
 have kW:Tryz.prog.cellsOf 22=1:=by kernel_rfl
 have kS:Tryz.prog.cellsOf 26=1:=by kernel_rfl
 have kF:Tryz.prog.cellsOf 31=6:=by kernel_rfl
 have kC:Tryz.prog.cellsOf 32=1:=by kernel_rfl
 have kK:Tryz.prog.cellsOf 33=1:=by kernel_rfl
 obtain ⟨xs,n,rfl,_,_,hlen,hf⟩:=DataW.trod_struct Tryz.underlying35 h
 match cs,hcl,xs,(show xs.length=9 from hlen) with
 | [c0,c1,c2,c3,c4,c5,c6,c7,c8,c9,ca,cb,cc,cd],_,[u0,u1,u2,u3,u4,u5,u6,u7,u8],_=>
   have h0:DataW.trod enc Tryz.prog w 0 (fun _=>true) held n 25 [c0]=some u0:=by simpa [kA] using hf 0 _ rfl
   have h1:DataW.trod enc Tryz.prog w 0 (fun _=>true) held n 22 [c1]=some u1:=by simpa [kA,kW] using hf 1 _ rfl
   have h2:DataW.trod enc Tryz.prog w 0 (fun _=>true) held n 3 [c2]=some u2:=by simpa [kA,kW,kI] using hf 2 _ rfl
   have h3:DataW.trod enc Tryz.prog w 0 (fun _=>true) held n 26 [c3]=some u3:=by simpa [kA,kW,kI,kS] using hf 3 _ rfl
   have h4:DataW.trod enc Tryz.prog w 0 (fun _=>true) held n 2 [c4]=some u4:=by simpa [kA,kW,kI,kS,kJ] using hf 4 _ rfl
   have h5:DataW.trod enc Tryz.prog w 0 (fun _=>true) held n 31 [c5,c6,c7,c8,c9,ca]=some u5:=by simpa [kA,kW,kI,kS,kJ,kF] using hf 5 _ rfl
   have h6:DataW.trod enc Tryz.prog w 0 (fun _=>true) held n 32 [cb]=some u6:=by simpa [kA,kW,kI,kS,kJ,kF,kC] using hf 6 _ rfl
   have h7:DataW.trod enc Tryz.prog w 0 (fun _=>true) held n 33 [cc]=some u7:=by simpa [kA,kW,kI,kS,kJ,kF,kC,kK] using hf 7 _ rfl
   have h8:DataW.trod enc Tryz.prog w 0 (fun _=>true) held n 3 [cd]=some u8:=by simpa [kA,kW,kI,kS,kJ,kF,kC,kK] using hf 8 _ rfl
   obtain ⟨aggs,ra,rm⟩:=aggs_of_trod h0
   obtain ⟨names,rn,rs,_⟩:=strs_of_trod h1
   obtain ⟨mode,hmd,_⟩:=DataW.trod_int Tryz.underlying3 h2
   obtain ⟨sets,rS⟩:=sets_of_trod h3
   obtain ⟨every,hev,_⟩:=DataW.trod_int Tryz.underlying2 h4
   obtain ⟨f,_,hK,hF⟩:=fil_of_trod n _ _ h5
   obtain ⟨conds,rC⟩:=conds_of_trod h6
   obtain ⟨keys,rK⟩:=keys_of_trod h7
   obtain ⟨limit,hlm,_⟩:=DataW.trod_int Tryz.underlying3 h8
   obtain rfl:c2 = .int .i64 mode:=by simpa using hmd
   obtain rfl:c4 = .int .i64 every:=by simpa using hev
   obtain rfl:cd = .int .i64 limit:=by simpa using hlm
   exact ⟨⟨aggs,names,mode,sets,every,f,conds,keys,limit⟩,⟨n,_,_,_,_,_,_,_,_,_,_,_,rfl,ra,rm,rn,rs,rS,hF,rC,rK⟩,hK⟩
set_option maxRecDepth 100000 in
theorem open_que {r:Reach} {b0:Nat} {v:Value} {d:DataW H} {ps:List MemPlace} (hval:Value.okWide Tryz.prog w r b0 35 v) (hd:DataW.Trod enc Tryz.prog w 0 (fun _=>true) held 35 v d ps):∃ q,QueOk w v q:=by
 obtain ⟨cs,rfl,_⟩:=okWide_struct Tryz.underlying35 hval
 obtain ⟨fuel,hf⟩:=hd
 have hC:Tryz.prog.cellsOf 35=14:=by kernel_rfl
 obtain ⟨_,_,_,_,hl,_⟩:=DataW.trod_struct Tryz.underlying35 hf
 obtain ⟨q,hq⟩:=que_of_trod (by simpa [hC] using hl) hf
 exact ⟨q,by simpa [Value.cells] using hq⟩
end
end Go.Proofs.YtaddkkkchkdgkaaGreatDoor
namespace Go.Proofs.YtaddkkkchkdgkaaGreatDoor
open Go.RowKit Go.Sort
open Tess (Fil Que)
section
variable {p:Nat→Prop} {n:Nat} {w:World} {v:Value} {q:Que} {va vb vS f0 f1 f2 f3 f4 f5 vh vo:Value}
theorem QueAt.ltQ (h:QueAt p n w v q va vb vS f0 f1 f2 f3 f4 f5 vh vo):QueAt (fun b=>p b∧b < w.heap.size) n w v q va vb vS f0 f1 f2 f3 f4 f5 vh vo:=
 ⟨h.e,h.aggs.lt,h.mets,h.names.lt,h.small,h.sets.lt,h.fil.lt,h.conds.lt,h.keys.lt⟩
end
structure Bq (w:World) (sc qc:Array Value) (W:World):Prop where
 k0:W.heap[w.heap.size]? = some (.cells sc 24 (0,0))
 k1:W.heap[w.heap.size + 1]? = some (.cells qc 35 (0,0))
 below:Below w.heap.size w W
def Dq (w:World) (b:Nat):Prop:=b≠w.heap.size∧b≠w.heap.size + 1
section
variable {w W W':World} {sc qc:Array Value}
theorem Bq.lt (h:Bq w sc qc W):w.heap.size + 1 < W.heap.size:=(Array.getElem?_eq_some_iff.1 h.k1).1
theorem Bq.later (h:Bq w sc qc W) (hb:Below W.heap.size W W'):Bq w sc qc W':=
 have:=h.lt
 ⟨(hb.block _ (by omega)).trans h.k0,(hb.block _ (by omega)).trans h.k1,Bt h.below hb⟩
theorem Bq.set1 (h:Bq w sc qc W) (i:Nat) (u:Value) (qc':Array Value) (e:qc.setIfInBounds i u=qc'):Bq w sc qc' (W.setCell ⟨w.heap.size + 1,i,none⟩ u)∧Ag (Dq w) W (W.setCell ⟨w.heap.size + 1,i,none⟩ u):=by
 subst e
 exact ⟨⟨(heap_setCell_other _ _ _ _ (by show _≠w.heap.size + 1;omega)).trans h.k0,heap_setCell_same _ _ _ _ _ _ h.k1,h.below.setCell (by show _≤w.heap.size + 1;omega) _⟩,Ag.set _ _ _ (fun h=>h.2 rfl)⟩
theorem Bq.put0 {x0 x1 x2:Value} (y0 y1 y2:Value) (h:Bq w #[x0,x1,x2] qc W):∃ W3,(((W.setCell ⟨w.heap.size,0,none⟩ y0).setCell ⟨w.heap.size,1,none⟩ y1).setCell ⟨w.heap.size,2,none⟩ y2)=W3∧Bq w #[y0,y1,y2] qc W3∧Ag (Dq w) W W3:=by
 obtain ⟨W3,e,q0,qo,qs,qB⟩:=box3 y0 y1 y2 h.k0 h.below (Nat.le_refl _)
 exact ⟨W3,e,⟨q0,(qo _ (by omega)).trans h.k1,qB⟩,by rw [qs];exact Nat.le_refl _,fun b _ hb=>qo b hb.1⟩
theorem Bq.put1 {x0 x1 x2 x3 x4 x5 x6 x7 x8 x9 xa xb xc xd:Value} (y0 y1 y2 y3 y4 y5 y6 y7 y8 y9 ya yb yc yd:Value) (h:Bq w sc #[x0,x1,x2,x3,x4,x5,x6,x7,x8,x9,xa,xb,xc,xd] W) :
  ∃ W3,((((((((((((((W.setCell ⟨w.heap.size + 1,0,none⟩ y0).setCell ⟨w.heap.size + 1,1,none⟩ y1).setCell ⟨w.heap.size + 1,2,none⟩ y2).setCell ⟨w.heap.size + 1,3,none⟩ y3).setCell ⟨w.heap.size + 1,4,none⟩ y4).setCell ⟨w.heap.size + 1,5,none⟩ y5).setCell ⟨w.heap.size + 1,6,none⟩ y6).setCell ⟨w.heap.size + 1,7,none⟩ y7).setCell ⟨w.heap.size + 1,8,none⟩ y8).setCell ⟨w.heap.size + 1,9,none⟩ y9).setCell ⟨w.heap.size + 1,10,none⟩ ya).setCell ⟨w.heap.size + 1,11,none⟩ yb).setCell ⟨w.heap.size + 1,12,none⟩ yc).setCell ⟨w.heap.size + 1,13,none⟩ yd)=W3 ∧
    Bq w sc #[y0,y1,y2,y3,y4,y5,y6,y7,y8,y9,ya,yb,yc,yd] W3∧Ag (Dq w) W W3:=by
 obtain ⟨W3,e,q0,qo,qs,qB,qA⟩:=put14 y0 y1 y2 y3 y4 y5 y6 y7 y8 y9 ya yb yc yd h.k1
 exact ⟨W3,e,⟨(qo _ (by omega)).trans h.k0,q0,qB _ _ h.below (by omega)⟩,qA _ (fun h=>h.2 rfl)⟩
end
theorem Dq.of {w W:World} (h:w.heap.size + 2≤W.heap.size) (b:Nat) (hb:W.heap.size≤b):Dq w b:=⟨by omega,by omega⟩
end Go.Proofs.YtaddkkkchkdgkaaGreatDoor
namespace Go.Proofs.YtaddkkkchkdgkaaGreatDoor
open Go.RowKit Go.Sort
open Tess (Fil Que CK Pay CelsOk groupsP)
theorem both_ways {P1 P2:Prop} (H:Prop) (f:H→P1) (g:H→P2) (h:H):P1∧P2:=⟨f h,g h⟩
theorem cut_rng {n:Nat} {rows:List Tess.Row} (h:∀ r ∈ rows,r.rng):∀ r ∈ rowsCut n rows,r.l.length≤1000∧r.ns.length≤1000∧r.rng:=fun r hr=>by
 unfold rowsCut at hr
 obtain ⟨x,hx,rfl⟩:=List.mem_map.1 hr
 unfold rowCut
 refine ⟨?_,?_,fun z hz=>h x (List.mem_of_mem_take hx) z (List.mem_of_mem_take hz)⟩
 ·show (cutVals x.l).length≤1000
  unfold cutVals
  simp only [List.length_map,List.length_take]
  omega
 ·show (x.ns.take 10).length≤1000
  rw [List.length_take];omega
theorem cut_len {n:Nat} {rows:List Tess.Row}:(rowsCut n rows).length≤n:=by unfold rowsCut;rw [List.length_map,List.length_take];omega
theorem roll_code {s:Tess.Sch} {rows:List Tess.Row} (h:rollCode s rows=0):Tess.schOk s=true∧∀ r ∈ rows,Tess.Row.ok s r=true:=by
 unfold rollCode at h
 split at h
 ·rename_i h1
  split at h
  ·rename_i h2
   exact ⟨h1,fun r hr=>List.all_eq_true.1 h2 r hr⟩
  ·cases h
 ·cases h
theorem roll_tot (g:Int) (rows:List Tess.Row):((Tess.rollP g rows).map (·.2.n)).sum≤rows.length:=by
 cases e:Tess.Kl.sum Pay.add (fun _=>true) (Tess.rollP g rows) with
 | none=>rw [Tess.Kl.sum_all_none e];simp
 | some p=>
   rw [← Tess.total_n e]
   have h:Tess.Kl.sum Pay.add (fun _=>true) (rows.map (Tess.Row.kp g))=some p:=by rw [← Tess.Kl.sum_fold Tess.ck_sto Tess.pay_com];exact e
   rw [Tess.rows_n g rows p h]
   exact Int.le_refl _
theorem ListAt.takeK {α:Type} {k:Nat} {R:World→List Value→α→Prop} {p:Nat→Prop} {w:World} {a:Option Addr} {n cap:Nat} {l:List α} (h:ListAt k R p w (.slice a n cap) l) {j:Nat} (hj:j≤l.length):ListAt k R p w (.slice a j cap) (l.take j):=by
 obtain ⟨a',cap',hv,h1,h2,h3,h4⟩:=h
 simp only [Value.slice.injEq] at hv
 obtain ⟨rfl,_,rfl⟩:=hv
 have e:(l.take j).length=j:=by rw [List.length_take];omega
 refine ⟨a,cap,by rw [e],by omega,by omega,h3,fun hl => ?_⟩
 rw [e] at hl
 obtain ⟨b,off,ha,hb,hp,hc⟩:=h4 (by omega)
 refine ⟨b,off,ha,hb,hp,fun m hm => ?_⟩
 rw [e] at hm
 obtain ⟨cs,e1,e2,e3⟩:=hc m (by omega)
 exact ⟨cs,e1,by simpa using e2,e3⟩
theorem ListAt.dropK {α:Type} {k:Nat} {R:World→List Value→α→Prop} {p:Nat→Prop} {w:World} {a:Option Addr} {n cap:Nat} {l:List α} (h:ListAt k R p w (.slice a n cap) l) {j:Nat} (hj:j≤l.length):ListAt k R p w (.slice (if cap=j then a else a.map (·.add (j * k))) (l.length - j) (cap - j)) (l.drop j):=by
 obtain ⟨a',cap',hv,h1⟩:=ListAt.slice h j l.length hj (Nat.le_refl _)
 simp only [Value.slice.injEq] at hv
 obtain ⟨rfl,_,rfl⟩:=hv
 have:=h1.2.2
 rwa [List.take_length] at this
theorem RowsIn.agR {p:Nat→Prop} {w w':World} {v:Value} {l:List Tess.Row} (h:ListAt 3 (RowC p) p w v l) (hg:Ag p w w'):RowsIn p w' v l:=RowsIn.ag h hg
theorem RowsIn.ltR {p:Nat→Prop} {w:World} {v:Value} {l:List Tess.Row} (h:RowsIn p w v l):RowsIn (fun b=>p b∧b < w.heap.size) w v l:=by
 obtain ⟨a,c,hv,h1,h2,h3,h4⟩:=h
 refine ⟨a,c,hv,h1,h2,h3,fun hl => ?_⟩
 obtain ⟨b,off,ha,hb,hp,hc⟩:=h4 hl
 exact ⟨b,off,ha,hb,⟨hp,hb⟩,fun j hj=>let ⟨cs,h5,h6,h7⟩:=hc j hj;⟨cs,h5,row_nest.lt h6,h7⟩⟩
theorem roll_law (p:Nat→Prop) (vs va:Value) (s:Tess.Sch) (R:List Tess.Row) (w:World) (hs:SchAt p w vs s) (hv:RowsIn p w va R) (hlen:R.length≤50) (hrow:∀ r ∈ R,r.l.length≤1000∧r.ns.length≤1000∧r.rng) :
  Calls Tryz.prog 14 #[vs,va] w fun e w' => ∃ a n c,e = .returned (.tuple #[.slice a n c,.int .i64 (rollCode s R)])∧(rollCode s R=0→CelsAt (fun b=>w.heap.size≤b) w' (.slice a n c) (Tess.rollP s.grain R))∧Below w.heap.size w w':=by
 refine (roll_any p vs va s R w hs hv (by omega) hrow).mono ?_
 rintro e w' ⟨v,rfl,h0,h1,hB⟩
 by_cases hc:rollCode s R=0
 ·obtain ⟨a,c,rfl,_⟩:=ListAt.open (h0 hc)
  exact ⟨_,_,_,rfl,h0,hB⟩
 ·obtain rfl:=h1 hc
  exact ⟨_,_,_,rfl,h0,hB⟩
theorem roll_cels {s:Tess.Sch} {R:List Tess.Row} (h:rollCode s R=0) (hlen:R.length≤50) (hrow:∀ r ∈ R,r.l.length≤1000∧r.ns.length≤1000∧r.rng):CelsOk s (Tess.rollP s.grain R):=
 Tess.roll_ok (roll_code h).1 (roll_code h).2 (fun r hr=>(hrow r hr).2.2) (by omega)
theorem foldR_two (s:Tess.Sch) (q:Que) (set:Int) (R:List Tess.Row) (K:Nat):foldR s q set [Tess.rollP s.grain (R.take K),Tess.rollP s.grain (R.drop K)].flatten=foldR s q set [Tess.rollP s.grain R].flatten:=by
 unfold foldR
 split
 ·have h:=Tess.groups_two (s:=s) (q:=q) (set:=set.toNat) (g:=s.grain) (R.take K) (R.drop K)
  rw [List.take_append_drop] at h
  simp only [List.flatten_cons,List.flatten_nil,List.append_nil]
  rw [h]
 ·rfl
theorem foldR_swap (s:Tess.Sch) (q:Que) (set:Int) (R:List Tess.Row) (K:Nat):foldR s q set [Tess.rollP s.grain (R.drop K),[],Tess.rollP s.grain (R.take K)].flatten=foldR s q set [Tess.rollP s.grain R].flatten:=by
 unfold foldR
 split
 ·have h:=Tess.groups_swap (s:=s) (q:=q) (set:=set.toNat) (g:=s.grain) (R.take K) (R.drop K)
  rw [List.take_append_drop] at h
  simp only [List.flatten_cons,List.flatten_nil,List.append_nil,List.nil_append]
  rw [h]
 ·rfl
theorem cels_nil {s:Tess.Sch} (h:Tess.schOk s=true):CelsOk s []:=⟨h,Nat.zero_le _,(fun _ h=>by cases h),List.Pairwise.nil⟩
end Go.Proofs.YtaddkkkchkdgkaaGreatDoor
namespace Go.Proofs.YtaddkkkchkdgkaaGreatDoor
open Go.RowKit Go.ChangeShapes Go.WideShapes Go.Deep Go.Joins
open Tess (Fil Que)
instance:Inhabited Tess.Row:=⟨⟨0,[],[]⟩⟩
section
variable {w:World} {H:Type} {enc:TypeId×Value→H} {held:Bool}
set_option maxRecDepth 100000 in
theorem rowc_of_trod {n:Nat} {cs:List Value} {y:DataW H×List MemPlace} (hl:cs.length=3) (h:DataW.trod enc Tryz.prog w 0 (fun _=>true) held n 74 cs=some y):∃ r,RowC (fun _=>True) w cs r∧r.rng:=by
 have k0:Tryz.prog.cellsOf 2=1:=by kernel_rfl
 have k1:Tryz.prog.cellsOf 52=1:=by kernel_rfl
 have k2:Tryz.prog.cellsOf 54=1:=by kernel_rfl
 obtain ⟨xs,n',rfl,_,_,hlen,hf⟩:=DataW.trod_struct Tryz.underlying74 h
 match cs,hl,xs,(show xs.length=3 from hlen) with
 | [c0,c1,c2],_,[y0,y1,y2],_=>
   have h0:DataW.trod enc Tryz.prog w 0 (fun _=>true) held n' 2 [c0]=some y0:=by simpa [k0] using hf 0 _ rfl
   have h1:DataW.trod enc Tryz.prog w 0 (fun _=>true) held n' 52 [c1]=some y1:=by simpa [k0,k1] using hf 1 _ rfl
   have h2:DataW.trod enc Tryz.prog w 0 (fun _=>true) held n' 54 [c2]=some y2:=by simpa [k0,k1,k2] using hf 2 _ rfl
   obtain ⟨t,rfl,_⟩:=int_cell h0
   obtain ⟨l,hl⟩:=vals_of_trod h1
   obtain ⟨ns,hs,hw,a,c,rfl,hc⟩:=ints_of_trod h2
   refine ⟨⟨t,l,ns⟩,⟨c1,a,c,rfl,hc,hl,hs⟩,fun z hz => ?_⟩
   have:=hw z hz
   simp only [Lit.wf,Bool.and_eq_true,decide_eq_true_eq] at this
   exact ⟨this.1,this.2⟩
set_option maxRecDepth 100000 in
theorem open_rows {r:Reach} {b0:Nat} {v:Value} {d:DataW H} {ps:List MemPlace} (hval:Value.okWide Tryz.prog w r b0 36 v) (hd:DataW.Trod enc Tryz.prog w 0 (fun _=>true) held 36 v d ps):∃ l:List Tess.Row,RowsIn (fun _=>True) w v l∧∀ r ∈ l,r.rng:=by
 obtain ⟨a0,len0,cap0,rfl⟩:=okWide_slice Tryz.underlying36 hval
 obtain ⟨fuel,hf⟩:=hd
 have hf:DataW.trod enc Tryz.prog w 0 (fun _=>true) held fuel 36 [.slice a0 len0 cap0]=some (d,ps):=by simpa [Value.cells] using hf
 rcases open_slice Tryz.underlying36 hf with ⟨hcs,_⟩ | ⟨a,len,cap,m,n,D,Pl,hcs,_,hl,hm,hmm,_,hx⟩
 ·have hcs:Value.slice a0 len0 cap0 = .slice none 0 0:=by simpa using hcs
  rw [hcs]
  exact ⟨[],ListAt.nil _ _ _ _,fun z hz=>by cases hz⟩
 ·have hcs:Value.slice a0 len0 cap0 = .slice (some a) len cap:=by simpa using hcs
  rw [hcs]
  simp only [if_true] at hmm
  subst hmm
  have hC3:Tryz.prog.cellsOf 74=3:=by kernel_rfl
  obtain ⟨Z,hZ⟩:=choose_lt (α:=List Value×Tess.Row) (n:=len) (p:=fun i z=>w.cells? 0 (a.add (i * 3)) 3=some z.1∧z.1.length=3∧RowC (fun _=>True) w z.1 z.2∧z.2.rng) (fun i hi=>by
   obtain ⟨cs',e1,e2⟩:=hx i (by omega)
   rw [hC3] at e1
   have hl3:=(World.cells?_some e1).2.1
   obtain ⟨r,h1,h2⟩:=rowc_of_trod hl3 e2
   exact ⟨(cs',r),e1,hl3,h1,h2⟩)
  refine ⟨(List.range len).map fun i=>(Z i).2,⟨some a,m,by simp,by simp;omega,by simpa using hl,(fun e=>by cases e),fun hp => ?_⟩,fun z hz => ?_⟩
  ·replace hp:0 < len:=by simpa using hp
   obtain ⟨q1,q2,_⟩:=hZ 0 hp
   obtain ⟨_,_,z2⟩:=World.cells?_some q1
   have z3:=z2 0 (by omega)
   rw [List.getElem?_eq_getElem (by omega),Deep.add_add] at z3
   obtain ⟨b,off,rfl,hb,hadd⟩:=addr_plain (by simpa using z3)
   refine ⟨b,off,rfl,hb,trivial,fun j hj => ?_⟩
   replace hj:j < len:=by simpa using hj
   obtain ⟨p1,p2,p3,_⟩:=hZ j hj
   obtain ⟨_,_,e5⟩:=World.cells?_some p1
   refine ⟨(Z j).1,p2,by simpa using p3,fun i hi => ?_⟩
   have:=e5 i hi
   rw [Deep.add_add,hadd] at this
   rw [Nat.add_assoc]
   exact this
  ·obtain ⟨i,hi,rfl⟩:=List.mem_map.1 hz
   exact (hZ i (List.mem_range.1 hi)).2.2.2
end
end Go.Proofs.YtaddkkkchkdgkaaGreatDoor
namespace Go.FlowT
open Go Go.RowKit Go.Flow Go.FlowP
section
variable {P:Program} {ops:Array Oper}
def lexHeadF (ops:Array Oper) (fin:Array Bool→Bool):Nat→Nat→Array Bool→Bool
 | 0,_,listed=>fin listed
 | f + 1,k,listed=>(Region.ready .any ops listed).contains k && Region.free .any ops listed k && lexHeadF ops fin f (k + 1) (listed.setIfInBounds k true)
theorem anyFL_lexF {S:Nat→Flow.Spec} {w0:World} {n t1:Nat} {ks:List Nat} {fin:Array Bool→Bool} {Lq:Act→(Nat→World→Prop)→Prop} (hsel:Region.noSelect ops=true) (hs:sinkT ops n t1=true) (hc:chainT ops t1 ks=true) (hks:∀ k ∈ ks,n≤k) (hfin:∀ listed,fin listed=true→∀ j ∈ Region.ready .any ops listed,n≤j) :
  ∀ (l:List Oper) (k:Nat) (listed:Array Bool) (a:Act) (Γ:Nat→World→Prop),(∀ j,j < l.length→l[j]? = ops[k + j]?)→k + l.length=n→HInv ops n ks listed →
  lexHeadF ops fin l.length k listed=true→Tree P ops S w0 Lq l k a Γ →
  anyFL P ops S w0 n (fun listed' a' Γ'=>fin listed'=true∧Lq a' Γ') l.length listed a Γ
 | [],k,listed,a,Γ,_,hk,_,hB,h=>⟨by simpa [lexHeadF] using hB,h⟩
 | o :: l,k,listed,a,Γ,hl,hk,inv,hB,h=>by
   have h0:ops[k]? = some o:=by simpa using (hl 0 (by simp)).symm
   simp only [List.length_cons,lexHeadF,Bool.and_eq_true] at hB
   obtain ⟨⟨hr,hf⟩,hB'⟩:=hB
   have hkn:k < n:=by simp only [List.length_cons] at hk;omega
   have hr':k ∈ Region.ready .any ops listed:=by simpa using hr
   exact anyFL_first h0 (Region.noSelect_spec hsel) hs hc hkn hks (fun listed' a' Γ' hL=>hfin listed' hL.1) l.length listed a Γ inv (Region.free_spec h0 hf) hr' h.1
    (fun v hv=>anyFL_lexF hsel hs hc hks hfin l (k + 1) _ _ _ (fun j hj=>by have:=hl (j + 1) (by simp;omega);simpa [Nat.add_assoc,Nat.add_comm 1 j] using this) (by simp only [List.length_cons] at hk;omega) (inv.set hr' (fun hk=>by have:=hks k hk;omega)) hB' (h.2 v hv))
structure Fin (ops:Array Oper) (n:Nat) (ps:List Nat) (x y:Nat) (listed:Array Bool):Prop where
 r:Region.ready .any ops listed=[n]
 p:pureOk ops ps (listed.setIfInBounds n true)=true
 xy:∀ i ∈ Region.ready .any ops (after ps (listed.setIfInBounds n true)),i=x∨i=y
 ne:Region.ready .any ops (after ps (listed.setIfInBounds n true))≠[]
 sx:seqL ops [y] ((after ps (listed.setIfInBounds n true)).setIfInBounds x true)=true
 sy:seqL ops [x] ((after ps (listed.setIfInBounds n true)).setIfInBounds y true)=true
def finB (ops:Array Oper) (n:Nat) (ps:List Nat) (x y:Nat) (listed:Array Bool):Bool:=
 decide (Region.ready .any ops listed=[n]) && (pureOk ops ps (listed.setIfInBounds n true) && (((Region.ready .any ops (after ps (listed.setIfInBounds n true))).all fun i=>i == x || i == y) && ((!(Region.ready .any ops (after ps (listed.setIfInBounds n true))).isEmpty) &&
  (seqL ops [y] ((after ps (listed.setIfInBounds n true)).setIfInBounds x true) && seqL ops [x] ((after ps (listed.setIfInBounds n true)).setIfInBounds y true)))))
theorem Fin.of {n:Nat} {ps:List Nat} {x y:Nat} {listed:Array Bool} (h:finB ops n ps x y listed=true):Fin ops n ps x y listed:=by
 unfold finB at h
 obtain ⟨a1,h⟩:=Bool.and_eq_true_iff.1 h
 obtain ⟨a2,h⟩:=Bool.and_eq_true_iff.1 h
 obtain ⟨a3,h⟩:=Bool.and_eq_true_iff.1 h
 obtain ⟨a4,h⟩:=Bool.and_eq_true_iff.1 h
 obtain ⟨a5,a6⟩:=Bool.and_eq_true_iff.1 h
 refine ⟨of_decide_eq_true a1,a2,fun i hi => ?_,?_,a5,a6⟩
 ·have:=List.all_eq_true.1 a3 i hi
  simpa using this
 ·intro e;rw [e] at a4;cases a4
structure OkT (ops:Array Oper) (n:Nat) (ks ps:List Nat) (x y:Nat):Prop where
 sel:Region.noSelect ops=true
 s:sinkT ops n n=true
 c:chainT ops n ks=true
 kn:∀ k ∈ ks,n≤k
 kl:∀ k ∈ ks,k < ops.size
 nl:n < ops.size
 len:n + (1 + (ps.length + 2))=ops.size
 lex:lexHeadF ops (finB ops n ps x y) n 0 (Array.replicate ops.size false)=true
 rest:∀ j,j < ops.size→j < n∨ks.contains j=true
def okT (ops:Array Oper) (n:Nat) (ks ps:List Nat) (x y:Nat):Bool:=
 Region.noSelect ops && (sinkT ops n n && (chainT ops n ks && ((ks.all fun k=>decide (n≤k)) && ((ks.all fun k=>decide (k < ops.size)) && (decide (n < ops.size) && (decide (n + (1 + (ps.length + 2))=ops.size) && (lexHeadF ops (finB ops n ps x y) n 0 (Array.replicate ops.size false) &&
  ((List.range ops.size).all fun j=>decide (j < n) || ks.contains j))))))))
theorem OkT.of {n:Nat} {ks ps:List Nat} {x y:Nat} (h:okT ops n ks ps x y=true):OkT ops n ks ps x y:=by
 unfold okT at h
 obtain ⟨a1,h⟩:=Bool.and_eq_true_iff.1 h
 obtain ⟨a2,h⟩:=Bool.and_eq_true_iff.1 h
 obtain ⟨a3,h⟩:=Bool.and_eq_true_iff.1 h
 obtain ⟨a4,h⟩:=Bool.and_eq_true_iff.1 h
 obtain ⟨a5,h⟩:=Bool.and_eq_true_iff.1 h
 obtain ⟨a6,h⟩:=Bool.and_eq_true_iff.1 h
 obtain ⟨a7,h⟩:=Bool.and_eq_true_iff.1 h
 obtain ⟨a8,h⟩:=Bool.and_eq_true_iff.1 h
 refine ⟨a1,a2,a3,fun k hk=>of_decide_eq_true (List.all_eq_true.1 a4 k hk),fun k hk=>of_decide_eq_true (List.all_eq_true.1 a5 k hk),of_decide_eq_true a6,of_decide_eq_true a7,a8,fun j hj => ?_⟩
 rcases Bool.or_eq_true_iff.1 (List.all_eq_true.1 h j (List.mem_range.2 hj)) with h | h
 ·exact Or.inl (of_decide_eq_true h)
 ·exact Or.inr h
theorem upon_conv {o:Oper} {a:Act} {E E':Act→World→Prop} {K':Act→World→Prop} {r:Result Next} (hK:∀ b w,Qn E .normal b w→K' b w) (h:o.upon P a (wpList P ops (Qn E) []) (Qn E) r):o.upon P a K' (Qn E') r:=by
 cases r with
 | ok n w'=>
   cases n <;> simp only [Oper.upon] at h ⊢
   case value u=>exact hK _ _ h
   case skip=>exact hK _ _ h
   case defer d=>exact hK _ _ h
   case enter f args=>
    refine Calls.mono h fun e w'' he => ?_
    cases e with
    | returned u=>exact hK _ _ he
    | panicked c=>exact (by cases he.1)
    | outgrown=>exact (not_lets _ he).elim
   case row=>exact Rows.mono h fun u w'' he=>hK _ _ he
 | halt x w'=>
   cases x <;> simp only [Oper.upon] at h ⊢
   case panic=>exact (by cases h.1)
theorem wpAny_two {E:Act→World→Prop} {x y:Nat} {ox oy:Oper} {listed:Array Bool} {a:Act} {w:World} (hx:ops[x]? = some ox) (hy:ops[y]? = some oy)
  (hxy:∀ i ∈ Region.ready .any ops listed,i=x∨i=y) (hne:Region.ready .any ops listed≠[]) (sx:seqL ops [y] (listed.setIfInBounds x true)=true) (sy:seqL ops [x] (listed.setIfInBounds y true)=true)
  (h1:wpList P ops (Qn E) [ox,oy] a w) (h2:wpList P ops (Qn E) [oy,ox] a w):wpAny P .any ops (Qn E) 2 listed a w:=by
 refine ⟨fun h=>absurd h hne,fun i hi => ?_⟩
 rcases hxy i hi with rfl | rfl
 ·refine wpOp_mono (K:=wpList P ops (Qn E) [oy]) (fun b w' hb=>wpAny_of_seqL [y] [oy] _ b w' (by simp [hy]) sx hb) ?_
  unfold wpOp;simp only [hx];exact h1
 ·refine wpOp_mono (K:=wpList P ops (Qn E) [ox]) (fun b w' hb=>wpAny_of_seqL [x] [ox] _ b w' (by simp [hx]) sy hb) ?_
  unfold wpOp;simp only [hy];exact h2
set_option maxHeartbeats 1000000 in
theorem wp_region {id:Nat} {Q:Exit→Act→World→Prop} {a:Act} {w:World} {l:List Oper} {on ox oy:Oper} (n:Nat) (ks ps:List Nat) (x y:Nat) (S:Nat→Flow.Spec) (hm:P.follows .mixedOrders=true) (hB:okT l.toArray n ks ps x y=true) (hS:∀ i,(S i).mono)
  (hn:l.toArray[n]? = some on) (hx:l.toArray[x]? = some ox) (hy:l.toArray[y]? = some oy)
  (h:Tree P l.toArray S w (fun a' Γ => ∀ w',Below w.heap.size w w'→(∀ j,Γ j w')→wpList P l.toArray (Qn (fun a2 w2=>Pure P l.toArray ps (fun a3=>wpList P l.toArray (Qn (Q .normal)) [ox,oy] a3 w2∧wpList P l.toArray (Qn (Q .normal)) [oy,ox] a3 w2) a2)) [on] a' w') (l.take n) 0 a (fun _ _=>True)) :
  (Code.region id l.toArray true).wp P Q a w:=by
 obtain ⟨hsel,hs,hc,hks,hkl,hnl,hlen,hlex,hrest⟩:=OkT.of hB
 have htl:(l.take n).length=n:=by simp;simp at hnl;omega
 have inv0:HInv l.toArray n ks (Array.replicate l.toArray.size false):=
  ⟨by simp,fun j oj hj hl=>(by rw [getD_replicate_false] at hl;cases hl),fun t ht=>getD_in (by simpa using hkl t ht) (getD_replicate_false _ _),fun j h1 h2 h3=>by
    rcases hrest j h2 with h | h
    ·omega
    ·exact absurd (by simpa using h) h3⟩
 have hfin:∀ listed:Array Bool,finB l.toArray n ps x y listed=true→∀ j ∈ Region.ready .any l.toArray listed,n≤j:=by
  intro listed hf j hj
  rw [(Fin.of hf).r] at hj
  have:j=n:=by simpa using hj
  omega
 have H:=anyFL_lexF (t1:=n) hsel hs hc hks (fin:=finB l.toArray n ps x y) hfin (l.take n) 0 _ a (fun _ _=>True) (fun j hj=>by
   have hj':j < n:=by rw [htl] at hj;exact hj
   simp [hj']) (by simpa using htl) inv0 (by rw [htl];exact hlex) h
 refine wp_region_any hm (wpAny_weak _ _ _ _ ?_)
 suffices hLL:∀ (listed:Array Bool) (a':Act) (Γ':Nat→World→Prop) (w':World),(finB l.toArray n ps x y listed=true∧∀ w',Below w.heap.size w w'→(∀ j,Γ' j w')→wpList P l.toArray (Qn (fun a2 w2=>Pure P l.toArray ps (fun a3=>wpList P l.toArray (Qn (Q .normal)) [ox,oy] a3 w2∧wpList P l.toArray (Qn (Q .normal)) [oy,ox] a3 w2) a2)) [on] a' w')→Below w.heap.size w w'→(∀ j,Γ' j w')→wpAny P .any l.toArray (Qn (Q .normal)) (1 + (ps.length + 2)) listed a' w' by
  have H2:=wpAny_of_anyFL (Q:=Qn (Q .normal)) (g:=1 + (ps.length + 2)) hS hLL _ _ _ _ { w with drawn:=w.drawn + 1 } H ((Below.refl _ _).drew) (fun _=>trivial) (fun _ _ _ _ _=>trivial)
  rw [htl,hlen] at H2
  exact H2
 ·intro listed a' Γ' w' hL hb hG
  obtain ⟨hf,hw⟩:=hL
  have F:=Fin.of hf
  have h1:=hw w' hb hG
  rw [show 1 + (ps.length + 2)=(ps.length + 2) + 1 by omega]
  refine ⟨fun h=>(by rw [F.r] at h;cases h),fun i hi => ?_⟩
  have hin:i=n:=by rw [F.r] at hi;simpa using hi
  subst hin
  have conv:∀ b w2,(Qn (fun a2 w2=>Pure P l.toArray ps (fun a3=>wpList P l.toArray (Qn (Q .normal)) [ox,oy] a3 w2∧wpList P l.toArray (Qn (Q .normal)) [oy,ox] a3 w2) a2)) .normal b w2→wpAny P .any l.toArray (Qn (Q .normal)) (ps.length + 2) (listed.setIfInBounds i true) b w2:=by
   rintro b w2 ⟨_,hp⟩
   rw [show ps.length + 2=2 + ps.length by omega]
   exact wpAny_pures hsel ps _ b F.p (pure_mono (fun a3 h3=>wpAny_two hx hy F.xy F.ne F.sx F.sy h3.1 h3.2) ps b hp)
  unfold wpList at h1
  unfold wpOp
  simp only [hn]
  split
  ·rename_i hwt
   rw [if_pos hwt] at h1
   have h1:=h1.resolve_right (fun h=>not_lets _ h.2)
   refine .inl ?_
   unfold Oper.wp at h1 ⊢
   exact upon_conv (fun b w2 hb=>conv b w2 hb) h1
  ·rename_i hwt
   rw [if_neg hwt] at h1
   exact conv _ _ h1
end
end Go.FlowT
