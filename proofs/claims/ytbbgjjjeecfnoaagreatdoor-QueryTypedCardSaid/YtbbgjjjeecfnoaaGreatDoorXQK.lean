/- Joined by mergeQ.py: Q58p, Q59, Q60, Q64 -/
import Derived.Test.YtbbgjjjeecfnoaaGreatDoorXPE
import Derived.Test.YtbbgjjjeecfnoaaGreatDoorXH9q
import Derived.Lib.SmallJoins
import Derived.ChangeShapes
import Derived.WideShapes
import Derived.Test.YtbbgjjjeecfnoaaGreatDoorXQI
namespace Tess
namespace Wr
theorem join_le {s:Txt} {B:Nat} {l:List Txt} (h:∀ x ∈ l,x.length≤B):(join s l).length≤l.length * (B + s.length):=by
 induction l with
 | nil=>exact Nat.zero_le _
 | cons x r ih=>
   have hx:=h x List.mem_cons_self
   have hr:=ih fun y hy=>h y (List.mem_cons_of_mem _ hy)
   cases r with
   | nil=>
     show x.length≤1 * (B + s.length)
     omega
   | cons y r=>
     show (x ++ s ++ join s (y :: r)).length≤_
     rw [List.length_append,List.length_append,List.length_cons,Nat.succ_mul]
     omega
theorem join_map_le {α:Type} {s:Txt} {B:Nat} (f:α→Txt) {l:List α} (h:∀ x ∈ l,(f x).length≤B):(join s (l.map f)).length≤l.length * (B + s.length):=by
 have:=join_le (s:=s) (B:=B) (l:=l.map f) (fun x hx=>by obtain ⟨y,hy,rfl⟩:=List.mem_map.1 hx;exact h y hy)
 rwa [List.length_map] at this
theorem quoted_le (s:ByteArray):(quoted s).length≤4 * s.size + 2:=by
 have h:∀ l:List UInt8,(l.flatMap quoteB).length≤4 * l.length:=by
  intro l
  induction l with
  | nil=>exact Nat.le_refl _
  | cons c r ih=>
    have:(quoteB c).length≤4:=by unfold quoteB;(repeat' split) <;> simp
    rw [List.flatMap_cons,List.length_append,List.length_cons];omega
 have:=h (bs s)
 have e:(bs s).length=s.size:=Array.length_toList
 unfold quoted
 rw [List.length_cons,List.length_append,List.length_singleton];omega
theorem bs_len (s:ByteArray):(bs s).length=s.size:=Array.length_toList
end Wr
end Tess
namespace Go
open Go.ChangeShapes Go.WideShapes Go.Deep Go.Joins
theorem array6 {α:Type} {l:List α} (h:l.length=6):∃ c0 c1 c2 c3 c4 c5,l=[c0,c1,c2,c3,c4,c5]:=by
 match l,h with
 | [c0,c1,c2,c3,c4,c5],_=>exact ⟨c0,c1,c2,c3,c4,c5,rfl⟩
section
variable {P:Program} {w:World} {H:Type} {enc:TypeId×Value→H} {held:Bool}
theorem addr_plain {w:World} {a:Addr} {v:Value} (h:w.cell? (a.add 0)=some v):∃ b off,a=⟨b,off,none⟩∧b < w.heap.size∧∀ k,a.add k=⟨b,off + k,none⟩:=by
 obtain ⟨ab,ao,asp⟩:=a
 cases asp with
 | some x=>exfalso;simp [Addr.add,World.cell?] at h;split at h <;> simp at h
 | none=>
   have hk:∀ k,(⟨ab,ao,none⟩:Addr).add k=⟨ab,ao + k,none⟩:=fun k=>by unfold Addr.add;split <;> simp_all
   rw [hk] at h
   exact ⟨ab,ao,rfl,World.block_lt_of_cell? w _ h,hk⟩
theorem col_of_trod {α:Type} [Inhabited α] (f:α→Value) (Q:α→Prop) {t e:TypeId} (ht:P.underlying t=some (.slice e)) (hc:P.cellsOf e=1)
  (hd:∀ n v y,DataW.trod enc P w 0 (fun _=>true) held n e [v]=some y→∃ z,v=f z∧Q z) {fuel:Nat} {v:Value} {x:DataW H×List MemPlace} (h:DataW.trod enc P w 0 (fun _=>true) held fuel t [v]=some x) :
  ∃ zs:List α,SlP (fun _=>True) w v (zs.map f)∧(∀ z ∈ zs,Q z)∧∃ a cap,v = .slice a zs.length cap∧zs.length≤cap:=by
 rcases open_slice1 ht hc h with ⟨hcs,_⟩ | ⟨a,len,cap,m,n,V,D,Pl,hcs,_,hl,hm,hmm,_,hx⟩
 ·simp only [List.cons.injEq,and_true] at hcs
  subst hcs
  exact ⟨[],SlP.nil _ _,(fun z hz=>by cases hz),none,0,rfl,Nat.le_refl _⟩
 ·simp only [List.cons.injEq,and_true] at hcs
  subst hcs
  simp only [if_true] at hmm
  subst hmm
  obtain ⟨Z,hZ⟩:=choose_lt (α:=α) (p:=fun i z=>V i=f z∧Q z) (fun i hi=>hd n _ _ (hx i (Nat.lt_of_lt_of_le hi hl)).2)
  have hlen:(((List.range len).map Z).map f).length=len:=by simp
  refine ⟨(List.range len).map Z,⟨⟨by rw [hlen];omega,some a,m,by rw [hlen],fun hp => ?_⟩,fun _ _ _=>trivial,fun n c e=>by cases e⟩,fun z hz => ?_,some a,m,by simp,by simpa using hl⟩
  ·rw [hlen] at hp
   obtain ⟨b,off,rfl,hb,hk⟩:=addr_plain (hx 0 (by omega)).1
   refine ⟨b,off,rfl,hb,fun j hj => ?_⟩
   rw [hlen] at hj
   rw [← hk j,(hx j (by omega)).1]
   simp [(hZ j hj).1]
  ·obtain ⟨i,hi,rfl⟩:=List.mem_map.1 hz
   exact (hZ i (List.mem_range.1 hi)).2
end
end Go
namespace Go.Proofs.YtbbgjjjeecfnoaaGreatDoor
open Go.RowKit Go.ChangeShapes Go.WideShapes Go.Deep Go.Joins
open Tess (Fil Que)
instance:Inhabited Fil:=⟨.mk 0 ByteArray.empty [] 0 0 []⟩
abbrev I64 (z:Int):Prop := -9223372036854775808≤z∧z≤9223372036854775807
theorem rng_wf {z:Int} (h:(Lit.int .i64 z).wf=true):I64 z:=by
 simp only [Lit.wf,Bool.and_eq_true,decide_eq_true_eq] at h
 exact ⟨h.1,h.2⟩
def intsOk (f:Fil):Prop:=Fil.allP (fun x=>decide (-9223372036854775808≤x.kind) && decide (x.kind≤9223372036854775807) && decide (-9223372036854775808≤x.frm) && decide (x.frm≤9223372036854775807) && decide (-9223372036854775808≤x.to) && decide (x.to≤9223372036854775807)) f=true
instance:Inhabited Tess.Agg:=⟨⟨0,ByteArray.empty⟩⟩
instance:Inhabited Tess.Cond:=⟨⟨0,0,0⟩⟩
instance:Inhabited Tess.Key:=⟨⟨false,0,false⟩⟩
section
variable {w:World} {H:Type} {enc:TypeId×Value→H} {held:Bool}
def QueOk15 (w:World) (v:Value) (q:Que):Prop:=(∃ n va vb vS f0 f1 f2 f3 f4 f5 vh vo,QueAt (fun _=>True) n w v q va vb vS f0 f1 f2 f3 f4 f5 vh vo)∧intsOk q.fil∧I64 q.every∧I64 q.limit∧(∀ z ∈ q.conds,I64 z.pos∧I64 z.op∧I64 z.n)∧∀ z ∈ q.keys,I64 z.pos
theorem strs_of_trod {fuel:Nat} {v:Value} {x:DataW H×List MemPlace} (h:DataW.trod enc Tryz.prog w 0 (fun _=>true) held fuel 22 [v]=some x) :
  ∃ zs:List ByteArray,SlP (fun _=>True) w v (zs.map .string)∧(∀ z ∈ zs,z.size≤maxLen)∧∃ a cap,v = .slice a zs.length cap∧zs.length≤cap:=
 col_of_trod .string (fun z=>z.size≤maxLen) Tryz.underlying22 (by kernel_rfl) (fun n v y hy=>by
  obtain ⟨s,hs,_,hz⟩:=DataW.trod_string Tryz.underlying9 hy
  exact ⟨s,by simpa using hs,hz⟩) h
set_option maxRecDepth 100000 in
theorem trod_fil {fuel:Nat} {cs:List Value} {x:DataW H×List MemPlace} (h:DataW.trod enc Tryz.prog w 0 (fun _=>true) held fuel 31 cs=some x) :
  ∃ n k nm c2 frm tt c5 y2 y5,fuel=n + 1∧cs=[.int .i64 k,.string nm,c2,.int .i64 frm,.int .i64 tt,c5]∧(I64 k∧I64 frm∧I64 tt)∧nm.size≤maxLen ∧
    DataW.trod enc Tryz.prog w 0 (fun _=>true) held n 22 [c2]=some y2∧DataW.trod enc Tryz.prog w 0 (fun _=>true) held n 29 [c5]=some y5:=by
 have hC6:Tryz.prog.cellsOf 31=6:=by kernel_rfl
 have kI:Tryz.prog.cellsOf 3=1:=by kernel_rfl
 have kJ:Tryz.prog.cellsOf 2=1:=by kernel_rfl
 have kS:Tryz.prog.cellsOf 9=1:=by kernel_rfl
 have kW:Tryz.prog.cellsOf 22=1:=by kernel_rfl
 have kL:Tryz.prog.cellsOf 29=1:=by kernel_rfl
 have kP:Tryz.prog.cellsOf 28=2:=by kernel_rfl
 obtain ⟨xs,n,rfl,_,hl,hlen,hf⟩:=DataW.trod_struct Tryz.underlying31 h
 obtain ⟨c0,c1,c2,c3,c4,c5,rfl⟩:=array6 (hl.trans hC6)
 obtain ⟨y0,y1,y2,y3,y4,rfl⟩:∃ y0 y1 y2 y3 y4,xs=[y0,y1,y2,y3,y4]:=by
  match xs,(show xs.length=5 from hlen) with
  | [c0,c1,c2,c3,c4],_=>exact ⟨c0,c1,c2,c3,c4,rfl⟩
 obtain ⟨k,hk,_,hw⟩:=DataW.trod_int Tryz.underlying3 (by simpa [kI] using hf 0 _ rfl)
 obtain ⟨nm,hnm,_,hz⟩:=DataW.trod_string Tryz.underlying9 (by simpa [kS] using hf 1 _ rfl)
 have h2:DataW.trod enc Tryz.prog w 0 (fun _=>true) held n 22 [c2]=some y2:=by simpa [kW] using hf 2 _ rfl
 have h3:DataW.trod enc Tryz.prog w 0 (fun _=>true) held n 28 [c3,c4]=some y3:=by simpa [kP] using hf 3 _ rfl
 have h4:DataW.trod enc Tryz.prog w 0 (fun _=>true) held n 29 [c5]=some y4:=by simpa [kL] using hf 4 _ rfl
 obtain ⟨z0,z1,n',_,_,t0,t1⟩:=trod_struct2 Tryz.underlying28 h3
 obtain ⟨fr,hfr,_,wfr⟩:=DataW.trod_int Tryz.underlying2 (by simpa [kJ] using t0)
 obtain ⟨tt,hto,_,wto⟩:=DataW.trod_int Tryz.underlying2 (by simpa [kJ] using t1)
 obtain rfl:c0 = .int .i64 k:=by simpa using hk
 obtain rfl:c1 = .string nm:=by simpa using hnm
 obtain rfl:c3 = .int .i64 fr:=by simpa using hfr
 obtain rfl:c4 = .int .i64 tt:=by simpa using hto
 exact ⟨n,k,nm,c2,fr,tt,c5,y2,y4,rfl,rfl,⟨rng_wf hw,rng_wf wfr,rng_wf wto⟩,hz,h2,h4⟩
set_option maxRecDepth 100000 in
theorem fil_of_trod:∀ (fuel:Nat) (cs:List Value) (x:DataW H×List MemPlace),DataW.trod enc Tryz.prog w 0 (fun _=>true) held fuel 31 cs=some x→∃ f,cs.length=6∧intsOk f∧FilAt (fun _=>True) fuel w (.agg cs.toArray) f:=by
 intro fuel
 induction fuel using Nat.strongRecOn with
 | ind fuel ih=>
   intro cs x h
   obtain ⟨n,k,nm,c2,fr,tt,c5,y2,y5,rfl,rfl,⟨⟨hk1,hk2⟩,⟨hf1,hf2⟩,⟨ht1,ht2⟩⟩,hz,h2,h5⟩:=trod_fil h
   obtain ⟨ws,hws,hwz,_⟩:=strs_of_trod h2
   rcases DataW.trod_slice Tryz.underlying29 h5 with ⟨hcs,_⟩ | ⟨a,len,cap,elems,rest,n',rfl,hcs,_,_,hl,hm,hlen,hel,_,_⟩
   ·obtain rfl:c5 = .slice none 0 0:=by simpa using hcs
    refine ⟨.mk k nm ws fr tt [],rfl,?_,_,_,_,rfl,hz,hws,hwz,Nat.zero_le _,fun _=>rfl,fun hh=>absurd hh (by simp [Fil.l])⟩
    unfold intsOk
    rw [Fil.allP_eq,Bool.and_eq_true]
    exact ⟨by simp [Fil.kind,Fil.frm,Fil.to,hk1,hk2,hf1,hf2,ht1,ht2],by simp [Fil.l]⟩
   ·obtain rfl:c5 = .slice (some a) len cap:=by simpa using hcs
    have hC6:Tryz.prog.cellsOf 31=6:=by kernel_rfl
    obtain ⟨F,hF⟩:=choose_lt (α:=Fil) (n:=len) (p:=fun i f => ∃ cs',w.cells? 0 (a.add (i * 6)) 6=some cs'∧cs'.length=6∧intsOk f∧FilAt (fun _=>True) n' w (.agg cs'.toArray) f) (fun i hi=>by
     have key:=hel i hi
     rw [List.getElem?_eq_getElem (by omega),hC6] at key
     obtain ⟨cs',e1,e2⟩:=Option.bind_eq_some_iff.1 key
     obtain ⟨f,q1,q2,q3⟩:=ih n' (by omega) cs' _ e2
     exact ⟨f,cs',e1,q1,q2,q3⟩)
    have hll:((List.range len).map F).length=len:=by simp
    refine ⟨.mk k nm ws fr tt ((List.range len).map F),rfl,?_,_,some a,cap,?_,hz,hws,hwz,?_,(fun e=>by cases e),fun hp => ?_⟩
    ·unfold intsOk
     rw [Fil.allP_eq,Bool.and_eq_true,List.all_eq_true]
     refine ⟨by simp [Fil.kind,Fil.frm,Fil.to,hk1,hk2,hf1,hf2,ht1,ht2],fun y hy => ?_⟩
     obtain ⟨i,hi,rfl⟩:=List.mem_map.1 (show y ∈ (List.range len).map F from hy)
     obtain ⟨_,_,_,q,_⟩:=hF i (List.mem_range.1 hi)
     exact q
    ·simp [Fil.kind,Fil.name,Fil.frm,Fil.to,Fil.l]
    ·simp [Fil.l];omega
    ·replace hp:0 < len:=by simpa [Fil.l] using hp
     obtain ⟨cs0,z0,l0,_⟩:=hF 0 hp
     obtain ⟨_,_,z2⟩:=World.cells?_some z0
     have z3:=z2 0 (by omega)
     rw [List.getElem?_eq_getElem (by omega),Deep.add_add] at z3
     obtain ⟨b,off,rfl,hb,hadd⟩:=addr_plain (by simpa using z3)
     refine ⟨b,off,rfl,hb,trivial,fun j hj => ?_⟩
     replace hj:j < len:=by simpa [Fil.l] using hj
     obtain ⟨cs',e1,e2,e3,e4⟩:=hF j hj
     obtain ⟨d0,d1,d2,d3,d4,d5,rfl⟩:=array6 e2
     obtain ⟨_,_,e5⟩:=World.cells?_some e1
     have hcell:∀ i (hi:i < 6),w.cell? ⟨b,off + j * 6 + i,none⟩=[d0,d1,d2,d3,d4,d5][i]? := fun i hi=>by
      rw [← e5 i hi,Deep.add_add,hadd,Nat.add_assoc]
     refine ⟨d0,d1,d2,d3,d4,d5,?_,hcell 0 (by omega),hcell 1 (by omega),hcell 2 (by omega),hcell 3 (by omega),hcell 4 (by omega),hcell 5 (by omega)⟩
     have e6:(Fil.mk k nm ws fr tt ((List.range len).map F)).l[j]'(by simpa [Fil.l] using hj)=F j:=by simp [Fil.l]
     rw [e6]
     exact FilAt.mono (by omega) e4
theorem rows_of_trod {α:Type} [Inhabited α] (k:Nat) (hk0:0 < k) (f:α→List Value) (Q:α→Prop) (hfl:∀ z,(f z).length=k) {t e:TypeId} (ht:Tryz.prog.underlying t=some (.slice e)) (hc:Tryz.prog.cellsOf e=k)
  (hd:∀ n cs y,cs.length=k→DataW.trod enc Tryz.prog w 0 (fun _=>true) held n e cs=some y→∃ z,cs=f z∧Q z) {fuel:Nat} {v:Value} {x:DataW H×List MemPlace} (h:DataW.trod enc Tryz.prog w 0 (fun _=>true) held fuel t [v]=some x) :
  ∃ zs:List α,RowsAt k f (fun _=>True) w v zs∧∀ z ∈ zs,Q z:=by
 rcases open_slice ht h with ⟨hcs,_⟩ | ⟨a,len,cap,m,n,D,Pl,hcs,_,hl,hm,hmm,_,hx⟩
 ·obtain rfl:v = .slice none 0 0:=by simpa using hcs
  exact ⟨[],RowsAt.nil _ _ _ _,fun z hz=>by cases hz⟩
 ·obtain rfl:v = .slice (some a) len cap:=by simpa using hcs
  simp only [if_true] at hmm
  subst hmm
  obtain ⟨Z,hZ⟩:=choose_lt (α:=α) (n:=len) (p:=fun i z=>w.cells? 0 (a.add (i * k)) k=some (f z)∧Q z) (fun i hi=>by
   obtain ⟨cs',e1,e2⟩:=hx i (by omega)
   rw [hc] at e1
   obtain ⟨z,hz,hq⟩:=hd n cs' _ (World.cells?_some e1).2.1 e2
   exact ⟨z,by rw [e1,hz],hq⟩)
  refine ⟨(List.range len).map Z,⟨some a,m,by simp,by simp;omega,by simpa using hl,(fun e=>by cases e),fun hp => ?_⟩,fun z hz => ?_⟩
  ·replace hp:0 < len:=by simpa using hp
   obtain ⟨_,_,z2⟩:=World.cells?_some (hZ 0 hp).1
   have z3:=z2 0 hk0
   rw [List.getElem?_eq_getElem (by rw [hfl];exact hk0),Deep.add_add] at z3
   obtain ⟨b,off,rfl,hb,hadd⟩:=addr_plain (by simpa using z3)
   refine ⟨b,off,rfl,hb,trivial,fun j hj i hi => ?_⟩
   replace hj:j < len:=by simpa using hj
   obtain ⟨_,_,e5⟩:=World.cells?_some (hZ j hj).1
   have:=e5 i hi
   rw [Deep.add_add,hadd] at this
   rw [Nat.add_assoc]
   simpa using this
  ·obtain ⟨i,hi,rfl⟩:=List.mem_map.1 hz
   exact (hZ i (List.mem_range.1 hi)).2
theorem sets_of_trod {fuel:Nat} {v:Value} {x:DataW H×List MemPlace} (h:DataW.trod enc Tryz.prog w 0 (fun _=>true) held fuel 26 [v]=some x):∃ l,SetsAt (fun _=>True) w v l:=by
 rcases open_slice1 Tryz.underlying26 (by kernel_rfl) h with ⟨hcs,_⟩ | ⟨a,len,cap,m,n,V,D,Pl,hcs,_,hl,hm,hmm,_,hx⟩
 ·obtain rfl:v = .slice none 0 0:=by simpa using hcs
  exact ⟨[],SetsAt.nil _ _⟩
 ·obtain rfl:v = .slice (some a) len cap:=by simpa using hcs
  simp only [if_true] at hmm
  subst hmm
  obtain ⟨Z,hZ⟩:=choose_lt (α:=List ByteArray) (n:=len) (p:=fun i z=>SlP (fun _=>True) w (V i) (z.map .string)∧∀ x ∈ z,x.size≤maxLen) (fun i hi=>by
   obtain ⟨z,h1,h2,_⟩:=strs_of_trod (hx i (Nat.lt_of_lt_of_le hi hl)).2
   exact ⟨z,h1,h2⟩)
  refine ⟨(List.range len).map Z,some a,m,by simp,by simp;omega,by simpa using hl,(fun e=>by cases e),fun hp => ?_⟩
  replace hp:0 < len:=by simpa using hp
  obtain ⟨b,off,rfl,hb,hadd⟩:=addr_plain (hx 0 (by omega)).1
  refine ⟨b,off,rfl,hb,trivial,fun j hj => ?_⟩
  replace hj:j < len:=by simpa using hj
  refine ⟨V j,by rw [← hadd j,(hx j (by omega)).1],?_,?_⟩
  ·simpa using (hZ j hj).1
  ·simpa using (hZ j hj).2
set_option maxRecDepth 100000 in
theorem aggs_of_trod {fuel:Nat} {v:Value} {x:DataW H×List MemPlace} (h:DataW.trod enc Tryz.prog w 0 (fun _=>true) held fuel 25 [v]=some x):∃ l,RowsAt 2 aggF (fun _=>True) w v l∧∀ z ∈ l,z.met.size≤maxLen:=
 rows_of_trod 2 (by omega) aggF (fun z=>z.met.size≤maxLen) (fun _=>rfl) Tryz.underlying25 (by kernel_rfl) (fun n cs y hl hy=>by
  have k0:Tryz.prog.cellsOf 3=1:=by kernel_rfl
  have k1:Tryz.prog.cellsOf 9=1:=by kernel_rfl
  obtain ⟨y0,y1,n',_,hcl,t0,t1⟩:=trod_struct2 Tryz.underlying83 hy
  match cs,hl with
  | [c0,c1],_=>
    obtain ⟨k,rfl⟩:∃ k,c0 = .int .i64 k:=by
     obtain ⟨k,hk,_⟩:=DataW.trod_int Tryz.underlying3 (by simpa [k0] using t0)
     exact ⟨k,by simpa using hk⟩
    obtain ⟨s,hs,_,hz⟩:=DataW.trod_string Tryz.underlying9 (by simpa [k0,k1] using t1)
    obtain rfl:c1 = .string s:=by simpa using hs
    exact ⟨⟨k,s⟩,rfl,hz⟩) h
set_option maxRecDepth 100000 in
theorem conds_of_trod {fuel:Nat} {v:Value} {x:DataW H×List MemPlace} (h:DataW.trod enc Tryz.prog w 0 (fun _=>true) held fuel 32 [v]=some x):∃ l,RowsAt 3 condF (fun _=>True) w v l∧∀ z ∈ l,I64 z.pos∧I64 z.op∧I64 z.n:=by
 obtain ⟨l,hl,hr⟩:=rows_of_trod 3 (by omega) condF (fun z=>I64 z.pos∧I64 z.op∧I64 z.n) (fun _=>rfl) Tryz.underlying32 (by kernel_rfl) (fun n cs y hl hy=>by
  have k0:Tryz.prog.cellsOf 3=1:=by kernel_rfl
  have k1:Tryz.prog.cellsOf 2=1:=by kernel_rfl
  obtain ⟨xs,n',rfl,_,_,hlen,hf⟩:=DataW.trod_struct Tryz.underlying147 hy
  match cs,hl,xs,(show xs.length=3 from hlen) with
  | [c0,c1,c2],_,[y0,y1,y2],_=>
    obtain ⟨a,ha,_,wa⟩:=DataW.trod_int Tryz.underlying3 (by simpa [k0] using hf 0 _ rfl)
    obtain ⟨b,hb,_,wb⟩:=DataW.trod_int Tryz.underlying3 (by simpa [k0] using hf 1 _ rfl)
    obtain ⟨c,hc,_,wc⟩:=DataW.trod_int Tryz.underlying2 (by simpa [k0,k1] using hf 2 _ rfl)
    obtain rfl:c0 = .int .i64 a:=by simpa using ha
    obtain rfl:c1 = .int .i64 b:=by simpa using hb
    obtain rfl:c2 = .int .i64 c:=by simpa using hc
    exact ⟨⟨a,b,c⟩,rfl,rng_wf wa,rng_wf wb,rng_wf wc⟩) h
 exact ⟨l,hl,hr⟩
set_option maxRecDepth 100000 in
theorem keys_of_trod {fuel:Nat} {v:Value} {x:DataW H×List MemPlace} (h:DataW.trod enc Tryz.prog w 0 (fun _=>true) held fuel 33 [v]=some x):∃ l,RowsAt 3 keyF (fun _=>True) w v l∧∀ z ∈ l,I64 z.pos:=by
 obtain ⟨l,hl,hr⟩:=rows_of_trod 3 (by omega) keyF (fun z=>I64 z.pos) (fun _=>rfl) Tryz.underlying33 (by kernel_rfl) (fun n cs y hl hy=>by
  have k0:Tryz.prog.cellsOf 4=1:=by kernel_rfl
  have k1:Tryz.prog.cellsOf 3=1:=by kernel_rfl
  obtain ⟨xs,n',rfl,_,_,hlen,hf⟩:=DataW.trod_struct Tryz.underlying150 hy
  match cs,hl,xs,(show xs.length=3 from hlen) with
  | [c0,c1,c2],_,[y0,y1,y2],_=>
    obtain ⟨a,ha,_⟩:=DataW.trod_bool Tryz.underlying4 (by simpa [k0] using hf 0 _ rfl)
    obtain ⟨b,hb,_,wb⟩:=DataW.trod_int Tryz.underlying3 (by simpa [k0,k1] using hf 1 _ rfl)
    obtain ⟨c,hc,_⟩:=DataW.trod_bool Tryz.underlying4 (by simpa [k0,k1] using hf 2 _ rfl)
    obtain rfl:c0 = .bool a:=by simpa using ha
    obtain rfl:c1 = .int .i64 b:=by simpa using hb
    obtain rfl:c2 = .bool c:=by simpa using hc
    exact ⟨⟨a,b,c⟩,rfl,rng_wf wb⟩) h
 exact ⟨l,hl,hr⟩
set_option maxRecDepth 100000 in
theorem que_of_trod {fuel:Nat} {cs:List Value} {x:DataW H×List MemPlace} (hcl:cs.length=14) (h:DataW.trod enc Tryz.prog w 0 (fun _=>true) held fuel 35 cs=some x):∃ q,QueOk15 w (.agg cs.toArray) q:=by
 have kI:Tryz.prog.cellsOf 3=1:=by kernel_rfl
 have kJ:Tryz.prog.cellsOf 2=1:=by kernel_rfl
 have kA:Tryz.prog.cellsOf 25=1:=by kernel_rfl
 have kW:Tryz.prog.cellsOf 22=1:=by kernel_rfl
 have kS:Tryz.prog.cellsOf 26=1:=by kernel_rfl
 have kF:Tryz.prog.cellsOf 31=6:=by kernel_rfl
 have kC:Tryz.prog.cellsOf 32=1:=by kernel_rfl
 have kK:Tryz.prog.cellsOf 33=1:=by kernel_rfl
 obtain ⟨xs,n,rfl,_,_,hlen,hf⟩:=DataW.trod_struct Tryz.underlying35 h
 match cs,hcl,xs,(show xs.length=9 from hlen) with
 | [c0,c1,c2,c3,c4,c5,c6,c7,c8,c9,ca,cb,cc,cd],_,[u0,u1,u2,u3,u4,u5,u6,u7,u8],_=>
   have h0:DataW.trod enc Tryz.prog w 0 (fun _=>true) held n 25 [c0]=some u0:=by simpa [kA] using hf 0 _ rfl
   have h1:DataW.trod enc Tryz.prog w 0 (fun _=>true) held n 22 [c1]=some u1:=by simpa [kA,kW] using hf 1 _ rfl
   have h2:DataW.trod enc Tryz.prog w 0 (fun _=>true) held n 3 [c2]=some u2:=by simpa [kA,kW,kI] using hf 2 _ rfl
   have h3:DataW.trod enc Tryz.prog w 0 (fun _=>true) held n 26 [c3]=some u3:=by simpa [kA,kW,kI,kS] using hf 3 _ rfl
   have h4:DataW.trod enc Tryz.prog w 0 (fun _=>true) held n 2 [c4]=some u4:=by simpa [kA,kW,kI,kS,kJ] using hf 4 _ rfl
   have h5:DataW.trod enc Tryz.prog w 0 (fun _=>true) held n 31 [c5,c6,c7,c8,c9,ca]=some u5:=by simpa [kA,kW,kI,kS,kJ,kF] using hf 5 _ rfl
   have h6:DataW.trod enc Tryz.prog w 0 (fun _=>true) held n 32 [cb]=some u6:=by simpa [kA,kW,kI,kS,kJ,kF,kC] using hf 6 _ rfl
   have h7:DataW.trod enc Tryz.prog w 0 (fun _=>true) held n 33 [cc]=some u7:=by simpa [kA,kW,kI,kS,kJ,kF,kC,kK] using hf 7 _ rfl
   have h8:DataW.trod enc Tryz.prog w 0 (fun _=>true) held n 3 [cd]=some u8:=by simpa [kA,kW,kI,kS,kJ,kF,kC,kK] using hf 8 _ rfl
   obtain ⟨aggs,ra,rm⟩:=aggs_of_trod h0
   obtain ⟨names,rn,rs,_⟩:=strs_of_trod h1
   obtain ⟨mode,hmd,_⟩:=DataW.trod_int Tryz.underlying3 h2
   obtain ⟨sets,rS⟩:=sets_of_trod h3
   obtain ⟨every,hev,_,wev⟩:=DataW.trod_int Tryz.underlying2 h4
   obtain ⟨f,_,hK,hF⟩:=fil_of_trod n _ _ h5
   obtain ⟨conds,rC,wC⟩:=conds_of_trod h6
   obtain ⟨keys,rK,wK⟩:=keys_of_trod h7
   obtain ⟨limit,hlm,_,wlm⟩:=DataW.trod_int Tryz.underlying3 h8
   obtain rfl:c2 = .int .i64 mode:=by simpa using hmd
   obtain rfl:c4 = .int .i64 every:=by simpa using hev
   obtain rfl:cd = .int .i64 limit:=by simpa using hlm
   exact ⟨⟨aggs,names,mode,sets,every,f,conds,keys,limit⟩,⟨n,_,_,_,_,_,_,_,_,_,_,_,rfl,ra,rm,rn,rs,rS,hF,rC,rK⟩,hK,rng_wf wev,rng_wf wlm,wC,wK⟩
set_option maxRecDepth 100000 in
theorem open_que {r:Reach} {b0:Nat} {v:Value} {d:DataW H} {ps:List MemPlace} (hval:Value.okWide Tryz.prog w r b0 35 v) (hd:DataW.Trod enc Tryz.prog w 0 (fun _=>true) held 35 v d ps):∃ q,QueOk15 w v q:=by
 obtain ⟨cs,rfl,_⟩:=okWide_struct Tryz.underlying35 hval
 obtain ⟨fuel,hf⟩:=hd
 have hC:Tryz.prog.cellsOf 35=14:=by kernel_rfl
 obtain ⟨_,_,_,_,hl,_⟩:=DataW.trod_struct Tryz.underlying35 hf
 obtain ⟨q,hq⟩:=que_of_trod (by simpa [hC] using hl) hf
 exact ⟨q,by simpa [Value.cells] using hq⟩
end
end Go.Proofs.YtbbgjjjeecfnoaaGreatDoor
namespace Go.Proofs.YtbbgjjjeecfnoaaGreatDoor
open Go.RowKit Go.Sort
open Tess (Tok Fil Que)
open Tess.Wr (join_map_le quoted_le bs_len)
def tidyB (x:Fil):Bool:=decide (x.name.size≤30) && decide (x.words.length≤10) && x.words.all (fun y=>decide (y.size≤110)) && decide (x.l.length≤10) && decide (I64 x.frm) && decide (I64 x.to)
theorem tidy_open {f:Fil} (h:tidyB f=true):f.name.size≤30∧f.words.length≤10∧(∀ y ∈ f.words,y.size≤110)∧f.l.length≤10∧I64 f.frm∧I64 f.to:=by
 unfold tidyB at h
 simp only [Bool.and_eq_true,decide_eq_true_eq,List.all_eq_true] at h
 obtain ⟨⟨⟨⟨⟨h1,h2⟩,h3⟩,h4⟩,h5⟩,h6⟩:=h
 exact ⟨h1,h2,h3,h4,h5,h6⟩
theorem tidy_mk {k a b:Int} {nm:ByteArray} {ws:List ByteArray} {l:List Fil} (h1:nm.size≤30) (h2:ws.length≤10) (h3:∀ y ∈ ws,y.size≤110) (h4:l.length≤10) (h5:I64 a) (h6:I64 b):tidyB (.mk k nm ws a b l)=true:=by
 unfold tidyB
 simp only [Bool.and_eq_true,decide_eq_true_eq,List.all_eq_true]
 exact ⟨⟨⟨⟨⟨h1,h2⟩,h3⟩,h4⟩,h5⟩,h6⟩
theorem tidy_all {f:Fil} (h:Fil.allP tidyB f=true):tidyB f=true∧∀ x ∈ f.l,Fil.allP tidyB x=true:=by
 rw [Fil.allP_eq,Bool.and_eq_true,List.all_eq_true] at h
 exact h
theorem ints_open {f:Fil} (h:intsOk f):I64 f.frm∧I64 f.to∧∀ x ∈ f.l,intsOk x:=by
 unfold intsOk at h
 rw [Fil.allP_eq,Bool.and_eq_true,List.all_eq_true] at h
 obtain ⟨h1,h2⟩:=h
 simp only [Bool.and_eq_true,decide_eq_true_eq] at h1
 obtain ⟨⟨⟨⟨⟨_,_⟩,h3⟩,h4⟩,h5⟩,h6⟩:=h1
 exact ⟨⟨h3,h4⟩,⟨h5,h6⟩,h2⟩
theorem words_tidy (l:List ByteArray):∀ y ∈ (l.take 10).map (cutN 110),y.size≤110:=fun y hy=>by
 obtain ⟨x,_,rfl⟩:=List.mem_map.1 hy
 exact cutN_size 110 x
theorem cut_tidy (d:Nat):∀ f:Fil,intsOk f→Fil.allP tidyB (Fil.cut d f)=true:=by
 induction d with
 | zero=>
   intro f hf
   obtain ⟨h1,h2,_⟩:=ints_open hf
   rw [Fil.allP_eq,Bool.and_eq_true]
   exact ⟨tidy_mk (cutN_size 30 _) (by rw [List.length_map,List.length_take];omega) (words_tidy _) (Nat.zero_le _) h1 h2,rfl⟩
 | succ d ih=>
   intro f hf
   obtain ⟨h1,h2,h3⟩:=ints_open hf
   rw [Fil.allP_eq,Bool.and_eq_true,List.all_eq_true]
   refine ⟨tidy_mk (cutN_size 30 _) (by rw [List.length_map,List.length_take];omega) (words_tidy _) (by rw [List.length_map,List.length_take];omega) h1 h2,fun x hx => ?_⟩
   obtain ⟨y,hy,rfl⟩:=List.mem_map.1 (show x ∈ (f.l.take 10).map (Fil.cut d) from hx)
   exact ih y (h3 y (List.mem_of_mem_take hy))
theorem few_tidy (f:Fil) (hf:intsOk f):Fil.allP tidyB (Fil.few f)=true∧(Fil.few f).count≤100:=by
 have h:=cut_tidy 7 f hf
 unfold Fil.few
 split
 ·obtain ⟨h1,_⟩:=tidy_all h
  obtain ⟨a1,a2,a3,_,a5,a6⟩:=tidy_open h1
  refine ⟨?_,?_⟩
  ·rw [Fil.allP_eq,Bool.and_eq_true]
   exact ⟨tidy_mk a1 a2 a3 (Nat.zero_le _) a5 a6,rfl⟩
  ·rw [Fil.count_eq]
   show 1 + Fil.countL []≤100
   unfold Fil.countL;omega
 ·exact ⟨h,by omega⟩
theorem smallF_tidy:∀ (n:Nat) (f:Fil),f.deep≤n→Fil.allP tidyB f=true→SmallF f
 | 0,f,h,_=>by
   obtain ⟨k,nm,ws,a,b,l⟩:=f
   unfold Fil.deep at h
   omega
 | n + 1,f,h,hg=>by
   obtain ⟨h1,h2⟩:=tidy_all hg
   obtain ⟨a1,a2,a3,a4,a5,a6⟩:=tidy_open h1
   obtain ⟨k,nm,ws,a,b,l⟩:=f
   have hdeep:∀ x ∈ l,x.deep≤n:=fun x hx=>by
    have:=Fil.deep_mem hx
    unfold Fil.deep at h;omega
   replace a1:nm.size≤30:=a1
   replace a2:ws.length≤10:=a2
   replace a4:l.length≤10:=a4
   unfold SmallF
   exact ⟨by omega,by omega,fun x hx=>by have:=a3 x hx;omega,a5,a6,by omega,smallFL_of fun x hx=>smallF_tidy n x (hdeep x hx) (h2 x hx)⟩
theorem ask_len:∀ (n:Nat) (f:Fil),f.deep≤n→Fil.allP tidyB f=true→(Tess.Wr.asking f).length + 50≤6000 * f.count
 | 0,f,h,_=>by
   obtain ⟨k,nm,ws,a,b,l⟩:=f
   unfold Fil.deep at h
   omega
 | n + 1,f,h,hg=>by
   obtain ⟨h1,h2⟩:=tidy_all hg
   obtain ⟨a1,a2,a3,a4,a5,a6⟩:=tidy_open h1
   obtain ⟨k,nm,ws,a,b,l⟩:=f
   have hdeep:∀ x ∈ l,x.deep≤n:=fun x hx=>by
    have:=Fil.deep_mem hx
    unfold Fil.deep at h;omega
   have hb:(Tess.Wr.bs nm).length≤30:=by rw [bs_len];exact a1
   have hw:∀ s:List UInt8,s.length≤5→(Tess.Wr.words s ws).length≤4470:=fun s hs=>by
    have e:=join_map_le (s:=s) (B:=442) Tess.Wr.quoted (l:=ws) fun x hx=>by
     have:=quoted_le x;have:=a3 x hx;omega
    have e2:ws.length * (442 + s.length)≤10 * 447:=Nat.mul_le_mul a2 (by omega)
    have e3:(Tess.Wr.words s ws).length≤ws.length * (442 + s.length):=e
    omega
   have hk:∀ x ∈ l,(Tess.Wr.asking x).length + 50≤6000 * x.count:=fun x hx=>ask_len n x (hdeep x hx) (h2 x hx)
   have hl:∀ s:List UInt8,s.length≤5→(Tess.Wr.join s (Tess.Wr.askingL l)).length≤6000 * Fil.countL l:=fun s hs=>by
    clear h hg h1 h2 a1 a2 a3 a4 a5 a6 hdeep hw hb
    induction l with
    | nil=>exact Nat.zero_le _
    | cons x r ih=>
      have e1:=hk x List.mem_cons_self
      have e2:=ih fun y hy=>hk y (List.mem_cons_of_mem _ hy)
      have e3:Fil.countL (x :: r)=x.count + Fil.countL r:=rfl
      cases r with
      | nil=>
        show (Tess.Wr.asking x).length≤_
        omega
      | cons y r=>
        show (Tess.Wr.asking x ++ s ++ Tess.Wr.join s (Tess.Wr.askingL (y :: r))).length≤_
        rw [List.length_append,List.length_append]
        omega
   have hc:Fil.count (.mk k nm ws a b l)=1 + Fil.countL l:=rfl
   have da:=Tess.Prs.digits_len (n:=a) a5.1 a5.2
   have db:=Tess.Prs.digits_len (n:=b) a6.1 a6.2
   have c1:(Tess.Wr.bs Tess.Prs.wPrefix).length=6∧(Tess.Wr.bs Tess.Prs.wBetween).length=7∧(Tess.Wr.bs Tess.Prs.wNot).length=3∧(Tess.Wr.bs Tess.Prs.wAnd).length=3∧(Tess.Wr.bs Tess.Prs.wOr).length=2∧(Tess.Wr.bs Tess.Prs.wAll).length=3∧(Tess.Wr.bs Tess.Prs.wNone).length=4∧(Tess.Wr.bs Tess.Prs.wTime).length=4:=by decide
   obtain ⟨k1,k2,k3,k4,k5,k6,k7,k8⟩:=c1
   have w1:=hw [32,124,32] (by decide)
   have w2:=hw [32] (by decide)
   have w3:=hw [32,46,46,32] (by decide)
   have l1:=hl [32] (by decide)
   have l2:=hl (32 :: Tess.Wr.bs Tess.Prs.wAnd ++ [32]) (by decide)
   have l3:=hl (32 :: Tess.Wr.bs Tess.Prs.wOr ++ [32]) (by decide)
   rw [hc]
   unfold Tess.Wr.asking
   repeat' split
   all_goals
    try simp only [List.length_append,List.length_cons,List.length_nil]
    omega
theorem one_len {l:List ByteArray} {B:Nat} (h:∀ x ∈ l,x.size≤B) (hB:1≤B) (i:Int):(Tess.Wr.one l i).length≤B:=by
 unfold Tess.Wr.one
 split
 ·exact hB
 ·rw [bs_len,List.getD_eq_getElem?_getD]
  cases hj:l[i.toNat]? with
  | none=>exact Nat.zero_le _
  | some x=>exact h x (List.mem_of_getElem? hj)
theorem wrap_rng (n:Int):I64 (Tess.Wr.wrap n):=by
 unfold Tess.Wr.wrap I64
 omega
theorem dig_len {n:Int} (h:I64 n):(Tess.Wr.digits n).length≤20:=Tess.Prs.digits_len h.1 h.2
theorem sum_len {a:Tess.Agg} (h:a.met.size≤30):(Tess.Wr.summing a).length≤64:=by
 unfold Tess.Wr.summing
 have hw:∀ w,Tess.Wr.kindW a.kind=some w→w.size≤5:=fun w hw=>by
  unfold Tess.Wr.kindW at hw
  (repeat' split at hw) <;> first | (cases hw;decide) | cases hw
 split
 ·simp
 ·rename_i w e
  have e1:=hw w e
  split
  ·rw [bs_len];omega
  ·simp only [List.length_append,List.length_cons,List.length_nil,bs_len];omega
theorem dol_len {l:List ByteArray} (h:∀ x ∈ l,x.size≤30) (hl:l.length≤10):(Tess.Wr.dollars l).length≤340:=by
 have e:=join_map_le (s:=Tess.Wr.sComma) (B:=31) Tess.Wr.dollar (l:=l) fun x hx=>by
  have:=h x hx
  show (36 :: Tess.Wr.bs x).length≤31
  rw [List.length_cons,bs_len];omega
 have e2:l.length * (31 + Tess.Wr.sComma.length)≤10 * 34:=Nat.mul_le_mul hl (Nat.le_refl _)
 have e3:(Tess.Wr.dollars l).length≤l.length * (31 + Tess.Wr.sComma.length):=e
 omega
theorem setT_len {l:List ByteArray} (h:∀ x ∈ l,x.size≤30) (hl:l.length≤10):(Tess.Wr.set l).length≤400:=by
 have:=dol_len h hl
 unfold Tess.Wr.set
 split
 ·simp
 ·simp only [List.length_append,List.length_cons,List.length_nil];omega
theorem cond_len {c:Tess.Cond} (h:I64 c.n):(Tess.Wr.condition c).length≤64:=by
 have d1:=dig_len (wrap_rng (c.pos + 1))
 have d2:=dig_len h
 have d3:=one_len (l:=Tess.Prs.ops) (B:=8) (by decide) (by decide) (Tess.Wr.wrap (c.op - 1))
 unfold Tess.Wr.condition
 simp only [List.length_append,List.length_cons,List.length_nil];omega
theorem key_len {names:List ByteArray} (hn:∀ x ∈ names,x.size≤30) (k:Tess.Key):(Tess.Wr.key names k).length≤64:=by
 have d1:=dig_len (wrap_rng (k.pos + 1))
 have d3:=one_len (l:=names) (B:=30) hn (by decide) k.pos
 have c1:(Tess.Wr.bs Tess.Prs.wDesc).length=4:=by decide
 unfold Tess.Wr.key
 repeat' split
 all_goals
  simp only [List.length_append,List.length_cons,List.length_nil];omega
theorem opt_len (b:Bool) (l:List (List UInt8)):(Tess.Wr.opt b l).flatten.length≤l.flatten.length∧(Tess.Wr.opt b l).length≤l.length:=by
 cases b
 ·exact ⟨Nat.zero_le _,Nat.zero_le _⟩
 ·exact ⟨Nat.le_refl _,Nat.le_refl _⟩
theorem join_flat (s:List UInt8) (l:List (List UInt8)):(Tess.Wr.join s l).length≤l.flatten.length + l.length * s.length:=by
 induction l with
 | nil=>exact Nat.zero_le _
 | cons x r ih=>
   cases r with
   | nil=>
     show x.length≤_
     simp only [List.flatten_cons,List.flatten_nil,List.length_append,List.length_nil];omega
   | cons y r=>
     show (x ++ s ++ Tess.Wr.join s (y :: r)).length≤_
     rw [List.length_append,List.length_append,List.flatten_cons,List.length_append,List.length_cons,Nat.succ_mul]
     omega
theorem small_few {q:Que} (hi:intsOk q.fil) (he:I64 q.every) (hl:I64 q.limit) (hc:∀ z ∈ q.conds,I64 z.pos∧I64 z.op∧I64 z.n) (hk:∀ z ∈ q.keys,I64 z.pos):SmallQ (Que.few q):=by
 obtain ⟨ft,fc⟩:=few_tidy q.fil hi
 have hF:=ask_len _ _ (Nat.le_refl _) ft
 have l1:(Que.few q).aggs.length≤10:=by show ((q.aggs.take 10).map _).length≤10;rw [List.length_map,List.length_take];omega
 have l2:(Que.few q).names.length≤10:=by show ((q.names.take 10).map _).length≤10;rw [List.length_map,List.length_take];omega
 have l3:(Que.few q).sets.length≤10:=by show ((q.sets.take 10).map _).length≤10;rw [List.length_map,List.length_take];omega
 have l4:(Que.few q).conds.length≤10:=by show (q.conds.take 10).length≤10;rw [List.length_take];omega
 have l5:(Que.few q).keys.length≤10:=by show (q.keys.take 10).length≤10;rw [List.length_take];omega
 have m1:∀ a ∈ (Que.few q).aggs,a.met.size≤30:=fun a ha=>by
  obtain ⟨y,_,rfl⟩:=List.mem_map.1 (show a ∈ (q.aggs.take 10).map Tess.cutAgg from ha)
  exact cutN_size 30 _
 have m2:∀ x ∈ (Que.few q).names,x.size≤30:=fun a ha=>by
  obtain ⟨y,_,rfl⟩:=List.mem_map.1 (show a ∈ (q.names.take 10).map (cutN 30) from ha)
  exact cutN_size 30 _
 have m3:∀ l ∈ (Que.few q).sets,l.length≤10∧∀ x ∈ l,x.size≤30:=fun l hl=>by
  obtain ⟨y,_,rfl⟩:=List.mem_map.1 (show l ∈ (q.sets.take 10).map (fun l=>(l.take 10).map (cutN 30)) from hl)
  refine ⟨by rw [List.length_map,List.length_take];omega,fun x hx => ?_⟩
  obtain ⟨z,_,rfl⟩:=List.mem_map.1 hx
  exact cutN_size 30 _
 have m4:∀ z ∈ (Que.few q).conds,I64 z.pos∧I64 z.op∧I64 z.n:=fun z hz=>hc z (List.mem_of_mem_take hz)
 have m5:∀ z ∈ (Que.few q).keys,I64 z.pos:=fun z hz=>hk z (List.mem_of_mem_take hz)
 have m6:I64 (Que.few q).every:=he
 have m7:I64 (Que.few q).limit:=hl
 replace hF:(Tess.Wr.asking (Que.few q).fil).length + 50≤6000 * (Que.few q).fil.count:=hF
 replace fc:(Que.few q).fil.count≤100:=fc
 have hS:SmallF (Que.few q).fil:=smallF_tidy _ _ (Nat.le_refl _) ft
 generalize Que.few q=f at *
 have t1:=join_map_le (s:=Tess.Wr.sComma) (B:=64) Tess.Wr.summing (l:=f.aggs) fun a ha=>sum_len (m1 a ha)
 have t2:=dol_len m2 l2
 have t3:=join_map_le (s:=[32]) (B:=400) Tess.Wr.set (l:=f.sets) fun l hl=>setT_len (m3 l hl).2 (m3 l hl).1
 have t4:=join_map_le (s:=Tess.Wr.sComma) (B:=64) Tess.Wr.condition (l:=f.conds) fun a ha=>cond_len (m4 a ha).2.2
 have t5:=join_map_le (s:=Tess.Wr.sComma) (B:=64) (Tess.Wr.key f.names) (l:=f.keys) fun a _=>key_len m2 a
 have t6:=dig_len m6
 have t7:=dig_len m7
 have e1:f.aggs.length * (64 + Tess.Wr.sComma.length)≤10 * 67:=Nat.mul_le_mul l1 (Nat.le_refl _)
 have e3:f.sets.length * (400 + [(32:UInt8)].length)≤10 * 401:=Nat.mul_le_mul l3 (Nat.le_refl _)
 have e4:f.conds.length * (64 + Tess.Wr.sComma.length)≤10 * 67:=Nat.mul_le_mul l4 (Nat.le_refl _)
 have e5:f.keys.length * (64 + Tess.Wr.sComma.length)≤10 * 67:=Nat.mul_le_mul l5 (Nat.le_refl _)
 have hW:(Tess.Wr.written f).length≤1000000:=by
  unfold Tess.Wr.written
  refine Nat.le_trans (join_flat _ _) ?_
  have o1:=opt_len (!f.names.isEmpty) [Tess.Wr.bs Tess.Prs.wBy,Tess.Wr.dollars f.names]
  have o2:=opt_len (f.mode == 2) [Tess.Wr.bs Tess.Prs.wCube]
  have o3:=opt_len (f.mode == 3) [Tess.Wr.bs Tess.Prs.wRollup]
  have o4:=opt_len (f.mode == 4) [Tess.Wr.bs Tess.Prs.wSets,Tess.Wr.join [32] (f.sets.map Tess.Wr.set)]
  have o5:=opt_len (f.every != 0) [Tess.Wr.bs Tess.Prs.wEvery,Tess.Wr.digits f.every]
  have o6:=opt_len (f.fil.kind != 1) [Tess.Wr.bs Tess.Prs.wWhere,Tess.Wr.asking f.fil]
  have o7:=opt_len (!f.conds.isEmpty) [Tess.Wr.bs Tess.Prs.wHaving,Tess.Wr.join Tess.Wr.sComma (f.conds.map Tess.Wr.condition)]
  have o8:=opt_len (!f.keys.isEmpty) [Tess.Wr.bs Tess.Prs.wOrder,Tess.Wr.join Tess.Wr.sComma (f.keys.map (Tess.Wr.key f.names))]
  have o9:=opt_len (f.limit != 0) [Tess.Wr.bs Tess.Prs.wLimit,Tess.Wr.digits f.limit]
  have c1:(Tess.Wr.bs Tess.Prs.wSelect).length≤10∧(Tess.Wr.bs Tess.Prs.wBy).length≤10∧(Tess.Wr.bs Tess.Prs.wCube).length≤10∧(Tess.Wr.bs Tess.Prs.wRollup).length≤10∧(Tess.Wr.bs Tess.Prs.wSets).length≤10∧(Tess.Wr.bs Tess.Prs.wEvery).length≤10∧(Tess.Wr.bs Tess.Prs.wWhere).length≤10∧(Tess.Wr.bs Tess.Prs.wHaving).length≤10∧(Tess.Wr.bs Tess.Prs.wOrder).length≤10∧(Tess.Wr.bs Tess.Prs.wLimit).length≤10:=by decide
  obtain ⟨k1,k2,k3,k4,k5,k6,k7,k8,k9,k0⟩:=c1
  simp only [List.flatten_append,List.length_append,List.flatten_cons,List.flatten_nil,List.length_cons,List.length_nil] at o1 o2 o3 o4 o5 o6 o7 o8 o9 ⊢
  omega
 exact
  { a1:=by omega
    a2:=fun a ha=>by have:=m1 a ha;omega
    a3:=by omega
    n1:=by omega
    n2:=fun a ha=>by have:=m2 a ha;omega
    n3:=by omega
    s1:=by omega
    s2:=fun l hl=>⟨by have:=(m3 l hl).1;omega,fun x hx=>by have:=(m3 l hl).2 x hx;omega⟩
    s3:=by omega
    e:=m6
    f1:=hS
    f2:=by omega
    c1:=by omega
    c2:=m4
    c3:=by omega
    k1:=by omega
    k2:=m5
    k3:=by omega
    l:=m7
    w:=by omega }
end Go.Proofs.YtbbgjjjeecfnoaaGreatDoor
namespace Go.Proofs.YtbbgjjjeecfnoaaGreatDoor
open Go.RowKit Go.ChangeShapes Go.WideShapes Go.Deep Go.Joins
section
variable {w:World} {H:Type} {enc:TypeId×Value→H} {held:Bool}
theorem int_cell {fuel:Nat} {v:Value} {x:DataW H×List MemPlace} (h:DataW.trod enc Tryz.prog w 0 (fun _=>true) held fuel 2 [v]=some x):∃ z,v = .int .i64 z ∧ -9223372036854775808≤z∧z≤9223372036854775807:=by
 obtain ⟨z,hz,_,hw⟩:=DataW.trod_int Tryz.underlying2 h
 simp only [Lit.wf,Bool.and_eq_true,decide_eq_true_eq] at hw
 exact ⟨z,by simpa using hz,hw.1,hw.2⟩
set_option maxRecDepth 100000 in
theorem open_sch {r:Reach} {b0:Nat} {v:Value} {d:DataW H} {ps:List MemPlace} (hval:Value.okWide Tryz.prog w r b0 24 v) (hd:DataW.Trod enc Tryz.prog w 0 (fun _=>true) held 24 v d ps):∃ s,SchAt (fun _=>True) w v s:=by
 obtain ⟨v0,v1,v2,y0,y1,y2,n,rfl,_,_,h0,h1,h2⟩:=open_agg3 Tryz.underlying24 (by kernel_rfl) (by kernel_rfl) hval hd
 obtain ⟨zd,s0,q0,_⟩:=strs_of_trod h0
 obtain ⟨zm,s1,q1,_⟩:=strs_of_trod h1
 obtain ⟨g,rfl,_⟩:=int_cell h2
 exact ⟨⟨zd,zm,g⟩,v0,v1,rfl,s0,s1,q0,q1⟩
end
end Go.Proofs.YtbbgjjjeecfnoaaGreatDoor
