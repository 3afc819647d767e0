/- Joined by mergeK.py: T13, U3, T10 -/
import Derived.Test.YtjdccifdkjnknaaGreatDoorAC23
import Derived.Test.YtjdccifdkjnknaaGreatDoorAC14
import Derived.Test.YtjdccifdkjnknaaGreatDoorAC05
import Derived.Test.YtjdccifdkjnknaaGreatDoorAC10
import Derived.Test.YtjdccifdkjnknaaGreatDoorAC17
import Derived.Test.YtjdccifdkjnknaaGreatDoorAC22
import Derived.Test.YtjdccifdkjnknaaGreatDoorAC13
import Derived.Test.YtjdccifdkjnknaaGreatDoorAC16
namespace Go.Proofs.YtjdccifdkjnknaaGreatDoor
open Go.RowKit Go.Sort Go.Shelf
attribute [local go_sem] Oper.semAt_some
theorem psize_any (n w:Nat) (W:World) (hn:n≤1000) (hw:w≤16):Calls Tryz.prog 177 #[.int .i64 n,.int .i64 w] W fun e w'=>e = .returned (.int .i64 (Tess.sP n w:Nat))∧w'=W:=by
 have hm:n * w≤1000 * 16:=Nat.mul_le_mul hn hw
 have h1:(n:Int) * (w:Int)=((n * w:Nat):Int):=by simp
 have h2:decide ((n:Int) < 0)=false:=decide_eq_false (by omega)
 have h3:decide ((w:Int) < 0)=false:=decide_eq_false (by omega)
 unfold Tess.sP
 generalize n * w=m at *
 go_enter Tryz.func177,Tryz.ntmps177
 go_wp2
 go_ret
 refine ⟨?_,rfl⟩
 show Ending.returned (.int .i64 (((m:Int) + 8 - 1) / 8))=_
 rw [show ((m:Int) + 8 - 1) / 8=((m + 7) / 8:Nat) by omega]
theorem pa4 (a:Addr) (n w:Nat) (W:World):Calls Tryz.prog 178 #[.pointer (some a),.int .i64 n,.int .i64 w] W fun e w'=>e = .returned (.func (.func 209) #[] #[.pointer (some ⟨W.heap.size + 1,0,none⟩),.pointer (some ⟨W.heap.size,0,none⟩),.pointer (some ⟨W.heap.size + 2,0,none⟩)])∧w'=((W.alloc (.cells #[.pointer (some a)] 246)).alloc (.cells #[.int .i64 n] 3)).alloc (.cells #[.int .i64 w] 3):=by
 go_enter Tryz.func178,Tryz.ntmps178
 go_wp2
 go_ret
 exact ⟨rfl,rfl⟩
theorem os4 {base:Nat} {e:TypeId} {v:Value} {n:Nat} {xs:List Value} {w:World} (h:w.ownsRow base e 1 v n xs):∃ a c,v = .slice a n c∧n≤c∧SlOf w v xs:=by
 have hs:=SlOf.owned h
 rcases h.2 with ⟨h,h0⟩ | ⟨g,Aa,_,h,_,_,h2,_⟩
 ·exact ⟨none,0,by rw [h,h0],by omega,hs⟩
 ·exact ⟨_,_,h,h2,hs⟩
theorem numK_lt (w:Nat) (T:List UInt8) (k:Nat) (hw:w≤16):Tess.numK w T k≤65535:=by
 unfold Tess.numK
 have h1:2 ^ w≤2 ^ 16:=Nat.pow_le_pow_right (by omega) hw
 have h2:=Nat.mod_lt (Tess.valB T / 2 ^ (8 * T.length - (k + 1) * w)) (Nat.two_pow_pos w)
 have e:(2:Nat) ^ 16=65536:=by decide
 omega
structure Nv (X:World) (bo br L:Nat) (rec:Loop) (o:List Nat) (vo:Value) (n c:Nat) (st:ByteArray) (W:World):Prop where
 kO:W.heap[bo]? = some (.cells #[vo] 96 (0,0))
 kR:Dg br 251 n c (.string st) W
 kL:W.heap[L]? = some (.loop rec)
 own:W.ownsRow X.heap.size 3 1 vo o.length (o.map fun n => .int .i64 (n:Nat))
 os:W.os=X.os
 tape:W.tape=X.tape
 output:W.output=X.output
 size:X.heap.size≤W.heap.size
 rest:∀ k,k < X.heap.size→k≠bo→k≠br→k≠L→W.heap[k]? = X.heap[k]?
 bo_br:bo≠br
 bo_L:bo≠L
 br_L:br≠L
 lts:bo < X.heap.size∧br < X.heap.size∧L < X.heap.size
section
variable {X W W' W2:World} {bo br L n c n' c' x:Nat} {rec rec':Loop} {o:List Nat} {vo v':Value} {st st':ByteArray} {ob:Obj}
theorem Nv.low (h:Nv X bo br L rec o vo n c st W):∀ g,vo.ownBlock=some g→X.heap.size≤g∧g < W.heap.size:=fun g e=>h.own.lt g e
theorem Nv.one (h:Nv X bo br L rec o vo n c st W) (ho:OneB br W W') (hb:Dg br 251 n' c' (.string st') W'):Nv X bo br L rec o vo n' c' st' W':=by
 obtain ⟨l1,l2,l3⟩:=h.lts
 have hs:=h.size
 refine ⟨(ho.block _ (by omega) h.bo_br).trans h.kO,hb,(ho.block _ (by omega) (Ne.symm h.br_L)).trans h.kL,oo h.own (fun e=>by have:=(h.low _ e).1;omega) ho,ho.os.trans h.os,ho.tape.trans h.tape,ho.output.trans h.output,Nat.le_trans hs ho.size,fun k h1 h2 h3 h4=>(ho.block k (by omega) h3).trans (h.rest k h1 h2 h3 h4),h.bo_br,h.bo_L,h.br_L,h.lts⟩
theorem Nv.but (h:Nv X bo br L rec o vo n c st W) (hs:Rf.SB L W W') (hl:W'.heap[L]? = some (.loop rec')):Nv X bo br L rec' o vo n c st W':=by
 obtain ⟨l1,l2,l3⟩:=h.lts
 have Aa:W'.ownsRow X.heap.size 3 1 vo o.length (o.map fun n => .int .i64 (n:Nat)):=hs.owns h.own h.kL rfl
 exact ⟨(hs.block _ h.bo_L).trans h.kO,(hs.block _ h.br_L).trans h.kR,hl,Aa,hs.os.trans h.os,hs.tape.trans h.tape,hs.output.trans h.output,by rw [hs.size];exact h.size,fun k h1 h2 h3 h4=>(hs.block k h4).trans (h.rest k h1 h2 h3 h4),h.bo_br,h.bo_L,h.br_L,h.lts⟩
theorem Nv.old (h:Nv X bo br L rec o vo n c st W) (hg:(W.alloc ob).grownBy W2 vo.ownBlock):∀ k,k < X.heap.size→W2.heap[k]? = W.heap[k]? := fun k hk=>(hg.block k (by have:=h.size;simp;omega) (fun e=>by have:=(h.low _ e.symm).1;omega)).trans (Below.heap_alloc W ob k (by have:=h.size;omega))
theorem Nv.app (h:Nv X bo br L rec o vo n c st W) (hg:(W.alloc ob).grownBy W2 vo.ownBlock) (hown:W2.ownsRow X.heap.size 3 1 v' (o.length + 1) ((o.map fun n => .int .i64 (n:Nat)) ++ [.int .i64 (x:Nat)])):Nv X bo br L rec (o ++ [x]) v' n c st (W2.setCell ⟨bo,0,none⟩ v'):=by
 obtain ⟨l1,l2,l3⟩:=h.lts
 have hs:=h.size
 have old:∀ k,k < X.heap.size→W2.heap[k]? = W.heap[k]? := fun k hk=>(hg.block k (by simp;omega) (fun e=>by have:=(h.low _ e.symm).1;omega)).trans (Below.heap_alloc W ob k (by omega))
 have Aa:=(old bo l1).trans h.kO
 refine ⟨fhs v' Aa,(fhn (Ne.symm h.bo_br)).trans ((old br l2).trans h.kR),(fhn (Ne.symm h.bo_L)).trans ((old L l3).trans h.kL),?_,hg.os.trans h.os,hg.tape.trans h.tape,hg.output.trans h.output,?_,fun k h1 h2 h3 h4=>(fhn h2).trans ((old k h1).trans (h.rest k h1 h2 h3 h4)),h.bo_br,h.bo_L,h.br_L,h.lts⟩
 ·rw [List.length_append,List.map_append]
  exact oo (b:=bo) hown (fun e=>by have:=(hown.lt _ e).1;omega) ((OneB.of (Below.refl W2.heap.size W2)).set bo 0 v')
 ·have:=hg.size
  simp [World.setCell] at this ⊢
  omega
theorem Nv.drawn (h:Nv X bo br L rec o vo n c st W) (q:Nat):Nv X bo br L rec o vo n c st (W.drewN q):=⟨h.kO,h.kR,h.kL,h.own,h.os,h.tape,h.output,h.size,h.rest,h.bo_br,h.bo_L,h.br_L,h.lts⟩
theorem Nv.later (h:Nv X bo br L rec o vo n c st W) (hb:Below W.heap.size W W'):Nv X bo br L rec o vo n c st W':=h.one (OneB.of hb) ((hb.block _ (Dg.cells h.kR).2.2).trans h.kR)
theorem Nv.at (h:Nv X bo br L rec o vo n c st W) {k:Nat} {v:Value} {t:TypeId} (hk:X.heap[k]? = some (.cells #[v] t (0,0))) (h2:k≠bo) (h3:k≠br) (h4:k≠L):W.cell? ⟨k,0,none⟩=some v∧W.frozen? ⟨k,0,none⟩=false:=fco ((h.rest k (Array.getElem?_eq_some_iff.1 hk).1 h2 h3 h4).trans hk)
theorem Nv.below (h:Nv X bo br L rec o vo n c st W) {N:Nat} {w:World} (hb:Below N w X) (h1:N≤bo) (h2:N≤br) (h3:N≤L) (hN:N≤X.heap.size):Below N w W:=hb.trans ⟨h.os,h.tape,h.output,h.size,fun k hk=>h.rest k (by omega) (by omega) (by omega) (by omega)⟩
end
def UnFin (w:World) (Z n wd:Nat) (T:List UInt8) (W4:World):Prop:=∃ (vo:Value) (nn c:Nat) (st:ByteArray),W4.heap[w.heap.size]? = some (.cells #[vo] 96 (0,0))∧W4.ownsRow w.heap.size 3 1 vo n (((List.range n).map (Tess.numK wd T)).map fun m => .int .i64 (m:Nat))∧Dg (Z + 1) 251 nn c (.string st) W4∧nn=Tess.valB T % 2 ^ (8 * T.length - n * wd)∧W4.heap[Z + 5]? = some (.deferred (some []))∧Below w.heap.size w W4
theorem Nv.fin {X w W W4:World} {Z n wd nn c:Nat} {T:List UInt8} {rec:Loop} {vo:Value} {st:ByteArray} (h:Nv X w.heap.size (Z + 1) (Z + 5 + 1) rec ((List.range n).map (Tess.numK wd T)) vo nn c st W) (hs:Rf.SB (Z + 5 + 1) W W4) (hB:Below w.heap.size w X) (hZ:w.heap.size < Z) (hX:X.heap.size=Z + 5 + 2) (hD:X.heap[Z + 5]? = some (.deferred (some []))) (hnn:nn=Tess.valB T % 2 ^ (8 * T.length - n * wd)):UnFin w Z n wd T W4:=by
 have Aa:W4.ownsRow X.heap.size 3 1 vo ((List.range n).map (Tess.numK wd T)).length (((List.range n).map (Tess.numK wd T)).map fun m => .int .i64 (m:Nat)):=hs.owns h.own h.kL rfl
 have ho:W4.ownsRow w.heap.size 3 1 vo ((List.range n).map (Tess.numK wd T)).length (((List.range n).map (Tess.numK wd T)).map fun m => .int .i64 (m:Nat)):=by
  refine ⟨Aa.1,Aa.2.imp id fun ⟨g,cap,cur,e1,e2,e3⟩=>⟨g,cap,cur,e1,by omega,e3⟩⟩
 rw [List.length_map,List.length_range] at ho
 exact ⟨vo,nn,c,st,(hs.block _ h.bo_L).trans h.kO,ho,(hs.block _ h.br_L).trans h.kR,hnn,(hs.block _ (by omega)).trans ((h.rest _ (by omega) (by omega) (by omega) (by omega)).trans hD),(h.below hB (by omega) (by omega) (by omega) (by omega)).trans (hs.below (by omega))⟩
def PP2 (s:ByteArray) (w:World) (e:Ending) (w':World):Prop:=∃ a c,e = .returned (.tuple #[.slice a (Tess.uP s).1.length c,.string (Tess.uP s).2.1,.int .i64 ((Tess.uP s).2.2:Nat)])∧w'.ownsRow w.heap.size 3 1 (.slice a (Tess.uP s).1.length c) (Tess.uP s).1.length ((Tess.uP s).1.map fun n => .int .i64 (n:Nat))∧Below w.heap.size w w'
set_option maxRecDepth 100000 in
set_option maxHeartbeats 4000000 in
theorem pa2 (a0 a1:Addr) (s:ByteArray) (w:World) (hv:DV2 a0 a1 w):Calls Tryz.prog 134 #[.string s] w (PP2 s w):=by
 obtain ⟨w0,Cg⟩:∃ w0,w.alloc (.cells #[.slice none 0 0] 96)=w0:=⟨_,rfl⟩
 have Bh:Below w.heap.size w w0:=by rw [← Cg];exact (Below.refl _ _).alloc (Nat.le_refl _) _
 have h0:w0.heap[w.heap.size]? = some (.cells #[.slice none 0 0] 96 (0,0)):=by rw [← Cg];exact World.alloc_heap_new w _
 have HG:=Hd (get_any a0 a1 s w0 (hv.below Bh))
 have HV:=Hd hv
 have Ax:=Hd Bh
 have H0:=Hd h0
 obtain ⟨U,hU⟩:∃ U,U=Tess.uP s:=⟨_,rfl⟩
 have HU:=Hd hU
 unfold PP2
 rw [← hU]
 unfold GP2 at HG
 have A3:=Tess.gWl s
 obtain ⟨⟨n,r,c⟩,hg⟩:∃ g,g=Tess.getW s:=⟨_,rfl⟩
 rw [← hg] at HG A3
 simp only at HG A3
 have Ar:=Hd hg
 have Ap:c≠0∨(c=0∧1000 < n)∨(c=0∧n≤1000∧r=ByteArray.empty)∨(c=0∧n≤1000∧∃ b t,r=Tess.mk (b :: t)∧(16 < b.toNat∨b.toNat≤16∧t.length < Tess.sP n b.toNat∨b.toNat≤16∧Tess.sP n b.toNat≤t.length)):=by
  by_cases h1:c=0
  ·by_cases h2:1000 < n
   ·exact .inr (.inl ⟨h1,h2⟩)
   ·right;right
    cases he:r.data.toList with
    | nil=>exact .inl ⟨h1,by omega,Tess.me2 he⟩
    | cons b t=>exact .inr ⟨h1,by omega,b,t,Tess.me2 he,by omega⟩
  ·exact .inl h1
 clear hv Bh h0 hU hg
 refine (callsIn_wide (n:=5)).1 ?_
 refine callsIn_of_wp_marks Tryz.func134 rfl trivial ?_ rfl
 simp only [Tryz.ntmps134,List.size_toArray,List.length_cons,List.length_nil,Nat.reduceAdd,Nat.reduceSub,Array.replicate_succ,Array.replicate_zero,List.push_toArray,List.append_toArray,List.nil_append,List.cons_append]
 gi_wp2
 refine Rf.wIs2 0 rfl ?_
 rcases Ap with hc | ⟨rfl,hn⟩ | ⟨rfl,hn,rfl⟩ | ⟨rfl,hn,b,t,rfl,h⟩
 ·have De:((c:Int) != 0)=true:=by rw [bne_iff_ne];omega
  have HR:=Hd (show U=([],s,c) by rw [HU.out];unfold Tess.uP;rw [← Ar.out,if_pos hc])
  gi_wp2_with (refine ⟨trivial,?_⟩;gi_at_call 176;refine (callsIn_wide.2 HG.out).mono ?_;rintro e w1 ⟨rfl,Ab⟩;have Ad:=Hd (Bt Ax.out Ab);clear Ab)
  refine wpIn_goto (Exit.tg2 (Exit.fg2 ?_))
  gi_wp2
  rw [Exit.noGoto_ret]
  refine ⟨.tuple #[.slice none 0 0,.string s,.int .i64 c],by simp [results,Tryz.results134,go_sem],none,0,by rw [HR.out];rfl,by rw [HR.out];exact World.ownsRow_nil _ _ _ _,Ad.out.alloc Ad.out.size _⟩
 ·have Ce:(1000:Int) < (n:Int):=by omega
  have HR:=Hd (show U=([],s,40) by rw [HU.out];unfold Tess.uP;rw [← Ar.out,if_neg (by simp),if_pos hn])
  gi_wp2_with (refine ⟨trivial,?_⟩;gi_at_call 176;refine (callsIn_wide.2 HG.out).mono ?_;rintro e w1 ⟨rfl,Ab⟩;have Ad:=Hd (Bt Ax.out Ab);clear Ab)
  refine wpIn_goto (Exit.tg2 (Exit.fg2 ?_))
  gi_wp2
  rw [Exit.noGoto_ret]
  refine ⟨.tuple #[.slice none 0 0,.string s,.int .i64 40],by simp [results,Tryz.results134,go_sem],none,0,by rw [HR.out];rfl,by rw [HR.out];exact World.ownsRow_nil _ _ _ _,Ad.out.alloc Ad.out.size _⟩
 ·have HR:=Hd (show U=([],s,21) by rw [HU.out];unfold Tess.uP;rw [← Ar.out,if_neg (by simp),if_neg (by omega)];rfl)
  have Ce:¬ (1000:Int) < (n:Int):=by omega
  gi_wp2_with (refine ⟨trivial,?_⟩;gi_at_call 176;refine (callsIn_wide.2 HG.out).mono ?_;rintro e w1 ⟨rfl,Ab⟩;have Ad:=Hd (Bt Ax.out Ab);clear Ab)
  refine wpIn_goto (Exit.tg2 (Exit.fg2 ?_))
  gi_wp2
  rw [Exit.noGoto_ret]
  refine ⟨.tuple #[.slice none 0 0,.string s,.int .i64 21],by simp [results,Tryz.results134,go_sem],none,0,by rw [HR.out];rfl,by rw [HR.out];exact World.ownsRow_nil _ _ _ _,Ad.out.alloc Ad.out.size _⟩
 ·obtain ⟨R,hR⟩:∃ R,R=Tess.mk (b :: t):=⟨_,rfl⟩
  rw [← hR] at HG Ar
  have Do:R.size=t.length + 1:=by rw [hR,Tess.ms2];rfl
  have h0:0 < R.size:=by omega
  have Cc:R[0]'h0=b:=by subst hR;rfl
  have Dl:R.toList.isEmpty=false:=sn4 (by omega)
  have Ch:=b.toNat_lt
  have Dc:wrap64 ((R[0]'h0).toNat:Int)=(b.toNat:Int):=by rw [Cc];unfold wrap64;omega
  have Ce:¬ (1000:Int) < (n:Int):=by omega
  have Dm:=Hd hR
  have A5:=Hd (show R.data.toList=b :: t by rw [hR];rfl)
  clear hR Cc
  have B4:b.toNat≤16→Tess.sP n b.toNat≤2001:=fun h=>by
   have:n * b.toNat≤1000 * 16:=Nat.mul_le_mul hn h
   unfold Tess.sP
   omega
  have Bg:=Hd (fun W h=>psize_any n b.toNat W hn h)
  obtain ⟨S,Bd⟩:∃ S,S=Tess.sP n b.toNat:=⟨_,rfl⟩
  rw [← Bd] at B4 h
  rw [← Bd] at Bg
  have Be:b.toNat≤16→wrap64 (1 + (S:Int))=((S + 1:Nat):Int):=fun h=>by have:=B4 h;unfold wrap64;omega
  have Ba:=Hd Bd
  clear Bd
  rcases h with hb | ⟨Ac,hS⟩ | ⟨Ac,hS⟩
  ·have B2:(16:Int) < (b.toNat:Int):=by omega
   have HR:=Hd (show U=([],s,40) by rw [HU.out];unfold Tess.uP;rw [← Ar.out,if_neg (by simp),if_neg (by omega)];simp only [A5.out];rw [if_pos hb])
   gi_wp2_with (refine ⟨trivial,?_⟩;gi_at_call 176;refine (callsIn_wide.2 HG.out).mono ?_;rintro e w1 ⟨rfl,Ab⟩;have Ad:=Hd (Bt Ax.out Ab);clear Ab)
   refine wpIn_goto (Exit.tg2 (Exit.fg2 ?_))
   gi_wp2
   rw [Exit.noGoto_ret]
   refine ⟨.tuple #[.slice none 0 0,.string s,.int .i64 40],by simp [results,Tryz.results134,go_sem],none,0,by rw [HR.out];rfl,by rw [HR.out];exact World.ownsRow_nil _ _ _ _,Ad.out.alloc Ad.out.size _⟩
  ·have B2:¬ (16:Int) < (b.toNat:Int):=by omega
   have HR:=Hd (show U=([],s,21) by rw [HU.out];unfold Tess.uP;rw [← Ar.out,if_neg (by simp),if_neg (by omega)];simp only [A5.out];rw [if_neg (by omega),if_pos (by rw [← Ba.out];exact hS)])
   have Be:=Be Ac
   have C9:(R.size:Int) < ((S + 1:Nat):Int):=by omega
   gi_wp2_with (first | (refine ⟨trivial,?_⟩;gi_at_call 176;refine (callsIn_wide.2 HG.out).mono ?_;rintro e w1 ⟨rfl,Ab⟩;have Ad:=Hd (Bt Ax.out Ab);clear Ab) | (refine ⟨trivial,?_⟩;gi_at_call 177;refine (callsIn_wide.2 (Bg.out _ Ac)).mono ?_;rintro e w2 ⟨rfl,rfl⟩))
   refine wpIn_goto (Exit.tg2 (Exit.fg2 ?_))
   gi_wp2
   rw [Exit.noGoto_ret]
   refine ⟨.tuple #[.slice none 0 0,.string s,.int .i64 21],by simp [results,Tryz.results134,go_sem],none,0,by rw [HR.out];rfl,by rw [HR.out];exact World.ownsRow_nil _ _ _ _,Ad.out.alloc Ad.out.size _⟩
  ·have B2:¬ (16:Int) < (b.toNat:Int):=by omega
   have Be:=Be Ac
   have C9:¬ (R.size:Int) < ((S + 1:Nat):Int):=by omega
   gi_wp2_with (first | (refine ⟨trivial,?_⟩;gi_at_call 176;refine (callsIn_wide.2 HG.out).mono ?_;rintro e w1 ⟨rfl,Ab⟩;have Ad:=Hd (Bt Ax.out Ab);have H1:=Hd ((Ab.block _ (Array.getElem?_eq_some_iff.1 H0.out).1).trans H0.out);clear Ab) | (refine ⟨trivial,?_⟩;gi_at_call 177;refine (callsIn_wide.2 (Bg.out _ Ac)).mono ?_;rintro e w2 ⟨rfl,rfl⟩))
   refine wpIn_label ?_
   gi_wp2_with (refine ⟨trivial,?_⟩;gi_at_call 178;refine (callsIn_wide.2 (pa4 _ _ _ _)).mono ?_;rintro e w' ⟨rfl,rfl⟩)
   obtain ⟨T,hT⟩:∃ T,T=t.take S:=⟨_,rfl⟩
   have Ci:R.extract 1 (1 + S)=Tess.mk T:=Tess.me2 (by rw [Tess.ext_list,A5.out,hT,show 1 + S - 1=S by omega];rfl)
   have B8:T.length=S:=by rw [hT,List.length_take];omega
   rw [Ci]
   have HT:=Hd hT
   have C4:=Hd B8
   clear Ci hT B8
   obtain ⟨X1,Bs⟩:∃ X1,(((((w1.alloc (.cells #[.int .u64 n] 92)).alloc (.cells #[.int .u64 0,.int .i64 0,.string (Tess.mk T)] 251)).alloc (.cells #[.pointer (some ⟨w1.heap.size + 1,0,none⟩)] 246)).alloc (.cells #[.int .i64 n] 3)).alloc (.cells #[.int .i64 b.toNat] 3))=X1:=⟨_,rfl⟩
   obtain ⟨k0,k1,k2,k3,k4,kS,kB⟩:=laid5 w1 (.cells #[.int .u64 n] 92) (.cells #[.int .u64 0,.int .i64 0,.string (Tess.mk T)] 251) (.cells #[.pointer (some ⟨w1.heap.size + 1,0,none⟩)] 246) (.cells #[.int .i64 n] 3) (.cells #[.int .i64 b.toNat] 3)
   rw [Bs] at k0 k1 k2 k3 k4 kS kB
   have Co:=Hd ((kB.block _ (Array.getElem?_eq_some_iff.1 H1.out).1).trans H1.out)
   have Cx:=Hd (Ad.out.trans (kB.mono Ad.out.size))
   have HZ:=Hd (show w.heap.size < w1.heap.size from (Array.getElem?_eq_some_iff.1 H1.out).1)
   clear kB
   obtain ⟨Z,hZ⟩:∃ Z,Z=w1.heap.size:=⟨_,rfl⟩
   simp only [Bs,Nat.add_assoc,Nat.reduceAdd]
   clear Bs
   rw [← hZ] at k0 k1 k2 k3 k4 kS HZ ⊢
   clear hZ
   refine Rf.range_fin (gf:=209) (lb:=#[.pointer (some ⟨Z + 3,0,none⟩),.pointer (some ⟨Z + 2,0,none⟩),.pointer (some ⟨Z + 4,0,none⟩)]) 0 (UnFin w Z n b.toNat T) rfl (enters_of Tryz.func209 (by kernel_rfl) rfl) ?_ ?_ ?_
   ·intro fn W2 hL hD Al Bp
    rw [kS] at hL hD Al Bp ⊢
    obtain ⟨Ae,Aw,hL⟩:∃ Ae:Loop,Ae=_∧W2.heap[Z + 5 + 1]? = some (.loop Ae):=⟨_,rfl,hL⟩
    have Br:=Hd Aw
    have Bf:Ae.state = .ready∧Ae.params.size=1∧Ae.pending=none:=by rw [Aw];exact ⟨rfl,rfl,rfl⟩
    clear Aw
    obtain ⟨Bf,C6,Cm⟩:=Bf
    have Ck:=HZ.out
    have HI:=Hd (show Nv W2 w.heap.size (Z + 1) (Z + 5 + 1) Ae [] (.slice none 0 0) 0 0 (Tess.mk T) W2 from ⟨(Al.block _ (by omega)).trans Co.out,(Al.block _ (by omega)).trans k1,hL,World.ownsRow_nil _ _ _ _,rfl,rfl,rfl,Nat.le_refl _,fun _ _ _ _ _=>rfl,by omega,by omega,by omega,by omega,by omega,by omega⟩)
    have J0:=Hd ((Al.block Z (by omega)).trans k0)
    have J2:=Hd ((Al.block (Z + 2) (by omega)).trans k2)
    have J3:=Hd ((Al.block (Z + 3) (by omega)).trans k3)
    have J4:=Hd ((Al.block (Z + 4) (by omega)).trans k4)
    have JD:=Hd hD
    have Cj:=Hd (Cx.out.trans (Al.mono (by omega)))
    obtain ⟨c3,z3⟩:=fco J3.out
    obtain ⟨i0,hi,Cs,Cv,Cz⟩:=info_parts (P:=Tryz.prog) (e:=3) (z:=.int .i64 0) (size:=1) (bytes:=8) (by kernel_rfl)
    obtain ⟨wd,A7⟩:∃ wd,wd=b.toNat:=⟨_,rfl⟩
    rw [← A7] at J4 Ac Ba ⊢
    have As:=Hd (show T.length=Tess.sP n wd by rw [C4.out,Ba.out])
    clear k0 k1 k2 k3 k4 kS hL hD Al A7
    refine callsIn_of_wp Tryz.func209 rfl trivial ?_ rfl
    simp only [Tryz.ntmps209,List.size_toArray,List.length_cons,List.length_nil,Nat.reduceAdd,Nat.reduceSub,Array.replicate_succ,Array.replicate_zero,List.push_toArray,List.append_toArray,List.nil_append,List.cons_append]
    gi_wp2
    gi_loopw [6] (fun iv wr => ∃ (k:Nat) (vo:Value) (nn c j:Nat),k≤n∧(k=0∨k < n)∧iv = .int .i64 k∧Nv W2 w.heap.size (Z + 1) (Z + 5 + 1) Ae ((List.range k).map (Tess.numK wd T)) vo nn c (Tess.mk (T.drop j)) wr∧Tess.RSt wd T k j nn c∧c < 8) (fun iv _=>n - (intOf iv).toNat)
    case atStart=>exact ⟨0,_,0,0,0,Nat.zero_le _,.inl rfl,rfl,HI.out,Tess.RSt.none _ _,by omega⟩
    case round=>
     obtain ⟨k,vo,nn,c,j,hk,Db,rfl,hN,hR,Dh⟩:=hrel
     have HN:=Hd hN
     have B0:=Hd hR
     clear hN hR c3 z3
     by_cases hlt:k < n
     ·have Cp:(k:Int) < (n:Int):=by omega
      gi_wp2
      obtain ⟨wa,C7⟩:∃ wa,wa=wr:=⟨_,rfl⟩
      subst C7
      gi_loopw [12] (fun _ wr => ∃ (nn c j:Nat),Nv W2 w.heap.size (Z + 1) (Z + 5 + 1) Ae ((List.range k).map (Tess.numK wd T)) vo nn c (Tess.mk (T.drop j)) wr∧Tess.RSt wd T k j nn c∧c≤wd + 7) (fun _ wr=>24 - cnt (Z + 1) wr)
      case atStart=>exact ⟨nn,c,j,HN.out,B0.out,by omega⟩
      case round=>
       obtain ⟨n2,c2,j2,A6,Cd,Dd⟩:=hrel
       obtain ⟨p2,y2⟩:=A6.at J2.out (by omega) (by omega) (by omega)
       obtain ⟨p4,y4⟩:=A6.at J4.out (by omega) (by omega) (by omega)
       obtain ⟨⟨x0,x1,x2⟩,⟨z0,z1,z2⟩,hb⟩:=Dg.cells A6.kR
       have A4:cnt (Z + 1) wr=c2:=by unfold cnt;rw [x1];rfl
       have Bu:=Hd A6
       have A0:=Hd Cd
       have Cl:=Hd A4
       clear A6 Cd A4
       by_cases hcw:c2 < wd
       ·have Bi:(c2:Int) < (wd:Int):=by omega
        have C5:j2 < T.length:=by
         have h1:=A0.out.len
         have h2:(k + 1) * wd≤n * wd:=Nat.mul_le_mul_right _ hlt
         rw [Nat.add_mul] at h2
         have h3:=Tess.size_ge n wd
         rw [← As.out] at h3
         omega
        obtain ⟨ST,A9⟩:∃ ST,ST=Tess.mk (T.drop j2):=⟨_,rfl⟩
        have Cr:ST.size=T.length - j2:=by rw [A9,Tess.ms2,List.length_drop]
        have h0:0 < ST.size:=by omega
        obtain ⟨x,hx⟩:∃ x,x=(ST[0]'h0).toNat:=⟨_,rfl⟩
        have B7:x=T[j2].toNat:=by
         rw [hx]
         subst A9
         show ((T.drop j2).toArray[0]'(by simp;omega)).toNat=_
         simp
        have B9:x < 2 ^ 8:=by rw [hx];exact UInt8.toNat_lt _
        have Df:IntKind.u64.wrap (((ST[0]'h0).toNat:Nat):Int)=(x:Int):=by rw [wrap_u64,← hx];omega
        have Cb:n2 * 2 ^ 8 + x < 18446744073709551616:=by
         have h1:=A0.out.lt
         have h2:2 ^ c2≤2 ^ 16:=Nat.pow_le_pow_right (by omega) (by omega)
         have e:(2:Nat) ^ 16=65536:=by decide
         have e2:(2:Nat) ^ 8=256:=by decide
         omega
        have Bx:=Hd (fun W h=>dadd_any (Z + 1) 251 n2 c2 8 x (.string ST) W h B9 Cb (by omega) (by omega))
        have B3:=Hd (A0.out.more C5)
        rw [← B7] at B3
        rw [← A9] at Bu x2
        have Cn:=Hd (show ST.extract 1 ST.size=Tess.mk (T.drop (j2 + 1)) by rw [A9,Tess.md2,List.drop_drop])
        have Dq:(1:Int)≤(ST.size:Int):=by omega
        clear A9 B7 Cb B9 Cr
        gi_wp2
        refine wpIn_wide.2 ?_
        go_quiet (fail)
        gi_wp2
        generalize hw3:wr.drewN _=w3
        have Av:=Hd (show Nv W2 w.heap.size (Z + 1) (Z + 5 + 1) Ae ((List.range k).map (Tess.numK wd T)) vo n2 c2 ST w3 by rw [← hw3];exact Bu.out.drawn _)
        clear p2 y2 p4 y4 x0 x1 x2 z0 z1 z2 hb hw3
        obtain ⟨p2,y2⟩:=Av.out.at J2.out (by omega) (by omega) (by omega)
        obtain ⟨⟨x0,x1,x2⟩,⟨z0,z1,z2⟩,hb⟩:=Dg.cells Av.out.kR
        have A8:=World.block_lt_of_cell? _ _ p2
        refine Flow.wIr 9 (Flow.sp3 [.inl ?_,.inl ?_,.inl ?_,.inl ?_,.inl ?_,.inl ?_,.inl ?_,.inl ?_,.inl ?_]) (by kernel_rfl) (by kernel_rfl) ?_ ?_
        rotate_left 9
        ·refine Flow.sm2 ?_
         repeat (first | exact Flow.ln2 | refine Flow.li2 ?_)
        all_goals try simp only [List.take_succ_cons,List.take_zero,List.drop_succ_cons,List.drop_zero]
        iterate 9 (refine Flow.tvK rfl (fun K hK=>⟨fun w hw hG => ?_,?_⟩);(have Da:=Flow.bc4 hw;clear hG hw;unfold Flow.Runs Flow.yields;go_simp;try rfl);go_simp;refine hK _ ?_;clear hK K)
        refine Flow.tn2 fun w4 An hG => ?_
        clear hG
        have Ao:=Hd (Av.out.later An)
        clear An p2 y2 x0 x1 x2 z0 z1 z2 hb A8
        go_simp
        gi_wp2_with (fail)
        rw [show (ST[0]'h0).toNat=x from hx.symm]
        refine ⟨trivial,?_⟩
        refine (callsIn_wide.2 (Bx.out w4 Ao.out.kR)).mono ?_
        rintro e w5 ⟨rfl,A1,Bc⟩
        have At:=Hd (Ao.out.one Bc A1)
        clear A1 Bc
        gi_wp2_with (fail)
        obtain ⟨p2,y2⟩:=At.out.at J2.out (by omega) (by omega) (by omega)
        obtain ⟨⟨x0,x1,x2⟩,⟨z0,z1,z2⟩,hb⟩:=Dg.cells At.out.kR
        have A8:=World.block_lt_of_cell? _ _ p2
        refine Flow.wIr 6 (Flow.sp3 [.inl ?_,.inl ?_,.inl ?_,.inl ?_,.inl ?_,.inl ?_]) (by kernel_rfl) (by kernel_rfl) ?_ ?_
        rotate_left 6
        ·refine Flow.sm2 ?_
         repeat (first | exact Flow.ln2 | refine Flow.li2 ?_)
        all_goals try simp only [List.take_succ_cons,List.take_zero,List.drop_succ_cons,List.drop_zero]
        iterate 6 (refine Flow.tvK rfl (fun K hK=>⟨fun w hw hG => ?_,?_⟩);(have Da:=Flow.bc4 hw;clear hG hw;unfold Flow.Runs Flow.yields;go_simp;try rfl);go_simp;refine hK _ ?_;clear hK K)
        refine Flow.tn2 fun w6 An hG => ?_
        clear hG
        have Ah:=Hd (At.out.later An)
        clear An p2 y2 x0 x1 x2 z0 z1 z2 hb A8
        obtain ⟨⟨x0,x1,x2⟩,⟨z0,z1,z2⟩,hb⟩:=Dg.cells Ah.out.kR
        go_simp
        gi_wp2_with (fail)
        have Bb:=Hd (Ah.out.one (st':=Tess.mk (T.drop (j2 + 1))) ((OneB.of (Below.refl w6.heap.size w6)).set (Z + 1) 2 (.string (ST.extract 1 ST.size))) (by rw [← Cn.out];exact Ah.out.kR.set2 _))
        go_roundw
        case rel=>exact ⟨_,_,_,Bb.out,B3.out,by omega⟩
        case measure=>have h1:cnt (Z + 1) _=c2 + 8:=(by unfold cnt;rw [(Dg.cells Bb.out.kR).1.2.1];rfl);rw [h1,Cl.out];omega
       ·have Bi:¬ (c2:Int) < (wd:Int):=by omega
        gi_wp2
        refine wpIn_wide.2 ?_
        go_quiet (fail)
        gi_wp2
        generalize hw3:wr.drewN _=w3
        have Av:=Hd (show Nv W2 w.heap.size (Z + 1) (Z + 5 + 1) Ae ((List.range k).map (Tess.numK wd T)) vo n2 c2 (Tess.mk (T.drop j2)) w3 by rw [← hw3];exact Bu.out.drawn _)
        clear p2 y2 p4 y4 x0 x1 x2 z0 z1 z2 hb hw3
        obtain ⟨p2,y2⟩:=Av.out.at J2.out (by omega) (by omega) (by omega)
        obtain ⟨p4,y4⟩:=Av.out.at J4.out (by omega) (by omega) (by omega)
        have A8:=World.block_lt_of_cell? _ _ p2
        have C1:=World.block_lt_of_cell? _ _ p4
        obtain ⟨m,rfl⟩:∃ m,c2=m + wd:=⟨c2 - wd,by omega⟩
        have A2:n2 < 18446744073709551616:=Nat.lt_of_lt_of_le A0.out.lt (Nat.le_trans (Nat.pow_le_pow_right (by omega) (show m + wd≤64 by omega)) (by decide))
        have Bv:=Hd (fun W h=>da4 (Z + 1) 251 n2 m wd (.string (Tess.mk (T.drop j2))) W h A2 (by omega))
        obtain ⟨hr,hv⟩:=A0.out.take (show wd≤m + wd by omega)
        rw [Nat.add_sub_cancel] at hr hv
        rw [hv] at Bv
        have Bm:=Hd hr
        have Bq:=numK_lt wd T k Ac
        obtain ⟨y,hy⟩:∃ y,y=Tess.numK wd T k:=⟨_,rfl⟩
        rw [← hy] at Bv Bq
        have HY:=Hd hy
        have C2:wrap64 (y:Int)=(y:Int):=by unfold wrap64;omega
        have Ct:IntKind.i64.wrap (y:Int)=(y:Int):=by rw [wrap_i64];exact C2
        clear hr hv A2 hy
        refine FlowO.wp_regionIn [0] 8 rfl (by kernel_rfl) ?_
        iterate 1 (refine ⟨_,_,rfl,rfl,(fun w=>by go_simp;try rfl),?_⟩)
        intro w4 An _
        have Ao:=Hd (Av.out.later An)
        clear An p2 y2 p4 y4 A8 C1
        obtain ⟨p2,y2⟩:=Ao.out.at J2.out (by omega) (by omega) (by omega)
        obtain ⟨p4,y4⟩:=Ao.out.at J4.out (by omega) (by omega) (by omega)
        rcases Nat.lt_or_ge (k + 1) n with Bz | Bz
        all_goals
         have Az:=Hd Bz
         clear Bz
         refine FlowO.twoIn 1 4 (.pointer (some ⟨Z + 1,0,none⟩)) (.int .i64 wd) (by kernel_rfl) rfl rfl rfl rfl (by go_simp) (by go_simp) ?_ ?_
         refine FlowO.puresIn [2,3] 5 (by kernel_rfl) ?_
         iterate 2 (refine ⟨_,_,rfl,rfl,(fun w=>by go_simp;try rfl),?_⟩)
         refine FlowO.singleIn 4 (.int .i64 wd) (by kernel_rfl) rfl rfl (by go_simp) ?_
         refine FlowO.seqIn [5,6,7,8] (by kernel_rfl) (by kernel_rfl) ?_
         rotate_left
         refine FlowO.singleIn 1 (.pointer (some ⟨Z + 1,0,none⟩)) (by kernel_rfl) rfl rfl (by go_simp) ?_
         refine FlowO.puresIn [2,3] 4 (by kernel_rfl) ?_
         iterate 2 (refine ⟨_,_,rfl,rfl,(fun w=>by go_simp;try rfl),?_⟩)
         refine FlowO.seqIn [5,6,7,8] (by kernel_rfl) (by kernel_rfl) ?_
         rotate_left
         all_goals simp only [FlowP.pick,List.flatMap_cons,List.flatMap_nil,List.drop_succ_cons,List.drop_zero,List.take_succ_cons,List.take_zero,List.append_nil,List.cons_append,List.nil_append]
         all_goals go_simp
         all_goals
          gi_wp2_with (fail)
          refine ⟨trivial,?_⟩
          refine (callsIn_wide.2 (Bv.out w4 Ao.out.kR)).mono ?_
          rintro e w5 ⟨rfl,A1,Bc⟩
          have At:=Hd (Ao.out.one Bc A1)
          have Cy:=run_yield (P:=Tryz.prog) (w:=w5) (l:=Z + 5 + 1) (r:=Ae) (args:=#[.int .i64 y]) At.out.kL (by rw [C6];rfl)
          clear A1 Bc p2 y2 p4 y4
          gi_wp2
          refine Rf.rw2 (r:=Ae) ?_
          have Cw:=Br.out
          subst Cw
          dsimp only
          gi_wp2_with (rw [Oper.semAt_eq _ _ _ (fun c h=>by cases h)];go_simp;try go_bits)
          refine ⟨At.out.kL,fun W6 hs6 hl6 => ?_⟩
          have Ah:=Hd (At.out.but hs6 hl6)
          clear hs6 hl6 Cy
         all_goals
          obtain ⟨O,hO⟩:∃ O,O=(List.range k).map (Tess.numK wd T):=⟨_,rfl⟩
          rw [← hO] at Ah
          have Bk:O.length=k:=by rw [hO];simp
          have B5:=Hd (show O ++ [y]=(List.range (k + 1)).map (Tess.numK wd T) by rw [List.range_succ,List.map_append,← hO,HY.out];rfl)
          have Am:W6.ownsRow W2.heap.size 3 1 vo k (O.map fun m => .int .i64 (m:Nat)):=by have h:=Ah.out.own;rw [Bk] at h;exact h
          have Cu:=Hd Bk
          clear hO Bk
          obtain ⟨q0,y0⟩:=fco Ah.out.kO
          first
           | (have Cq:¬ (k:Int) + 1=(n:Int):=by have:=Az.out;omega)
           | (have Cq:(k:Int) + 1=(n:Int):=by have:=Az.out;omega)
          gi_wp2_with (gi_at_builtin;refine wpListIn_append_own _ rfl _ _ 96 rfl W2.heap.size 3 i0 (.int .i64 0) 1 8 Tryz.underlying96 hi Cs Cv Cz rfl (by decide) _ _ _ rfl (Am.alloc _) ⟨W6.heap.size,0,none⟩ 1 1 [.int .i64 y] rfl rfl (cell_one_new _ _ _) (by simp [Value.oneCell']) (by unfold maxLen;omega) (by omega) (by have:=Ah.out.size;simp;omega) ?_;intro v' w7 Ai Bj _;have Au:=Ah.out.old Bj;obtain ⟨q7,y7⟩:=fco ((Au w.heap.size (by omega)).trans Ah.out.kO);obtain ⟨n7,_⟩:=fco ((Au Z (by omega)).trans ((Ah.out.rest Z (by omega) (by omega) (by omega) (by omega)).trans J0.out));have Bb:=Hd (Ah.out.app Bj (v':=v') (x:=y) (by rw [Cu.out];exact Ai));obtain ⟨gg,cp,rfl,_⟩:=oc2 Ai (by omega);clear Au Bj Ai;go_frame)
          refine ⟨Bb.out.kL,fun W8 hs8 hl8 => ?_⟩
          have Bw:=Hd (Bb.out.but hs8 hl8)
          clear hs8 hl8 q7 y7 n7 q0 y0 Am
          dsimp only
          gi_wp2
         all_goals
          refine ⟨rfl,?_⟩
          gi_wp2
          first
           | (refine bodyPost_ret (results_none (by rfl) _ _ _) rfl ?_
              refine ⟨⟨_,rfl⟩,_,Bw.out.kL,by simp,.inr rfl,fun W9 hs9 => ?_⟩
              have Bl:k + 1=n:=by have:=Az.out;omega
              have Dn:=Bm.out.len
              have hj:j2=T.length:=by rw [As.out];unfold Tess.sP;rw [← Bl];omega
              have h8:=Bw.out
              have hr:=Bm.out
              rw [B5.out,Bl] at h8
              rw [Bl,hj] at hr
              exact h8.fin hs9 Cj.out Ck Bp JD.out hr.rest)
           | (refine ⟨⟨k + 1,_,_,m,j2,Nat.le_of_lt Az.out,.inr Az.out,by go_num,by rw [← B5.out];exact Bw.out,Bm.out,by omega⟩,?_⟩
              have:=Az.out
              simp [intOf]
              omega)
     ·have Cp:¬ (k:Int) < (n:Int):=by omega
      have Bn:n=0:=by omega
      have By:k=0:=by omega
      subst Bn By
      gi_wp2
      go_end0
      refine ⟨⟨_,rfl⟩,Ae,HN.out.kL,by rw [Bf];decide,.inl Cm,fun W4 hs4 => ?_⟩
      have Di:T.length=0:=by rw [As.out];unfold Tess.sP;omega
      have hj:=B0.out.le
      have C8:j=T.length:=by omega
      subst C8
      exact HN.out.fin hs4 Cj.out Ck Bp JD.out B0.out.rest
   all_goals
    intro W4 B1
    obtain ⟨vo,nn,c4,st,g0,Ak,gR,gn,gD,gB⟩:=B1
    obtain ⟨av,cv,rfl,Dj,Bo⟩:=os4 Ak
    obtain ⟨ls,Ay⟩:∃ ls,ls=(List.range n).map (Tess.numK b.toNat T):=⟨_,rfl⟩
    rw [← Ay] at Bo
    have Aj:ls.length=n:=by rw [Ay];simp
    have Aq:=fun W (hB:Below W4.heap.size W4 W)=>wa2 av cv ls W (by rw [Aj];exact Bo.below hB) (by omega) (fun x hx=>by
     rw [Ay] at hx
     obtain ⟨k,_,rfl⟩:=List.mem_map.1 hx
     exact numK_lt _ _ _ Ac) (by omega)
    simp only [Aj] at Aq
    have HW:=Hd Aq
    have hU:U=if nn≠0∨Tess.widN ls≠b.toNat then ([],s,40) else (ls,Tess.mk (t.drop S),0):=by
     rw [HU.out]
     unfold Tess.uP
     rw [← Ar.out,if_neg (by simp),if_neg (by omega)]
     simp only [A5.out]
     rw [if_neg (by omega),if_neg (by rw [← Ba.out];omega),← Ba.out,← HT.out,← Ay,gn]
    rw [← Ay] at Ak
    have C3:=Hd Ak
    have Ca:=Hd Aj
    obtain ⟨wd,A7⟩:∃ wd,wd=Tess.widN ls:=⟨_,rfl⟩
    rw [← A7] at hU HW
    have B6:=Hd hU
    obtain ⟨q0,y0⟩:=fco g0
    obtain ⟨⟨x0,x1,x2⟩,_,_⟩:=Dg.cells gR
    have GD:=Hd gD
    have GB:=Hd gB
    have GR:=Hd gR
    have G0:=Hd g0
    clear Ay Aj Aq hU A7 gn Ak Bo gD gB gR g0
    by_cases hgood:nn=0∧wd=b.toNat
    ·obtain ⟨rfl,rfl⟩:=hgood
     gi_wp2_with (refine ⟨trivial,?_⟩;gi_at_call 122;refine (callsIn_wide.2 (HW.out _ (Below.refl _ _))).mono ?_;rintro e W5 ⟨rfl,Af⟩;have Ag:=Hd Af;have hx:=(Af.cell (p:=⟨Z + 1,0,none⟩) (Dg.cells GR.out).2.2).trans x0;have hy:=(Af.cell (p:=⟨w.heap.size,0,none⟩) (Array.getElem?_eq_some_iff.1 G0.out).1).trans q0;clear Af)
     refine wpIn_wide.2 ?_
     go_quiet (fail)
     gi_wp2
     rw [Exit.fr2]
     have Aa:=(Array.getElem?_eq_some_iff.1 GD.out).1
     refine ⟨by simp,.inl ⟨_,_,rfl,run_takeDeferred ((Ag.out.block _ Aa).trans GD.out),?_⟩⟩
     have HR:=Hd (show U=(ls,Tess.mk (t.drop S),0) by rw [B6.out,if_neg (by simp)])
     have Cf:Z + 5 < W5.heap.size:=Nat.lt_of_lt_of_le Aa Ag.out.size
     have C0:Below w.heap.size w (W5.drewN nq):=(GB.out.trans (Ag.out.mono GB.out.size)).trans ⟨rfl,rfl,rfl,Nat.le_refl _,fun _ _=>rfl⟩
     refine ⟨.tuple #[.slice av n cv,.string (R.extract (1 + S) (t.length + 1)),.int .i64 0],by simp [results,Tryz.results134,go_sem],av,cv,?_,?_,C0.grown (fgB _ (Z + 5) (.deferred none)) (by have:=HZ.out;show w.heap.size≤W5.heap.size;omega) (fun k e=>by cases e;have:=HZ.out;omega)⟩
     ·rw [HR.out,Ca.out,show R.extract (1 + S) (t.length + 1)=Tess.mk (t.drop S) from Tess.me2 (by rw [Tess.ext_list,A5.out,show 1 + S=S + 1 by omega,List.drop_succ_cons,List.take_of_length_le (by rw [List.length_drop];omega)])]
      rfl
     ·have ho:(W5.drewN nq).ownsRow w.heap.size 3 1 (.slice av n cv) n (ls.map fun m => .int .i64 (m:Nat)):=ob2 C3.out (below_drewN Ag.out _)
      rw [HR.out,Ca.out]
      exact ho.kept (fgB _ (Z + 5) _) (oRn ho (show (W5.drewN nq).heap[Z + 5]? = some (.deferred (some [])) from (Ag.out.block _ Aa).trans GD.out) (fun cur e=>by cases e))
    ·have HR:=Hd (show U=([],s,40) by rw [B6.out,if_pos (by by_cases h:nn=0 <;> simp_all)])
     by_cases Bn:nn=0
     ·subst Bn
      have Dk:((wd:Int) != (b.toNat:Int))=true:=by rw [bne_iff_ne];intro e;exact hgood ⟨rfl,by omega⟩
      gi_wp2_with (refine ⟨trivial,?_⟩;gi_at_call 122;refine (callsIn_wide.2 (HW.out _ (Below.refl _ _))).mono ?_;rintro e W5 ⟨rfl,Af⟩;have Ag:=Hd Af;have hx:=(Af.cell (p:=⟨Z + 1,0,none⟩) (Dg.cells GR.out).2.2).trans x0;have hy:=(Af.cell (p:=⟨w.heap.size,0,none⟩) (Array.getElem?_eq_some_iff.1 G0.out).1).trans q0;clear Af)
      refine wpIn_goto (Exit.tg2 (Exit.fg2 ?_))
      gi_wp2
      rw [Exit.noGoto_ret]
      have Aa:=(Array.getElem?_eq_some_iff.1 GD.out).1
      refine ⟨by simp,.inl ⟨_,_,rfl,run_takeDeferred ((Ag.out.block _ Aa).trans GD.out),?_⟩⟩
      have Cf:Z + 5 < W5.heap.size:=Nat.lt_of_lt_of_le Aa Ag.out.size
      refine ⟨.tuple #[.slice none 0 0,.string s,.int .i64 40],by simp [results,Tryz.results134,go_sem],none,0,by rw [HR.out];rfl,by rw [HR.out];exact World.ownsRow_nil _ _ _ _,(GB.out.trans (Ag.out.mono GB.out.size)).grown (fgB _ (Z + 5) (.deferred none)) (by have:=HZ.out;omega) (fun k e=>by cases e;have:=HZ.out;omega)⟩
     ·have Dp:((nn:Int) != 0)=true:=by rw [bne_iff_ne];omega
      gi_wp2_with (refine ⟨trivial,?_⟩;gi_at_call 122;refine (callsIn_wide.2 (HW.out _ (Below.refl _ _))).mono ?_;rintro e W5 ⟨rfl,Af⟩;have Ag:=Hd Af;have hx:=(Af.cell (p:=⟨Z + 1,0,none⟩) (Dg.cells GR.out).2.2).trans x0;have hy:=(Af.cell (p:=⟨w.heap.size,0,none⟩) (Array.getElem?_eq_some_iff.1 G0.out).1).trans q0;clear Af)
      refine wpIn_goto (Exit.tg2 (Exit.fg2 ?_))
      gi_wp2
      rw [Exit.noGoto_ret]
      have Aa:=(Array.getElem?_eq_some_iff.1 GD.out).1
      refine ⟨by simp,.inl ⟨_,_,rfl,run_takeDeferred ((Ag.out.block _ Aa).trans GD.out),?_⟩⟩
      have Cf:Z + 5 < W5.heap.size:=Nat.lt_of_lt_of_le Aa Ag.out.size
      refine ⟨.tuple #[.slice none 0 0,.string s,.int .i64 40],by simp [results,Tryz.results134,go_sem],none,0,by rw [HR.out];rfl,by rw [HR.out];exact World.ownsRow_nil _ _ _ _,(GB.out.trans (Ag.out.mono GB.out.size)).grown (fgB _ (Z + 5) (.deferred none)) (by have:=HZ.out;omega) (fun k e=>by cases e;have:=HZ.out;omega)⟩
end Go.Proofs.YtjdccifdkjnknaaGreatDoor
namespace Tess
def iO (C:List (CK×Pay)) (i:Nat) (d:List ByteArray):List Nat:=C.map fun x=>idOf d (x.1.2.getD i none)
theorem idsOf_take (C:List (CK×Pay)) (i:Nat) (d:List ByteArray) (k:Nat) (hk:k < C.length):iO (C.take (k + 1)) i d=iO (C.take k) i d ++ [idOf d (C[k].1.2.getD i none)]:=by
 unfold iO
 rw [List.take_succ_eq_append_getElem hk,List.map_append]
 rfl
theorem iOl (C:List (CK×Pay)) (i:Nat) (d:List ByteArray):(iO C i d).length=C.length:=by unfold iO;simp
end Tess
namespace Go.Proofs.YtjdccifdkjnknaaGreatDoor
open Go.RowKit Go.Sort
open Tess (CK Pay)
theorem infoInt:(Tryz.prog.info? 3).map (fun i=>(i.zero,i.size,i.bytes))=some (some (.int .i64 0),1,8):=by kernel_rfl
theorem find_id {d:List ByteArray} (h:Tess.right d=true) (x:ByteArray):(Tess.findW d x).1=Tess.place d x:=by unfold Tess.findW;rw [if_pos h]
set_option maxRecDepth 100000 in
set_option maxHeartbeats 4000000 in
theorem ids_any (p:Nat→Prop) (vl vd:Value) (C:List (CK×Pay)) (d:List ByteArray) (i:Nat) (w:World) (hv:CA2 p w vl C) (hd:SlOf w vd (d.map .string)) (hr:Tess.right d=true) (hi:∀ x ∈ C,i < x.1.2.length) (hC:C.length≤1000) :
  Calls Tryz.prog 72 #[vl,.int .i64 i,vd] w fun e w' => ∃ a c,e = .returned (.slice a C.length c)∧C.length≤c∧SlOf w' (.slice a C.length c) ((Tess.iO C i d).map fun n => .int .i64 (n:Nat))∧Below w.heap.size w w':=by
 have HF:=Hd (fun W (hB:Below w.heap.size w W) x=>find_any vd d x W (hd.below hB))
 have Az:=Hd (fun x=>find_id hr x)
 obtain ⟨ad,cd,rfl,A7,_⟩:=so2 hd
 clear hd
 obtain ⟨a,A8,rfl,hl,hc⟩:=hv.opened
 have HC:=Hd hc
 have HI:=Hd hi
 obtain ⟨i0,Ay,Au,Av,Ax⟩:=info_parts infoInt
 clear hc hv hi hr
 go_enter Tryz.func72,Tryz.ntmps72
 go_wp2
 go_loopw [7,14] (fun v j wr => ∃ k:Nat,k≤C.length∧j = .int .i64 k∧wr.ownsRow w.heap.size 3 1 v k ((Tess.iO (C.take k) i d).map fun n => .int .i64 (n:Nat))∧Below w.heap.size w wr) (fun _ j _=>C.length - (intOf j).toNat)
 case atStart=>exact ⟨0,Nat.zero_le _,rfl,World.ownsRow_nil _ _ _ _,Below.refl _ _⟩
 case round=>
  obtain ⟨k,hk,rfl,Af,hB⟩:=hrel
  have HO:=Hd Af
  have HB:=Hd hB
  clear Af
  by_cases hlt:k < C.length
  ·obtain ⟨b,Ba,ad,cd,a3,c3,a4,c4,a5,c5,rfl,hb,⟨q0,q1,q2,q3,q4,q5⟩,Ao,_⟩:=HC.out wr hB k hlt
   have A0:(k:Int) < (C.length:Int):=by omega
   have HM:=Hd (show C[k] ∈ C from List.getElem_mem hlt)
   have Ah:=HI.out _ HM.out
   have HW:=Hd (Tess.idsOf_take C i d k hlt)
   generalize C[k]=x at *
   obtain ⟨⟨t,l⟩,P⟩:=x
   dsimp only at q0 q1 q2 q3 q4 q5 Ao Ah HW
   obtain ⟨b2,Ac,rfl,Ap,e0,e1⟩:=Ao i (by simpa using Ah)
   rw [List.getElem_map] at e0 e1
   have Ar:l.getD i none=l[i]:=by rw [List.getD_eq_getElem?_getD,List.getElem?_eq_getElem Ah];rfl
   rw [Ar] at HW
   have A4:(i:Int) < (l.length:Int):=by omega
   generalize l[i]=dv at *
   obtain ⟨W3,A2⟩:∃ W3,wr.alloc (.cells #[.int .i64 t,.slice (some ⟨b2,Ac,none⟩) l.length cd,.int .i64 P.n,.slice a3 P.sums.length c3,.slice a4 P.mins.length c4,.slice a5 P.maxs.length c5] 56)=W3:=⟨_,rfl⟩
   obtain ⟨k1,kS,kB⟩:=la2 wr (.cells #[.int .i64 t,.slice (some ⟨b2,Ac,none⟩) l.length cd,.int .i64 P.n,.slice a3 P.sums.length c3,.slice a4 P.mins.length c4,.slice a5 P.maxs.length c5] 56)
   rw [A2] at k1 kS kB
   obtain ⟨⟨r0,r1,r2,r3,r4,r5⟩,_⟩:=can6 k1
   have f0:=(kB.cell (p:=⟨b2,Ac + i * 2,none⟩) Ap).trans e0
   have f1:=(kB.cell (p:=⟨b2,Ac + i * 2 + 1,none⟩) Ap).trans e1
   have Ak:=Hd kB
   have A9:=Hd kS
   clear Ao Ah Ar e0 e1 kS k1 kB hb hB Ap
   cases dv with
   | none=>
     obtain ⟨W4,An⟩:∃ W4,W3.alloc (.cells #[.string ByteArray.empty,.bool true] 47)=W4:=⟨_,rfl⟩
     obtain ⟨k4,Ag,Ad⟩:=la2 W3 (.cells #[.string ByteArray.empty,.bool true] 47)
     rw [An] at k4 Ag Ad
     obtain ⟨⟨y0,y1⟩,_⟩:=can2 k4
     have Ae:=Hd (Bt HB.out (Bt Ak.out Ad))
     have Ai:=Hd (ob2 HO.out (Bt Ak.out Ad))
     change W3.cell? _=some (.string ByteArray.empty) at f0
     change W3.cell? _=some (.bool true) at f1
     rw [show Tess.idOf d none=d.length from rfl] at HW
     clear k4 Ag Ad
     go_wp2_with (at_builtin;refine wpList_append_own _ rfl _ _ 96 rfl w.heap.size 3 i0 (.int .i64 0) 1 8 Tryz.underlying96 Ay Au Av Ax rfl (by decide) _ _ _ rfl (Ai.out.alloc _) ⟨W4.heap.size,0,none⟩ 1 1 [.int .i64 d.length] rfl rfl (cell_one_new _ _ _) (by simp [Value.oneCell']) (by unfold maxLen;omega) (by omega) (by have:=Ae.out.size;simp;omega) ?_)
     intro v' w5 Ab Aa _
     have Aq:=Hd ((Ae.out.alloc Ae.out.size (.cells #[.int .i64 d.length] 3)).grown Aa (by have:=Ae.out.size;simp;omega) (fun m e=>(Ai.out.lt m e).1))
     have Al:=Hd Ab
     clear Ab Aa
     go_wp2_with (fail)
     go_roundw
     case rel=>exact ⟨k + 1,by omega,by go_num,by rw [HW.out,List.map_append];exact Al.out,Aq.out⟩
     case measure=>simp [intOf];omega
   | some y=>
     obtain ⟨W4,An⟩:∃ W4,W3.alloc (.cells #[.string y,.bool false] 47)=W4:=⟨_,rfl⟩
     obtain ⟨k4,Ag,Ad⟩:=la2 W3 (.cells #[.string y,.bool false] 47)
     rw [An] at k4 Ag Ad
     obtain ⟨⟨y0,y1⟩,_⟩:=can2 k4
     have Ae:=Hd (Bt HB.out (Bt Ak.out Ad))
     have Ai:=Hd (ob2 HO.out (Bt Ak.out Ad))
     have A3:=ss5 (o:=1) (v:=.bool false) k4 rfl
     change W3.cell? _=some (.string y) at f0
     change W3.cell? _=some (.bool false) at f1
     have hf:=HF.out W4 Ae.out y
     unfold FP at hf
     rw [Az.out y] at hf
     rw [show Tess.idOf d (some y)=Tess.place d y from rfl] at HW
     obtain ⟨pl,As⟩:∃ pl,pl=Tess.place d y:=⟨_,rfl⟩
     rw [← As] at hf HW
     have A6:=Hd hf
     clear k4 Ag Ad hf As
     go_wp2_with (fail)
     go_at_call 124
     refine A6.out.mono ?_
     rintro e w6 ⟨rfl,Am⟩
     have Aj:=Hd (Bt Ae.out Am)
     have At:=Hd (ob2 Ai.out Am)
     clear Am A3
     go_wp2_with (at_builtin;refine wpList_append_own _ rfl _ _ 96 rfl w.heap.size 3 i0 (.int .i64 0) 1 8 Tryz.underlying96 Ay Au Av Ax rfl (by decide) _ _ _ rfl (At.out.alloc _) ⟨w6.heap.size,0,none⟩ 1 1 [.int .i64 pl] rfl rfl (cell_one_new _ _ _) (by simp [Value.oneCell']) (by unfold maxLen;omega) (by omega) (by have:=Aj.out.size;simp;omega) ?_)
     intro v' w5 Ab Aa _
     have Aq:=Hd ((Aj.out.alloc Aj.out.size (.cells #[.int .i64 pl] 3)).grown Aa (by have:=Aj.out.size;simp;omega) (fun m e=>(At.out.lt m e).1))
     have Al:=Hd Ab
     clear Ab Aa
     go_wp2_with (fail)
     go_roundw
     case rel=>exact ⟨k + 1,by omega,by go_num,by rw [HW.out,List.map_append];exact Al.out,Aq.out⟩
     case measure=>simp [intOf];omega
  ·have A0:¬ (k:Int) < (C.length:Int):=by omega
   obtain rfl:k=C.length:=by omega
   rw [List.take_length] at HO
   obtain ⟨av,cv,rfl,A1,Aw⟩:=os4 HO.out
   have A5:=Hd Aw
   clear Aw hB
   go_wp2_with (fail)
   go_ret
   exact ⟨av,cv,rfl,A1,A5.out,HB.out⟩
end Go.Proofs.YtjdccifdkjnknaaGreatDoor
namespace Go.Proofs.YtjdccifdkjnknaaGreatDoor
open Go.RowKit Go.Sort
theorem Wtr.fin {N b V B n c:Nat} {h0:UInt8} {o:List UInt8} {vo:Value} {w:World} (h:Wtr N b h0 V B o n c vo w) (hc:c < 8) (hB:B % 8=0):o=Tess.bytesBE (B / 8) V:=by
 have h1:=h.st
 have h2:=h1.len
 have h0:c=0:=by omega
 subst h0
 have h3:=h1.zero
 subst h3
 exact h1.done
theorem Wtr.alloc {N b V B n c:Nat} {h0:UInt8} {o:List UInt8} {vo:Value} {w:World} (h:Wtr N b h0 V B o n c vo w) (ob:Obj):Wtr N b h0 V B o n c vo (w.alloc ob):=
 ⟨(Below.heap_alloc w ob b (Dg.cells h.box).2.2).trans h.box,h.own.alloc _,h.ne,h.st⟩
theorem pp2 (l:List Nat) (wd d:Nat) (hd:d < 8) (h8:(l.length * wd + d) % 8=0):Tess.bytesBE ((l.length * wd + d) / 8) (Tess.fV wd l * 2 ^ d)=Tess.bytesBE (Tess.sP l.length wd) (Tess.fV wd l * 2 ^ (8 * Tess.sP l.length wd - l.length * wd)):=by
 have e:8 * Tess.sP l.length wd=l.length * wd + d:=by unfold Tess.sP;omega
 rw [show (l.length * wd + d) / 8=Tess.sP l.length wd by omega,show 8 * Tess.sP l.length wd - l.length * wd=d by omega]
set_option maxRecDepth 100000 in
set_option maxHeartbeats 4000000 in
theorem ppack_any (a:Option Addr) (cap:Nat) (l:List Nat) (w:World) (hv:SlOf w (.slice a l.length cap) (l.map fun n => .int .i64 (n:Nat))) (hcap:l.length≤cap) (hl:∀ x ∈ l,x≤65535) (hll:l.length≤1000) :
  Calls Tryz.prog 71 #[.slice a l.length cap] w fun e w'=>e = .returned (.tuple #[.string (Tess.mk (Tess.pN2 l)),.int .i64 0])∧Below w.heap.size w w':=by
 have A6:=Hd (wa2 a cap l w hv hcap hl hll)
 obtain ⟨a',Bp,e,Bn,hc⟩:=so3 _ hv
 cases e
 have HC:=Hd hc
 have Ah:=Tess.wNl l hl
 have Bd:=Hd (Tess.widN_lt l)
 obtain ⟨wd,Az⟩:∃ wd,wd=Tess.widN l:=⟨_,rfl⟩
 rw [← Az] at Ah A6 Bd
 have Bj:=Hd Az
 have h8:IntKind.u8.wrap (wd:Int)=(wd:Int):=by unfold IntKind.wrap;simp [IntKind.bits,IntKind.signed];omega
 clear hc hv Az
 go_enter Tryz.func71,Tryz.ntmps71
 go_wp2_with (fail)
 go_at_call 122
 refine A6.out.mono ?_
 rintro e w1 ⟨rfl,Ae⟩
 obtain ⟨w2,Ar⟩:∃ w2,w1.alloc (.cells #[.int .u8 wd] 5)=w2:=⟨_,rfl⟩
 obtain ⟨w3,As⟩:∃ w3,w2.alloc (.cells #[.int .u64 0,.int .i64 0,.slice (some ⟨w1.heap.size,0,none⟩) 1 1] 171)=w3:=⟨_,rfl⟩
 have Bm:w2.heap.size=w1.heap.size + 1:=by rw [← Ar];simp
 have Ak:w3.ownsRow w.heap.size 5 1 (.slice (some ⟨w1.heap.size,0,none⟩) 1 1) (0 + 1) (Lib.byteCells [UInt8.ofNat wd]):=by
  have h:=(World.ownsRow_lit (base:=w.heap.size) (e:=5) (size:=1) w1 #[.int .u8 wd] 1 Ae.size (by unfold maxLen;omega) rfl).alloc (.cells #[.int .u64 0,.int .i64 0,.slice (some ⟨w1.heap.size,0,none⟩) 1 1] 171)
  rw [Ar,As] at h
  rw [show Lib.byteCells [UInt8.ofNat wd]=[.int .u8 wd] by simp [Lib.byteCells];omega]
  exact h
 have A7:Wtr w.heap.size w2.heap.size (UInt8.ofNat wd) 0 0 [] 0 0 (.slice (some ⟨w1.heap.size,0,none⟩) 1 1) w3:=
  ⟨by rw [← As];exact World.alloc_heap_new w2 _,Ak,by simp [Value.ownBlock];omega,Tess.WSt.none⟩
 have Ao:Below w.heap.size w w3:=by rw [← As,← Ar];exact (Ae.alloc Ae.size _).alloc (by have:=Ae.size;simp;omega) _
 have Bb:=Hd Ao
 have Ay:=Hd (show w.heap.size≤w2.heap.size by have:=Ae.size;omega)
 have A5:=Hd (show w.heap.size≤w1.heap.size from Ae.size)
 have Aa:=wput_any w.heap.size w2.heap.size wd 0 0 (UInt8.ofNat wd) [] 0 0 _ l a cap w3 A7 (by omega) Ah Bd.out hll (by omega) Ao.size (fun W hK k hk=>by
  obtain ⟨bb,Bc,h1,h2,h3⟩:=HC.out w (Below.refl _ _) k hk
  refine ⟨bb,Bc,h1,?_⟩
  have Bv:=Ao.size
  have Bs:=Ay.out
  have h4:=hK.block bb (by omega) (by omega) (by simp [Value.ownBlock];have:=A5.out;omega)
  rw [World.cell?_of_block h4]
  exact (Ao.cell (p:=⟨bb,Bc + k,none⟩) h2).trans h3)
 rw [Nat.zero_add] at Aa
 have Ax:=Hd Aa
 clear Aa A7 Ak Ao Ae Bm
 go_wp2_with (fail)
 go_at_call 123
 refine Ax.out.mono ?_
 rintro e w4 ⟨rfl,o4,n4,c4,Bu,Aq,A4,A1,Bt⟩
 have A9:=Bb.out.trans (A1.below Ay.out Bb.out.size (fun g e=>by cases e;exact A5.out))
 obtain ⟨a4,Bi,rfl⟩:=bs3 Aq.own
 obtain ⟨⟨x0,x1,x2⟩,⟨z0,z1,z2⟩,hb⟩:=Dg.cells Aq.box
 have Ac:=Hd Aq
 have Aj:=Hd A9
 clear Aq A1 A9 Ar As
 have A3:l.length * wd≤16000:=Nat.le_trans (Nat.mul_le_mul hll Ah) (by decide)
 have A2:=Hd A3
 clear A3
 rcases Nat.eq_zero_or_pos c4 with h0 | h0
 have Bg:¬ (0:Int) < (c4:Int):=by omega
 have Am:=Ac.out.st.len
 have hp:=pp2 l wd 0 (by omega) (by omega)
 rw [Nat.pow_zero,Nat.mul_one] at hp
 have HE:=Hd ((Ac.out.fin A4 (by omega)).trans hp)
 clear hp
 clear Am
 go_wp2_with (fail)
 obtain ⟨W,rfl⟩:∃ W,W=w4:=⟨_,rfl⟩
 obtain ⟨ol,rfl⟩:∃ ol,ol=o4:=⟨_,rfl⟩
 obtain ⟨aw,rfl⟩:∃ aw,aw=a4:=⟨_,rfl⟩
 obtain ⟨cw,rfl⟩:∃ cw,cw=Bi:=⟨_,rfl⟩
 have HO:=Hd Ac.out.own
 have Au:=Hd Ac.out.box
 have HB:=Hd Aj.out
 rotate_left
 obtain ⟨d,hd⟩:∃ d,c4 + d=8:=⟨8 - c4,by omega⟩
 have Bg:(0:Int) < (c4:Int):=by omega
 have Aw:(8:Int) - (c4:Int)=(d:Int):=by omega
 have A8:=Ac.out.alloc (.cells #[.int .i64 0] 3)
 have Aa:=wput_any w.heap.size w2.heap.size d _ _ _ _ _ _ _ [0] (some ⟨w4.heap.size,0,none⟩) 1 _ A8 A4 (by omega) (fun x hx=>by rw [List.mem_singleton.1 hx];exact Nat.two_pow_pos _) (by simp) (by have:=A2.out;omega) (by have:=Aj.out.size;simp;omega) (fun W hK k hk=>by
  have Be:k=0:=by simpa using hk
  subst Be
  refine ⟨_,_,rfl,?_⟩
  have h4:=hK.block w4.heap.size (by simp) (by omega) (fun e=>by
   have:=(Ac.out.own.lt _ e).2
   omega)
  rw [World.cell?_of_block h4,cell_of_row _ _ _ _ _ _ (World.alloc_heap_new w4 _)]
  rfl)
 simp only [List.length_cons,List.length_nil,Nat.zero_add,Nat.one_mul,List.foldl_cons,List.foldl_nil,Nat.add_zero] at Aa
 have An:=Hd Aa
 have Ad:=Hd Ac.out.st.len
 clear Aa A8
 go_wp2_with (fail)
 go_at_call 123
 rw [Aw]
 refine An.out.mono ?_
 rintro e W ⟨rfl,ol,n6,c6,Bq,Ap,Ba,A0,Bh⟩
 have hp:=pp2 l wd d (by omega) (by have:=Ad.out;omega)
 have hf:=Ap.fin Ba (by have:=Ad.out;omega)
 have HE:=Hd ((show ol=Tess.bytesBE ((l.length * wd + d) / 8) (Tess.fV wd l * 2 ^ d) by exact hf).trans hp)
 clear hp hf
 have HB:=Hd (Aj.out.trans ((Below.refl w4.heap.size w4).alloc (Nat.le_refl _) (.cells #[.int .i64 0] 3) |>.mono Aj.out.size) |>.trans (A0.below Ay.out (by have:=Aj.out.size;simp;omega) (fun g e=>(Ac.out.own.lt g e).1)))
 obtain ⟨aw,cw,rfl⟩:=bs3 Ap.own
 have HO:=Hd Ap.own
 have Au:=Hd Ap.box
 clear Ap Ba A0 Bh x0 x1 x2 z0 z1 z2 hb
 obtain ⟨⟨x0,x1,x2⟩,⟨z0,z1,z2⟩,hb⟩:=Dg.cells Au.out
 go_wp2_with (fail)
 rotate_left
 all_goals
  obtain ⟨X,hX⟩:∃ X,(⟨(UInt8.ofNat wd :: ol).toArray⟩:ByteArray)=X:=⟨_,rfl⟩
  have Bk:X.size≤5000:=by
   have h1:=HE.out
   have h2:=congrArg List.length h1
   rw [Tess.bBl] at h2
   have h3:Tess.sP l.length wd≤2001:=by unfold Tess.sP;have:=A2.out;omega
   rw [← hX]
   show (UInt8.ofNat wd :: ol).toArray.size≤5000
   simp
   omega
  have Bl:(Tess.putW l.length).size≤10:=by
   show (Tess.putL l.length).toArray.size≤10
   have:=Tess.pLt (n:=l.length) (by omega)
   simpa using this
  have Bo:(Tess.putW l.length).size + X.size≤9223372036854775807:=by omega
  have Af:=Hd (show Tess.mk (Tess.pN2 l)=Tess.putW l.length ++ X by
   unfold Tess.pN2
   rw [← Bj.out,← HE.out,← hX]
   exact (Tess.ma2 _ _).symm)
  have Br:IntKind.u64.wrap (l.length:Int)=(l.length:Int):=by rw [wrap_u64];omega
  clear Bk Bl
  refine FlowO.wp_region [0,1,2,4,5,6] 6 rfl (by kernel_rfl) ?_
  iterate 6 (refine ⟨_,_,rfl,rfl,(fun w=>by go_simp;try rfl),?_⟩)
  intro w7 At Bf
  have Al:Dg w2.heap.size 171 _ _ _ w7:=(At.block _ hb).trans Au.out
  have Av:=Hd (ob2 HO.out At)
  have Ai:=Hd (HB.out.trans (At.mono HB.out.size))
  clear x0 x1 x2 z0 z1 z2 hb At Bf
  obtain ⟨⟨x0,x1,x2⟩,⟨z0,z1,z2⟩,hb⟩:=Dg.cells Al
  clear Al
  refine FlowO.two 3 7 (by kernel_rfl) rfl rfl ?_ ?_
  ·go_wp2_with (go_at_call 42;refine (dpa l.length _ (by omega)).mono ?_;rintro e w9 ⟨rfl,Ab⟩;have Ag:=Hd Ab;have q2:=(Ab.cell (p:=⟨w2.heap.size,2,none⟩) hb).trans x2;clear Ab)
   refine ⟨rfl,FlowO.seq [7,8,9,10,11] (by kernel_rfl) (by kernel_rfl) ?_⟩
   simp only [FlowP.pick,List.flatMap_cons,List.flatMap_nil,List.drop_succ_cons,List.drop_zero,List.take_succ_cons,List.take_zero,List.append_nil,List.cons_append,List.nil_append]
   go_wp2_with (with_reducible refine ac2 86 9 ?_;refine wLb _ _ 5 _ rfl Tryz.underlying86 Tryz.underlying5 Tryz.underlying9 (.slice aw (ol.length + 1) cw) (ol.length + 1) w.heap.size rfl (UInt8.ofNat wd :: ol) (ob2 Av.out Ag.out) ?_;rw [hX])
   refine ⟨rfl,?_⟩
   go_wp2_with (fail)
   go_ret2
   exact ⟨by rw [Af.out];rfl,Ai.out.trans (Ag.out.mono Ai.out.size)⟩
  ·go_wp2_with (fail)
   refine ⟨rfl,FlowO.two 3 8 (by kernel_rfl) rfl rfl ?_ ?_⟩
   ·go_wp2_with (go_at_call 42;refine (dpa l.length _ (by omega)).mono ?_;rintro e w9 ⟨rfl,Ab⟩;have Ag:=Hd Ab;have q2:=(Ab.cell (p:=⟨w2.heap.size,2,none⟩) hb).trans x2;clear Ab)
    refine ⟨rfl,FlowO.seq [8,9,10,11] (by kernel_rfl) (by kernel_rfl) ?_⟩
    simp only [FlowP.pick,List.flatMap_cons,List.flatMap_nil,List.drop_succ_cons,List.drop_zero,List.take_succ_cons,List.take_zero,List.append_nil,List.cons_append,List.nil_append]
    go_wp2_with (with_reducible refine ac2 86 9 ?_;refine wLb _ _ 5 _ rfl Tryz.underlying86 Tryz.underlying5 Tryz.underlying9 (.slice aw (ol.length + 1) cw) (ol.length + 1) w.heap.size rfl (UInt8.ofNat wd :: ol) (ob2 Av.out Ag.out) ?_;rw [hX])
    refine ⟨rfl,?_⟩
    go_wp2_with (fail)
    go_ret2
    exact ⟨by rw [Af.out];rfl,Ai.out.trans (Ag.out.mono Ai.out.size)⟩
   ·refine wLb _ _ 5 _ rfl Tryz.underlying86 Tryz.underlying5 Tryz.underlying9 (.slice aw (ol.length + 1) cw) (ol.length + 1) w.heap.size rfl (UInt8.ofNat wd :: ol) Av.out ?_
    rw [hX]
    go_wp2_with (fail)
    refine ⟨rfl,FlowO.seq [3,9,10,11] (by kernel_rfl) (by kernel_rfl) ?_⟩
    simp only [FlowP.pick,List.flatMap_cons,List.flatMap_nil,List.drop_succ_cons,List.drop_zero,List.take_succ_cons,List.take_zero,List.append_nil,List.cons_append,List.nil_append]
    go_wp2_with (go_at_call 42;refine (dpa l.length _ (by omega)).mono ?_;rintro e w9 ⟨rfl,Ab⟩;have Ag:=Hd Ab;have q2:=(Ab.cell (p:=⟨w2.heap.size,2,none⟩) hb).trans x2;clear Ab)
    refine ⟨rfl,?_⟩
    go_wp2_with (fail)
    go_ret2
    exact ⟨by rw [Af.out];rfl,Ai.out.trans (Ag.out.mono Ai.out.size)⟩
end Go.Proofs.YtjdccifdkjnknaaGreatDoor
