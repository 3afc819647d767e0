/- A text's tokens, one behind the other: walked, whatever is done with each. -/
import Derived.Test.YtbbgjjjeecfnoaaGreatDoorXQF
import Derived.Test.YtbbgjjjeecfnoaaGreatDoorXPD
import Derived.Test.YtbbgjjjeecfnoaaGreatDoorXFF
import Derived.LoopIn
namespace Go.Proofs.YtbbgjjjeecfnoaaGreatDoor
open Go.RowKit Go.Sort
open Tess (Tok)
attribute [local go_sem] Oper.semAt_some
def Feeds (gf:FuncId) (lb:Array Value) (ts:List Tok) (q:Nat→Prop) (W0:World):Prop:=
 ∀ (l:Nat) (fn0:FuncId) (T:Value→Array Value) (A B:Code) (Inv:Nat→World→Prop),
   (∀ k W W',Inv k W→Below W.heap.size W W'→Inv k W')→(∀ k W,Inv k W→Ag q W0 W∧Vz W) →
   (∀ k W,Inv k W→∀ z:Value,(Instr.yield l #[z]).run Tryz.prog W = .ok (.round l fn0 (T z) A B) W) →
   (∀ k W1 W (hk:k < ts.length),Inv k W1→Below W1.heap.size W1 W→RoundIn Fence.wide 5 Tryz.prog l fn0 (T (tkV ts[k])) A B W (fun e W'=>e = .returned (.bool true)∧Inv (k + 1) W'∧∀ b,W1.heap.size≤b→b < W.heap.size→W'.heap[b]? = W.heap[b]?)) →
   ∀ W,Inv 0 W→Calls Tryz.prog gf (#[.func (.yield l) #[] #[]] ++ lb) W fun e W'=>(∃ v,e = .returned v)∧Inv ts.length W'
theorem roundIn_wide {n m:Nat} {P:Program} {l:Nat} {f:FuncId} {tmps:Array Value} {assign body:Code} {w:World} {R:Ending→World→Prop} (h:RoundIn Fence.wide n P l f tmps assign body w R):RoundIn Fence.wide m P l f tmps assign body w R:=
 ⟨h.1,fun c cs _=>h.2 c cs (room_wide _)⟩
theorem tkV_mk (k p z:Nat) (t:ByteArray) (n:Int):tkV ⟨k,p,z,t,n⟩ = .agg #[.int .i64 k,.int .i64 p,.int .i64 z,.string t,.int .i64 n]:=rfl
set_option maxRecDepth 100000 in
set_option maxHeartbeats 4000000 in
theorem tokens_iter (s:ByteArray) (hs:s.size≤1000000) (sb:Nat) (q:Nat→Prop) (W0:World) (h1:W0.cell? ⟨sb,0,none⟩=some (.string s)) (q1:q sb) :
  Feeds 132 #[.pointer (some ⟨sb,0,none⟩)] (Tok.toks s) q W0:=by
 intro l fn0 T A B Inv hIB hIA hy hr W hI
 have HI:=Lib.hid hI
 have HIB:=Lib.hid hIB
 have HIA:=Lib.hid hIA
 have HY:=Lib.hid hy
 have HR:=Lib.hid hr
 have hlt:=World.block_lt_of_cell? W0 _ h1
 have HCELL:=Lib.hid (fun k X (h:Inv k X)=>((HIA.out k X h).1.cell hlt q1).trans h1)
 have HWH:=Lib.hid (fun (b:ByteArray) X=>while_blank b X)
 clear hI hIB hIA hy hr h1
 refine (callsIn_wide (n:=5)).1 ?_
 refine callsIn_of_wp Tryz.func132 rfl trivial ?_ rfl
 simp only [Tryz.ntmps132,List.size_toArray,List.length_cons,List.length_nil,Nat.reduceAdd,Nat.reduceSub,Array.replicate_succ,Array.replicate_zero,List.push_toArray,List.append_toArray,List.nil_append,List.cons_append]
 gi_wp2
 gi_loopw [3] (fun x wr => ∃ (k a f:Nat),x = .int .i64 a∧a≤s.size∧k≤(Tok.toks s).length∧s.size - a < f∧(Tok.toks s).drop k=Tok.tokF f a (s.data.toList.drop a)∧Inv k wr) (fun x _=>s.size - (intOf x).toNat)
 case atStart=>exact ⟨0,0,s.size + 1,rfl,Nat.zero_le _,Nat.zero_le _,by omega,rfl,HI.out⟩
 case round=>
  obtain ⟨k,a,f,rfl,ha,hk,hf,hd,hI⟩:=hrel
  have HJ:=Lib.hid hI
  clear hI
  have c1:=HCELL.out k wr HJ.out
  have hle:=Tok.whileL_le Tok.pBlank (s.data.toList.drop a) 0
  have hsz:s.data.toList.length=s.size:=Array.length_toList
  rw [List.length_drop,hsz] at hle
  obtain ⟨f,rfl⟩:∃ g,f=g + 1:=⟨f - 1,by omega⟩
  rw [Tok.tokF_step,List.drop_drop,List.drop_drop] at hd
  have HW1:=Lib.hid (HWH.out (s.extract a s.size))
  rw [data_drop] at HW1
  generalize hbb:Tok.whileL Tok.pBlank 0 (s.data.toList.drop a)=bb at *
  clear hbb
  have HR1:=Lib.hid (fun W (hV:Vz W)=>read_any (s.extract (a + bb) s.size) W hV (by simp;omega))
  rw [data_drop] at HR1
  have hbd:=Tok.read_bd (s.data.toList.drop (a + bb))
  rw [List.length_drop,hsz] at hbd
  obtain ⟨t,ht⟩:∃ t,Tok.read (s.data.toList.drop (a + bb))=t:=⟨_,rfl⟩
  rw [ht] at HR1 hbd hd
  clear ht
  obtain ⟨K,P,Z,X,N⟩:=t
  obtain ⟨b1,b2,b3,b4,b5,b6⟩:=hbd
  simp only at b1 b2 b3 b4 b5 b6 hd
  have hts:k < (Tok.toks s).length:=by
   rcases Nat.lt_or_ge k (Tok.toks s).length with h | h
   ·exact h
   ·rw [List.drop_of_length_le h] at hd
    split at hd <;> cases hd
  have hgk:(Tok.toks s)[k]=⟨K,a + bb,Z,X,N⟩:=by
   rw [List.drop_eq_getElem_cons hts] at hd
   split at hd
   ·exact (List.cons.inj hd).1
   ·exact (List.cons.inj hd).1
  have HRR:=Lib.hid (fun W (hW:Below wr.heap.size wr W)=>HR.out k wr W hts HJ.out hW)
  simp only [hgk,tkV_mk,Int.natCast_add] at HRR
  have HD:=Lib.hid hd
  unfold tkV tkF at HR1
  simp only at HR1
  have ab1:(a:Int) + (bb:Int)≤(s.size:Int):=by omega
  have ab2:((a + bb:Nat):Int)=(a:Int) + (bb:Int):=by omega
  gi_wp2
  refine ⟨trivial,?_⟩
  gi_at_call 133
  refine (callsIn_wide.2 (HW1.out _)).mono ?_
  rintro e w2 ⟨rfl,hB2⟩
  have c2:=HCELL.out k w2 (HIB.out k wr w2 HJ.out hB2)
  have HB2:=Lib.hid hB2
  clear hB2
  gi_wp2
  refine ⟨trivial,?_⟩
  gi_at_call 135
  refine (callsIn_wide.2 (HR1.out _ (HIA.out k w2 (HIB.out k wr w2 HJ.out HB2.out)).2)).mono ?_
  rintro e w3 ⟨rfl,hB3⟩
  have HB3:=Lib.hid (Bt HB2.out hB3)
  obtain ⟨W4,hW4⟩:∃ W4,w3.alloc (.cells #[.int .i64 K,.int .i64 ((a:Int) + bb),.int .i64 Z,.string X,.int .i64 N] 128)=W4:=⟨_,rfl⟩
  obtain ⟨m1,m2,m3⟩:=laid1 w3 (.cells #[.int .i64 K,.int .i64 ((a:Int) + bb),.int .i64 Z,.string X,.int .i64 N] 128)
  rw [hW4] at m1 m2 m3
  have HB4:=Lib.hid (Bt HB3.out m3)
  have hI4:=HIB.out k wr W4 HJ.out HB4.out
  have hyl:=HY.out k W4 hI4 (.agg #[.int .i64 K,.int .i64 ((a:Int) + bb),.int .i64 Z,.string X,.int .i64 N])
  obtain ⟨⟨j0,j1,j2,j3,j4⟩,y0,y1,y2,y3,y4⟩:=can5 m1
  have ab3:(a:Int) + (bb:Int) + (Z:Int)≤2000000:=by omega
  clear hB3
  gi_wp2
  refine roundIn_wide ((HRR.out W4 HB4.out).mono ?_)
  rintro e w5 ⟨rfl,hinv,hblk⟩
  have hk5:=(hblk w3.heap.size HB3.out.size (by have:=(Array.getElem?_eq_some_iff.1 m1).1;exact this)).trans m1
  have HV:=Lib.hid hinv
  clear hinv hblk hyl hI4 j0 j1 j2 j3 j4 y0 y1 y2 y3 y4
  obtain ⟨⟨j0,j1,j2,j3,j4⟩,_⟩:=can5 hk5
  clear hk5
  by_cases hend:K=6∨K=0
  ·have hd1:=HD.out
   rw [if_pos hend] at hd1
   have hkl:(Tok.toks s).length=k + 1:=by
    have:=congrArg List.length hd1
    rw [List.length_drop,List.length_singleton] at this
    omega
   have h6:(((K:Int) == 6)=true)∨(((K:Int) == 6)=false∧((K:Int) == 0)=true):=by
    rcases hend with rfl | rfl
    ·exact Or.inl rfl
    ·exact Or.inr ⟨rfl,rfl⟩
   rcases h6 with h6 | ⟨h6,h0⟩
   all_goals
    gi_wp2
    refine bodyPost_ret (results_none (by rfl) _ _ _) rfl ?_
    exact ⟨⟨_,rfl⟩,hkl ▸ HV.out⟩
  ·have hd1:=HD.out
   rw [if_neg hend] at hd1
   have hd2:(Tok.toks s).drop (k + 1)=Tok.tokF f (a + bb + Z) (s.data.toList.drop (a + bb + Z)):=by
    rw [← List.drop_drop,hd1,Nat.add_assoc]
    rfl
   have HD2:=Lib.hid hd2
   have e6:((K:Int) == 6)=false:=by rw [beq_eq_false_iff_ne];omega
   have e0:((K:Int) == 0)=false:=by rw [beq_eq_false_iff_ne];omega
   have hZ:0 < Z:=b6 (fun e=>hend (Or.inl e)) (fun e=>hend (Or.inr e))
   clear hd1 hd2
   gi_wp2
   go_roundw
   case rel=>exact ⟨k + 1,a + bb + Z,f,by go_num,by omega,by omega,by omega,HD2.out,HV.out⟩
   case measure=>simp [intOf];omega
end Go.Proofs.YtbbgjjjeecfnoaaGreatDoor
