/- The first so many rows, each of few values: the laws' own, walked. -/
import Derived.Test.YtjdccifdkjnknaaGreatDoorAC17
import Derived.Maps.AppendAt
namespace Go.Proofs.YtjdccifdkjnknaaGreatDoor
open Go.RowKit Go.Sort
open Tess (CK Pay)
def RowC (p:Nat→Prop) (w:World) (cs:List Value) (r:Tess.Row):Prop:=∃ vd a c,cs=[.int .i64 r.t,vd,.slice a r.ns.length c]∧r.ns.length≤c∧VA p w vd r.l∧SlP p w (.slice a r.ns.length c) (r.ns.map (.int .i64))
theorem RowC.row {p:Nat→Prop} {w:World} {cs:List Value} {r:Tess.Row} (h:RowC p w cs r):RA3 p w (.agg cs.toArray) r.t r.l r.ns:=by
 obtain ⟨vd,a,c,rfl,h1,h2,h3⟩:=h
 exact ⟨vd,a,c,rfl,h1,h2,h3⟩
theorem rn2:Nest 3 RowC where
 ag h hg:=let ⟨_,_,_,e,h1,h2,h3⟩:=h;⟨_,_,_,e,h1,h2.ag hg,h3.ag hg⟩
 weak h hpq:=let ⟨_,_,_,e,h1,h2,h3⟩:=h;⟨_,_,_,e,h1,h2.weak hpq,h3.weak hpq⟩
 lt h:=let ⟨_,_,_,e,h1,h2,h3⟩:=h;⟨_,_,_,e,h1,h2.lt,h3.lt⟩
 len h:=by obtain ⟨_,_,_,rfl,_⟩:=h;rfl
 one h u hu:=by
  obtain ⟨vd,a,c,rfl,_,h1,_⟩:=h
  obtain ⟨_,_,rfl⟩:=h1.shape
  simp only [List.mem_cons,List.not_mem_nil,or_false] at hu
  rcases hu with rfl | rfl | rfl <;> rfl
def RowsIn (p:Nat→Prop):World→Value→List Tess.Row→Prop:=LA 3 (RowC p) p
theorem RowsIn.ag {p:Nat→Prop} {w w':World} {v:Value} {l:List Tess.Row} (h:RowsIn p w v l) (hg:Ag p w w'):RowsIn p w' v l:=LA.ag h hg fun _ _ _ h=>rn2.ag h hg
theorem RowsIn.weak {p q:Nat→Prop} {w:World} {v:Value} {l:List Tess.Row} (h:RowsIn p w v l) (hpq:∀ b,p b→q b):RowsIn q w v l:=LA.weak h hpq fun _ _ _ h=>rn2.weak h hpq
def rC3 (r:Tess.Row):Tess.Row:=⟨r.t,cV2 r.l,r.ns.take 10⟩
def rC2 (n:Nat) (l:List Tess.Row):List Tess.Row:=(l.take n).map rC3
theorem infoRow:(Tryz.prog.info? 51).map (fun i=>(i.zero,i.size,i.bytes))=some (some (.agg #[.int .i64 0,.slice none 0 0,.slice none 0 0]),3,56):=by kernel_rfl
set_option maxRecDepth 100000 in
set_option maxHeartbeats 4000000 in
theorem rows_any (p:Nat→Prop) (v:Value) (l:List Tess.Row) (n:Nat) (hn:n≤1000) (w:World) (hv:RowsIn p w v l) :
  Calls Tryz.prog 10 #[v,.int .i64 n] w fun e w' => ∃ v',e = .returned v'∧RowsIn (fun b=>p b∨w.heap.size≤b) w' v' (rC2 n l)∧Below w.heap.size w w':=by
 obtain ⟨a,A7,rfl,_,hl,_,hc⟩:=LA.open hv
 have hl:l.length≤9223372036854775807:=by unfold maxLen at hl;omega
 have HC:=Hd hc
 clear hc
 obtain ⟨i0,hi,Av,Aw,A1⟩:=info_parts infoRow
 go_enter Tryz.func10,Tryz.ntmps10
 go_wp2
 go_loopw [5,6] (fun v i wr => ∃ (k:Nat) (us:List (List Value)),k≤l.length∧k≤n∧i = .int .i64 k∧us.length=k∧OwnL w.heap.size 3 51 RowC (fun b=>p b∨w.heap.size≤b) wr v us ((l.take k).map rC3)∧(k=0→v = .slice none 0 0)∧Below w.heap.size w wr) (fun _ i _=>n - (intOf i).toNat)
 case atStart=>exact ⟨0,[],Nat.zero_le _,Nat.zero_le _,rfl,rfl,OwnL.nil _,fun _=>rfl,Below.refl _ _⟩
 case round=>
  obtain ⟨k,us,hk,A8,rfl,Ao,Aj,Ak,hB⟩:=hrel
  have HN:=Hd Ak
  have HU:=Hd Ao
  have HO:=Hd Aj
  have HB:=Hd hB
  clear Ak Ao Aj
  by_cases hlt:k < l.length∧k < n
  ·obtain ⟨h1,h2⟩:=hlt
   obtain ⟨b,Ai,rfl,hb,_,cs,_,hR,Ab⟩:=HC.out k h1
   have HF:=Hd (fun W (hW:Below wr.heap.size wr W)=>fewRow_any (fun b=>p b∧b < w.heap.size) (.agg cs.toArray) l[k].t l[k].l l[k].ns W ((rn2.lt hR).row.ag (Ag.new _ (Bt hB hW))))
   obtain ⟨vd,na,nc,rfl,_,As,_⟩:=hR
   obtain ⟨da,dc,rfl⟩:=As.shape
   have c0:wr.cell? ⟨b,Ai + k * 3,none⟩=some (.int .i64 l[k].t):=(hB.cell (p:=⟨b,Ai + k * 3,none⟩) hb).trans (Ab 0 (by omega))
   have c1:wr.cell? ⟨b,Ai + k * 3 + 1,none⟩=some (.slice da l[k].l.length dc):=(hB.cell (p:=⟨b,Ai + k * 3 + 1,none⟩) hb).trans (Ab 1 (by omega))
   have c2:wr.cell? ⟨b,Ai + k * 3 + 2,none⟩=some (.slice na l[k].ns.length nc):=(hB.cell (p:=⟨b,Ai + k * 3 + 2,none⟩) hb).trans (Ab 2 (by omega))
   have A9:b < wr.heap.size:=Nat.lt_of_lt_of_le hb HB.out.size
   have A5:(k:Int) < (l.length:Int):=by omega
   have A6:(k:Int) < (n:Int):=by omega
   have HE:=Hd (show (l.take k).map rC3 ++ [rC3 l[k]]=(l.take (k + 1)).map rC3 by rw [List.take_succ_eq_append_getElem h1,List.map_append];rfl)
   clear hB hb Ab As
   generalize l[k]=r at *
   go_wp2_with (fail)
   go_at_call 27
   refine (HF.out wr (Below.refl _ _)).mono ?_
   rintro e w2 ⟨v3,rfl,Ap,_,At⟩
   have hr:RA3 (fun b=>(p b∧b < w.heap.size)∨wr.heap.size≤b) w2 v3 (rC3 r).t (rC3 r).l (rC3 r).ns:=Ap
   clear Ap
   generalize rC3 r=r2 at *
   obtain ⟨A0,Ah,Af,rfl,g1,g2,g3⟩:=hr
   have Au:=Hd (show RowC (fun b=>(p b∧b < w.heap.size)∨wr.heap.size≤b) w2 [.int .i64 r2.t,A0,.slice Ah r2.ns.length Af] r2 from ⟨_,_,_,rfl,g1,g2,g3⟩)
   obtain ⟨z0,z1,rfl⟩:=g2.shape
   clear g1 g2 g3
   obtain ⟨W3,Ax⟩:∃ W3,w2.alloc (.cells #[.int .i64 r2.t,.slice z0 r2.l.length z1,.slice Ah r2.ns.length Af] 51)=W3:=⟨_,rfl⟩
   obtain ⟨k1,kS,kB⟩:=la2 w2 (.cells #[.int .i64 r2.t,.slice z0 r2.l.length z1,.slice Ah r2.ns.length Af] 51)
   rw [Ax] at k1 kS kB
   have Ay:=Hd k1
   have Ae:=Bt At kB
   have An:=Hd (HO.out.below rn2 Ae)
   have Ar:=Hd (rn2.ag Au.out (Ag.new _ kB))
   have HX:=Hd (show RowC (fun b=>(p b∨w.heap.size≤b)∧u5.ownBlock≠some b) W3 [.int .i64 r2.t,.slice z0 r2.l.length z1,.slice Ah r2.ns.length Af] r2 from rn2.weak Ar.out fun b hb=>by
    refine ⟨hb.imp And.left fun h=>Nat.le_trans HB.out.size h,fun e => ?_⟩
    have:=(HO.out.own.lt b e).1
    have:=(HO.out.own.lt b e).2
    rcases hb with hb | hb <;> omega)
   have Am:=Hd (Bt HB.out Ae)
   clear At Ae kB kS k1 c0 c1 c2
   go_wp2_with (at_builtin;refine wpList_append_own_at _ rfl _ _ 25 rfl w.heap.size 51 i0 (.agg #[.int .i64 0,.slice none 0 0,.slice none 0 0]) 3 56 Tryz.underlying25 hi Av Aw A1 rfl (by decide) _ _ _ rfl An.out.own ⟨w2.heap.size,0,none⟩ 1 1 [.int .i64 r2.t,.slice z0 r2.l.length z1,.slice Ah r2.ns.length Af] rfl rfl ?_ (rn2.one Ar.out) ?_ ?_ ?_ ?_)
   ·intro j u hj
    rw [addr_add,cell_of_row _ _ _ _ _ _ Ay.out,Nat.zero_add];simpa using hj
   ·have:=HU.out;unfold maxLen;omega
   ·have:=HU.out;omega
   ·exact Am.out.size
   intro v' w3 Ac Aa Al Ad
   have A2:=Hd (An.out.more rn2 HX.out Ac Aa Ad)
   have A3:=Hd (Am.out.grown Aa Am.out.size (fun j e=>(An.out.own.lt j e).1))
   clear Ac Aa Al Ad
   go_wp2
   go_roundw
   case rel=>exact ⟨k + 1,us ++ [[.int .i64 r2.t,.slice z0 r2.l.length z1,.slice Ah r2.ns.length Af]],by omega,by omega,by go_num,by simp [HU.out],by rw [← HE.out];exact A2.out,fun h=>by omega,A3.out⟩
   case measure=>simp [intOf];omega
  ·have he:(l.take k).map rC3=rC2 n l:=by
    unfold rC2
    by_cases e:k=n
    ·rw [e]
    ·rw [List.take_of_length_le (by omega),List.take_of_length_le (by omega)]
   rw [he] at HO
   have Aq:(rC2 n l).length=k:=by rw [← he];simp;omega
   have HL:=Hd (HO.out.listed (q:=fun b=>p b∨w.heap.size≤b) rn2 (fun _ h=>h) (fun _ h => .inr h) (by unfold maxLen;omega) (fun h=>HN.out (by rw [← Aq,h];rfl)))
   clear hB he Aq
   rcases (show (¬ (k:Int) < (l.length:Int))∨((k:Int) < (l.length:Int)∧¬ (k:Int) < (n:Int)) by omega) with Az | ⟨A4,Az⟩
   all_goals
    clear hlt
    go_wp2
    go_ret
    exact ⟨_,rfl,HL.out,HB.out⟩
end Go.Proofs.YtjdccifdkjnknaaGreatDoor
