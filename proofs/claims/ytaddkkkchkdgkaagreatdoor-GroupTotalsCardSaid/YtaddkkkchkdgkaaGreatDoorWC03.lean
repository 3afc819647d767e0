/- Joined by mergeK.py: F9, F10, F11, F12 -/
import Derived.Test.YtaddkkkchkdgkaaGreatDoorWC02
import Derived.Maps.AppendAt
namespace Go.Proofs.YtaddkkkchkdgkaaGreatDoor
open Go.RowKit Go.Sort
set_option maxRecDepth 100000 in
set_option maxHeartbeats 2000000 in
theorem place_any (v vl:Value) (s:Tess.Sch) (l:List ByteArray) (x:ByteArray) (p:Nat→Prop) (w:World) (hv:SchAt p w v s) (hl:SlOf w vl (l.map .string)) :
  Calls Tryz.prog 143 #[v,vl,.string x] w fun e w'=>e = .returned (.tuple #[.int .i64 ((Tess.placeW (Tess.schOk s) l x).1:Nat),.bool (Tess.placeW (Tess.schOk s) l x).2])∧Below w.heap.size w w':=by
 have HR:=Lib.hid (fun W (hB:Below w.heap.size w W)=>schRight_any v s p W (hv.ag (Ag.new p hB)))
 have HI:=Lib.hid (fun W (hB:Below w.heap.size w W)=>index_any vl l x W (hl.below hB))
 obtain ⟨vd,vm,rfl,hd,hm,_,_⟩:=hv
 obtain ⟨ad,capd,rfl,_⟩:=slp_len hd
 obtain ⟨am,capm,rfl,_⟩:=slp_len hm
 obtain ⟨al,capl,rfl,_,_⟩:=sls_open hl
 clear hd hm hl
 have HP:RowKit.Hid (∀ r,r=Tess.placeW (Tess.schOk s) l x→r=if Tess.schOk s && Tess.hasW l x then (Tess.idxW l x,true) else (0,false)):=Lib.hid fun r h=>h
 obtain ⟨r,hr⟩:∃ r,r=Tess.placeW (Tess.schOk s) l x:=⟨_,rfl⟩
 rw [← hr]
 have HP2:=Lib.hid (HP.out r hr)
 clear hr HP
 cases hok:Tess.schOk s
 ·rw [hok] at HR HP2
  have HP3:=Lib.hid (show r=(0,false) from HP2.out)
  obtain ⟨i,hi⟩:∃ i:Int,(if Tess.hasW l x then ((Tess.idxW l x:Nat):Int) else -1)=i:=⟨_,rfl⟩
  rw [hi] at HI
  clear hi HP2
  rw [HP3.out]
  go_enter Tryz.func143,Tryz.ntmps143
  go_wp2_with (first
   | (go_at_call 165;refine (HI.out _ ((Below.refl _ _).alloc (Nat.le_refl _) _)).mono ?_;rintro e w2 ⟨rfl,rfl⟩)
   | (go_at_call 30;refine (HR.out _ ((Below.refl _ _).alloc (Nat.le_refl _) _)).mono ?_;rintro e w2 ⟨rfl,hB2⟩;have HB:=Lib.hid (((Below.refl _ _).alloc (Nat.le_refl _) _).trans (hB2.mono (by simp)));clear hB2))
  go_ret2
  exact ⟨rfl,HB.out⟩
 ·rw [hok] at HR HP2
  rw [Bool.true_and] at HP2
  cases hh:Tess.hasW l x
  ·rw [hh] at HI HP2
   have HP3:=Lib.hid (show r=(0,false) from HP2.out)
   simp only [Bool.false_eq_true,if_false] at HI
   rw [HP3.out]
   go_enter Tryz.func143,Tryz.ntmps143
   go_wp2_with (first
    | (go_at_call 165;refine (HI.out _ ((Below.refl _ _).alloc (Nat.le_refl _) _)).mono ?_;rintro e w2 ⟨rfl,rfl⟩)
    | (go_at_call 30;refine (HR.out _ ((Below.refl _ _).alloc (Nat.le_refl _) _)).mono ?_;rintro e w2 ⟨rfl,hB2⟩;have HB:=Lib.hid (((Below.refl _ _).alloc (Nat.le_refl _) _).trans (hB2.mono (by simp)));clear hB2))
   go_ret2
   exact ⟨rfl,HB.out⟩
  ·rw [hh] at HI HP2
   have HP3:=Lib.hid (show r=(Tess.idxW l x,true) from HP2.out)
   simp only [if_true] at HI
   generalize Tess.idxW l x=n at *
   have hn:¬ (n:Int) < 0:=by omega
   have hnd:decide ((n:Int) < 0)=false:=decide_eq_false hn
   rw [HP3.out]
   go_enter Tryz.func143,Tryz.ntmps143
   go_wp2_with (first
    | (go_at_call 165;refine (HI.out _ ((Below.refl _ _).alloc (Nat.le_refl _) _)).mono ?_;rintro e w2 ⟨rfl,rfl⟩)
    | (go_at_call 30;refine (HR.out _ ((Below.refl _ _).alloc (Nat.le_refl _) _)).mono ?_;rintro e w2 ⟨rfl,hB2⟩;have HB:=Lib.hid (((Below.refl _ _).alloc (Nat.le_refl _) _).trans (hB2.mono (by simp)));clear hB2))
   go_ret2
   exact ⟨rfl,HB.out⟩
set_option maxRecDepth 100000 in
set_option maxHeartbeats 1000000 in
theorem dim_any (v:Value) (s:Tess.Sch) (x:ByteArray) (p:Nat→Prop) (w:World) (hv:SchAt p w v s) :
  Calls Tryz.prog 104 #[v,.string x] w fun e w'=>e = .returned (.tuple #[.int .i64 ((Tess.dimW s x).1:Nat),.bool (Tess.dimW s x).2])∧Below w.heap.size w w':=by
 have HV:=Lib.hid hv
 obtain ⟨vd,vm,rfl,hd,hm,_,_⟩:=hv
 have HP:=Lib.hid (fun W (hB:Below w.heap.size w W)=>place_any _ vd s s.dims x p W (HV.out.ag (Ag.new p hB)) (hd.1.below hB))
 obtain ⟨ad,capd,rfl,_⟩:=slp_len hd
 obtain ⟨am,capm,rfl,_⟩:=slp_len hm
 clear hd hm
 have HD:RowKit.Hid (Tess.dimW s x=Tess.placeW (Tess.schOk s) s.dims x):=Lib.hid rfl
 rw [← HD.out] at HP
 generalize Tess.dimW s x=r at *
 obtain ⟨r1,r2⟩:=r
 simp only at HP
 go_enter Tryz.func104,Tryz.ntmps104
 go_wp2_with (go_at_call 143;refine (HP.out _ ((Below.refl _ _).alloc (Nat.le_refl _) _)).mono ?_;rintro e w2 ⟨rfl,hB2⟩;have HB:=Lib.hid (((Below.refl _ _).alloc (Nat.le_refl _) _).trans (hB2.mono (by simp)));clear hB2)
 go_ret2
 exact ⟨rfl,HB.out⟩
end Go.Proofs.YtaddkkkchkdgkaaGreatDoor
namespace Go.Proofs.YtaddkkkchkdgkaaGreatDoor
open Go.RowKit Go.Sort
open Tess (Fil)
def FilAt (p:Nat→Prop):Nat→World→Value→Fil→Prop
 | 0,_,_,_=>False
 | n + 1,w,v,f => ∃ vw a cap,v = .agg #[.int .i64 f.kind,.string f.name,vw,.int .i64 f.frm,.int .i64 f.to,.slice a f.l.length cap]∧f.name.size≤maxLen∧SlP p w vw (f.words.map .string)∧(∀ x ∈ f.words,x.size≤maxLen)∧f.l.length≤maxLen∧(a=none→cap=0) ∧
     (0 < f.l.length→∃ b off,a=some ⟨b,off,none⟩∧b < w.heap.size∧p b∧∀ j (h:j < f.l.length),∃ c0 c1 c2 c3 c4 c5,FilAt p n w (.agg #[c0,c1,c2,c3,c4,c5]) f.l[j] ∧
       w.cell? ⟨b,off + j * 6,none⟩=some c0∧w.cell? ⟨b,off + j * 6 + 1,none⟩=some c1∧w.cell? ⟨b,off + j * 6 + 2,none⟩=some c2∧w.cell? ⟨b,off + j * 6 + 3,none⟩=some c3∧w.cell? ⟨b,off + j * 6 + 4,none⟩=some c4∧w.cell? ⟨b,off + j * 6 + 5,none⟩=some c5)
theorem FilAt.ag {p:Nat→Prop}:∀ {n:Nat} {w w':World} {v:Value} {f:Fil},FilAt p n w v f→Ag p w w'→FilAt p n w' v f
 | 0,_,_,_,_,h,_=>h.elim
 | n + 1,w,w',v,f,h,hg=>by
   obtain ⟨vw,a,cap,hv,h1,h2,h3,h4,h5,h6⟩:=h
   refine ⟨vw,a,cap,hv,h1,h2.ag hg,h3,h4,h5,fun hl => ?_⟩
   obtain ⟨b,off,ha,hb,hp,hc⟩:=h6 hl
   refine ⟨b,off,ha,Nat.lt_of_lt_of_le hb hg.1,hp,fun j hj => ?_⟩
   obtain ⟨c0,c1,c2,c3,c4,c5,hf,e0,e1,e2,e3,e4,e5⟩:=hc j hj
   exact ⟨c0,c1,c2,c3,c4,c5,hf.ag hg,(hg.cell hb hp).trans e0,(hg.cell hb hp).trans e1,(hg.cell hb hp).trans e2,(hg.cell hb hp).trans e3,(hg.cell hb hp).trans e4,(hg.cell hb hp).trans e5⟩
theorem FilAt.weak {p q:Nat→Prop} (hpq:∀ b,p b→q b):∀ {n:Nat} {w:World} {v:Value} {f:Fil},FilAt p n w v f→FilAt q n w v f
 | 0,_,_,_,h=>h.elim
 | n + 1,w,v,f,h=>by
   obtain ⟨vw,a,cap,hv,h1,h2,h3,h4,h5,h6⟩:=h
   refine ⟨vw,a,cap,hv,h1,h2.weak hpq,h3,h4,h5,fun hl => ?_⟩
   obtain ⟨b,off,ha,hb,hp,hc⟩:=h6 hl
   refine ⟨b,off,ha,hb,hpq b hp,fun j hj => ?_⟩
   obtain ⟨c0,c1,c2,c3,c4,c5,hf,e⟩:=hc j hj
   exact ⟨c0,c1,c2,c3,c4,c5,hf.weak hpq,e⟩
theorem FilAt.shape {p:Nat→Prop} {n:Nat} {w:World} {v:Value} {f:Fil} (h:FilAt p n w v f):∃ x a cap,v = .agg #[.int .i64 f.kind,.string f.name,x,.int .i64 f.frm,.int .i64 f.to,.slice a f.l.length cap]:=by
 cases n with
 | zero=>exact h.elim
 | succ n=>obtain ⟨vw,a,cap,hv,_⟩:=h;exact ⟨vw,a,cap,hv⟩
set_option maxRecDepth 100000 in
set_option maxHeartbeats 2000000 in
theorem count_any (p:Nat→Prop) (n:Nat):∀ (v:Value) (f:Fil) (w:World),FilAt p n w v f→f.count≤1000000000 →
  Calls Tryz.prog 49 #[v] w fun e w'=>e = .returned (.int .i64 (f.count:Nat))∧Below w.heap.size w w':=by
 induction n with
 | zero=>intro v f w h;exact h.elim
 | succ n ih=>
   intro v f w h hcnt
   have HF:=Lib.hid h
   obtain ⟨vw,a,cap,rfl,_,hvw,_,hl,_,hc⟩:=h
   obtain ⟨wa,wn,wc,rfl⟩:=hvw.shape
   have HC:=Lib.hid hc
   have hlm:f.l.length≤9223372036854775807:=by unfold maxLen at hl;omega
   have HCE:=Lib.hid (Fil.count_eq f)
   have HCN:=Lib.hid hcnt
   clear hvw hc hl hcnt
   go_enter Tryz.func49,Tryz.ntmps49
   go_wp2_with fail
   obtain ⟨W0,hW0⟩:∃ W0,w.alloc (.cells #[.int .i64 f.kind,.string f.name,.slice wa wn wc,.int .i64 f.frm,.int .i64 f.to,.slice a f.l.length cap] 31)=W0:=⟨_,rfl⟩
   have hB0:Below w.heap.size w W0:=by rw [← hW0];exact (Below.refl _ _).alloc (Nat.le_refl _) _
   have hbox:W0.heap[w.heap.size]? = some (.cells #[.int .i64 f.kind,.string f.name,.slice wa wn wc,.int .i64 f.frm,.int .i64 f.to,.slice a f.l.length cap] 31 (0,0)):=by rw [← hW0];exact heap_alloc_new _ _
   rw [hW0]
   clear hW0
   go_loopw [3,4] (fun c i wr => ∃ k:Nat,k≤f.l.length∧i = .int .i64 k∧c = .int .i64 ((1 + Fil.countL (f.l.take k):Nat):Int)∧Below W0.heap.size W0 wr) (fun _ i _=>f.l.length - (intOf i).toNat)
   case atStart=>exact ⟨0,Nat.zero_le _,rfl,rfl,Below.refl _ _⟩
   case round=>
    obtain ⟨k,hk,rfl,rfl,hB⟩:=hrel
    have hs0:w.heap.size < W0.heap.size:=(Array.getElem?_eq_some_iff.1 hbox).1
    have c5:=cell_of_row wr w.heap.size 5 _ _ _ ((hB.block _ hs0).trans hbox)
    simp only [List.getElem?_toArray,List.getElem?_cons_succ,List.getElem?_cons_zero] at c5
    have HB:=Lib.hid (Bt hB0 hB)
    have HB':=Lib.hid hB
    clear hB
    by_cases hlt:k < f.l.length
    ·obtain ⟨b,off,rfl,hb,hp,hel⟩:=HC.out (by omega)
     obtain ⟨e0,e1,e2,e3,e4,e5,hf,q0,q1,q2,q3,q4,q5⟩:=hel k hlt
     have HIH:=Lib.hid (fun W (hBW:Below w.heap.size w W) (hc:(f.l[k]).count≤1000000000)=>ih _ _ W (hf.ag (Ag.new p hBW)) hc)
     have hki:(k:Int) < (f.l.length:Int):=by omega
     have r0:=(HB.out.cell (p:=⟨b,off + k * 6,none⟩) hb).trans q0
     have r1:=(HB.out.cell (p:=⟨b,off + k * 6 + 1,none⟩) hb).trans q1
     have r2:=(HB.out.cell (p:=⟨b,off + k * 6 + 2,none⟩) hb).trans q2
     have r3:=(HB.out.cell (p:=⟨b,off + k * 6 + 3,none⟩) hb).trans q3
     have r4:=(HB.out.cell (p:=⟨b,off + k * 6 + 4,none⟩) hb).trans q4
     have r5:=(HB.out.cell (p:=⟨b,off + k * 6 + 5,none⟩) hb).trans q5
     clear hel q0 q1 q2 q3 q4 q5 hf
     have hsc:=Fil.countL_take_succ f.l k hlt
     have hle:=Fil.countL_take_le f.l (k + 1)
     have hcn:=HCN.out
     rw [HCE.out] at hcn
     have hck:(f.l[k]).count≤1000000000:=by omega
     have HCK:=Lib.hid (HIH.out wr HB.out hck)
     have HSC:=Lib.hid hsc
     have hm:1 + Fil.countL (f.l.take k) + (f.l[k]).count≤1000000000:=by omega
     clear hsc hle hcn hck HIH
     generalize Fil.countL (f.l.take k)=m at *
     generalize (f.l[k]).count=m2 at *
     go_wp2_with (go_at_call 49;refine HCK.out.mono ?_;rintro e w2 ⟨rfl,hB2⟩;have HB2:=Lib.hid (Bt HB'.out hB2);clear hB2)
     go_roundw
     case rel=>exact ⟨k + 1,by omega,by go_num,by rw [HSC.out];go_num,HB2.out⟩
     case measure=>simp [intOf];omega
    ·have hki:¬ (k:Int) < (f.l.length:Int):=by omega
     have HE:=Lib.hid (show f.l.take k=f.l from List.take_of_length_le (by omega))
     go_wp2
     go_ret
     exact ⟨ret_int (by rw [HCE.out,HE.out];omega),HB.out⟩
theorem FilAt.shape6 {p:Nat→Prop} {n:Nat} {w:World} {v:Value} {f:Fil} (h:FilAt p n w v f):∃ wa wn wc a cap,v = .agg #[.int .i64 f.kind,.string f.name,.slice wa wn wc,.int .i64 f.frm,.int .i64 f.to,.slice a f.l.length cap]:=by
 cases n with
 | zero=>exact h.elim
 | succ n=>
   obtain ⟨vw,a,cap,hv,_,hs,_⟩:=h
   obtain ⟨x,y,z,rfl⟩:=hs.shape
   exact ⟨x,y,z,a,cap,hv⟩
end Go.Proofs.YtaddkkkchkdgkaaGreatDoor
namespace Tess
open Go
namespace Fil
def cut:Nat→Fil→Fil
 | 0,f=>mk f.kind (cutN 30 f.name) ((f.words.take 10).map (cutN 110)) f.frm f.to []
 | d + 1,f=>mk f.kind (cutN 30 f.name) ((f.words.take 10).map (cutN 110)) f.frm f.to ((f.l.take 10).map (cut d))
def tops:Nat→Nat
 | 0=>1
 | d + 1=>1 + 10 * tops d
theorem cut_count (d:Nat):∀ f:Fil,(cut d f).count≤tops d:=by
 induction d with
 | zero=>intro f;rw [count_eq];simp [cut,l,countL,tops]
 | succ d ih=>
   intro f
   rw [count_eq]
   have h:∀ q:List Fil,countL (q.map (cut d))≤q.length * tops d:=fun q=>by
    induction q with
    | nil=>simp [countL]
    | cons a r ihr=>
      have:=ih a
      rw [List.map_cons,List.length_cons,Nat.add_mul]
      unfold countL
      omega
   have h1:=h (f.l.take 10)
   have h2:(f.l.take 10).length≤10:=by rw [List.length_take];omega
   have h3:(f.l.take 10).length * tops d≤10 * tops d:=Nat.mul_le_mul_right _ h2
   show 1 + countL ((f.l.take 10).map (cut d))≤1 + 10 * tops d
   omega
end Fil
end Tess
namespace Go.Proofs.YtaddkkkchkdgkaaGreatDoor
open Go.RowKit Go.Sort
open Tess (Fil)
theorem FilAt.lt {p:Nat→Prop}:∀ {n:Nat} {w:World} {v:Value} {f:Fil},FilAt p n w v f→FilAt (fun b=>p b∧b < w.heap.size) n w v f
 | 0,_,_,_,h=>h.elim
 | n + 1,w,v,f,h=>by
   obtain ⟨vw,a,cap,hv,h1,h2,h3,h4,h5,h6⟩:=h
   refine ⟨vw,a,cap,hv,h1,h2.lt,h3,h4,h5,fun hl => ?_⟩
   obtain ⟨b,off,ha,hb,hp,hc⟩:=h6 hl
   refine ⟨b,off,ha,hb,⟨hp,hb⟩,fun j hj => ?_⟩
   obtain ⟨c0,c1,c2,c3,c4,c5,hf,e⟩:=hc j hj
   exact ⟨c0,c1,c2,c3,c4,c5,hf.lt,e⟩
theorem FilAt.mono {p:Nat→Prop}:∀ {n m:Nat} {w:World} {v:Value} {f:Fil},n≤m→FilAt p n w v f→FilAt p m w v f
 | 0,_,_,_,_,_,h=>h.elim
 | n + 1,0,_,_,_,hnm,_=>by omega
 | n + 1,m + 1,w,v,f,hnm,h=>by
   obtain ⟨vw,a,cap,hv,h1,h2,h3,h4,h5,h6⟩:=h
   refine ⟨vw,a,cap,hv,h1,h2,h3,h4,h5,fun hl => ?_⟩
   obtain ⟨b,off,ha,hb,hp,hc⟩:=h6 hl
   refine ⟨b,off,ha,hb,hp,fun j hj => ?_⟩
   obtain ⟨c0,c1,c2,c3,c4,c5,hf,e⟩:=hc j hj
   exact ⟨c0,c1,c2,c3,c4,c5,hf.mono (by omega),e⟩
def newAt (B:Nat) (cs:Array Value) (t:TypeId) (v:Value) (w:World):Prop:=∃ g,v = .pointer (some ⟨g,0,none⟩)∧B≤g∧w.heap[g]? = some (.cells cs t (0,0))
theorem newAt_mono (B:Nat) (cs:Array Value) (t:TypeId):Flow.Spec.mono (.inr (newAt B cs t)):=fun _ _ _ ⟨g,h1,h2,h3⟩ hb=>⟨g,h1,h2,(hb.block g (Array.getElem?_eq_some_iff.1 h3).1).trans h3⟩
def cells6:Value→List Value
 | .agg cs=>cs.toList
 | _=>[]
structure Fils (N:Nat) (p:Nat→Prop) (n:Nat) (W:World) (lv:Value) (us:List Value) (fs:List Fil):Prop where
 own:W.ownsRow N 31 6 lv us.length (us.flatMap cells6)
 len:us.length=fs.length
 at_:∀ j (h:j < fs.length) (h':j < us.length),FilAt p n W us[j] fs[j]
theorem cells6_len {p:Nat→Prop} {n:Nat} {w:World} {v:Value} {f:Fil} (h:FilAt p n w v f):(cells6 v).length=6:=by
 obtain ⟨x,a,cap,rfl⟩:=h.shape;rfl
theorem flat6 (us:List Value) (h:∀ u ∈ us,(cells6 u).length=6):∀ (j i:Nat) (hj:j < us.length),i < 6→(us.flatMap cells6)[j * 6 + i]? = (cells6 us[j])[i]? := by
 induction us with
 | nil=>intro j i hj;simp at hj
 | cons u r ih=>
   intro j i hj hi
   rw [List.flatMap_cons]
   cases j with
   | zero=>
     rw [List.getElem?_append_left (by rw [h u (List.mem_cons_self)];omega)]
     simp
   | succ j=>
     rw [List.getElem?_append_right (by rw [h u (List.mem_cons_self)];omega),h u (List.mem_cons_self),show (j + 1) * 6 + i - 6=j * 6 + i by omega]
     exact ih (fun x hx=>h x (List.mem_cons_of_mem _ hx)) j i (by simpa using hj) hi
theorem owns_cell_any {w:World} {base:Nat} {e:TypeId} {size:Nat} {v:Value} {n:Nat} {xs:List Value} (h:w.ownsRow base e size v n xs) (hn:0 < n) :
  ∃ g cap,v = .slice (some ⟨g,0,none⟩) n cap∧base≤g∧g < w.heap.size∧n≤cap∧cap≤maxLen∧∀ j,j < n * size→w.cell? ⟨g,j,none⟩=xs[j]? := by
 obtain ⟨hl,h⟩:=h
 rcases h with ⟨_,h0⟩ | ⟨g,cap,cur,hv,hb,hg,hcap,hm,hs,ht⟩
 ·omega
 ·refine ⟨g,cap,hv,hb,(Array.getElem?_eq_some_iff.1 hg).1,hcap,hm,fun j hj => ?_⟩
  rw [cell_of_row _ _ _ _ _ _ hg,← ht,List.getElem?_take,if_pos hj,Array.getElem?_toList]
theorem Fils.listed {N:Nat} {p q:Nat→Prop} {n:Nat} {W:World} {lv:Value} {us:List Value} {fs:List Fil} (h:Fils N p n W lv us fs) (hpq:∀ b,p b→q b) (hN:∀ b,N≤b→q b) :
  ∃ a cap,lv = .slice a fs.length cap∧fs.length≤maxLen∧(a=none→cap=0) ∧
    (0 < fs.length→∃ b off,a=some ⟨b,off,none⟩∧b < W.heap.size∧q b∧∀ j (h:j < fs.length),∃ c0 c1 c2 c3 c4 c5,FilAt q n W (.agg #[c0,c1,c2,c3,c4,c5]) fs[j] ∧
      W.cell? ⟨b,off + j * 6,none⟩=some c0∧W.cell? ⟨b,off + j * 6 + 1,none⟩=some c1∧W.cell? ⟨b,off + j * 6 + 2,none⟩=some c2∧W.cell? ⟨b,off + j * 6 + 3,none⟩=some c3∧W.cell? ⟨b,off + j * 6 + 4,none⟩=some c4∧W.cell? ⟨b,off + j * 6 + 5,none⟩=some c5):=by
 have hlen:=h.len
 rcases Nat.eq_zero_or_pos us.length with h0 | h0
 ·have hf0:fs=[]:=List.eq_nil_of_length_eq_zero (by omega)
  subst hf0
  obtain ⟨_,⟨hv,_⟩ | ⟨g,cap,cur,hv,hb,hg,_⟩⟩:=h.own
  ·exact ⟨none,0,hv,Nat.zero_le _,fun _=>rfl,fun h=>absurd h (by simp)⟩
  ·rw [h0] at hv
   exact ⟨_,cap,hv,Nat.zero_le _,(fun e=>by cases e),fun h=>absurd h (by simp)⟩
 ·obtain ⟨g,cap,hv,hb,hlt,hcap,hm,hc⟩:=owns_cell_any h.own h0
  refine ⟨_,cap,by rw [hv,hlen],by omega,(fun e=>by cases e),fun _=>⟨g,0,rfl,hlt,hN g hb,fun j hj => ?_⟩⟩
  have hj':j < us.length:=by omega
  have hat:=h.at_ j hj hj'
  obtain ⟨x,a,c,hs⟩:=hat.shape
  have h6:∀ u ∈ us,(cells6 u).length=6:=fun u hu=>by
   obtain ⟨i,hi,rfl⟩:=List.getElem_of_mem hu
   exact cells6_len (h.at_ i (by omega) hi)
  have hcell:∀ i,i < 6→W.cell? ⟨g,0 + j * 6 + i,none⟩=(cells6 us[j])[i]? := fun i hi=>by
   rw [show 0 + j * 6 + i=j * 6 + i by omega,hc _ (by omega),flat6 us h6 j i hj' hi]
  rw [hs] at hat hcell
  exact ⟨_,_,_,_,_,_,hat.weak hpq,hcell 0 (by omega),hcell 1 (by omega),hcell 2 (by omega),hcell 3 (by omega),hcell 4 (by omega),hcell 5 (by omega)⟩
theorem infoFil:(Tryz.prog.info? 31).map (fun i=>(i.zero,i.size,i.bytes))=some (some (.agg #[.int .i64 0,.string ⟨#[]⟩,.slice none 0 0,.int .i64 0,.int .i64 0,.slice none 0 0]),6,88):=by kernel_rfl
theorem set6 {W:World} {g:Nat} {x0 x1 x2 x3 x4 x5:Value} {t:TypeId} (y0 y1 y2 y3 y4 y5:Value) (h:W.heap[g]? = some (.cells #[x0,x1,x2,x3,x4,x5] t (0,0))) :
  ((((((W.setCell ⟨g,0,none⟩ y0).setCell ⟨g,1,none⟩ y1).setCell ⟨g,2,none⟩ y2).setCell ⟨g,3,none⟩ y3).setCell ⟨g,4,none⟩ y4).setCell ⟨g,5,none⟩ y5).heap[g]? = some (.cells #[y0,y1,y2,y3,y4,y5] t (0,0)):=
 heap_setCell_same _ _ _ _ _ _ (heap_setCell_same _ _ _ _ _ _ (heap_setCell_same _ _ _ _ _ _ (heap_setCell_same _ _ _ _ _ _ (heap_setCell_same _ _ _ _ _ _ (heap_setCell_same _ _ _ _ _ _ h)))))
theorem set6_other {W:World} {g k:Nat} (y0 y1 y2 y3 y4 y5:Value) (h:k≠g) :
  ((((((W.setCell ⟨g,0,none⟩ y0).setCell ⟨g,1,none⟩ y1).setCell ⟨g,2,none⟩ y2).setCell ⟨g,3,none⟩ y3).setCell ⟨g,4,none⟩ y4).setCell ⟨g,5,none⟩ y5).heap[k]? = W.heap[k]? := by
 rw [heap_setCell_other _ _ _ _ h,heap_setCell_other _ _ _ _ h,heap_setCell_other _ _ _ _ h,heap_setCell_other _ _ _ _ h,heap_setCell_other _ _ _ _ h,heap_setCell_other _ _ _ _ h]
theorem set6_below {B:Nat} {a W:World} {g:Nat} (y0 y1 y2 y3 y4 y5:Value) (h:Below B a W) (hg:B≤g) :
  Below B a ((((((W.setCell ⟨g,0,none⟩ y0).setCell ⟨g,1,none⟩ y1).setCell ⟨g,2,none⟩ y2).setCell ⟨g,3,none⟩ y3).setCell ⟨g,4,none⟩ y4).setCell ⟨g,5,none⟩ y5):=
 (((((h.setCell hg _).setCell hg _).setCell hg _).setCell hg _).setCell hg _).setCell hg _
theorem set6_size {W:World} {g:Nat} (y0 y1 y2 y3 y4 y5:Value):((((((W.setCell ⟨g,0,none⟩ y0).setCell ⟨g,1,none⟩ y1).setCell ⟨g,2,none⟩ y2).setCell ⟨g,3,none⟩ y3).setCell ⟨g,4,none⟩ y4).setCell ⟨g,5,none⟩ y5).heap.size=W.heap.size:=by simp [World.setCell]
theorem set6_ag (q:Nat→Prop) {W:World} {g:Nat} (y0 y1 y2 y3 y4 y5:Value) (h:¬ q g) :
  Ag q W ((((((W.setCell ⟨g,0,none⟩ y0).setCell ⟨g,1,none⟩ y1).setCell ⟨g,2,none⟩ y2).setCell ⟨g,3,none⟩ y3).setCell ⟨g,4,none⟩ y4).setCell ⟨g,5,none⟩ y5):=
 (((((Ag.set q _ _ h).trans (Ag.set q _ _ h)).trans (Ag.set q _ _ h)).trans (Ag.set q _ _ h)).trans (Ag.set q _ _ h)).trans (Ag.set q _ _ h)
structure Cf (w:World) (g:Nat) (bx:Array Value) (k:Int) (nm:ByteArray) (wv:Value) (fr to:Int) (lv:Value) (W:World):Prop where
 k1:W.heap[w.heap.size]? = some (.cells bx 31 (0,0))
 k2:W.heap[w.heap.size + 1]? = some (.cells #[.int .i64 0,.string ⟨#[]⟩,.slice none 0 0,.int .i64 0,.int .i64 0,.slice none 0 0] 31 (0,0))
 k3:W.heap[g]? = some (.cells #[.int .i64 k,.string nm,wv,.int .i64 fr,.int .i64 to,lv] 31 (0,0))
 below:Below w.heap.size w W
 hg:w.heap.size + 2≤g
section
variable {w W W':World} {g:Nat} {bx:Array Value} {k fr to:Int} {nm:ByteArray} {wv lv:Value}
theorem Cf.lt (h:Cf w g bx k nm wv fr to lv W):g < W.heap.size:=(Array.getElem?_eq_some_iff.1 h.k3).1
theorem Cf.later (h:Cf w g bx k nm wv fr to lv W) (hb:Below W.heap.size W W'):Cf w g bx k nm wv fr to lv W':=
 have:=h.lt;have:=h.hg
 ⟨(hb.block _ (by omega)).trans h.k1,(hb.block _ (by omega)).trans h.k2,(hb.block _ (by omega)).trans h.k3,Bt h.below hb,h.hg⟩
theorem Cf.grown (h:Cf w g bx k nm wv fr to lv W) {o:Option Nat} (hg:W.grownBy W' o) (ho:∀ k,o=some k→g < k):Cf w g bx k nm wv fr to lv W':=
 have h1:=h.lt;have h2:=h.hg
 ⟨(hg.block _ (by omega) (fun e=>by have:=ho _ e.symm;omega)).trans h.k1,(hg.block _ (by omega) (fun e=>by have:=ho _ e.symm;omega)).trans h.k2,(hg.block _ (by omega) (fun e=>by have:=ho _ e.symm;omega)).trans h.k3,
   h.below.grown hg h.below.size (fun k e=>by have:=ho k e;omega),h.hg⟩
theorem Cf.set2 (h:Cf w g bx k nm wv fr to lv W) (wv':Value):Cf w g bx k nm wv' fr to lv (W.setCell ⟨g,2,none⟩ wv'):=
 have h2:=h.hg
 ⟨(heap_setCell_other _ _ _ _ (by show _≠g;omega)).trans h.k1,(heap_setCell_other _ _ _ _ (by show _≠g;omega)).trans h.k2,heap_setCell_same _ _ _ _ _ _ h.k3,h.below.setCell (by show _≤g;omega) _,h.hg⟩
theorem Cf.set5 (h:Cf w g bx k nm wv fr to lv W) (lv':Value):Cf w g bx k nm wv fr to lv' (W.setCell ⟨g,5,none⟩ lv'):=
 have h2:=h.hg
 ⟨(heap_setCell_other _ _ _ _ (by show _≠g;omega)).trans h.k1,(heap_setCell_other _ _ _ _ (by show _≠g;omega)).trans h.k2,heap_setCell_same _ _ _ _ _ _ h.k3,h.below.setCell (by show _≤g;omega) _,h.hg⟩
end
theorem cf_start {w W0 w2:World} {g:Nat} {bx:Array Value} {k fr to:Int} (nm nm':ByteArray) (hn:nm=nm') (hB0:Below w.heap.size w W0) (hS0:W0.heap.size=w.heap.size + 2) (hw2:Below W0.heap.size W0 w2)
  (hk1:W0.heap[w.heap.size]? = some (.cells bx 31 (0,0)))
  (hk2:W0.heap[w.heap.size + 1]? = some (.cells #[.int .i64 0,.string ⟨#[]⟩,.slice none 0 0,.int .i64 0,.int .i64 0,.slice none 0 0] 31 (0,0)))
  (hgb:w.heap.size + 2≤g) (hk3:w2.heap[g]? = some (.cells #[.int .i64 0,.string ⟨#[]⟩,.slice none 0 0,.int .i64 0,.int .i64 0,.slice none 0 0] 31 (0,0))) :
  ∃ W1,((((((w2.setCell ⟨g,0,none⟩ (.int .i64 k)).setCell ⟨g,1,none⟩ (.string nm)).setCell ⟨g,2,none⟩ (.slice none 0 0)).setCell ⟨g,3,none⟩ (.int .i64 fr)).setCell ⟨g,4,none⟩ (.int .i64 to)).setCell ⟨g,5,none⟩ (.slice none 0 0))=W1∧Cf w g bx k nm' (.slice none 0 0) fr to (.slice none 0 0) W1:=by
 subst hn
 refine ⟨_,rfl,⟨?_,?_,set6 _ _ _ _ _ _ hk3,set6_below _ _ _ _ _ _ (hB0.trans (hw2.mono hB0.size)) (by omega),hgb⟩⟩
 ·rw [set6_other _ _ _ _ _ _ (by omega)];exact (hw2.block _ (by omega)).trans hk1
 ·rw [set6_other _ _ _ _ _ _ (by omega)];exact (hw2.block _ (by omega)).trans hk2
theorem cut_fil {q:Nat→Prop} {n:Nat} {W:World} {k fr to:Int} {nm:ByteArray} {ws:List ByteArray} {fs:List Fil} {wv:Value} {la:Option Addr} {len lc:Nat} (hlen:len=fs.length) (h1:nm.size≤maxLen) (h2:SlP q W wv (ws.map .string)) (h3:∀ x ∈ ws,x.size≤maxLen) (h4:fs.length≤maxLen) (h5:la=none→lc=0)
  (h6:0 < fs.length→∃ b off,la=some ⟨b,off,none⟩∧b < W.heap.size∧q b∧∀ j (h:j < fs.length),∃ c0 c1 c2 c3 c4 c5,FilAt q n W (.agg #[c0,c1,c2,c3,c4,c5]) fs[j] ∧
     W.cell? ⟨b,off + j * 6,none⟩=some c0∧W.cell? ⟨b,off + j * 6 + 1,none⟩=some c1∧W.cell? ⟨b,off + j * 6 + 2,none⟩=some c2∧W.cell? ⟨b,off + j * 6 + 3,none⟩=some c3∧W.cell? ⟨b,off + j * 6 + 4,none⟩=some c4∧W.cell? ⟨b,off + j * 6 + 5,none⟩=some c5) :
  FilAt q (n + 1) W (.agg #[.int .i64 k,.string nm,wv,.int .i64 fr,.int .i64 to,.slice la len lc]) (Fil.mk k nm ws fr to fs):=by
 subst hlen
 exact ⟨wv,la,lc,rfl,h1,h2,h3,h4,h5,h6⟩
def newFil (N n:Nat) (f:Fil) (v:Value) (W:World):Prop:=∃ gn x,v = .slice (some ⟨gn,0,none⟩) 1 1∧gn < W.heap.size∧FilAt (fun b=>N≤b) n W x f∧∀ j u,(cells6 x)[j]? = some u→W.cell? ⟨gn,j,none⟩=some u
theorem newFil_mono (N n:Nat) (f:Fil):Flow.Spec.mono (.inr (newFil N n f)):=fun _ _ _ ⟨gn,x,h1,h2,h3,h4⟩ hb=>⟨gn,x,h1,Nat.lt_of_lt_of_le h2 hb.size,h3.ag (Ag.new _ hb),fun j u hj=>(hb.cell (p:=⟨gn,j,none⟩) h2).trans (h4 j u hj)⟩
def isFil (N n:Nat) (f:Fil) (v:Value) (W:World):Prop:=FilAt (fun b=>N≤b) n W v f
theorem isFil_mono (N n:Nat) (f:Fil):Flow.Spec.mono (.inr (isFil N n f)):=fun _ _ _ h hb=>FilAt.ag h (Ag.new _ hb)
theorem cells6_one {p:Nat→Prop} {n:Nat} {w:World} {v:Value} {f:Fil} (h:FilAt p n w v f):∀ u ∈ cells6 v,u.oneCell'=true:=by
 cases n with
 | zero=>exact h.elim
 | succ n=>
   obtain ⟨vw,a,cap,rfl,_,hs,_⟩:=h
   obtain ⟨x,y,z,rfl⟩:=hs.shape
   intro u hu
   simp only [cells6,List.mem_cons,List.not_mem_nil,or_false] at hu
   rcases hu with rfl | rfl | rfl | rfl | rfl | rfl <;> rfl
theorem Fils.below {N:Nat} {q:Nat→Prop} {n:Nat} {W W':World} {lv:Value} {us:List Value} {fs:List Fil} (h:Fils N q n W lv us fs) (hb:Below W.heap.size W W'):Fils N q n W' lv us fs:=
 ⟨owns_below h.own hb,h.len,fun j hj hj'=>(h.at_ j hj hj').ag (Ag.new _ hb)⟩
theorem Fils.set {N:Nat} {q:Nat→Prop} {n:Nat} {W:World} {lv:Value} {us:List Value} {fs:List Fil} (h:Fils N q n W lv us fs) {g i:Nat} (hg:g < N) (hq:∀ b,q b→N≤b) (u:Value):Fils N q n (W.setCell ⟨g,i,none⟩ u) lv us fs:=
 ⟨ownsRow_setCell_below h.own (by show g < N;exact hg) _,h.len,fun j hj hj'=>(h.at_ j hj hj').ag (Ag.set q W u (fun e=>by have:=hq _ e;simp only at this;omega))⟩
theorem Fils.more {N:Nat} {n:Nat} {W W':World} {lv lv':Value} {us:List Value} {fs:List Fil} {x:Value} {f:Fil} {L:Nat}
  (h:Fils N (fun b=>N≤b∧lv.ownBlock≠some b) n W lv us fs) (hx:FilAt (fun b=>L≤b) n W x f) (hL:∀ g,lv.ownBlock=some g→g < L) (hNL:N≤L)
  (hown:W'.ownsRow N 31 6 lv' (us.length + 1) (us.flatMap cells6 ++ cells6 x)) (hg:W.grownBy W' lv.ownBlock) (hloc:lv'.ownBlock=lv.ownBlock∨lv'.ownBlock=some W.heap.size) :
  Fils N (fun b=>N≤b∧lv'.ownBlock≠some b) n W' lv' (us ++ [x]) (fs ++ [f]):=by
 have hag:Ag (fun b=>lv.ownBlock≠some b) W W':=Ag.grown hg fun g e=>by rw [e];simp
 have key:∀ {v f},FilAt (fun b=>N≤b∧lv.ownBlock≠some b) n W v f→FilAt (fun b=>N≤b∧lv'.ownBlock≠some b) n W' v f:=fun h=>
  (h.lt.ag (hag.weak fun b hb=>hb.1.2)).weak fun b hb=>⟨hb.1.1,by
   rcases hloc with e | e
   ·rw [e];exact hb.1.2
   ·rw [e];intro e';have:=hb.2;simp only [Option.some.injEq] at e';omega⟩
 refine ⟨by simpa using hown,by simp [h.len],fun j hj hj' => ?_⟩
 have hlen:=h.len
 by_cases e:j < us.length
 ·rw [List.getElem_append_left e,List.getElem_append_left (by omega)]
  exact key (h.at_ j (by omega) e)
 ·have ej:j=us.length:=by simp at hj';omega
  subst ej
  rw [List.getElem_append_right (by omega)]
  have:(fs ++ [f])[us.length]=f:=by rw [List.getElem_append_right (by omega)];simp
  rw [this]
  simp only [Nat.sub_self,List.getElem_cons_zero]
  exact key (hx.weak fun b hb=>⟨Nat.le_trans hNL hb,fun e=>by have:=hL b e;have:L≤b:=hb;omega⟩)
end Go.Proofs.YtaddkkkchkdgkaaGreatDoor
namespace Go.Proofs.YtaddkkkchkdgkaaGreatDoor
open Go.RowKit Go.Sort
open Tess (Fil)
abbrev zeroFil:Array Value:=#[.int .i64 0,.string ⟨#[]⟩,.slice none 0 0,.int .i64 0,.int .i64 0,.slice none 0 0]
def CutC (d:Nat):Prop:=∀ (p:Nat→Prop) (n:Nat) (v:Value) (f:Fil) (w:World),FilAt p n w v f →
 Calls Tryz.prog 48 #[v,.int .i64 ((d + 1:Nat):Int)] w fun e w' => ∃ v',e = .returned v'∧FilAt (fun b=>w.heap.size≤b) (d + 1) w' v' (Fil.cut d f)∧Below w.heap.size w w'
set_option maxRecDepth 100000 in
set_option maxHeartbeats 4000000 in
theorem cut_step (d:Nat) (hd7:d≤100) (hrec:d=0∨∃ e,d=e + 1∧CutC e):CutC d:=by
 intro p n v f w hv
 have HREC:=Lib.hid hrec
 clear hrec
 cases n with
 | zero=>exact hv.elim
 | succ n=>
 obtain ⟨vw,al,capl,rfl,hnm,hw,hws,hll,_,hel⟩:=hv
 obtain ⟨aw,capw,rfl,hlw,hcw⟩:=sls_open hw.1
 have HW:=Lib.hid hcw
 have HWS:=Lib.hid hws
 have HEL:=Lib.hid hel
 have hnm':f.name.size≤9223372036854775807:=by unfold maxLen at hnm;omega
 have hll':f.l.length≤9223372036854775807:=by unfold maxLen at hll;omega
 clear hcw hw hws hel hnm hll
 obtain ⟨i0,hi,hz0,hz1,hz2⟩:=info_parts infoStr
 obtain ⟨j0,ji,jz0,jz1,jz2⟩:=info_parts infoFil
 go_enter Tryz.func48,Tryz.ntmps48
 go_wp2
 obtain ⟨W0,hW0⟩:∃ W0,(w.alloc (.cells #[.int .i64 f.kind,.string f.name,.slice aw f.words.length capw,.int .i64 f.frm,.int .i64 f.to,.slice al f.l.length capl] 31)).alloc (.cells zeroFil 31)=W0:=⟨_,rfl⟩
 obtain ⟨hk1,hk2,hS0,hB0⟩:W0.heap[w.heap.size]? = some (.cells #[.int .i64 f.kind,.string f.name,.slice aw f.words.length capw,.int .i64 f.frm,.int .i64 f.to,.slice al f.l.length capl] 31 (0,0))∧W0.heap[w.heap.size + 1]? = some (.cells zeroFil 31 (0,0))∧W0.heap.size=w.heap.size + 2∧Below w.heap.size w W0:=by rw [← hW0];exact laid2 w _ _
 rw [hW0]
 clear hW0
 have s0:w.heap.size < W0.heap.size:=by omega
 have HS0:=Lib.hid hS0
 clear hS0
 have c0:=cell_of_row W0 w.heap.size 0 _ _ _ hk1
 have c1:=cell_of_row W0 w.heap.size 1 _ _ _ hk1
 have c3:=cell_of_row W0 w.heap.size 3 _ _ _ hk1
 have c4:=cell_of_row W0 w.heap.size 4 _ _ _ hk1
 simp only [List.getElem?_toArray,List.getElem?_cons_succ,List.getElem?_cons_zero] at c0 c1 c3 c4
 rcases (show ((30:Int) < (f.name.size:Int)∧(¬ (f.name.size:Int)≤30∧(30:Int)≤(f.name.size:Int)))∨(¬ (30:Int) < (f.name.size:Int)∧(f.name.size:Int)≤30) by omega) with ⟨h3i,h3j⟩ | ⟨h3i,h3j⟩
 all_goals
  refine Flow.wp_region_flow_tail 13 (Flow.specs [.inl ?_,.inl ?_,.inl ?_,.inl ?_,.inl ?_,.inl ?_,.inl ?_,.inl ?_,.inl ?_,.inl ?_,.inl ?_,.inl ?_,.inr (newAt (w.heap.size + 2) zeroFil 31)]) (by kernel_rfl) (by kernel_rfl) ?_ ?_
  rotate_left 12
  ·refine Flow.specs_mono ?_
   repeat (first | exact Flow.lmono_nil | refine Flow.lmono_inl ?_ | refine Flow.lmono_inr (newAt_mono _ _ _) ?_)
  simp only [List.take_succ_cons,List.take_zero,List.drop_succ_cons,List.drop_zero]
  iterate 12 (refine Flow.tree_valK rfl (fun K hK=>⟨fun w hw hG => ?_,?_⟩);(have hcl:=Flow.bcell hw;clear hG hw;unfold Flow.Runs Flow.yields;go_simp;try rfl);go_simp;refine hK _ ?_;clear hK K)
  (refine Flow.tree_varK rfl (fun K hK=>⟨fun w hw hG => ?_,?_⟩);(clear hG;unfold Flow.Runs Flow.yields;go_simp;refine ⟨(Below.refl _ _).alloc (Nat.le_refl _) _,?_⟩);rotate_left;intro vz;go_simp;refine hK _ _ ?_;clear hK K;rotate_left)
  ·exact ⟨_,rfl,by have:=hw.size;have:=HS0.out;omega,heap_alloc_new _ _⟩
  refine Flow.tree_nil fun w2 hw2 hG => ?_
  obtain ⟨g,rfl,hgb,hk3⟩:=(show newAt (w.heap.size + 2) zeroFil 31 vz w2 by simpa [Flow.upd] using hG 12)
  clear hG
  have z0:=frozen_of_row w2 g 0 _ _ hk3
  have z1:=frozen_of_row w2 g 1 _ _ hk3
  have z2:=frozen_of_row w2 g 2 _ _ hk3
  have z3:=frozen_of_row w2 g 3 _ _ hk3
  have z4:=frozen_of_row w2 g 4 _ _ hk3
  have z5:=frozen_of_row w2 g 5 _ _ hk3
  have e0:=cell_of_row w2 g 0 _ _ _ hk3
  have e1:=cell_of_row w2 g 1 _ _ _ hk3
  have e2:=cell_of_row w2 g 2 _ _ _ hk3
  have e3:=cell_of_row w2 g 3 _ _ _ hk3
  have e4:=cell_of_row w2 g 4 _ _ _ hk3
  have e5:=cell_of_row w2 g 5 _ _ _ hk3
  simp only [List.getElem?_toArray,List.getElem?_cons_succ,List.getElem?_cons_zero] at e0 e1 e2 e3 e4 e5
  clear c0 c1 c3 c4
  go_wp2
  obtain ⟨bx,hbx⟩:∃ bx:Array Value,bx=#[.int .i64 f.kind,.string f.name,.slice aw f.words.length capw,.int .i64 f.frm,.int .i64 f.to,.slice al f.l.length capl]:=⟨_,rfl⟩
  have HBX:=Lib.hid hbx
  rw [← hbx] at hk1
  clear hbx
  first
   | (obtain ⟨W1,hW1,hC1⟩:=cf_start (k:=f.kind) (fr:=f.frm) (to:=f.to) (f.name.extract 0 30) (cutN 30 f.name) rfl hB0 HS0.out hw2 hk1 hk2 hgb hk3;rw [hW1])
   | (obtain ⟨W1,hW1,hC1⟩:=cf_start (k:=f.kind) (fr:=f.frm) (to:=f.to) f.name (cutN 30 f.name) (cutN_self 30 f.name (by omega)).symm hB0 HS0.out hw2 hk1 hk2 hgb hk3;rw [hW1])
  clear hW1 z0 z1 z2 z3 z4 z5 e0 e1 e2 e3 e4 e5 hk1 hk2 hk3 s0 hB0 hgb hw2
  go_loopw [6] (fun i wr => ∃ (k:Nat) (wv:Value),k≤f.words.length∧k≤10∧i = .int .i64 k∧Cf w g bx f.kind (cutN 30 f.name) wv f.frm f.to (.slice none 0 0) wr∧wr.ownsRow (g + 1) 9 1 wv k (namesV 110 10 f.words k)) (fun i _=>10 - (intOf i).toNat)
  case atStart=>exact ⟨0,_,Nat.zero_le _,Nat.zero_le _,rfl,hC1,by simpa [namesV] using World.ownsRow_nil W1 (g + 1) 9 1⟩
  case round=>
   obtain ⟨k,wv,hk,hk10,rfl,hC,hown⟩:=hrel
   have HC:=Lib.hid hC
   have HO:=Lib.hid hown
   clear hC hown hC1
   have hg2:=HC.out.hg
   have hgl:=HC.out.lt
   have hsw:w.heap.size < wr.heap.size:=by omega
   have c1:=cell_of_row wr w.heap.size 2 _ _ _ HC.out.k1
   have c3:=cell_of_row wr g 2 _ _ _ HC.out.k3
   have z3:=frozen_of_row wr g 2 _ _ HC.out.k3
   rw [HBX.out] at c1
   simp only [List.getElem?_toArray,List.getElem?_cons_succ,List.getElem?_cons_zero] at c1 c3
   by_cases hlt:k < f.words.length∧k < 10
   ·obtain ⟨h1,h2⟩:=hlt
    obtain ⟨b,off,rfl,hb,hcell⟩:=HW.out k h1
    have hck:wr.cell? ⟨b,off + k,none⟩=some (.string f.words[k]):=(HC.out.below.cell (p:=⟨b,off + k,none⟩) hb).trans hcell
    have hdk:f.words[k].size≤9223372036854775807:=HWS.out _ (List.getElem_mem h1)
    have hbw:b < wr.heap.size:=Nat.lt_of_lt_of_le hb HC.out.below.size
    clear hcell hb
    go_wp2
    obtain ⟨x,hx⟩:∃ x,x=cutN 110 f.words[k]:=⟨_,rfl⟩
    have HX:=Lib.hid hx
    clear hx
    rcases (show ((110:Int) < (f.words[k].size:Int)∧(¬ (f.words[k].size:Int)≤110∧(110:Int)≤(f.words[k].size:Int)))∨(¬ (110:Int) < (f.words[k].size:Int)∧(f.words[k].size:Int)≤110) by omega) with ⟨h3i,h3j⟩ | ⟨h3i,h3j⟩
    all_goals
     refine Flow.wp_region_flow_tail 16 (Flow.specs [.inl ?_,.inl ?_,.inl ?_,.inl ?_,.inl ?_,.inl ?_,.inl ?_,.inl ?_,.inl ?_,.inl ?_,.inl ?_,.inl ?_,.inl ?_,.inl ?_,.inl ?_,.inr (newOne (.string x))]) (by kernel_rfl) (by kernel_rfl) ?_ ?_
     rotate_left 15
     ·refine Flow.specs_mono ?_
      repeat (first | exact Flow.lmono_nil | refine Flow.lmono_inl ?_ | refine Flow.lmono_inr (newOne_mono _) ?_)
     all_goals try simp only [List.take_succ_cons,List.take_zero,List.drop_succ_cons,List.drop_zero]
     iterate 15 (refine Flow.tree_valK rfl (fun K hK=>⟨fun w hw hG => ?_,?_⟩);(have hcl:=Flow.bcell hw;clear hG hw;unfold Flow.Runs Flow.yields;go_simp;try rfl);go_simp;refine hK _ ?_;clear hK K)
     (refine Flow.tree_varK rfl (fun K hK=>⟨fun w hw hG => ?_,?_⟩);(clear hG hw;unfold Flow.Runs Flow.yields;go_simp;refine ⟨(Below.refl _ _).alloc (Nat.le_refl _) _,?_⟩;rw [HX.out]);rotate_left;intro vz;go_simp;refine hK _ _ ?_;clear hK K;rotate_left)
     ·first | exact newOne_mk _ _ _ | (rw [cutN_self _ _ (by omega)];exact newOne_mk _ _ _)
     refine Flow.tree_nil fun w2 hw2 hG => ?_
     obtain ⟨gn,rfl,hgn,hcn⟩:=(show newOne (.string x) vz w2 by simpa [Flow.upd] using hG 15)
     clear hG
     have HO2:=Lib.hid (owns_below HO.out hw2)
     have HE:=Lib.hid (names_snoc 110 10 f.words k h1 x HX.out.symm)
     have HC2:=Lib.hid (HC.out.later hw2)
     have hsz2:=hw2.size
     go_wp2_with (at_builtin;refine wpList_append_own _ rfl _ _ 22 rfl (g + 1) 9 i0 (.string ByteArray.empty) 1 16 Tryz.underlying22 hi hz0 hz1 hz2 rfl (by decide) _ _ _ rfl HO2.out ⟨gn,0,none⟩ 1 1 [.string x] rfl rfl ?_ ?_ ?_ ?_ ?_ ?_)
     ·intro j u hj;rcases j with _ | j <;> simp at hj;subst hj;simpa [Addr.add] using hcn
     ·simp [Value.oneCell']
     ·unfold maxLen;omega
     ·omega
     ·omega
     intro v' w3 hown3 hgrow _
     obtain ⟨gg,cp,rfl,_⟩:=owns_cell hown3 (by omega)
     have HC3:=Lib.hid (HC2.out.grown hgrow (fun j e=>by have:=(HO2.out.lt j e).1;omega))
     have HO3:=Lib.hid (joinl_owned hown3 HE.out)
     clear hown3 hgrow
     have z3:=frozen_of_row w3 g 2 _ _ HC3.out.k3
     have c3:=cell_of_row w3 g 2 _ _ _ HC3.out.k3
     simp only [List.getElem?_toArray,List.getElem?_cons_succ,List.getElem?_cons_zero] at c3
     go_wp2
     go_roundw
     case rel=>exact ⟨k + 1,_,by omega,by omega,by go_num,HC3.out.set2 _,ownsRow_setCell_below HO3.out (by show g < _;omega) _⟩
     case measure=>simp [intOf];omega
   ·have HE:=Lib.hid (names_end 110 10 f.words k (by omega) hk hk10)
    have HP0:=Lib.hid ((SlP.owned (HE.out ▸ HO.out)).lt)
    obtain ⟨N1,hN1⟩:∃ N1,N1=wr.heap.size:=⟨_,rfl⟩
    rw [← hN1] at HP0
    have hgN:g < N1:=by omega
    have hNB:N1≤wr.heap.size:=by omega
    clear hN1
    obtain ⟨wo,rfl⟩:∃ wo:World,wo=wr:=⟨_,rfl⟩
    have HCo:=Lib.hid HC.out
    clear HO HE HC
    rcases (show (¬ (k:Int) < (f.words.length:Int))∨((k:Int) < (f.words.length:Int)∧¬ (k:Int) < 10) by omega) with hni | ⟨hkl,hni⟩
    all_goals
     clear hlt
     go_wp2
     go_loopw [7] (fun i wq => ∃ (k:Nat) (lv:Value) (us:List Value),k≤f.l.length∧k≤10∧(d=0→k=0)∧i = .int .i64 k∧Cf w g bx f.kind (cutN 30 f.name) wv f.frm f.to lv wq∧SlP (fun b=>g + 1≤b∧b < N1) wq wv (((f.words.take 10).map (cutN 110)).map .string)∧Fils N1 (fun b=>N1≤b∧lv.ownBlock≠some b) d wq lv us ((f.l.take k).map (Fil.cut (d - 1)))∧N1≤wq.heap.size) (fun i _=>10 - (intOf i).toNat)
     case atStart=>exact ⟨0,_,[],Nat.zero_le _,Nat.zero_le _,fun _=>rfl,rfl,HCo.out,HP0.out,⟨World.ownsRow_nil wo N1 31 6,rfl,fun j h=>absurd h (by simp)⟩,hNB⟩
     case round=>
      clear HP0 HCo hni c1 c3 z3 hsw hgl hNB
      obtain ⟨k,lv,us,hk,hk10,hkd,rfl,hC,hP,hF,hszq⟩:=hrel
      have HC:=Lib.hid hC
      have HP:=Lib.hid hP
      have HF:=Lib.hid hF
      have HKD:=Lib.hid hkd
      clear hC hP hF hkd
      have hgl:=HC.out.lt
      have hsw:w.heap.size < wr.heap.size:=by omega
      have c1:=cell_of_row wr w.heap.size 5 _ _ _ HC.out.k1
      have c3:=cell_of_row wr g 5 _ _ _ HC.out.k3
      have z3:=frozen_of_row wr g 5 _ _ HC.out.k3
      rw [HBX.out] at c1
      simp only [List.getElem?_toArray,List.getElem?_cons_succ,List.getElem?_cons_zero] at c1 c3
      by_cases hlt:k < f.l.length∧k < 10∧0 < d
      ·obtain ⟨h1,h2,h3⟩:=hlt
       obtain ⟨e,hde,HCC⟩:∃ e,d=e + 1∧RowKit.Hid (CutC e):=by
        rcases HREC.out with h | ⟨e,h,hc⟩
        ·omega
        ·exact ⟨e,h,Lib.hid hc⟩
       have hdi:(1:Int) < (d:Int) + 1:=by omega
       have hwr:IntKind.i64.wrap (d:Int)=(d:Int):=by rw [IntKind.wrap_i64];omega
       obtain ⟨b,off,rfl,hb,hp,hel⟩:=HEL.out (by omega)
       obtain ⟨x0,x1,x2,x3,x4,x5,hfe,q0,q1,q2,q3,q4,q5⟩:=hel k h1
       have HFE:=Lib.hid hfe
       have r0:=(HC.out.below.cell (p:=⟨b,off + k * 6,none⟩) hb).trans q0
       have r1:=(HC.out.below.cell (p:=⟨b,off + k * 6 + 1,none⟩) hb).trans q1
       have r2:=(HC.out.below.cell (p:=⟨b,off + k * 6 + 2,none⟩) hb).trans q2
       have r3:=(HC.out.below.cell (p:=⟨b,off + k * 6 + 3,none⟩) hb).trans q3
       have r4:=(HC.out.below.cell (p:=⟨b,off + k * 6 + 4,none⟩) hb).trans q4
       have r5:=(HC.out.below.cell (p:=⟨b,off + k * 6 + 5,none⟩) hb).trans q5
       have hbw:b < wr.heap.size:=Nat.lt_of_lt_of_le hb HC.out.below.size
       have HDE:=Lib.hid hde
       clear hel q0 q1 q2 q3 q4 q5 hfe hb hde
       go_wp2
       have HBW:=Lib.hid HC.out.below
       refine Flow.wp_region_flow_tail 11 (Flow.specs [.inl ?_,.inl ?_,.inl ?_,.inl ?_,.inl ?_,.inl ?_,.inl ?_,.inl ?_,.inl ?_,.inr (isFil wr.heap.size d (Fil.cut (d - 1) f.l[k])),.inr (newFil wr.heap.size d (Fil.cut (d - 1) f.l[k]))]) (by kernel_rfl) (by kernel_rfl) ?_ ?_
       rotate_left 9
       ·refine Flow.specs_mono ?_
        repeat (first | exact Flow.lmono_nil | refine Flow.lmono_inl ?_ | refine Flow.lmono_inr (isFil_mono _ _ _) ?_ | refine Flow.lmono_inr (newFil_mono _ _ _) ?_)
       all_goals try simp only [List.take_succ_cons,List.take_zero,List.drop_succ_cons,List.drop_zero]
       iterate 9 (refine Flow.tree_valK rfl (fun K hK=>⟨fun w hw hG => ?_,?_⟩);(have hcl:=Flow.bcell hw;clear hG hw;unfold Flow.Runs Flow.yields;go_simp;try rfl);go_simp;refine hK _ ?_;clear hK K)
       (refine Flow.tree_varK rfl (fun K hK=>⟨fun w hw hG => ?_,?_⟩);(clear hG;unfold Flow.Runs Flow.yields;go_simp);rotate_left;intro vz;go_simp;refine hK _ _ ?_;clear hK K;rotate_left)
       ·have hde:=HDE.out
        subst hde
        refine (HCC.out p n _ _ _ (HFE.out.ag (Ag.new p (HBW.out.trans (hw.mono HBW.out.size))))).mono ?_
        rintro e3 w3 ⟨v3,rfl,hf3,hb3⟩
        exact ⟨v3,rfl,hb3,hf3.weak fun b hb=>Nat.le_trans hw.size hb⟩
       (refine Flow.tree_varK rfl (fun K hK=>⟨fun w hw hG => ?_,?_⟩);(have hvz:=(show isFil wr.heap.size d (Fil.cut (d - 1) f.l[k]) vz w by simpa [Flow.upd] using hG 9 (by kernel_rfl));clear hG;obtain ⟨y0,y1,y2,rfl⟩:=FilAt.shape hvz;unfold Flow.Runs Flow.yields;go_simp;refine ⟨(Below.refl _ _).alloc (Nat.le_refl _) _,?_⟩);rotate_left;intro vy;go_simp;refine hK _ _ ?_;clear hK K;rotate_left)
       ·refine ⟨w.heap.size,_,rfl,by simp,FilAt.ag hvz (Ag.new _ ((Below.refl _ _).alloc (Nat.le_refl _) _)),fun j u hj => ?_⟩
        rw [cell_of_row _ _ _ _ _ _ (heap_alloc_new _ _)]
        simpa [cells6] using hj
       refine Flow.tree_nil fun w2 hw2 hG => ?_
       obtain ⟨gn,x,rfl,hgn,hx,hxc⟩:=(show newFil wr.heap.size d (Fil.cut (d - 1) f.l[k]) vy w2 by simpa [Flow.upd] using hG 10)
       clear hG
       have HO2:=Lib.hid (owns_below HF.out.own hw2)
       have HC2:=Lib.hid (HC.out.later hw2)
       have HX:=Lib.hid hx
       have HXC:=Lib.hid hxc
       have HW2:=Lib.hid hw2
       have hsz2:=hw2.size
       have husl:us.length≤10:=by have:=HF.out.len;simp at this;omega
       clear hx hxc hw2
       go_wp2_with (at_builtin;refine wpList_append_own_at _ rfl _ _ 29 rfl N1 31 j0 _ 6 88 Tryz.underlying29 ji jz0 jz1 jz2 rfl (by decide) _ us.length _ rfl HO2.out ⟨gn,0,none⟩ 1 1 (cells6 x) rfl ?_ ?_ ?_ ?_ ?_ ?_ ?_)
       ·rw [cells6_len HX.out]
       ·intro j u hj
        rw [show (⟨gn,0,none⟩:Addr).add j=⟨gn,j,none⟩ by unfold Addr.add;split <;> simp_all]
        exact HXC.out j u hj
       ·exact cells6_one HX.out
       ·unfold maxLen;omega
       ·omega
       ·omega
       intro v' w3 hown3 hgrow _ hloc
       have HF3:=Lib.hid (Fils.more (HF.out.below HW2.out) HX.out (fun g' e=>(HF.out.own.lt g' e).2) hszq hown3 hgrow hloc)
       have HP3:=Lib.hid ((HP.out.ag (Ag.new _ HW2.out)).ag (Ag.grown hgrow (fun j e=>by have:=(HO2.out.lt j e).1;rintro ⟨_,h⟩;omega)))
       obtain ⟨gg,cp,rfl,_⟩:=owns_cell_any hown3 (by omega)
       have HC3:=Lib.hid (HC2.out.grown hgrow (fun j e=>by have:=(HO2.out.lt j e).1;omega))
       have hsz3:=hgrow.size
       clear hown3 hgrow hloc
       have z3:=frozen_of_row w3 g 5 _ _ HC3.out.k3
       have c3:=cell_of_row w3 g 5 _ _ _ HC3.out.k3
       simp only [List.getElem?_toArray,List.getElem?_cons_succ,List.getElem?_cons_zero] at c3
       go_wp2
       go_roundw
       case rel=>
        refine ⟨k + 1,_,us ++ [x],by omega,by omega,fun h=>by omega,by go_num,HC3.out.set5 _,HP3.out.ag (Ag.set _ _ _ (by rintro ⟨h,_⟩;have:g + 1≤g:=h;omega)),?_,by simp [World.setCell];omega⟩
        rw [List.take_succ_eq_append_getElem h1,List.map_append,List.map_singleton]
        exact HF3.out.set hgN (fun b hb=>hb.1) _
       case measure=>simp [intOf];omega
      ·have HCT:RowKit.Hid (Fil.cut d f=Fil.mk f.kind (cutN 30 f.name) ((f.words.take 10).map (cutN 110)) f.frm f.to ((f.l.take k).map (Fil.cut (d - 1)))):=Lib.hid (by
        rcases Nat.eq_zero_or_pos d with h0 | h0
        ·have hk0:=HKD.out h0
         subst h0 hk0;rfl
        ·obtain ⟨e,rfl⟩:∃ e,d=e + 1:=⟨d - 1,by omega⟩
         have:f.l.take k=f.l.take 10:=by
          by_cases e10:k=10
          ·rw [e10]
          ·rw [List.take_of_length_le (by omega),List.take_of_length_le (by omega)]
         rw [this];rfl)
       have hFl:=HF.out.listed (q:=fun b=>w.heap.size + 2≤b∧b≠g) (fun b hb=>⟨by have:=hb.1;omega,by have:=hb.1;omega⟩) (fun b hb=>⟨by omega,by omega⟩)
       obtain ⟨la,lc,rfl,hl1,hl2,hl3⟩:=hFl
       obtain ⟨wa,wn,wc,rfl⟩:=HP.out.shape
       have HL3:=Lib.hid hl3
       have HL2:=Lib.hid hl2
       clear hl3 hl2
       have d0:=cell_of_row wr g 0 _ _ _ HC.out.k3
       have d1:=cell_of_row wr g 1 _ _ _ HC.out.k3
       have d2:=cell_of_row wr g 2 _ _ _ HC.out.k3
       have d3:=cell_of_row wr g 3 _ _ _ HC.out.k3
       have d4:=cell_of_row wr g 4 _ _ _ HC.out.k3
       have e0:=cell_of_row wr (w.heap.size + 1) 0 _ _ _ HC.out.k2
       have e1:=cell_of_row wr (w.heap.size + 1) 1 _ _ _ HC.out.k2
       have e2:=cell_of_row wr (w.heap.size + 1) 2 _ _ _ HC.out.k2
       have e3:=cell_of_row wr (w.heap.size + 1) 3 _ _ _ HC.out.k2
       have e4:=cell_of_row wr (w.heap.size + 1) 4 _ _ _ HC.out.k2
       have e5:=cell_of_row wr (w.heap.size + 1) 5 _ _ _ HC.out.k2
       have y0:=frozen_of_row wr (w.heap.size + 1) 0 _ _ HC.out.k2
       have y1:=frozen_of_row wr (w.heap.size + 1) 1 _ _ HC.out.k2
       have y2:=frozen_of_row wr (w.heap.size + 1) 2 _ _ HC.out.k2
       have y3:=frozen_of_row wr (w.heap.size + 1) 3 _ _ HC.out.k2
       have y4:=frozen_of_row wr (w.heap.size + 1) 4 _ _ HC.out.k2
       have y5:=frozen_of_row wr (w.heap.size + 1) 5 _ _ HC.out.k2
       simp only [List.getElem?_toArray,List.getElem?_cons_succ,List.getElem?_cons_zero] at d0 d1 d2 d3 d4 e0 e1 e2 e3 e4 e5
       rcases (show (¬ (k:Int) < (f.l.length:Int))∨((k:Int) < (f.l.length:Int)∧¬ (k:Int) < 10)∨((k:Int) < (f.l.length:Int)∧(k:Int) < 10∧¬ (1:Int) < (d:Int) + 1) by omega) with hni | ⟨hkl,hni⟩ | ⟨hkl,hk10',hni⟩
       all_goals
        clear hlt
        go_wp2
        refine bodyPost_ret (v:=.agg #[.int .i64 f.kind,.string (cutN 30 f.name),.slice wa wn wc,.int .i64 f.frm,.int .i64 f.to,.slice la k lc]) (by simp [results,Tryz.results48,go_sem,e0,e1,e2,e3,e4,e5]) rfl ⟨_,rfl,?_,set6_below _ _ _ _ _ _ HC.out.below (by omega)⟩
        rw [HCT.out]
        refine FilAt.weak (p:=fun b=>w.heap.size + 2≤b∧b≠g) (fun b hb=>by have:=hb.1;omega) ?_
        refine FilAt.ag ?_ (set6_ag _ _ _ _ _ _ _ (by rintro ⟨h,_⟩;omega))
        refine cut_fil (by simp;omega) (by have:=cutN_size 30 f.name;unfold maxLen;omega) (HP.out.weak fun b hb=>⟨by have:=hb.1;omega,by have:=hb.1;omega⟩) (names_small 110 10 f.words (by omega)) hl1 HL2.out HL3.out
end Go.Proofs.YtaddkkkchkdgkaaGreatDoor
