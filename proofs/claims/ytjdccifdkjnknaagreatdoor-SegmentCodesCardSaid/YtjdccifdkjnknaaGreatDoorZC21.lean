/- Joined. -/
import Derived.Test.YtjdccifdkjnknaaGreatDoorZC09
import Derived.Sort.OwnSorted
import Derived.Lib.OwnBridge
import Derived.Test.YtjdccifdkjnknaaGreatDoorZC20
set_option maxRecDepth 100000
set_option maxHeartbeats 4000000
namespace Go.Proofs.Q9
open Go.RowKit Go.Sort Go.Shelf
def BP(l:List ByteArray)(w:World)(e:Ending)(w':World):Prop:=∃v,e = .returned (.tuple #[v,.int .i64 ((Tess.bW l).2:Nat)])/\SlOf w' v ((Tess.bW l).1.map .string)/\Below w.heap.size w w'
theorem daa(g m j:Nat):(⟨g,m,none⟩:Addr).add j=⟨g,m+j,none⟩:=by
 unfold Addr.add
 first|rfl|(split<;>simp_all)
theorem gb2{w w':World}(h:w.grownBy w' none):Below w.heap.size w w':=(qJ _ _).grown h (qC _) (fun k e=>by cases e)
theorem ra51(v:Value)(l:List ByteArray)(w:World)(hv:SlOf w v (l.map .string))(hl:∀y∈l,y.size<=maxLen)(hll:l.length<=10000):Calls Tryz.prog 97 #[v] w (BP l w):=by
 obtain⟨i0,hi,Bc,Be,Bd⟩:=zF diS;obtain⟨a,B3,rfl,Cl,hc⟩:=so2 hv;have HC:=Hd hc;have HL:=Hd hl;clear hc hv hl;unfold BP;go_enter Tryz.func97,Tryz.ntmps97;go_wp2
 go_loopw [4,5] (fun s4 i wr=>∃k:Nat,k<=l.length/\i = .int .i64 k/\(∀j (hj:j<l.length),j<k->l[j].size<=100)/\wr.ownsRow w.heap.size 9 1 s4 (Tess.bT l k).length ((Tess.bT l k).map .string)/\(Tess.bT l k=[]->s4 = .slice none 0 0)/\(∀y∈Tess.bT l k,y.size<=100)/\(Tess.bT l k).length<=k/\Below w.heap.size w wr) (fun _ i _=>l.length-(intOf i).toNat)
 case atStart=>exact⟨0,qN _,rfl,fun j _ h=>absurd h (zH _),qg _ _ _ _,fun _=>rfl,fun y hy=>by simp[Tess.bT]at hy,qC _,qJ _ _⟩
 case round=>
  obtain⟨k,hk,rfl,Bs,B0,Bu,Cd,C0,hB⟩:=hrel;have HA:=Hd Bs;have HO:=Hd B0;have B8:=Hd Bu;have Ce:=Hd Cd;have HB:=Hd hB;clear Bs B0 Bu Cd hB;by_cases hlt:k<l.length
  ·obtain⟨b,Aj,rfl,hb,Bi⟩:=HC.out k hlt;have Br:wr.cell? ⟨b,Aj+k,none⟩=some (.string l[k]):=(HB.out.cell (p:=⟨b,Aj+k,none⟩) hb).trans Bi;have Bf:b<wr.heap.size:=qF hb HB.out.size;have Ch:(k:Int)<(l.length:Int):=by omega
   have Aq:=Hd (Tess.bTs l k hlt);have At:=Hd (Tess.bWl l k hlt);have HX:=Hd (HL.out _ (qP hlt));obtain⟨x,hx⟩:=Xq (l[k])
   have Bk:∀(hx100:x.size<=100) j (hj:j<l.length),j<k+1->l[j].size<=100:=fun hx100 j hj hjk=>by
    by_cases e:j<k
    ·exact HA.out j hj e
    ·obtain rfl:j=k:=by omega
     rw[<-hx];exact hx100
   have Al:=Hd Bk;rw[<-hx]at Br Aq At HX;clear Bi hx Bk HA;by_cases hx100:100<x.size
   ·have HD:=Hd (At.out hx100);have Co:(100:Int)<(x.size:Int):=by omega
    clear At Aq Al;go_wp2;go_ret2;rw[HD.out];exact⟨_,rfl,SlOf.nil _,HB.out⟩
   ·have Co:¬(100:Int)<(x.size:Int):=by omega
    have Ca:=dpa3 _ (Tess.bT l k) x wr (SlOf.owned HO.out) (fun y hy=>by have:=Ce.out y hy;unfold maxLen;omega);have B4:=Tess.pl2 (Tess.bT l k) x
    have A1:=Hd (show Tess.bT l (k+1)=if Tess.place (Tess.bT l k) x<(Tess.bT l k).length/\(Tess.bT l k).getD (Tess.place (Tess.bT l k) x) Tess.w0=x then Tess.bT l k else(Tess.bT l k).take (Tess.place (Tess.bT l k) x)++[x]++(Tess.bT l k).drop (Tess.place (Tess.bT l k) x) by rw[Aq.out];rfl);have Bx:=Hd (show Tess.bT l (k+1)≠[] by rw[Aq.out];exact Tess.iWn _ _)
    have A9:=Hd (show ∀y∈Tess.bT l (k+1),y.size<=100 by rw[Aq.out];intro y hy;rcases Tess.iWm _ _ _ hy with h|h;exact Ce.out y h;rw[h];omega);have Bb:=Hd (show(Tess.bT l (k+1)).length<=k+1 by rw[Aq.out];have:=Tess.iWl (Tess.bT l k) x;omega);generalize hoe:Tess.bT l (k+1)=o2 at *;have Ak:=Hd hoe;clear hoe;generalize Tess.bT l k=o at *;generalize Tess.place o x=n at *;have B1:=Hd Ca;clear Ca At Aq
    by_cases ho:o=[]
    ·have Av:=B8.out ho;subst Av;subst ho;have Cv:n=0:=by simpa using B4
     subst Cv;have Bh:=Hd (show([]:List Value)++[.string x]=o2.map .string by rw[A1.out,qH (fun h=>absurd h.1 (zH _))];rfl);have Cw:=Hd (show 1=o2.length by rw[A1.out,qH (fun h=>absurd h.1 (zH _))];rfl);have C2:decide ((0:Int)<0)=false:=by decide
     go_wp2_with (go_at_call 148;refine B1.out.mono ?_;rintro e w2 ⟨rfl,Ae⟩;have A2:=Hd ((Ae.cell (p:=⟨b,Aj+k,none⟩) Bf).trans Br);have Ay:=Hd (Bt HB.out Ae);have A3:=qF Bf Ae.size;have Ag:=Hd (ob2 HO.out Ae);clear Ae);go_quiet (fail);go_wp2;have A5:=Hd (zi Ay.out nq);have Ao:=Hd (show(w2.drewN nq).cell? ⟨b,Aj+k,none⟩=some (.string x)from A2.out);have Ap:b<(w2.drewN nq).heap.size:=A3
     have Au:=Hd (show(w2.drewN nq).ownsRow w.heap.size 9 1 (.slice none 0 0) ([]:List ByteArray).length (([]:List ByteArray).map .string)from Ag.out);clear Ay A2 A3 Ag;generalize w2.drewN nq=w3 at *
     have Af:∀W,Below w3.heap.size w3 W->∀ty,∃v' w',(Builtin.append_ #[22,22] ty #[.slice none 0 0,.slice none 0 0]).run Tryz.prog W = .ok v' w'/\Below W.heap.size W w'/\w'.ownsRow w3.heap.size 9 1 v' 0 []:=fun W hW ty=>
      ⟨_,_,run_append_owned_none (P:=Tryz.prog) W w3.heap.size 22 ty 9 i0 1 Tryz.underlying22 hi (.slice none 0 0) 0 [] (qg _ _ _ _),qJ _ _,qg _ _ _ _⟩
     have As:=Hd Af;clear Af;refine Flow.wrf 10 (Flow.sp3 [.inl (.slice none 0 0),.inl (.slice none 0 0),.inl (.int .i64 0),.inl (.slice none 0 0),.inr (fun v W=>W.ownsRow w3.heap.size 9 1 v 0 []),.inl (.slice (some ⟨b,Aj,none⟩) l.length B3),.inl (.int .i64 k),.inl (.pointer (some ⟨b,Aj+k,none⟩)),.inl (.string x),.inr (nO2 (.string x))]) (by kernel_rfl) (by kernel_rfl) ?_ ?_
     ·apply Flow.sm2;intro s hs;simp only[qm,zG,jr]at hs;rcases hs with rfl|rfl|rfl|rfl|rfl|rfl|rfl|rfl|rfl|rfl
      all_goals first|exact Flow.mi _|exact nOm _|exact fun v w w' h hb=>ob2 h hb
     iterate 4 (refine Flow.tvK rfl (fun K hK=>⟨fun w hw hG=>?_,?_⟩);(clear hG hw;unfold Flow.Runs Flow.yields;go_simp);go_simp;refine hK _ ?_;clear hK K)
     (refine Flow.tvK2 rfl (fun K hK=>⟨fun w hw hG=>?_,?_⟩);(exact Flow.fa8 (.tmp 41) (.tmp 44) 22 rfl _ rfl _ rfl (As.out _ hw _) (by simp[Region.wanted]));intro vm;go_simp;refine hK _ _ ?_;clear hK K)
     iterate 3 (refine Flow.tvK rfl (fun K hK=>⟨fun w hw hG=>?_,?_⟩);(clear hG hw;unfold Flow.Runs Flow.yields;go_simp);go_simp;refine hK _ ?_;clear hK K)
     (refine Flow.tvK rfl (fun K hK=>⟨fun w hw hG=>?_,?_⟩);(have Bq:=(hw.cell (p:=⟨b,Aj+k,none⟩) Ap).trans Ao.out;clear hG hw;unfold Flow.Runs Flow.yields;go_simp);go_simp;refine hK _ ?_;clear hK K)
     (refine Flow.tvK2 rfl (fun K hK=>⟨fun w hw hG=>?_,?_⟩);(clear hG hw;unfold Flow.Runs Flow.yields;go_simp;exact⟨(qJ _ _).alloc (qC _) _,nOm2 _ _ _⟩);intro vz;go_simp;refine hK _ _ ?_;clear hK K)
     refine Flow.tn2 fun w4 hw4 hG=>?_;have A4:w4.ownsRow w3.heap.size 9 1 vm 0 []:=by simpa[Flow.upd]using hG 4
     obtain⟨gn,rfl,B5,Bo⟩:=(show nO2 (.string x) vz w4 by simpa[Flow.upd]using hG 9)
     clear hG;have A6:=Hd A4;have Bm:=Hd hw4;have Av:=hw4.size;clear A4 hw4;simp only[qM,qV];go_wp2_with (at_builtin;refine qq _ rfl _ _ 22 rfl w3.heap.size 9 i0 (.string ByteArray.empty) 1 16 Tryz.underlying22 hi Bc Be Bd rfl (by decide) _ _ _ rfl A6.out ⟨gn,0,none⟩ 1 1 [.string x] rfl rfl ?_ ?_ ?_ ?_ ?_ ?_)
     ·intro j u hj;rcases j with _|j<;>simp at hj;subst hj;simpa[Addr.add]using Bo
     ·simp[Value.oneCell']
     ·unfold maxLen;omega
     ·omega
     ·exact Av
     intro v5 w5 Ad Aa _;have Ar:Below w3.heap.size w3 w5:=Bm.out.grown Aa Av (fun j e=>(A6.out.lt j e).1);have A0:=Hd Ad;have Bl:=Hd Ar;have Bg:=Ar.size;clear Ad Aa Ar;go_wp2_with (at_builtin;refine wLa3 _ rfl _ _ 22 rfl w3.heap.size 9 i0 1 Tryz.underlying22 hi _ _ _ rfl A0.out rfl ?_);go_wp2;go_roundw
     case rel=>
      have Bn:=jo A0.out Bh.out;exact⟨k+1,by omega,by go_num,Al.out (by omega),by rw[Ak.out];exact ol3 (by rw[<-Cw.out];simpa using Bn) A5.out.size,by rw[Ak.out];exact fun h=>absurd h Bx.out,by rw[Ak.out];exact A9.out,by rw[Ak.out];exact Bb.out,Bt A5.out Bl.out⟩
     case measure=>simp[intOf];omega
    ·obtain⟨g,cp,rfl,C3,Bz,Cs,B9⟩:=oc2 HO.out (qAw.2 ho);have C1:(n:Int)<=(cp:Int):=by omega
     have Cg:(n:Int)<=(o.length:Int):=by omega
     have Ck:(0:Int)<=(n:Int):=by omega
     have Ba:∀j (hj:j<o.length),wr.cell? ⟨g,j,none⟩=some (.string o[j]):=fun j hj=>by have h2:=(B9 j (by simpa using hj)).1;rw[qj]at h2;rw[h2];simp[hj]
     have Cp:=Hd Ba;clear B9 Ba;by_cases hnn:n<o.length
     ·have Bp:(n:Int)<(o.length:Int):=by omega
      have B7:decide ((n:Int)<(o.length:Int))=true:=decide_eq_true Bp;have B2:o.getD n Tess.w0=o[n]:=Tess.getD_lt o n hnn;obtain⟨y,hy⟩:=Xq (o[n])
      have Cb:wr.cell? ⟨g,n,none⟩=some (.string y):=by rw[Cp.out n hnn,hy]
      by_cases heq:y=x
      ·have Ct:=Hd (show o2=o by rw[A1.out,qR ⟨hnn,by rw[B2,<-hy,heq]⟩]);have Cx:(y.toList==x.toList)=true:=by rw[heq];simp
       clear hy heq B2;go_wp2_with (go_at_call 148;refine B1.out.mono ?_;rintro e w2 ⟨rfl,Ae⟩;have Bq:=(Ae.cell (p:=⟨b,Aj+k,none⟩) Bf).trans Br;have Cc:=(Ae.cell (p:=⟨g,n,none⟩) Bz).trans Cb;have Ay:=Hd (Bt HB.out Ae);have Ag:=Hd (ob2 HO.out Ae);clear Ae);go_quiet (fail);go_wp2;go_roundw
       case rel=>exact⟨k+1,by omega,by go_num,Al.out (by omega),by rw[Ak.out,Ct.out];exact Ag.out,by rw[Ak.out];exact fun h=>absurd h Bx.out,by rw[Ak.out];exact A9.out,by rw[Ak.out];exact Bb.out,zi Ay.out _⟩
       case measure=>simp[intOf];omega
      ·have Bh:=Hd (show o2=o.take n++[x]++o.drop n by rw[A1.out,qH (fun h=>heq (by rw[hy,<-B2];exact h.2))]);have Cx:(y.toList==x.toList)=false:=by rw[qi];intro h;exact heq (Tess.toList_inj h)
       clear hy heq B2;go_wp2_with (go_at_call 148;refine B1.out.mono ?_;rintro e w2 ⟨rfl,Ae⟩;have Bq:=(Ae.cell (p:=⟨b,Aj+k,none⟩) Bf).trans Br;have Cc:=(Ae.cell (p:=⟨g,n,none⟩) Bz).trans Cb;have A2:=Hd Bq;have Ay:=Hd (Bt HB.out Ae);have A3:=qF Bf Ae.size;have Ag:=Hd (ob2 HO.out Ae);clear Ae);go_quiet (fail);go_wp2;clear Bq Cc;have A5:=Hd (zi Ay.out nq)
       have Ao:=Hd (show(w2.drewN nq).cell? ⟨b,Aj+k,none⟩=some (.string x)from A2.out);have Ap:b<(w2.drewN nq).heap.size:=A3;have Au:=Hd (show(w2.drewN nq).ownsRow w.heap.size 9 1 (.slice (some ⟨g,0,none⟩) o.length cp) o.length (o.map .string)from Ag.out);clear Ay A2 A3 Ag;generalize w2.drewN nq=w3 at *;obtain⟨g',A7,Bj,_,Ai,_,Am⟩:=oc2 Au.out (qAw.2 ho)
       obtain⟨rfl,rfl⟩:g'=g/\A7=cp:=by cases Bj;exact⟨rfl,rfl⟩
       have Ab:∀j (hj:j<o.length),w3.cell? ⟨g',j,none⟩=some (.string o[j]):=fun j hj=>by have h2:=(Am j (by simpa using hj)).1;rw[qj]at h2;rw[h2];simp[hj]
       have Ax:=Hd Ab;have Aw:=Hd Ai;clear Ab Am Bj Ai
       have Af:∀W,Below w3.heap.size w3 W->∀ty,∃v' w',(Builtin.append_ #[22,22] ty #[.slice none 0 0,.slice (some ⟨g',0,none⟩) n A7]).run Tryz.prog W = .ok v' w'/\Below W.heap.size W w'/\w'.ownsRow w3.heap.size 9 1 v' n ((o.take n).map .string):=fun W hW ty=>by
        obtain⟨v',w',h1,h2,h3,_⟩:=run_append_own (P:=Tryz.prog) W w3.heap.size 22 ty 9 i0 (.string ByteArray.empty) 1 16 Tryz.underlying22 hi Bc Be Bd rfl (by decide) (.slice none 0 0) 0 [] (qg _ _ _ _) ⟨g',0,none⟩ n A7 ((o.take n).map .string) (by first|(simp;done)|(simp;omega)) (fun j u hj=>by
         have By:j<n:=by
          rcases jb j n with h|h
          ·exact h
          ·rw[yL (by simp;omega)]at hj;cases hj
         have Az:j<o.length:=by omega
         have hu:u = .string o[j]:=by rw[qp,xo By,qD Az]at hj;exact(zr hj).symm
         rw[hu];have h5:=(hW.cell (p:=⟨g',j,none⟩) Aw.out).trans (Ax.out j Az);rw[daa,qj]
         exact h5) (fun u hu=>by obtain⟨z,_,rfl⟩:=qd.1 hu;rfl) (by unfold maxLen;omega) (by omega) hW.size
        exact⟨v',w',h1,gb2 h3,by simpa using h2⟩
       obtain⟨lp,A8⟩:=Xq ((o.take n).map Value.string)
       rw[<-A8]at Af;have Bw:=Hd A8;clear A8;have As:=Hd Af;clear Af
       refine Flow.wrf 10 (Flow.sp3 [.inl (.slice none 0 0),.inl (.slice (some ⟨g',0,none⟩) o.length A7),.inl (.int .i64 n),.inl (.slice (some ⟨g',0,none⟩) n A7),.inr (fun v W=>W.ownsRow w3.heap.size 9 1 v n lp),.inl (.slice (some ⟨b,Aj,none⟩) l.length B3),.inl (.int .i64 k),.inl (.pointer (some ⟨b,Aj+k,none⟩)),.inl (.string x),.inr (nO2 (.string x))]) (by kernel_rfl) (by kernel_rfl) ?_ ?_
       ·apply Flow.sm2;intro s hs;simp only[qm,zG,jr]at hs;rcases hs with rfl|rfl|rfl|rfl|rfl|rfl|rfl|rfl|rfl|rfl
        all_goals first|exact Flow.mi _|exact nOm _|exact fun v w w' h hb=>ob2 h hb
       iterate 4 (refine Flow.tvK rfl (fun K hK=>⟨fun w hw hG=>?_,?_⟩);(clear hG hw;unfold Flow.Runs Flow.yields;go_simp);go_simp;refine hK _ ?_;clear hK K)
       (refine Flow.tvK2 rfl (fun K hK=>⟨fun w hw hG=>?_,?_⟩);(exact Flow.fa8 (.tmp 41) (.tmp 44) 22 rfl _ rfl _ rfl (As.out _ hw _) (by simp[Region.wanted]));intro vm;go_simp;refine hK _ _ ?_;clear hK K)
       iterate 3 (refine Flow.tvK rfl (fun K hK=>⟨fun w hw hG=>?_,?_⟩);(clear hG hw;unfold Flow.Runs Flow.yields;go_simp);go_simp;refine hK _ ?_;clear hK K)
       (refine Flow.tvK rfl (fun K hK=>⟨fun w hw hG=>?_,?_⟩);(have Bq:=(hw.cell (p:=⟨b,Aj+k,none⟩) Ap).trans Ao.out;clear hG hw;unfold Flow.Runs Flow.yields;go_simp);go_simp;refine hK _ ?_;clear hK K)
       (refine Flow.tvK2 rfl (fun K hK=>⟨fun w hw hG=>?_,?_⟩);(clear hG hw;unfold Flow.Runs Flow.yields;go_simp;exact⟨(qJ _ _).alloc (qC _) _,nOm2 _ _ _⟩);intro vz;go_simp;refine hK _ _ ?_;clear hK K)
       refine Flow.tn2 fun w4 hw4 hG=>?_;have A4:w4.ownsRow w3.heap.size 9 1 vm n lp:=by simpa[Flow.upd]using hG 4
       obtain⟨gn,rfl,B5,Bo⟩:=(show nO2 (.string x) vz w4 by simpa[Flow.upd]using hG 9)
       clear hG;have A6:=Hd A4;have Bm:=Hd hw4;have Av:=hw4.size;clear A4 hw4;simp only[qM,qV];go_wp2_with (at_builtin;refine qq _ rfl _ _ 22 rfl w3.heap.size 9 i0 (.string ByteArray.empty) 1 16 Tryz.underlying22 hi Bc Be Bd rfl (by decide) _ _ _ rfl A6.out ⟨gn,0,none⟩ 1 1 [.string x] rfl rfl ?_ ?_ ?_ ?_ ?_ ?_)
       ·intro j u hj;rcases j with _|j<;>simp at hj;subst hj;simpa[Addr.add]using Bo
       ·simp[Value.oneCell']
       ·unfold maxLen;omega
       ·omega
       ·exact Av
       intro v5 w5 Ad Aa _;have Ar:Below w3.heap.size w3 w5:=Bm.out.grown Aa Av (fun j e=>(A6.out.lt j e).1);have A0:=Hd Ad;have Bl:=Hd Ar;have Bg:=Ar.size;clear Ad Aa Ar
       have Cf:∀j u,((o.drop n).map Value.string)[j]?=some u->w5.cell? ((⟨g',n,none⟩:Addr).add j)=some u:=fun j u hj=>by
        have Az:n+j<o.length:=by
         rcases jb (n+j) o.length with h|h
         ·exact h
         ·rw[yL (by simp;omega)]at hj;cases hj
        have hu:u = .string o[n+j]:=by simp[Az]at hj;exact hj.symm
        rw[hu];have h5:=(Bl.out.cell (p:=⟨g',n+j,none⟩) Aw.out).trans (Ax.out (n+j) Az);rw[daa];exact h5
       have Cu:=Hd Cf;clear Cf;go_wp2_with (at_builtin;refine qq _ rfl _ _ 22 rfl w3.heap.size 9 i0 (.string ByteArray.empty) 1 16 Tryz.underlying22 hi Bc Be Bd rfl (by decide) _ _ _ rfl A0.out ⟨g',n,none⟩ (o.length-n) _ ((o.drop n).map Value.string) rfl (by simp) Cu.out (fun u hu=>by obtain⟨z,_,rfl⟩:=qd.1 hu;rfl) ?_ ?_ ?_ ?_)
       ·unfold maxLen;omega
       ·omega
       ·exact Bg
       intro v6 w6 Ah Ac _;have Bn:=Hd Ah;have Bv:=Hd (Bt A5.out ((Bl.out).grown Ac Bg (fun j e=>(A0.out.lt j e).1)));clear Ah Ac;go_wp2;go_roundw
       case rel=>
        have An:n+1+(o.length-n)=o2.length:=by rw[Bh.out];simp only[qI,qy,zn,zX];omega
        have h5:=Bn.out;rw[An]at h5;have h6:w6.ownsRow w3.heap.size 9 1 v6 o2.length (o2.map .string):=jo h5 (by rw[Bh.out,Bw.out];simp);exact⟨k+1,by omega,by go_num,Al.out (by omega),by rw[Ak.out];exact ol3 h6 A5.out.size,by rw[Ak.out];exact fun h=>absurd h Bx.out,by rw[Ak.out];exact A9.out,by rw[Ak.out];exact Bb.out,Bv.out⟩
       case measure=>simp[intOf];omega
     ·obtain rfl:n=o.length:=by omega
      have Bp:¬(o.length:Int)<(o.length:Int):=by omega
      have B7:decide ((o.length:Int)<(o.length:Int))=false:=qG Bp;have Bh:=Hd (show o2=o.take o.length++[x]++o.drop o.length by rw[A1.out,qH (fun h=>hnn h.1)]);clear Cg hnn;by_cases hcc:cp=o.length
      ·subst hcc;go_wp2_with (go_at_call 148;refine B1.out.mono ?_;rintro e w2 ⟨rfl,Ae⟩;have A2:=Hd ((Ae.cell (p:=⟨b,Aj+k,none⟩) Bf).trans Br);have Ay:=Hd (Bt HB.out Ae);have A3:=qF Bf Ae.size;have Ag:=Hd (ob2 HO.out Ae);clear Ae);go_quiet (fail);go_wp2;have A5:=Hd (zi Ay.out nq);have Ao:=Hd (show(w2.drewN nq).cell? ⟨b,Aj+k,none⟩=some (.string x)from A2.out);have Ap:b<(w2.drewN nq).heap.size:=A3
       have Au:=Hd (show(w2.drewN nq).ownsRow w.heap.size 9 1 (.slice (some ⟨g,0,none⟩) o.length o.length) o.length (o.map .string)from Ag.out);clear Ay A2 A3 Ag;generalize w2.drewN nq=w3 at *;obtain⟨g',C4,Bj,_,Ai,_,Am⟩:=oc2 Au.out (qAw.2 ho);obtain rfl:g'=g:=by cases Bj;rfl
       have Ab:∀j (hj:j<o.length),w3.cell? ⟨g',j,none⟩=some (.string o[j]):=fun j hj=>by have h2:=(Am j (by simpa using hj)).1;rw[qj]at h2;rw[h2];simp[hj]
       have Ax:=Hd Ab;have Aw:=Hd Ai;clear Ab Am Bj Ai
       have Af:∀W,Below w3.heap.size w3 W->∀ty,∃v' w',(Builtin.append_ #[22,22] ty #[.slice none 0 0,.slice (some ⟨g',0,none⟩) o.length o.length]).run Tryz.prog W = .ok v' w'/\Below W.heap.size W w'/\w'.ownsRow w3.heap.size 9 1 v' o.length ((o.take o.length).map .string):=fun W hW ty=>by
        obtain⟨v',w',h1,h2,h3,_⟩:=run_append_own (P:=Tryz.prog) W w3.heap.size 22 ty 9 i0 (.string ByteArray.empty) 1 16 Tryz.underlying22 hi Bc Be Bd rfl (by decide) (.slice none 0 0) 0 [] (qg _ _ _ _) ⟨g',0,none⟩ o.length o.length ((o.take o.length).map .string) (by first|(simp;done)|(simp;omega)) (fun j u hj=>by
         have By:j<o.length:=by
          rcases jb j o.length with h|h
          ·exact h
          ·rw[yL (by simp;omega)]at hj;cases hj
         have Az:j<o.length:=by omega
         have hu:u = .string o[j]:=by rw[qp,xo By,qD Az]at hj;exact(zr hj).symm
         rw[hu];have h5:=(hW.cell (p:=⟨g',j,none⟩) Aw.out).trans (Ax.out j Az);rw[daa,qj]
         exact h5) (fun u hu=>by obtain⟨z,_,rfl⟩:=qd.1 hu;rfl) (by unfold maxLen;omega) (by omega) hW.size
        exact⟨v',w',h1,gb2 h3,by simpa using h2⟩
       obtain⟨lp,A8⟩:=Xq ((o.take o.length).map Value.string)
       rw[<-A8]at Af;have Bw:=Hd A8;clear A8;have As:=Hd Af;clear Af
       refine Flow.wrf 10 (Flow.sp3 [.inl (.slice none 0 0),.inl (.slice (some ⟨g',0,none⟩) o.length o.length),.inl (.int .i64 (o.length:Nat)),.inl (.slice (some ⟨g',0,none⟩) o.length o.length),.inr (fun v W=>W.ownsRow w3.heap.size 9 1 v o.length lp),.inl (.slice (some ⟨b,Aj,none⟩) l.length B3),.inl (.int .i64 k),.inl (.pointer (some ⟨b,Aj+k,none⟩)),.inl (.string x),.inr (nO2 (.string x))]) (by kernel_rfl) (by kernel_rfl) ?_ ?_
       ·apply Flow.sm2;intro s hs;simp only[qm,zG,jr]at hs;rcases hs with rfl|rfl|rfl|rfl|rfl|rfl|rfl|rfl|rfl|rfl
        all_goals first|exact Flow.mi _|exact nOm _|exact fun v w w' h hb=>ob2 h hb
       iterate 4 (refine Flow.tvK rfl (fun K hK=>⟨fun w hw hG=>?_,?_⟩);(clear hG hw;unfold Flow.Runs Flow.yields;go_simp);go_simp;refine hK _ ?_;clear hK K)
       (refine Flow.tvK2 rfl (fun K hK=>⟨fun w hw hG=>?_,?_⟩);(exact Flow.fa8 (.tmp 41) (.tmp 44) 22 rfl _ rfl _ rfl (As.out _ hw _) (by simp[Region.wanted]));intro vm;go_simp;refine hK _ _ ?_;clear hK K)
       iterate 3 (refine Flow.tvK rfl (fun K hK=>⟨fun w hw hG=>?_,?_⟩);(clear hG hw;unfold Flow.Runs Flow.yields;go_simp);go_simp;refine hK _ ?_;clear hK K)
       (refine Flow.tvK rfl (fun K hK=>⟨fun w hw hG=>?_,?_⟩);(have Bq:=(hw.cell (p:=⟨b,Aj+k,none⟩) Ap).trans Ao.out;clear hG hw;unfold Flow.Runs Flow.yields;go_simp);go_simp;refine hK _ ?_;clear hK K)
       (refine Flow.tvK2 rfl (fun K hK=>⟨fun w hw hG=>?_,?_⟩);(clear hG hw;unfold Flow.Runs Flow.yields;go_simp;exact⟨(qJ _ _).alloc (qC _) _,nOm2 _ _ _⟩);intro vz;go_simp;refine hK _ _ ?_;clear hK K)
       refine Flow.tn2 fun w4 hw4 hG=>?_;have A4:w4.ownsRow w3.heap.size 9 1 vm o.length lp:=by simpa[Flow.upd]using hG 4
       obtain⟨gn,rfl,B5,Bo⟩:=(show nO2 (.string x) vz w4 by simpa[Flow.upd]using hG 9)
       clear hG;have A6:=Hd A4;have Bm:=Hd hw4;have Av:=hw4.size;clear A4 hw4;simp only[qM,qV];go_wp2_with (at_builtin;refine qq _ rfl _ _ 22 rfl w3.heap.size 9 i0 (.string ByteArray.empty) 1 16 Tryz.underlying22 hi Bc Be Bd rfl (by decide) _ _ _ rfl A6.out ⟨gn,0,none⟩ 1 1 [.string x] rfl rfl ?_ ?_ ?_ ?_ ?_ ?_)
       ·intro j u hj;rcases j with _|j<;>simp at hj;subst hj;simpa[Addr.add]using Bo
       ·simp[Value.oneCell']
       ·unfold maxLen;omega
       ·omega
       ·exact Av
       intro v5 w5 Ad Aa _;have Ar:Below w3.heap.size w3 w5:=Bm.out.grown Aa Av (fun j e=>(A6.out.lt j e).1);have A0:=Hd Ad;have Bl:=Hd Ar;have Bg:=Ar.size;clear Ad Aa Ar
       go_wp2_with (at_builtin;refine qq _ rfl _ _ 22 rfl w3.heap.size 9 i0 (.string ByteArray.empty) 1 16 Tryz.underlying22 hi Bc Be Bd rfl (by decide) _ _ _ rfl A0.out _ 0 _ [] rfl rfl (fun j u hj=>by simp at hj) (fun u hu=>by simp at hu) ?_ ?_ ?_ ?_)
       ·unfold maxLen;omega
       ·omega
       ·exact Bg
       intro v6 w6 Ah Ac _;have Bn:=Hd Ah;have Bv:=Hd (Bt A5.out ((Bl.out).grown Ac Bg (fun j e=>(A0.out.lt j e).1)));clear Ah Ac;go_wp2;go_roundw
       case rel=>
        have An:o.length+1+0=o2.length:=by rw[Bh.out];simp only[qI,qy,zn,zX];omega
        have h5:=Bn.out;rw[An]at h5;have h6:w6.ownsRow w3.heap.size 9 1 v6 o2.length (o2.map .string):=jo h5 (by rw[Bh.out,Bw.out];simp);exact⟨k+1,by omega,by go_num,Al.out (by omega),by rw[Ak.out];exact ol3 h6 A5.out.size,by rw[Ak.out];exact fun h=>absurd h Bx.out,by rw[Ak.out];exact A9.out,by rw[Ak.out];exact Bb.out,Bv.out⟩
       case measure=>simp[intOf];omega
      ·have Cq:¬cp-o.length=0:=by omega
       have Cr:(o.length:Int)<(cp:Int):=by omega
       have Cm:¬(cp:Int)-(o.length:Int)=0:=by omega
       go_wp2_with (go_at_call 148;refine B1.out.mono ?_;rintro e w2 ⟨rfl,Ae⟩;have A2:=Hd ((Ae.cell (p:=⟨b,Aj+k,none⟩) Bf).trans Br);have Ay:=Hd (Bt HB.out Ae);have A3:=qF Bf Ae.size;have Ag:=Hd (ob2 HO.out Ae);clear Ae);go_quiet (fail);go_wp2;have A5:=Hd (zi Ay.out nq);have Ao:=Hd (show(w2.drewN nq).cell? ⟨b,Aj+k,none⟩=some (.string x)from A2.out);have Ap:b<(w2.drewN nq).heap.size:=A3
       have Au:=Hd (show(w2.drewN nq).ownsRow w.heap.size 9 1 (.slice (some ⟨g,0,none⟩) o.length cp) o.length (o.map .string)from Ag.out);clear Ay A2 A3 Ag;generalize w2.drewN nq=w3 at *;obtain⟨g',A7,Bj,_,Ai,_,Am⟩:=oc2 Au.out (qAw.2 ho);obtain⟨rfl,rfl⟩:g'=g/\A7=cp:=by cases Bj;exact⟨rfl,rfl⟩
       have Ab:∀j (hj:j<o.length),w3.cell? ⟨g',j,none⟩=some (.string o[j]):=fun j hj=>by have h2:=(Am j (by simpa using hj)).1;rw[qj]at h2;rw[h2];simp[hj]
       have Ax:=Hd Ab;have Aw:=Hd Ai;clear Ab Am Bj Ai
       have Af:∀W,Below w3.heap.size w3 W->∀ty,∃v' w',(Builtin.append_ #[22,22] ty #[.slice none 0 0,.slice (some ⟨g',0,none⟩) o.length A7]).run Tryz.prog W = .ok v' w'/\Below W.heap.size W w'/\w'.ownsRow w3.heap.size 9 1 v' o.length ((o.take o.length).map .string):=fun W hW ty=>by
        obtain⟨v',w',h1,h2,h3,_⟩:=run_append_own (P:=Tryz.prog) W w3.heap.size 22 ty 9 i0 (.string ByteArray.empty) 1 16 Tryz.underlying22 hi Bc Be Bd rfl (by decide) (.slice none 0 0) 0 [] (qg _ _ _ _) ⟨g',0,none⟩ o.length A7 ((o.take o.length).map .string) (by first|(simp;done)|(simp;omega)) (fun j u hj=>by
         have By:j<o.length:=by
          rcases jb j o.length with h|h
          ·exact h
          ·rw[yL (by simp;omega)]at hj;cases hj
         have Az:j<o.length:=by omega
         have hu:u = .string o[j]:=by rw[qp,xo By,qD Az]at hj;exact(zr hj).symm
         rw[hu];have h5:=(hW.cell (p:=⟨g',j,none⟩) Aw.out).trans (Ax.out j Az);rw[daa,qj]
         exact h5) (fun u hu=>by obtain⟨z,_,rfl⟩:=qd.1 hu;rfl) (by unfold maxLen;omega) (by omega) hW.size
        exact⟨v',w',h1,gb2 h3,by simpa using h2⟩
       obtain⟨lp,A8⟩:=Xq ((o.take o.length).map Value.string)
       rw[<-A8]at Af;have Bw:=Hd A8;clear A8;have As:=Hd Af;clear Af
       refine Flow.wrf 10 (Flow.sp3 [.inl (.slice none 0 0),.inl (.slice (some ⟨g',0,none⟩) o.length A7),.inl (.int .i64 (o.length:Nat)),.inl (.slice (some ⟨g',0,none⟩) o.length A7),.inr (fun v W=>W.ownsRow w3.heap.size 9 1 v o.length lp),.inl (.slice (some ⟨b,Aj,none⟩) l.length B3),.inl (.int .i64 k),.inl (.pointer (some ⟨b,Aj+k,none⟩)),.inl (.string x),.inr (nO2 (.string x))]) (by kernel_rfl) (by kernel_rfl) ?_ ?_
       ·apply Flow.sm2;intro s hs;simp only[qm,zG,jr]at hs;rcases hs with rfl|rfl|rfl|rfl|rfl|rfl|rfl|rfl|rfl|rfl
        all_goals first|exact Flow.mi _|exact nOm _|exact fun v w w' h hb=>ob2 h hb
       iterate 4 (refine Flow.tvK rfl (fun K hK=>⟨fun w hw hG=>?_,?_⟩);(clear hG hw;unfold Flow.Runs Flow.yields;go_simp);go_simp;refine hK _ ?_;clear hK K)
       (refine Flow.tvK2 rfl (fun K hK=>⟨fun w hw hG=>?_,?_⟩);(exact Flow.fa8 (.tmp 41) (.tmp 44) 22 rfl _ rfl _ rfl (As.out _ hw _) (by simp[Region.wanted]));intro vm;go_simp;refine hK _ _ ?_;clear hK K)
       iterate 3 (refine Flow.tvK rfl (fun K hK=>⟨fun w hw hG=>?_,?_⟩);(clear hG hw;unfold Flow.Runs Flow.yields;go_simp);go_simp;refine hK _ ?_;clear hK K)
       (refine Flow.tvK rfl (fun K hK=>⟨fun w hw hG=>?_,?_⟩);(have Bq:=(hw.cell (p:=⟨b,Aj+k,none⟩) Ap).trans Ao.out;clear hG hw;unfold Flow.Runs Flow.yields;go_simp);go_simp;refine hK _ ?_;clear hK K)
       (refine Flow.tvK2 rfl (fun K hK=>⟨fun w hw hG=>?_,?_⟩);(clear hG hw;unfold Flow.Runs Flow.yields;go_simp;exact⟨(qJ _ _).alloc (qC _) _,nOm2 _ _ _⟩);intro vz;go_simp;refine hK _ _ ?_;clear hK K)
       refine Flow.tn2 fun w4 hw4 hG=>?_;have A4:w4.ownsRow w3.heap.size 9 1 vm o.length lp:=by simpa[Flow.upd]using hG 4
       obtain⟨gn,rfl,B5,Bo⟩:=(show nO2 (.string x) vz w4 by simpa[Flow.upd]using hG 9)
       clear hG;have A6:=Hd A4;have Bm:=Hd hw4;have Av:=hw4.size;clear A4 hw4;simp only[qM,qV];go_wp2_with (at_builtin;refine qq _ rfl _ _ 22 rfl w3.heap.size 9 i0 (.string ByteArray.empty) 1 16 Tryz.underlying22 hi Bc Be Bd rfl (by decide) _ _ _ rfl A6.out ⟨gn,0,none⟩ 1 1 [.string x] rfl rfl ?_ ?_ ?_ ?_ ?_ ?_)
       ·intro j u hj;rcases j with _|j<;>simp at hj;subst hj;simpa[Addr.add]using Bo
       ·simp[Value.oneCell']
       ·unfold maxLen;omega
       ·omega
       ·exact Av
       intro v5 w5 Ad Aa _;have Ar:Below w3.heap.size w3 w5:=Bm.out.grown Aa Av (fun j e=>(A6.out.lt j e).1);have A0:=Hd Ad;have Bl:=Hd Ar;have Bg:=Ar.size;clear Ad Aa Ar
       go_wp2_with (at_builtin;refine qq _ rfl _ _ 22 rfl w3.heap.size 9 i0 (.string ByteArray.empty) 1 16 Tryz.underlying22 hi Bc Be Bd rfl (by decide) _ _ _ rfl A0.out _ 0 _ [] rfl rfl (fun j u hj=>by simp at hj) (fun u hu=>by simp at hu) ?_ ?_ ?_ ?_)
       ·unfold maxLen;omega
       ·omega
       ·exact Bg
       intro v6 w6 Ah Ac _;have Bn:=Hd Ah;have Bv:=Hd (Bt A5.out ((Bl.out).grown Ac Bg (fun j e=>(A0.out.lt j e).1)));clear Ah Ac;go_wp2;go_roundw
       case rel=>
        have An:o.length+1+0=o2.length:=by rw[Bh.out];simp only[qI,qy,zn,zX];omega
        have h5:=Bn.out;rw[An]at h5;have h6:w6.ownsRow w3.heap.size 9 1 v6 o2.length (o2.map .string):=jo h5 (by rw[Bh.out,Bw.out];simp);exact⟨k+1,by omega,by go_num,Al.out (by omega),by rw[Ak.out];exact ol3 h6 A5.out.size,by rw[Ak.out];exact fun h=>absurd h Bx.out,by rw[Ak.out];exact A9.out,by rw[Ak.out];exact Bb.out,Bv.out⟩
       case measure=>simp[intOf];omega
  ·obtain rfl:k=l.length:=by omega
   have HD:=Hd (Tess.bWo l (fun j hj=>HA.out j hj hj));have B6:=SlOf.owned HO.out;have Ch:¬(l.length:Int)<(l.length:Int):=by omega
   generalize Tess.bT l l.length=o at *;obtain⟨a4,Cn,rfl,Cz,Ci⟩:=so2 B6;have Cy:=Hd B6;clear B6 Ci;by_cases h1000:1000<o.length
   ·have Cj:(1000:Int)<(o.length:Int):=by omega
    rw[qR h1000]at HD;go_wp2;go_ret2;rw[HD.out];exact⟨_,rfl,SlOf.nil _,HB.out⟩
   ·have Cj:¬(1000:Int)<(o.length:Int):=by omega
    rw[qH h1000]at HD;go_wp2;go_ret2;rw[HD.out];exact⟨_,rfl,Cy.out,HB.out⟩
theorem so8(base g cap:Nat)(ss:List (List UInt8))(w:World)(h:w.ownsRow base 9 1 (.slice (some ⟨g,0,none⟩) ss.length cap) ss.length (ss.map encStr))(hsz:ss.length<4611686018427387904) :
  Calls Tryz.prog 158 #[.slice (some ⟨g,0,none⟩) ss.length cap] w fun e w'=>e = .returned (.tuple #[])/\w'.ownsRow base 9 1 (.slice (some ⟨g,0,none⟩) ss.length cap) ss.length ((ss.mergeSort fun x y=>decide (x<=y)).map encStr)/\Below base w w':=by
 obtain⟨_,⟨hv,_⟩|⟨g',Ab,Ac,hv,Aa,hb,h1,h2,h3,h4⟩⟩:=h
 ·cases hv
 ·cases hv
  refine(Tryz.slices_Sort_string g 0 cap ss w (holds_of_block hb (by simpa using h4)) (qA.1 hb).1 hsz).mono ?_;rintro e w' ⟨rfl,n,os,rfl⟩;exact⟨rfl,ownsRow_sorted (by simp) Aa hb h1 h2 h3,(qJ _ _).grown (grownBy_sorted _) (qt Aa (yV (qA.1 hb).1)) (fun k e=>by cases e;exact Aa)⟩
theorem co4(base g cap:Nat)(ss:List (List UInt8))(w:World)(h:w.ownsRow base 9 1 (.slice (some ⟨g,0,none⟩) ss.length cap) ss.length (ss.map encStr))(hsz:ss.length<=9223372036854775807) :
  Calls Tryz.prog 159 #[.slice (some ⟨g,0,none⟩) ss.length cap] w fun e w'=>e = .returned (.slice (some ⟨g,0,none⟩) (Lib.compact ss).length cap)/\w'.ownsRow base 9 1 (.slice (some ⟨g,0,none⟩) (Lib.compact ss).length cap) (Lib.compact ss).length ((Lib.compact ss).map encStr)/\Below base w w':=by
 have h0:=h;obtain⟨g',Ac,hv,Aa,Ad,hn,hm,hl,hH⟩:=Lib.holds_of_ownsRow h (by intro e;cases e);cases hv
 refine(Tryz.slices_Compact_string g 0 cap ss w hH hsz hn).mono ?_;rintro e w' ⟨rfl,q,rfl⟩;have Ab:=Lib.compact_length_le ss;have h5:=Lib.ownsRow_putRow (q:=q) (k:=(Lib.compact ss).length) (ys:=Lib.compact ss++List.replicate (ss.length-(Lib.compact ss).length) []) h0 (by simp;omega) Ab;rw[qBk]at h5;exact⟨rfl,h5,Lib.below_putRow (qJ _ _) Aa⟩
theorem eb2(l:List ByteArray):(Tess.bytesOf l).map encStr=l.map .string:=Lib.map_encStr l
theorem eb3(l:List (List UInt8)):(l.map fun b=>(⟨b.toArray⟩:ByteArray)).map Value.string=l.map encStr:=by rw[xe];rfl
theorem ba5(v:Value)(l:List ByteArray)(w:World)(hv:SlOf w v (l.map .string))(hll:l.length<=10000):Calls Tryz.prog 119 #[v] w (BP l w):=by
 obtain⟨i0,hi,Bd,A5,Bk⟩:=zF diS;have Ae:=Hd (dcl v l w hv);obtain⟨a,Bo,rfl,Bi,hc⟩:=so2 hv;have HV:=Hd hv;clear hc hv;unfold BP;go_enter Tryz.func119,Tryz.ntmps119;go_wp2;refine wsf 0 rfl ?_;by_cases hlong:l.any Tess.diL=true
 ·rw[hlong]at Ae;go_wp2_with (go_at_call 156;refine Ae.out.mono ?_;rintro e w2 ⟨rfl,hB⟩;have HB:=Hd hB;clear hB);go_step3;refine Exit.tg2 (Exit.fg2 ?_);go_wp2;rw[zI];go_ret2;have e:Tess.bW l=([],50):=by unfold Tess.bW;rw[qR hlong]
  rw[e];exact⟨_,rfl,SlOf.nil _,HB.out⟩
 ·have Ay:l.any Tess.diL=false:=by simpa using hlong
  rw[Ay]at Ae;have Ap:(Tryz.prog.info? 9).map (·.size)=some 1:=by rw[hi];simp[A5]
  have Aq:i0.bytes*l.length<=281474976710656:=by rw[Bk];omega
  have Ba:l.length<=maxLen:=by unfold maxLen;omega
  obtain⟨cs,Aj⟩:=Xq (l.map Value.string)
  have Ah:cs.length=l.length:=by rw[Aj,qX]
  have Ao:=Hd Aj;have Ag:∀v∈cs,v.oneCell'=true:=by rw[Aj];intro v hv;obtain⟨x,_,rfl⟩:=qd.1 hv;rfl
  have Ai:=Hd Ag;clear Aj Ag
  go_wp2_with (first
   |(go_at_call 156;refine Ae.out.mono ?_;rintro e w2 ⟨rfl,hB⟩;have HB:=Hd hB;have Aw:=Hd (HV.out.below hB);clear hB)
   |(refine wpList_make_row (.tmp 8) (.tmp 8) 22 rfl 9 i0 (.string ByteArray.empty) Tryz.underlying22 hi Bd A5 rfl .i64 .i64 l.length rfl rfl Aq Ba ?_))
  intro w3 An Bl Ab;have Ac:=Aw.out.below An;have Af:=Bt HB.out An;have A9:w.heap.size<=w2.heap.size:=HB.out.size;have A6:=Hd (show w3.heap[w2.heap.size]?=some (.cells (List.replicate l.length (Value.string ByteArray.empty)).toArray 9 (0,0)) by rw[Ab];simp);generalize w2.heap.size=g at *;have A1:=Hd Af;have A4:=Hd Ac;clear HB Aw Ab Ac Af An
  go_wp2_with (refine wpList_copy_splice rfl (.tmp 10) (.tmp 11) 22 22 rfl 9 Tryz.underlying22 Ap _ _ _ _ _ _ rfl rfl g 0 _ _ A6.out cs ?_ ?_ ?_ Ai.out w.heap.size w A1.out A9 ?_)
  ·simpa using Ah
  ·intro Bm;obtain⟨a',Bg,Bb,_,Az⟩:=so2 A4.out;obtain⟨b,Bf,ha,_,_⟩:=Az 0 (by omega);cases Bb
   try refine⟨rfl,?_⟩
   refine⟨⟨b,Bf,none⟩,ha,fun j v hj=>?_⟩;rw[Ao.out]at hj;obtain⟨Bj,rfl⟩:=zW.1 hj;obtain⟨b',Bc,Ax,_,Ad⟩:=Az j (by simpa using Bj);rw[ha]at Ax;cases Ax
   rw[daa,Ad];simp
  ·simp;omega
  intro w4 A7 A0
  have As:splice (List.replicate l.length (Value.string ByteArray.empty)) 0 cs=(Tess.bytesOf l).map encStr:=by rw[eb2,<-Ao.out];unfold splice;simp;omega
  have Aa:w4.ownsRow w.heap.size 9 1 (.slice (some ⟨g,0,none⟩) (Tess.bytesOf l).length l.length) (Tess.bytesOf l).length ((Tess.bytesOf l).map encStr):=by
   have Be:(Tess.bytesOf l).length=l.length:=by unfold Tess.bytesOf;simp
   refine⟨by simp,.inr ⟨g,l.length,_,rfl,A9,A7.out,by omega,Ba,?_,?_⟩⟩
   ·rw[As];simp[Be]
   ·rw[As,yY];exact qh (by simp)
  have Au:(Tess.bytesOf l).length=l.length:=by unfold Tess.bytesOf;simp
  have Ak:=so8 w.heap.size g l.length (Tess.bytesOf l) w4 Aa (by rw[Au];omega);rw[Au]at Ak
  have A2:∀W:World,W.ownsRow w.heap.size 9 1 (.slice (some ⟨g,0,none⟩) l.length l.length) l.length ((Tess.sB3 l).map encStr) ->
    Calls Tryz.prog 159 #[.slice (some ⟨g,0,none⟩) l.length l.length] W fun e w'=>e = .returned (.slice (some ⟨g,0,none⟩) (Tess.sW2 l).length l.length)/\SlOf w' (.slice (some ⟨g,0,none⟩) (Tess.sW2 l).length l.length) ((Tess.sW2 l).map .string)/\Below w.heap.size W w':=fun W hW=>by
   have h:=co4 w.heap.size g l.length (Tess.sB3 l) W (by rw[Tess.sBl];exact hW) (by rw[Tess.sBl];omega);rw[Tess.sBl,Tess.sWl]at h;refine h.mono ?_;rintro e w' ⟨he,ho,hb⟩;refine⟨he,?_,hb⟩;have hs:=SlOf.owned ho;rw[<-eb3]at hs;exact hs
  have Bn:(Tess.sW2 l).length<=l.length:=by rw[<-Tess.sWl,<-Tess.sBl];exact Lib.compact_length_le _
  have HD:=Hd (show Tess.bW l=if 1000<(Tess.sW2 l).length then([],50)else(Tess.sW2 l,0) by rw[<-Tess.bs4];unfold Tess.bW;rw[qH hlong])
  have A8:=Hd (show Calls Tryz.prog 158 #[.slice (some ⟨g,0,none⟩) l.length l.length] w4 fun e w'=>e = .returned (.tuple #[])/\w'.ownsRow w.heap.size 9 1 (.slice (some ⟨g,0,none⟩) l.length l.length) l.length ((Tess.sB3 l).map encStr)/\Below w.heap.size w4 w' from Ak);have Av:=Hd A2;have A3:=Hd A0;clear Ak A2 Aa A7 A0 As A6 A1 A4 Ao Ai Ae HV hlong Ay Ah;generalize Tess.sW2 l=sl at *
  by_cases h1000:1000<sl.length
  ·have Bh:¬(sl.length:Int)<=1000:=by omega
   rw[qR h1000]at HD
   go_wp2_with (first
    |(go_at_call 158;refine A8.out.mono ?_;rintro e w5 ⟨rfl,hO,hB⟩;have Ar:=Hd (A3.out.trans hB);have Al:=Hd hO;clear hB hO)
    |(go_at_call 159;refine(Av.out _ Al.out).mono ?_;rintro e w6 ⟨rfl,hS,hB⟩;have Am:=Hd (Ar.out.trans hB);have At:=Hd hS;clear hB hS))
   refine wp_label ?_;go_wp2;rw[Exit.fr2];go_ret2;rw[HD.out];exact⟨_,rfl,SlOf.nil _,Am.out⟩
  ·have Bh:(sl.length:Int)<=1000:=by omega
   rw[qH h1000]at HD
   go_wp2_with (first
    |(go_at_call 158;refine A8.out.mono ?_;rintro e w5 ⟨rfl,hO,hB⟩;have Ar:=Hd (A3.out.trans hB);have Al:=Hd hO;clear hB hO)
    |(go_at_call 159;refine(Av.out _ Al.out).mono ?_;rintro e w6 ⟨rfl,hS,hB⟩;have Am:=Hd (Ar.out.trans hB);have At:=Hd hS;clear hB hS))
   rw[Exit.fr2];go_ret2;rw[HD.out];exact⟨_,rfl,At.out,Am.out⟩
end Go.Proofs.Q9
namespace Tess
open Go
theorem bWs(l:List ByteArray)(h:∀x∈l,x.size<=100)(hl:l.length<=1000):bW l=(sW2 l,0):=by rw[bWo l fun j hj=>h _ (qP hj),bs4,qH (by have:=sWf l;omega)]
theorem dWt(C:List (CK×Pay))(i k:Nat)(hk:k<C.length):dW (C.take (k+1)) i=dW (C.take k) i++(match C[k].1.2.getD i none with|some b=>[b]|none=>[]):=by unfold dW;rw[qQ hk,List.filterMap_append];cases h:C[k].1.2.getD i none<;>simp only[List.filterMap_cons,List.filterMap_nil,h]
end Tess
namespace Go.Proofs.Q9
open Go.RowKit Go.Sort
open Tess (CK Pay)
theorem ss3{W:World}{b o:Nat}{cs:Array Value}{t:TypeId}{f:Nat×Nat}{v:Value}(h:W.heap[b]?=some (.cells cs t f))(hv:cs[o]?=some v):W.setCell ⟨b,o,none⟩ v=W:=by
 have e:(W.setCell ⟨b,o,none⟩ v).heap=W.heap:=by
  apply Array.ext_getElem?;intro k;simp only[World.setCell,jl];by_cases hk:b=k
  ·subst hk;rw[qR rfl,h];simp only[ji,Option.isSome_none];congr 2;apply Array.ext_getElem?;intro j;rw[qH (by simp),zt];split
   ·rename_i hj;subst hj;split
    ·exact hv.symm
    ·rename_i hn;exact absurd (qA.1 hv).1 hn
   ·rfl
  ·rw[qH hk]
 cases W
 simp only[World.setCell]at e⊢;rw[e]
theorem CA2.opened{p:Nat->Prop}{w:World}{v:Value}{C:List (CK×Pay)}(h:CA2 p w v C):∃a cap,v = .slice a C.length cap/\C.length<=9223372036854775807 /\
  ∀W,Below w.heap.size w W->∀k,(hk:k<C.length)->∃b off ad cd a3 c3 a4 c4 a5 c5,a=some ⟨b,off,none⟩/\b<W.heap.size/\(W.cell? ⟨b,off+k*6,none⟩=some (.int .i64 C[k].1.1)/\W.cell? ⟨b,off+k*6+1,none⟩=some (.slice ad C[k].1.2.length cd)/\W.cell? ⟨b,off+k*6+2,none⟩=some (.int .i64 C[k].2.n)/\W.cell? ⟨b,off+k*6+3,none⟩=some (.slice a3 C[k].2.sums.length c3)/\W.cell? ⟨b,off+k*6+4,none⟩=some (.slice a4 C[k].2.mins.length c4)/\W.cell? ⟨b,off+k*6+5,none⟩=some (.slice a5 C[k].2.maxs.length c5)) /\
    VC W ad (C[k].1.2.map Tess.valOf)/\PayAt p W (.slice a3 C[k].2.sums.length c3) (.slice a4 C[k].2.mins.length c4) (.slice a5 C[k].2.maxs.length c5) C[k].2:=by
 obtain⟨a,cap,rfl,_,hl,_,hc⟩:=LA.open h;refine⟨a,cap,rfl,by unfold maxLen at hl;omega,fun W hW k hk=>?_⟩;obtain⟨b,off,ha,hb,_,cs,_,hR,Aa⟩:=hc k hk;obtain⟨ad,cd,a3,c3,a4,c4,a5,c5,rfl,Ac⟩:=hR.shapes;obtain⟨_,_,_,_,e,_,hp⟩:=hR.ag (Ag.new p hW);simp only[qAf,and_true,qAq]at e;obtain⟨rfl,rfl,rfl,rfl⟩:=e
 have Ab:∀i,W.cell? ⟨b,off+k*6+i,none⟩=w.cell? ⟨b,off+k*6+i,none⟩:=fun i=>hW.cell (p:=⟨b,off+k*6+i,none⟩) hb;exact⟨b,off,ad,cd,a3,c3,a4,c4,a5,c5,ha,qF hb hW.size,⟨(Ab 0).trans (Aa 0 (by omega)),(Ab 1).trans (Aa 1 (by omega)),(Ab 2).trans (Aa 2 (by omega)),(Ab 3).trans (Aa 3 (by omega)),(Ab 4).trans (Aa 4 (by omega)),(Ab 5).trans (Aa 5 (by omega))⟩,Ac.below hW,hp⟩
theorem wa4(p:Nat->Prop)(vl:Value)(C:List (CK×Pay))(i:Nat)(w:World)(hv:CA2 p w vl C)(hi:∀x∈C,i<x.1.2.length)(hC:C.length<=1000)(hs:∀x∈Tess.dW C i,x.size<=100) :
  Calls Tryz.prog 69 #[vl,.int .i64 i] w fun e w'=>∃v,e = .returned v/\SlOf w' v ((Tess.dO2 C i).map .string)/\Below w.heap.size w w':=by
 obtain⟨a,A3,rfl,hl,hc⟩:=hv.opened;have HC:=Hd hc;have HI:=Hd hi;have HS:=Hd hs;obtain⟨i0,Av,Aq,Ay,Aw⟩:=zF diS;clear hc hv hi hs;go_enter Tryz.func69,Tryz.ntmps69;go_wp2;go_loopw [5,13] (fun v j wr=>∃k:Nat,k<=C.length/\j = .int .i64 k/\wr.ownsRow w.heap.size 9 1 v (Tess.dW (C.take k) i).length ((Tess.dW (C.take k) i).map .string)/\Below w.heap.size w wr) (fun _ j _=>C.length-(intOf j).toNat)
 case atStart=>exact⟨0,qN _,rfl,qg _ _ _ _,qJ _ _⟩
 case round=>
  obtain⟨k,hk,rfl,Ag,hB⟩:=hrel;have HO:=Hd Ag;have HB:=Hd hB;clear Ag;by_cases hlt:k<C.length
  ·obtain⟨b,A1,ad,cd,a3,c3,a4,c4,a5,c5,rfl,hb,⟨q0,q1,q2,q3,q4,q5⟩,Ak,_⟩:=HC.out wr hB k hlt;have As:(k:Int)<(C.length:Int):=by omega
   have HM:=Hd (show C[k]∈C from qP hlt);have Ah:=HI.out _ HM.out;have HW:=Hd (Tess.dWt C i k hlt);generalize C[k]=x at *;obtain⟨⟨t,l⟩,P⟩:=x;dsimp only at q0 q1 q2 q3 q4 q5 Ak Ah HW;obtain⟨b2,Ac,rfl,Am,e0,e1⟩:=Ak i (by simpa using Ah);rw[zL]at e0 e1;have An:l.getD i none=l[i]:=by rw[qE,qD Ah];rfl
   rw[An]at HW;have Au:(i:Int)<(l.length:Int):=by omega
   generalize l[i]=d at *;obtain⟨W3,Ar⟩:=XQ (wr.alloc (.cells #[.int .i64 t,.slice (some ⟨b2,Ac,none⟩) l.length cd,.int .i64 P.n,.slice a3 P.sums.length c3,.slice a4 P.mins.length c4,.slice a5 P.maxs.length c5] 56))
   obtain⟨k1,kS,kB⟩:=la2 wr (.cells #[.int .i64 t,.slice (some ⟨b2,Ac,none⟩) l.length cd,.int .i64 P.n,.slice a3 P.sums.length c3,.slice a4 P.mins.length c4,.slice a5 P.maxs.length c5] 56);rw[Ar]at k1 kS kB;obtain⟨⟨r0,r1,r2,r3,r4,r5⟩,_⟩:=can6 k1;have f0:=(kB.cell (p:=⟨b2,Ac+i*2,none⟩) Am).trans e0;have f1:=(kB.cell (p:=⟨b2,Ac+i*2+1,none⟩) Am).trans e1;have Ai:=Hd kB;have A4:=Hd kS
   clear Ak Ah An e0 e1 kS k1 kB hb hB Am;cases d with
   |none=>
     obtain⟨W4,Al⟩:=XQ (W3.alloc (.cells #[.string ByteArray.empty,.bool true] 47))
     obtain⟨k4,Af,Ab⟩:=la2 W3 (.cells #[.string ByteArray.empty,.bool true] 47);rw[Al]at k4 Af Ab;obtain⟨⟨y0,y1⟩,_⟩:=can2 k4;have Ae:=Hd (Bt HB.out (Bt Ai.out Ab));have Aj:=Hd (ob2 HO.out (Bt Ai.out Ab));have HW:=Hd (HW.out.trans (zZ _));change W3.cell? _=some (.string ByteArray.empty)at f0;change W3.cell? _=some (.bool true)at f1;clear k4 Af Ab;go_wp2_with (fail);go_roundw
     case rel=>exact⟨k+1,by omega,by go_num,by rw[HW.out];exact Aj.out,Ae.out⟩
     case measure=>simp[intOf];omega
   |some y=>
     obtain⟨W4,Al⟩:=XQ (W3.alloc (.cells #[.string y,.bool false] 47))
     obtain⟨k4,Af,Ab⟩:=la2 W3 (.cells #[.string y,.bool false] 47);rw[Al]at k4 Af Ab;obtain⟨⟨y0,y1⟩,_⟩:=can2 k4;have Ae:=Hd (Bt HB.out (Bt Ai.out Ab));have Aj:=Hd (ob2 HO.out (Bt Ai.out Ab))
     have Ao:=Hd (show(Tess.dW (C.take k) i).length<=1000 by
      have:(Tess.dW (C.take k) i).length<=(C.take k).length:=je _ _;rw[qy]at this
      omega)
     have A2:=ss3 (o:=1) (v:=.bool false) k4 rfl;change W3.cell? _=some (.string y)at f0;change W3.cell? _=some (.bool false)at f1;clear k4 Af Ab
     go_wp2_with (at_builtin;refine qq _ rfl _ _ 22 rfl w.heap.size 9 i0 (.string ByteArray.empty) 1 16 Tryz.underlying22 Av Aq Ay Aw rfl (by decide) _ _ _ rfl (Aj.out.alloc _) ⟨W4.heap.size,0,none⟩ 1 1 [.string y] rfl rfl (zh _ _ _) (by simp[Value.oneCell']) (by have:=Ao.out;unfold maxLen;omega) (by have:=Ao.out;omega) (by have:=Ae.out.size;simp;omega) ?_);intro v' w5 Ad Aa _
     have A0:=Hd ((Ae.out.alloc Ae.out.size (.cells #[.string y] 9)).grown Aa (by have:=Ae.out.size;simp;omega) (fun m e=>(Aj.out.lt m e).1));have At:=Hd Ad;clear Ad Aa;go_wp2_with (fail);go_roundw
     case rel=>exact⟨k+1,by omega,by go_num,by rw[HW.out,qI,qs];exact At.out,A0.out⟩
     case measure=>simp[intOf];omega
  ·have As:¬(k:Int)<(C.length:Int):=by omega
   obtain rfl:k=C.length:=by omega
   rw[jy]at HO
   have hb:=ba5 _ (Tess.dW C i) wr (SlOf.owned HO.out) (by
    have:(Tess.dW C i).length<=C.length:=je _ _
    omega)
   unfold BP at hb
   rw[Tess.bWs _ HS.out (by
    have:(Tess.dW C i).length<=C.length:=je _ _
    omega)]at hb
   have Az:=Hd hb;clear hb hB;go_wp2_with (go_at_call 119;refine Az.out.mono ?_;rintro e w2 ⟨v2,rfl,Ap,Ax⟩);go_ret;exact⟨v2,rfl,Ap,Bt HB.out Ax⟩
theorem ca7(t:Int)(v1 v2 v3 v4 v5:Value)(W:World):Calls Tryz.prog 67 #[.agg #[.int .i64 t,v1,v2,v3,v4,v5]] W fun e w'=>e = .returned (.int .i64 t)/\Below W.heap.size W w':=by obtain⟨k1,kS,kB⟩:=la2 W (.cells #[.int .i64 t,v1,v2,v3,v4,v5] 56);obtain⟨⟨r0,r1,r2,r3,r4,r5⟩,_⟩:=can6 k1;have Aa:=Hd kB;clear kB kS k1;go_enter Tryz.func67,Tryz.ntmps67;go_wp2;go_ret;exact⟨rfl,Aa.out⟩
theorem ca6(t:Int)(v0 v1 v3 v4 v5:Value)(W:World):Calls Tryz.prog 68 #[.agg #[v0,v1,.int .i64 t,v3,v4,v5]] W fun e w'=>e = .returned (.int .i64 t)/\Below W.heap.size W w':=by obtain⟨k1,kS,kB⟩:=la2 W (.cells #[v0,v1,.int .i64 t,v3,v4,v5] 56);obtain⟨⟨r0,r1,r2,r3,r4,r5⟩,_⟩:=can6 k1;have Aa:=Hd kB;clear kB kS k1;go_enter Tryz.func68,Tryz.ntmps68;go_wp2;go_ret;exact⟨rfl,Aa.out⟩
theorem ca11(p:Nat->Prop)(t:Int)(v1:Value)(a3 a4 a5:Option Addr)(c3 c4 c5 bi i:Nat)(x:Pay)(W:World)(hp:PayAt p W (.slice a3 x.sums.length c3) (.slice a4 x.mins.length c4) (.slice a5 x.maxs.length c5) x)(hi:i<x.sums.length)(hbi:W.cell? ⟨bi,0,none⟩=some (.int .i64 i)) :
  Calls Tryz.prog 73 #[.agg #[.int .i64 t,v1,.int .i64 x.n,.slice a3 x.sums.length c3,.slice a4 x.mins.length c4,.slice a5 x.maxs.length c5],.pointer (some ⟨bi,0,none⟩)] W fun e w'=>e = .returned (.int .i64 (wHi (x.sums.getD i 0)))/\Below W.heap.size W w':=by
 have Ab:=qK _ _ hbi;obtain⟨b,Aa,rfl,hb,h0,h1⟩:=hp.sums.num2 hi;rw[show x.sums.getD i 0=x.sums[i] by rw[qE,qD hi];rfl];have Ad:(i:Int)<(x.sums.length:Int):=by omega
 generalize x.sums[i]=z at *;obtain⟨k1,kS,kB⟩:=la2 W (.cells #[.int .i64 t,v1,.int .i64 x.n,.slice (some ⟨b,Aa,none⟩) x.sums.length c3,.slice a4 x.mins.length c4,.slice a5 x.maxs.length c5] 56);obtain⟨⟨r0,r1,r2,r3,r4,r5⟩,_⟩:=can6 k1;have q:=(kB.cell (p:=⟨bi,0,none⟩) Ab).trans hbi;have q0:=(kB.cell (p:=⟨b,Aa+i*2,none⟩) hb).trans h0;have q1:=(kB.cell (p:=⟨b,Aa+i*2+1,none⟩) hb).trans h1;have Ac:=Hd kB
 clear kB kS k1 hp hbi h0 hb h1;go_enter Tryz.func73,Tryz.ntmps73;go_wp2;go_ret;exact⟨rfl,Ac.out⟩
theorem ca9(p:Nat->Prop)(t:Int)(v1:Value)(a3 a4 a5:Option Addr)(c3 c4 c5 bi i:Nat)(x:Pay)(W:World)(hp:PayAt p W (.slice a3 x.sums.length c3) (.slice a4 x.mins.length c4) (.slice a5 x.maxs.length c5) x)(hi:i<x.sums.length)(hbi:W.cell? ⟨bi,0,none⟩=some (.int .i64 i)) :
  Calls Tryz.prog 74 #[.agg #[.int .i64 t,v1,.int .i64 x.n,.slice a3 x.sums.length c3,.slice a4 x.mins.length c4,.slice a5 x.maxs.length c5],.pointer (some ⟨bi,0,none⟩)] W fun e w'=>e = .returned (.int .i64 (wrap64 (wLo (x.sums.getD i 0))))/\Below W.heap.size W w':=by
 have Ab:=qK _ _ hbi;obtain⟨b,Aa,rfl,hb,h0,h1⟩:=hp.sums.num2 hi;rw[show x.sums.getD i 0=x.sums[i] by rw[qE,qD hi];rfl];have Ad:(i:Int)<(x.sums.length:Int):=by omega
 generalize x.sums[i]=z at *;obtain⟨k1,kS,kB⟩:=la2 W (.cells #[.int .i64 t,v1,.int .i64 x.n,.slice (some ⟨b,Aa,none⟩) x.sums.length c3,.slice a4 x.mins.length c4,.slice a5 x.maxs.length c5] 56);obtain⟨⟨r0,r1,r2,r3,r4,r5⟩,_⟩:=can6 k1;have q:=(kB.cell (p:=⟨bi,0,none⟩) Ab).trans hbi;have q0:=(kB.cell (p:=⟨b,Aa+i*2,none⟩) hb).trans h0;have q1:=(kB.cell (p:=⟨b,Aa+i*2+1,none⟩) hb).trans h1;have Ac:=Hd kB
 clear kB kS k1 hp hbi h0 hb h1;go_enter Tryz.func74,Tryz.ntmps74;go_wp2;go_ret;exact⟨by rw[<-wrap_i64];rfl,Ac.out⟩
theorem ca10(p:Nat->Prop)(t:Int)(v1:Value)(a3 a4 a5:Option Addr)(c3 c4 c5 bi i:Nat)(x:Pay)(W:World)(hp:PayAt p W (.slice a3 x.sums.length c3) (.slice a4 x.mins.length c4) (.slice a5 x.maxs.length c5) x)(hi:i<x.mins.length)(hbi:W.cell? ⟨bi,0,none⟩=some (.int .i64 i)) :
  Calls Tryz.prog 75 #[.agg #[.int .i64 t,v1,.int .i64 x.n,.slice a3 x.sums.length c3,.slice a4 x.mins.length c4,.slice a5 x.maxs.length c5],.pointer (some ⟨bi,0,none⟩)] W fun e w'=>e = .returned (.int .i64 (x.mins.getD i 0))/\Below W.heap.size W w':=by
 have Ab:=qK _ _ hbi;obtain⟨b,Aa,rfl,hb,h0⟩:=hp.mins.num1 hi;rw[show x.mins.getD i 0=x.mins[i] by rw[qE,qD hi];rfl];have Ad:(i:Int)<(x.mins.length:Int):=by omega
 generalize x.mins[i]=z at *;obtain⟨k1,kS,kB⟩:=la2 W (.cells #[.int .i64 t,v1,.int .i64 x.n,.slice a3 x.sums.length c3,.slice (some ⟨b,Aa,none⟩) x.mins.length c4,.slice a5 x.maxs.length c5] 56);obtain⟨⟨r0,r1,r2,r3,r4,r5⟩,_⟩:=can6 k1;have q:=(kB.cell (p:=⟨bi,0,none⟩) Ab).trans hbi;have q0:=(kB.cell (p:=⟨b,Aa+i,none⟩) hb).trans h0;have Ac:=Hd kB;clear kB kS k1 hp hbi h0 hb
 go_enter Tryz.func75,Tryz.ntmps75;go_wp2;go_ret;exact⟨rfl,Ac.out⟩
theorem ca5(p:Nat->Prop)(t:Int)(v1:Value)(a3 a4 a5:Option Addr)(c3 c4 c5 bi i:Nat)(x:Pay)(W:World)(hp:PayAt p W (.slice a3 x.sums.length c3) (.slice a4 x.mins.length c4) (.slice a5 x.maxs.length c5) x)(hi:i<x.maxs.length)(hbi:W.cell? ⟨bi,0,none⟩=some (.int .i64 i)) :
  Calls Tryz.prog 76 #[.agg #[.int .i64 t,v1,.int .i64 x.n,.slice a3 x.sums.length c3,.slice a4 x.mins.length c4,.slice a5 x.maxs.length c5],.pointer (some ⟨bi,0,none⟩)] W fun e w'=>e = .returned (.int .i64 (x.maxs.getD i 0))/\Below W.heap.size W w':=by
 have Ab:=qK _ _ hbi;obtain⟨b,Aa,rfl,hb,h0⟩:=hp.maxs.num1 hi;rw[show x.maxs.getD i 0=x.maxs[i] by rw[qE,qD hi];rfl];have Ad:(i:Int)<(x.maxs.length:Int):=by omega
 generalize x.maxs[i]=z at *;obtain⟨k1,kS,kB⟩:=la2 W (.cells #[.int .i64 t,v1,.int .i64 x.n,.slice a3 x.sums.length c3,.slice a4 x.mins.length c4,.slice (some ⟨b,Aa,none⟩) x.maxs.length c5] 56);obtain⟨⟨r0,r1,r2,r3,r4,r5⟩,_⟩:=can6 k1;have q:=(kB.cell (p:=⟨bi,0,none⟩) Ab).trans hbi;have q0:=(kB.cell (p:=⟨b,Aa+i,none⟩) hb).trans h0;have Ac:=Hd kB;clear kB kS k1 hp hbi h0 hb
 go_enter Tryz.func76,Tryz.ntmps76;go_wp2;go_ret;exact⟨rfl,Ac.out⟩
