/- Joined. -/
import Derived.Test.YtjdccifdkjnknaaGreatDoorZC12
import Derived.Lay
import Derived.LaidHandle
import Derived.Stop.Joined
import Derived.Stop.LaidTwo
import Derived.Stop.ErrReads
set_option maxRecDepth 100000
set_option maxHeartbeats 4000000
namespace Tess
def sW(l:List ByteArray)(k:Nat):ByteArray:=⟨(putL l.length++eT l k).toArray⟩
theorem sWz(l:List ByteArray):sW l 0=putW l.length:=by unfold sW putW;rw[show putL l.length++eT l 0=putL l.length from zZ _]
theorem sWs2(l:List ByteArray)(k:Nat):sW l (k+1)=sW l k++oneW (lastOf l k) (l.getD k w0):=by apply yF;apply yG.1;rw[qAk,xq,oWl];unfold sW;simp only[show eT l (k+1)=eT l k++one (lastOf l k) (l.getD k w0)from rfl,zN]
theorem sWs(l:List ByteArray)(h:right l=true)(k:Nat)(hk:k<=l.length):(sW l k).size<=10+120*k:=by have h1:=eTl l h k hk;have h2:=pLl3 l.length 9 (by have:=rl2 l h;omega);show(putL l.length++eT l k).length<=_;rw[qI];omega
theorem sWe(l:List ByteArray)(h:right l=true):encW l=(sW l l.length,0):=by unfold encW;rw[h];rfl
end Tess
namespace Go.Proofs.Q9
open Go.Proofs.YtjdccifdkjnknaaGreatDoor
open Go.RowKit Go.Sort Go.Shelf
theorem ra9(v:Value)(l:List ByteArray)(w:World)(hv:SlOf w v (l.map .string))(hl:∀y∈l,y.size<=maxLen):Calls Tryz.prog 48 #[v] w (EP l w):=by
 have Ad:=ra13 v l w hv hl;unfold EP;cases hr:Tess.right l
 ·rw[hr]at Ad;have HR:=Hd Ad;clear Ad hv;unfold Tess.encW;rw[hr];go_enter Tryz.func48,Tryz.ntmps48;go_wp2_with (go_at_call 99;refine HR.out.mono ?_;rintro e w1 ⟨rfl,Ag⟩;have HB:=Hd Ag;clear Ag);go_ret2;exact⟨rfl,HB.out⟩
 ·rw[hr]at Ad;have HR:=Hd Ad;have A5:=Tess.rl2 l hr;have A8:=Hd (Tess.rs2 l hr);have Ba:=Hd (Tess.lOs2 l hr);have A7:=Hd (Tess.sWs l hr);have Ak:=Hd (Tess.sWe l hr);obtain⟨a,Aw,rfl,Ay,hc⟩:=so2 hv;have HC:=Hd hc;clear Ad hv hc hr hl;have Be:IntKind.u64.wrap (l.length:Int)=(l.length:Int):=by go_bits;first|trivial|omega
  go_enter Tryz.func48,Tryz.ntmps48
  go_wp2_with (first
   |(go_at_call 99;refine HR.out.mono ?_;rintro e w1 ⟨rfl,Ag⟩;have HB:=Hd Ag;clear Ag)
   |(go_at_call 52;refine(ra6 9 l.length _ (by omega) (by omega)).mono ?_;rintro e w2 ⟨rfl,Az⟩;have HB:=Hd (Bt HB.out Az);clear Az))
  go_loopw [4,5,6] (fun s4 s5 i wr=>∃k:Nat,k<=l.length/\s4 = .string (Tess.sW l k)/\s5 = .string (Tess.lastOf l k)/\i = .int .i64 k/\Below w.heap.size w wr) (fun _ _ i _=>l.length-(intOf i).toNat)
  case atStart=>exact⟨0,qN _,by rw[Tess.sWz],rfl,rfl,HB.out⟩
  case round=>
   clear HB;obtain⟨k,hk,rfl,rfl,rfl,hB⟩:=hrel;have Ai:=Hd hB;clear hB;have A6:=A7.out k hk;by_cases hlt:k<l.length
   ·obtain⟨b,Aa,rfl,hb,Ac⟩:=HC.out k hlt;have Aj:wr.cell? ⟨b,Aa+k,none⟩=some (.string l[k]):=(Ai.out.cell (p:=⟨b,Aa+k,none⟩) hb).trans Ac;have A3:(k:Int)<(l.length:Int):=by omega
    have Ab:=A8.out k hlt;have Ae:=Ba.out k hk;rw[Tess.getD_lt l k hlt]at Ab;have Al:=Tess.getD_lt l k hlt;obtain⟨y,hy⟩:=Xq (l[k])
    rw[<-hy]at Aj Ab Al;obtain⟨x,hx⟩:=Xq (Tess.lastOf l k)
    rw[<-hx]at Ae;have A9:=(Tess.sl4 x y).2;have A2:=Hd Al;have A4:=Hd hx;rw[<-hx];have Ao:=Hd (Tess.sWs2 l k);obtain⟨S,hS⟩:=Xq (Tess.sW l k)
    rw[<-hS]at A6;rw[<-hS];have An:=Hd hS;clear Ac hy Al hx hS;have c1:=fun W=>ra22 x y W (by unfold maxLen;omega);obtain⟨n,hn⟩:=Xq (Tess.shared x y)
    rw[<-hn]at c1 A9;have c2:=fun W=>ra6 9 n W (by omega) (by omega);have c3:=fun W=>ra6 9 (y.size-n) W (by omega) (by omega);have hA:=Tess.pWs n (by omega);have A0:=Tess.pWs (y.size-n) (by omega);have Af:=Hd (show Tess.oneW x y=(Tess.putW n++Tess.putW (y.size-n))++y.extract n y.size by unfold Tess.oneW;rw[<-hn]);clear hn;obtain⟨d,hd⟩:=Xq (y.size-n)
    rw[<-hd]at c3 A0 Af;have Bf:(y.size:Int)-(n:Int)=(d:Int):=by omega
    have Bh:d<=100:=by omega
    have Bl:(n:Int)<=(y.size:Int):=by omega
    clear hd;obtain⟨R,hR⟩:=Xq (y.extract n y.size)
    have Bg:R.size=y.size-n:=by rw[hR];simp
    obtain⟨A,Au⟩:=Xq (Tess.putW n)
    obtain⟨C,As⟩:=Xq (Tess.putW d)
    rw[<-Au]at c2 hA Af;rw[<-As]at c3 A0 Af;rw[<-hR]at Af;have Bj:y.extract n y.size=R:=hR.symm;clear hR Au As;have C1:=Hd c1;have C2:=Hd c2;have C3:=Hd c3;clear c1 c2 c3;have Bk:IntKind.u64.wrap (n:Int)=(n:Int):=by go_bits;first|trivial|omega
    have Bi:IntKind.i64.wrap (d:Int)=(d:Int):=by go_bits;first|trivial|omega
    have Bb:IntKind.u64.wrap (d:Int)=(d:Int):=by go_bits;first|trivial|omega
    have A1:¬9223372036854775807<S.size+A.size:=by omega
    have At:¬9223372036854775807<S.size+A.size+C.size:=by omega
    have Av:¬9223372036854775807<S.size+A.size+C.size+(y.size-n):=by omega
    have Ah:b<wr.heap.size:=qF hb Ai.out.size;go_wp2_with (go_at_call 100;refine(C1.out _).mono ?_;rintro e w4 ⟨rfl,Ax⟩;have Ap:=Hd Ax;clear Ax);have Aq:=Hd (Bt Ai.out Ap.out);have Am:=Hd ((Ap.out.cell (p:=⟨b,Aa+k,none⟩) Ah).trans Aj);have Ar:b<w4.heap.size:=qF Ah Ap.out.size;clear Aj
    refine Flow.wrf2 (Flow.sp3 [.inl (.string S),.inl (.int .i64 n),.inl (.int .u64 n),.inl (.string A),.inl (.string (S++A)),.inl (.slice (some ⟨b,Aa,none⟩) l.length Aw),.inl (.int .i64 k),.inl (.pointer (some ⟨b,Aa+k,none⟩)),.inl (.string y),.inl (.int .i64 (y.size:Nat)),.inl (.int .i64 n),.inl (.int .i64 d),.inl (.int .u64 d),.inl (.string C),.inl (.string ((S++A)++C)),.inl (.slice (some ⟨b,Aa,none⟩) l.length Aw),.inl (.int .i64 k),.inl (.pointer (some ⟨b,Aa+k,none⟩)),.inl (.string y),.inl (.int .i64 n),.inl (.string R),.inl (.string (((S++A)++C)++R)),.inl (.string (((S++A)++C)++R))]) (by kernel_rfl) (by kernel_rfl) ?_ ?_
    ·apply Flow.sm2;intro s hs;simp only[qm,zG,jr]at hs;rcases hs with rfl|rfl|rfl|rfl|rfl|rfl|rfl|rfl|rfl|rfl|rfl|rfl|rfl|rfl|rfl|rfl|rfl|rfl|rfl|rfl|rfl|rfl|rfl
     all_goals exact Flow.mi _
    iterate 3 (refine Flow.tvK rfl (fun K hK=>⟨fun w hw hG=>?_,?_⟩);(clear hG hw;unfold Flow.Runs Flow.yields;go_simp);go_simp;refine hK _ ?_;clear hK K)
    (refine Flow.tvK rfl (fun K hK=>⟨fun w hw hG=>?_,?_⟩);(clear hG hw;unfold Flow.Runs Flow.yields;go_simp;exact xL (C2.out _) (fun e w' ⟨he,hb⟩=>⟨he,hb⟩));go_simp;refine hK _ ?_;clear hK K)
    iterate 4 (refine Flow.tvK rfl (fun K hK=>⟨fun w hw hG=>?_,?_⟩);(clear hG hw;unfold Flow.Runs Flow.yields;go_simp);go_simp;refine hK _ ?_;clear hK K)
    (refine Flow.tvK rfl (fun K hK=>⟨fun w hw hG=>?_,?_⟩);(have Bd:=(hw.cell (p:=⟨b,Aa+k,none⟩) Ar).trans Am.out;clear hG hw;unfold Flow.Runs Flow.yields;go_simp);go_simp;refine hK _ ?_;clear hK K)
    iterate 4 (refine Flow.tvK rfl (fun K hK=>⟨fun w hw hG=>?_,?_⟩);(clear hG hw;unfold Flow.Runs Flow.yields;go_simp);go_simp;refine hK _ ?_;clear hK K)
    (refine Flow.tvK rfl (fun K hK=>⟨fun w hw hG=>?_,?_⟩);(clear hG hw;unfold Flow.Runs Flow.yields;go_simp;exact xL (C3.out _) (fun e w' ⟨he,hb⟩=>⟨he,hb⟩));go_simp;refine hK _ ?_;clear hK K)
    iterate 4 (refine Flow.tvK rfl (fun K hK=>⟨fun w hw hG=>?_,?_⟩);(clear hG hw;unfold Flow.Runs Flow.yields;go_simp);go_simp;refine hK _ ?_;clear hK K)
    (refine Flow.tvK rfl (fun K hK=>⟨fun w hw hG=>?_,?_⟩);(have Bd:=(hw.cell (p:=⟨b,Aa+k,none⟩) Ar).trans Am.out;clear hG hw;unfold Flow.Runs Flow.yields;go_simp);go_simp;refine hK _ ?_;clear hK K)
    iterate 4 (refine Flow.tvK rfl (fun K hK=>⟨fun w hw hG=>?_,?_⟩);(clear hG hw;unfold Flow.Runs Flow.yields;go_simp);go_simp;refine hK _ ?_;clear hK K)
    refine Flow.tn2 fun w5 hw5 hG=>?_;clear hG;have Bc:=Hd (Bt Aq.out hw5);have Aj:w5.cell? ⟨b,Aa+k,none⟩=some (.string y):=(hw5.cell (p:=⟨b,Aa+k,none⟩) Ar).trans Am.out;clear hw5;go_wp2;go_roundw
    case rel=>
     refine⟨k+1,by omega,?_,by rw[Tess.lOs,A2.out],by go_num,Bc.out⟩;rw[Ao.out,A2.out,<-A4.out,Af.out,<-An.out];simp only[ByteArray.append_assoc]
    case measure=>simp[intOf];omega
   ·have A3:¬(k:Int)<(l.length:Int):=by omega
    obtain rfl:k=l.length:=by omega
    go_wp2;go_ret2;exact⟨by rw[Ak.out];rfl,Ai.out⟩
end Go.Proofs.Q9
namespace Tess
def dec:List UInt8->Nat
 |[]=>0
 |c::cs=>c.toNat%128+128*dec cs
theorem da2(L:List UInt8)(c:UInt8):dec (L++[c])=dec L+128^L.length*(c.toNat%128):=by
 induction L with
 |nil=>simp[dec]
 |cons a L ih=>
   simp only[qk,dec,ih,qU,yN];rw[Nat.mul_add,jq];congr 2;rw[<-xC,xB 128]
theorem dl5(L:List UInt8):dec L<128^L.length:=by
 induction L with
 |nil=>simp[dec]
 |cons a L ih=>
   simp only[dec,qU,yN];have:=yX a.toNat (show 0<128 by omega);omega
theorem p12(k:Nat):128^k=2^(7*k):=by rw[Nat.pow_mul]
theorem as2(L:List UInt8)(c:UInt8)(k:Nat)(hL:L.length=k)(hk:k<=9) :
  (dec L%18446744073709551616) ||| (((c.toNat%128)*2^(7*k))%18446744073709551616)=dec (L++[c])%18446744073709551616:=by
 rw[da2,hL,p12];have hb:dec L<2^(7*k):=by have:=dl5 L;rw[hL,p12]at this;exact this
 generalize dec L=x at hb;generalize c.toNat%128=d;obtain⟨m,hm⟩:∃m,64=7*k+m:=⟨64-7*k,by omega⟩
 rw[show(18446744073709551616:Nat)=2^(7*k)*2^m by rw[<-yZ,<-hm]];have hp:0<2^(7*k):=Nat.pow_pos (by omega);have Aa:0<2^m:=Nat.pow_pos (by omega);have e1:x%(2^(7*k)*2^m)=x:=jf (qF hb (Nat.le_mul_of_pos_right _ Aa));rw[e1,xB d,Nat.mul_mod_mul_left,Nat.or_comm,<-Nat.two_pow_add_eq_or_of_lt hb,yO x,Nat.mod_mul,Nat.mul_add_mod,jf hb];rw[Nat.mul_add_div hp,xu hb,yD,yO]
def gO3(L:List UInt8):Prop:=∀j (h:j<L.length),128<=L[j].toNat
theorem pLd(L:List UInt8):∀(c:UInt8),gO3 L->c.toNat<128->(L=[]∨c≠0)->putL (dec (L++[c]))=L++[c]:=by
 induction L with
 |nil=>
   intro c _ hc _;rw[show dec ([]++[c])=c.toNat by simp[dec];omega,pLl2 _ hc];simp
 |cons a L ih=>
   intro c hg hc h0;have ha:128<=a.toNat:=hg 0 (by simp);have Ac:=a.toNat_lt;have Aa:c≠0:=by rcases h0 with h|h;cases h;exact h
   have hr:=ih c (fun j hj=>hg (j+1) (by simpa using hj)) hc (.inr Aa)
   have Ab:0<dec (L++[c]):=by
    rw[da2]
    have:0<c.toNat%128:=by rw[jf hc];exact Nat.pos_of_ne_zero fun e=>Aa (xW.1 (by simpa using e))
    have:=Nat.mul_pos (Nat.pow_pos (n:=L.length) (show 0<128 by omega)) this;omega
   rw[qk,show dec (a::(L++[c]))=a.toNat%128+128*dec (L++[c])from rfl,pLg _ (by omega)];rw[show(a.toNat%128+128*dec (L++[c]))/128=dec (L++[c]) by omega,hr];congr 1;apply xW.1;rw[zP];omega
theorem dpL(k:Nat):∀n,n<128^(k+1)->dec (putL n)=n:=by
 induction k with
 |zero=>
   intro n hn;rw[pLl2 n (by simpa using hn)];simp only[dec,zP];omega
 |succ k ih=>
   intro n hn;by_cases h:n<128
   ·rw[pLl2 n h];simp only[dec,zP];omega
   ·rw[pLg n h];simp only[dec,zP];rw[ih (n/128) (by rw[yN]at hn;omega)];omega
theorem pLl4(k:Nat):∀n,n<128^(k+1)->∀(L:List UInt8) (c:UInt8),putL n=L++[c]->L=[]∨c≠0:=by
 induction k with
 |zero=>
   intro n hn L c h;rw[pLl2 n (by simpa using hn)]at h;left;cases L with
   |nil=>rfl
   |cons a L=>simp at h
 |succ k ih=>
   intro n hn L c h;by_cases h1:n<128
   ·rw[pLl2 n h1]at h;left;cases L with
    |nil=>rfl
    |cons a L=>simp at h
   ·rw[pLg n h1]at h;cases L with
    |nil=>left;rfl
    |cons a L=>
      rw[qk]at h;obtain⟨_,h2⟩:=List.cons.inj h;rcases ih (n/128) (by rw[yN]at hn;omega) L c h2 with h3|h3
      ·right;subst h3;intro hc;subst hc;have:=zM dec h2;rw[dpL k _ (by rw[yN]at hn;omega)]at this;simp[dec]at this;omega
      ·right;exact h3
def stop(L:List UInt8):Nat:=(L.take 10).findIdx fun c=>decide (c.toNat<128)
def gV(L:List UInt8)(k:Nat):Bool:=(decide (k=0)||decide (L.getD k 0≠0))&&(decide (k<9)||decide ((L.getD k 0).toNat<=1))
def getW(s:ByteArray):Nat×ByteArray×Nat:=
 if stop s.data.toList<min s.size 10 then
  (if gV s.data.toList (stop s.data.toList)then(dec (s.data.toList.take (stop s.data.toList+1)),s.extract (stop s.data.toList+1) s.size,0)else(0,s,20))
 else(0,s,if s.size<10 then 21 else 20)
theorem sa7(L:List UInt8)(k:Nat)(_hk:k<=min L.length 10)(h:∀j (hj:j<L.length),j<k->128<=L[j].toNat)(he:k=min L.length 10∨∃hk:k<L.length,k<10/\L[k].toNat<128):stop L=k:=by
 unfold stop;rcases he with he|⟨Ab,Aa,he⟩
 ·rw[show k=(L.take 10).length by simp;omega,List.findIdx_eq_length];intro c hc;obtain⟨j,hj,rfl⟩:=zq hc;simp only[qy]at hj;have:=h j (by omega) (by omega);rw[yP];simpa using this
 ·rw[List.findIdx_eq (by simp;omega)];refine⟨by rw[yP];simpa using he,fun j hj=>?_⟩;have:=h j (by omega) hj;rw[yP];simpa using this
theorem take_split(L:List UInt8)(k:Nat)(hk:k<L.length):L.take (k+1)=L.take k++[L[k]]:=qQ hk
theorem again(L:List UInt8)(k:Nat)(hk:k<L.length)(hk9:k<10)(h:∀j (hj:j<L.length),j<k->128<=L[j].toNat)(hc:L[k].toNat<128) :
  (putL (dec (L.take (k+1))%18446744073709551616)=L.take (k+1)↔gV L k=true)/\(gV L k=true->dec (L.take (k+1))<18446744073709551616):=by
 have Ad:(L.take k).length=k:=by simp;omega
 have hg:L.getD k 0=L[k]:=by simp[hk]
 have Af:gO3 (L.take k):=fun j hj=>by rw[yP];exact h j (by simp at hj;omega) (by simp at hj;omega)
 have hd:dec (L.take k++[L[k]])=dec (L.take k)+128^k*(L[k].toNat%128):=by rw[da2,Ad]
 have Ag:dec (L.take k)<128^k:=by have:=dl5 (L.take k);rwa [Ad]at this
 rw[take_split L k hk]
 have Ab:(k<9∨L[k].toNat<=1)->dec (L.take k++[L[k]])<18446744073709551616:=by
  intro Ac;rcases Ac with Ae|h1
  ·have:=dl5 (L.take k++[L[k]]);rw[qI,Ad,zX]at this;have h2:128^(k+1)<=128^9:=zf (by omega) (by omega);have h3:(128:Nat)^9=9223372036854775808:=by decide
   omega
  ·rw[hd];have h2:128^k<=128^9:=zf (by omega) (by omega);have h3:(128:Nat)^9=9223372036854775808:=by decide
   have h4:128^k*(L[k].toNat%128)<=128^k*1:=Nat.mul_le_mul_left _ (by omega);omega
 have Aa:gV L k=true↔(k=0∨L[k]≠0)/\(k<9∨L[k].toNat<=1):=by unfold gV;rw[hg];simp only[qb,qAe,qn]
 refine⟨⟨fun heq=>?_,fun hgv=>?_⟩,fun hgv=>Ab (Aa.1 hgv).2⟩
 ·rw[Aa];constructor
  ·rcases pLl4 9 _ (qF (yX _ (by omega)) (by decide)) _ _ heq with h1|h1
   ·left;have:=zM List.length h1;rw[Ad]at this;simpa using this
   ·exact .inr h1
  ·have h1:=zM dec heq;rw[dpL 9 _ (qF (yX _ (by omega)) (by decide))]at h1;have h2:dec (L.take k++[L[k]])<18446744073709551616:=by rw[<-h1];exact yX _ (by omega)
   by_cases h9:k<9
   ·exact .inl h9
   ·right;obtain rfl:k=9:=by omega
    rw[hd]at h2;have h3:(128:Nat)^9=9223372036854775808:=by decide
    rw[h3]at h2;omega
 ·obtain⟨h1,h2⟩:=Aa.1 hgv;rw[jf (Ab h2)];refine pLd _ _ Af hc ?_;rcases h1 with h1|h1
  ·left;subst h1;rfl
  ·exact .inr h1
end Tess
namespace Go.Proofs.Q9
open Go.Proofs.YtjdccifdkjnknaaGreatDoor
open Go.RowKit Go.Sort Go.Shelf
theorem ab3(c:UInt8):bits .and .u8 (c.toNat:Int) 127=((c.toNat%128:Nat):Int):=by
 have Aa:∀r:Fin 256,bits .and .u8 ((r.val:Nat):Int) 127=((r.val%128:Nat):Int):=by decide +kernel
 exact Aa ⟨c.toNat,c.toNat_lt⟩
theorem wum(x:Int):IntKind.u64.wrap x=x%18446744073709551616:=by unfold IntKind.wrap;rfl
theorem sc6(d q:Nat):IntKind.u64.wrap ((d:Int)%128*2^q)=((((d%128)*2^q)%18446744073709551616:Nat):Int):=by rw[wum,Int.natCast_emod,xZ,Int.natCast_emod,Int.natCast_pow];rfl
def deV(a0 a1:Addr)(code:Nat):Value:=if code=0 then .nilIface else .iface 314 (.pointer (some (if code=21 then a0 else a1)))
structure DV2(a0 a1:Addr)(w:World):Prop where
 ne:a0≠a1
 g0:w.cell? ⟨3,0,none⟩=some (.iface 222 (.agg #[.pointer (some ⟨5,75,none⟩)]))
 g1:w.cell? ⟨2,0,none⟩=some (.iface 314 (.pointer (some a0)))
 g2:w.cell? ⟨1,0,none⟩=some (.iface 314 (.pointer (some a1)))
 b0:∃c0 t0,w.heap[a0.block]?=some (.cells c0 t0 (0,0))
 b1:∃c1 t1,w.heap[a1.block]?=some (.cells c1 t1 (0,0))
theorem na2(a0 a1:Addr)(p:Nat)(s:ByteArray)(w:World)(hv:DV2 a0 a1 w)(hp:w.cell? ⟨p,0,none⟩=some (.string s))(hz:w.frozen? ⟨p,0,none⟩=false) :
  Calls Tryz.prog 170 #[.pointer (some ⟨p,0,none⟩)] w fun e w'=>e = .returned (.tuple #[.int .u64 ((Tess.getW s).1:Nat),deV a0 a1 (Tess.getW s).2.2])/\w'.cell? ⟨p,0,none⟩=some (.string (Tess.getW s).2.1)/\w'.frozen? ⟨p,0,none⟩=false/\Kept w.heap.size p w w':=by
 have g1:=hv.g1;have g2:=hv.g2;have A7:=Hd (qK _ _ hp);refine(qZ (n:=5)).1 ?_;refine yg Tryz.func170 rfl trivial ?_ rfl;simp only[Tryz.ntmps170,qu,qU,zE,Nat.reduceAdd,Nat.reduceSub,qv,qw,zO,zC,qr,qk];gi_wp2;refine Rf.wIs ?_;gi_wp2;refine qAm ?_;gi_wp2;refine xt.2 ?_
 go_loopw [4,5,15] (fun s4 s5 i wr=>∃k:Nat,k<=min s.size 10/\i = .int .i64 k/\s5 = .int .i64 0/\s4 = .int .u64 (Tess.dec (s.data.toList.take k)%18446744073709551616:Nat)/\(∀j (hj:j<s.data.toList.length),j<k->128<=s.data.toList[j].toNat)/\wr=w) (fun _ _ i _=>10-(intOf i).toNat)
 case atStart=>exact⟨0,qN _,rfl,rfl,rfl,fun j _ h=>absurd h (zH _),rfl⟩
 case round=>
  obtain⟨k,hk,rfl,rfl,rfl,Aj,rfl⟩:=hrel;have HA:=Hd Aj;clear Aj;by_cases hlt:k<min s.size 10
  ·have Ak:k<s.size:=by omega
   have A8:(k:Int)<(s.size:Int):=by omega
   have A6:(k:Int)<min (s.size:Int) 10:=by omega
   have A4:k<=9:=by omega
   have A5:=ab3 s[k];obtain⟨q,hq⟩:=Xq (7*k)
   have h7:(7:Int)*(k:Int)=(q:Int):=by omega
   have Ba:(0:Int)<=(q:Int):=by omega
   have A1:(q:Int)<=64:=by omega
   have Bb:IntKind.i64.wrap (q:Int)=(q:Int):=by go_bits;first|trivial|omega
   obtain⟨A,hA⟩:=Xq (Tess.dec (s.data.toList.take k)%18446744073709551616)
   obtain⟨B,hB⟩:=Xq (((s[k].toNat%128)*2^(7*k))%18446744073709551616)
   obtain⟨C,hC⟩:=Xq (Tess.dec (s.data.toList.take (k+1))%18446744073709551616)
   have Ao:A ||| B=C:=by rw[hA,hB,hC,Tess.take_split _ k (by simpa using Ak)];exact Tess.as2 (s.data.toList.take k) s.data.toList[k] k (by simp;omega) A4
   have Am:A<18446744073709551616:=by rw[hA];exact yX _ (by omega)
   have An:B<18446744073709551616:=by rw[hB];exact yX _ (by omega)
   have A9:bits .or .u64 (A:Int) (B:Int)=(C:Int):=by rw[bits_or_u64_nat A B Am An,Ao]
   have Bc:IntKind.u64.wrap (((s[k].toNat:Nat):Int)%128*2^q)=(B:Int):=by rw[sc6,hB,hq]
   rw[<-hA];have HC:=Hd hC;clear hA hB hC Ao hq Am An;have Ai:s.data.toList[k]'(by simpa using Ak)=s[k]:=by simp;rfl
   have A0:IntKind.i64.wrap ((k:Int)+1)=(k:Int)+1:=by go_bits;first|trivial|omega
   have Az:IntKind.i64.wrap (k:Int)=(k:Int):=by go_bits;first|trivial|omega
   have A2:(k:Int)+1-1=(k:Int):=by omega
   have A3:((k:Int)+1==0)=false:=by rw[qi];omega
   have Ai:s.data.toList[k]'(by simpa using Ak)=s[k]:=by simp;rfl
   have A0:IntKind.i64.wrap ((k:Int)+1)=(k:Int)+1:=by go_bits;first|trivial|omega
   have Az:IntKind.i64.wrap (k:Int)=(k:Int):=by go_bits;first|trivial|omega
   have A2:(k:Int)+1-1=(k:Int):=by omega
   have A3:((k:Int)+1==0)=false:=by rw[qi];omega
   by_cases hc:s[k].toNat<128
   ·have Ay:((s[k].toNat:Nat):Int)<128:=by omega
    have Ab:=Tess.sa7 s.data.toList k (by simp;omega) HA.out (.inr ⟨by simpa using Ak,by omega,by rw[Ai];exact hc⟩);have Av:=Tess.again s.data.toList k (by simpa using Ak) (by omega) HA.out (by rw[Ai];exact hc)
    have Aw:Tess.gV s.data.toList k=((decide (k=0)||decide (s[k]≠0))&&(decide (k<9)||decide (s[k].toNat<=1))):=by unfold Tess.gV;rw[show s.data.toList.getD k 0=s[k] by rw[<-Ai,qE,qD];rfl]
    have Ae:=Hd Ab;have Au:=Hd Av;have Ax:=Hd Aw;clear Ab Av Aw Ai
    have Ad:Tess.gV s.data.toList k=true->Tess.getW s=(C,s.extract (k+1) s.size,0):=fun hg=>by unfold Tess.getW;rw[Ae.out,qR hlt,qR hg,HC.out,jf (Au.out.2 hg)]
    have Af:Tess.gV s.data.toList k=false->Tess.getW s=(0,s,20):=fun hg=>by unfold Tess.getW;rw[Ae.out,qR hlt,qH (by rw[hg];decide)]
    rw[Ax.out]at Ad Af;have Aa:=Hd Ad;have Ac:=Hd Af;clear Ad Af Ax Au Ae HC;have Bd:(k:Int)+1<=(s.size:Int):=by omega
    by_cases h0:k=0
    ·have HG:=Hd (Aa.out (by rw[decide_eq_true h0,decide_eq_true (show k<9 by omega)];rfl));have Ar:¬(1:Int)<(k:Int)+1:=by omega
     have As:decide ((1:Int)<(k:Int)+1)=false:=qG Ar;have Al:((k:Int)+1==10)=false:=by rw[qi];omega
     clear h0 Aa Ac;go_wp2;refine xt.2 ?_;go_wp2;refine⟨rfl,_,xg rfl _ _ _,?_⟩;rw[HG.out];refine⟨rfl,xS _ _ _ (by rw[hp];rfl),by simpa using hz,Kept.setCell _ _ _ _ _⟩
    ·have Ar:(1:Int)<(k:Int)+1:=by omega
     have As:decide ((1:Int)<(k:Int)+1)=true:=decide_eq_true Ar;by_cases hcz:s[k]=0
     ·have HG:=Hd (Ac.out (by rw[hcz,qG h0];rfl));have Aq:(((s[k].toNat:Nat):Int)==0)=true:=by rw[hcz];rfl
      clear h0 hcz Aa Ac;go_wp2;refine xt.2 ?_;go_wp2;go_quiet (fail);go_wp2;refine⟨rfl,_,xg rfl _ _ _,?_⟩;rw[HG.out];exact⟨rfl,hp,hz,⟨rfl,rfl,rfl,qC _,fun _ _ _=>rfl⟩⟩
     ·have Aq:(((s[k].toNat:Nat):Int)==0)=false:=by
       rw[qi];intro e;exact hcz (xW.1 (by simpa using e))
      by_cases h9:k=9
      ·have Al:((k:Int)+1==10)=true:=by rw[xM];omega
       by_cases hc1:s[k].toNat<=1
       ·have HG:=Hd (Aa.out (by rw[decide_eq_true (show s[k]≠0 from hcz),decide_eq_true hc1];simp));have Ah:¬(1:Int)<((s[k].toNat:Nat):Int):=by omega
        have Ap:decide ((1:Int)<((s[k].toNat:Nat):Int))=false:=qG Ah;clear h0 hcz Aa Ac h9;go_wp2;refine xt.2 ?_;go_wp2;refine⟨rfl,_,xg rfl _ _ _,?_⟩;rw[HG.out];refine⟨rfl,xS _ _ _ (by rw[hp];rfl),by simpa using hz,Kept.setCell _ _ _ _ _⟩
       ·have HG:=Hd (Ac.out (by rw[qG hc1,qG (show ¬k<9 by omega)];simp));have Ah:(1:Int)<((s[k].toNat:Nat):Int):=by omega
        have Ap:decide ((1:Int)<((s[k].toNat:Nat):Int))=true:=decide_eq_true Ah;clear h0 hcz Aa Ac h9;go_wp2;refine xt.2 ?_;go_wp2;go_quiet (fail);go_wp2;refine⟨rfl,_,xg rfl _ _ _,?_⟩;rw[HG.out];exact⟨rfl,hp,hz,⟨rfl,rfl,rfl,qC _,fun _ _ _=>rfl⟩⟩
      ·have HG:=Hd (Aa.out (by rw[decide_eq_true (show s[k]≠0 from hcz),decide_eq_true (show k<9 by omega)];simp));have Al:((k:Int)+1==10)=false:=by rw[qi];omega
       clear h0 hcz Aa Ac h9;go_wp2;refine xt.2 ?_;go_wp2;refine⟨rfl,_,xg rfl _ _ _,?_⟩;rw[HG.out];refine⟨rfl,xS _ _ _ (by rw[hp];rfl),by simpa using hz,Kept.setCell _ _ _ _ _⟩
   ·have Ay:¬((s[k].toNat:Nat):Int)<128:=by omega
    go_wp2;go_roundw
    case rel=>
     refine⟨k+1,by omega,by go_num,rfl,by rw[HC.out],fun j hj hjk=>?_,trivial⟩;by_cases hjk2:j<k
     ·exact HA.out j hj hjk2
     ·obtain rfl:j=k:=by omega
      rw[Ai];omega
    case measure=>simp[intOf];omega
  ·have A6:¬(k:Int)<min (s.size:Int) 10:=by omega
   have Ab:=Tess.sa7 s.data.toList k (by simpa using hk) HA.out (.inl (by simp;omega))
   have hW:Tess.getW s=(0,s,if s.size<10 then 21 else 20):=by unfold Tess.getW;rw[Ab,qH hlt]
   have HG:=Hd hW;clear Ab hW;by_cases h10:s.size<10
   ·have Ag:(s.size:Int)<10:=by omega
    have At:decide ((s.size:Int)<10)=true:=decide_eq_true Ag;go_wp2;refine xt.2 ?_;go_wp2;go_quiet (fail);go_wp2;refine⟨rfl,_,xg rfl _ _ _,?_⟩;rw[HG.out,qR h10];exact⟨rfl,hp,hz,⟨rfl,rfl,rfl,qC _,fun _ _ _=>rfl⟩⟩
   ·have Ag:¬(s.size:Int)<10:=by omega
    have At:decide ((s.size:Int)<10)=false:=qG Ag;go_wp2;refine xt.2 ?_;go_wp2;go_quiet (fail);go_wp2;refine⟨rfl,_,xg rfl _ _ _,?_⟩;rw[HG.out,qH h10];exact⟨rfl,hp,hz,⟨rfl,rfl,rfl,qC _,fun _ _ _=>rfl⟩⟩
end Go.Proofs.Q9
namespace Go.Proofs.Q9
open Go.Proofs.YtjdccifdkjnknaaGreatDoor
open Go.RowKit Go.Sort Go.Extern.Stop Go.Stop Go.Extern
theorem diT(v:Value)(w:World):(Extern.ReflectliteType.typeOf #[.iface 314 v]).run Tryz.prog w = .ok (.iface 222 (.agg #[.pointer (some ⟨5,314,none⟩)])) w:=by kernel_rfl
def dcE : Array Value → Sem Value := Extern.ReflectliteType.method fun t => do Rtype.noPackHeld "Comparable" t; pure (.bool (← typeInfo t).comparable)
theorem diC(w:World):(dcE #[.agg #[.pointer (some ⟨5,314,none⟩)]]).run Tryz.prog w = .ok (.bool true) w:=by kernel_rfl
theorem diM (v : Value) (w : World) : (Go.method 445 222 v "Comparable").run Tryz.prog w = .ok (261, v) w := by kernel_rfl
theorem diC2:(Tryz.prog.info? 314).map (·.comparable)=some true:=by kernel_rfl
theorem diS2:(Tryz.prog.info? 333).map (·.size)=some 1:=by kernel_rfl
theorem dnI(v:Value)(xT:TypeId)(w:World):(Instr.typeAssert (.iface 314 v) xT 224 true).run Tryz.prog w = .ok (.tuple #[.nilIface,.bool false]) w:=run_typeAssert_lacksB Tryz.underlying224 (by kernel_rfl) (by kernel_rfl) v xT w
theorem dnU2(v:Value)(xT:TypeId)(w:World):(Instr.typeAssert (.iface 314 v) xT 227 true).run Tryz.prog w = .ok (.tuple #[.nilIface,.bool false]) w:=run_typeAssert_lacksB Tryz.underlying227 (by kernel_rfl) (by kernel_rfl) v xT w
theorem dnU(v:Value)(xT:TypeId)(w:World):(Instr.typeAssert (.iface 314 v) xT 229 true).run Tryz.prog w = .ok (.tuple #[.nilIface,.bool false]) w:=run_typeAssert_lacksB Tryz.underlying229 (by kernel_rfl) (by kernel_rfl) v xT w
theorem dis(a:Addr)(w:World) :
  Calls Tryz.prog 81 #[.iface 314 (.pointer (some a)),.iface 314 (.pointer (some a))] w fun e w'=>e = .returned (.bool true)/\w'=w:=by
 obtain⟨i,hi,Aa⟩:=jM.1 diC2;obtain⟨j,hj,Ac⟩:=jM.1 diS2;have h8:=@run_callFunc_extern Tryz.prog 129 _ Extern.ReflectliteType.typeOf Tryz.func129 (by kernel_rfl) (by kernel_rfl) (by kernel_rfl) (by kernel_rfl);have Ad:=@run_callFunc_extern Tryz.prog 261 _ dcE Tryz.func261 (by kernel_rfl) (by kernel_rfl) (by kernel_rfl) (by kernel_rfl);have tT:=diT;have cT:=diC;have mR:=diM
 have Ab:=run_eql_iface_ptr_same (P:=Tryz.prog) w a Tryz.underlying75 Tryz.underlying314 hi Aa hj;go_enter Tryz.func81,Tryz.ntmps81;go_wp2;refine jv 1 ?_;rw[jR];go_wp2;go_ret;exact⟨rfl,rfl⟩
theorem din(b:Addr)(w:World) :
  Calls Tryz.prog 81 #[.nilIface,.iface 314 (.pointer (some b))] w fun e w'=>e = .returned (.bool false)/\w'=w:=by
 have hn:=run_eql_iface_nil_left (P:=Tryz.prog) w 314 (.pointer (some b)) Tryz.underlying75;go_enter Tryz.func81,Tryz.ntmps81;go_wp2;go_ret;exact⟨rfl,rfl⟩
theorem dio(a b:Addr)(ca cb:Array Value)(ta tb:TypeId)(w:World)(hne:a≠b)(ha:w.heap[a.block]?=some (.cells ca ta (0,0)))(hb:w.heap[b.block]?=some (.cells cb tb (0,0))) :
  Calls Tryz.prog 81 #[.iface 314 (.pointer (some a)),.iface 314 (.pointer (some b))] w fun e w'=>e = .returned (.bool false)/\w'=w:=by
 obtain⟨i,hi,Aa⟩:=jM.1 diC2;obtain⟨j,hj,Ab⟩:=jM.1 diS2;have h8:=@run_callFunc_extern Tryz.prog 129 _ Extern.ReflectliteType.typeOf Tryz.func129 (by kernel_rfl) (by kernel_rfl) (by kernel_rfl) (by kernel_rfl);have Ad:=@run_callFunc_extern Tryz.prog 261 _ dcE Tryz.func261 (by kernel_rfl) (by kernel_rfl) (by kernel_rfl) (by kernel_rfl);have tT:=diT;have cT:=diC;have mR:=diM;have nE:=dnI;have uE:=dnU2
 have vE:=dnU;have Ac:=run_eql_iface_ptr_other (P:=Tryz.prog) w Tryz.underlying75 Tryz.underlying314 hi Aa hj (by rw[Ab];decide) hne ha hb;go_enter Tryz.func81,Tryz.ntmps81;go_wp2;refine jv 1 ?_;rw[jR];go_wp2;go_ret;exact⟨rfl,rfl⟩
theorem va2(a0 a1:Addr)(code:Nat)(w:World)(hv:DV2 a0 a1 w)(hc:code=0∨code=20∨code=21) :
  Calls Tryz.prog 172 #[deV a0 a1 code] w fun e w'=>e = .returned (.int .i64 (code:Nat))/\w'=w:=by
 have g1:=hv.g1;have g2:=hv.g2;obtain⟨c0,t0,Ab⟩:=hv.b0;obtain⟨c1,t1,Aa⟩:=hv.b1;have i1:=din a0 w;have i2:=din a1 w;have i3:=dis a0 w;have i4:=dis a1 w;have i5:=dio a1 a0 c1 c0 t1 t0 w hv.ne.symm Aa Ab;have I1:=Hd i1;have I2:=Hd i2;have I3:=Hd i3;have I4:=Hd i4;have I5:=Hd i5;clear i1 i2 i3 i4 i5 hv Ab Aa;unfold deV;rcases hc with rfl|rfl|rfl
 ·simp only[jH];go_enter Tryz.func172,Tryz.ntmps172
  go_wp2_with (first
   |(go_at_call 81;with_reducible refine I1.out.mono ?_;rintro e w' ⟨rfl,rfl⟩)
   |(go_at_call 81;with_reducible refine I2.out.mono ?_;rintro e w' ⟨rfl,rfl⟩))
  go_ret;exact⟨rfl,rfl⟩
 ·simp only[qBi,show(20:Nat)≠0 by decide,show(20:Nat)≠21 by decide];go_enter Tryz.func172,Tryz.ntmps172
  go_wp2_with (first
   |(go_at_call 81;with_reducible refine I5.out.mono ?_;rintro e w' ⟨rfl,rfl⟩)
   |(go_at_call 81;with_reducible refine I4.out.mono ?_;rintro e w' ⟨rfl,rfl⟩))
  go_ret;exact⟨rfl,rfl⟩
 ·simp only[jH,qBi,show(21:Nat)≠0 by decide];go_enter Tryz.func172,Tryz.ntmps172;go_wp2_with (go_at_call 81;with_reducible refine I3.out.mono ?_;rintro e w' ⟨rfl,rfl⟩);go_ret;exact⟨rfl,rfl⟩
end Go.Proofs.Q9
namespace Go.Proofs.Q9
open Go.Proofs.YtjdccifdkjnknaaGreatDoor
open Go.RowKit Go.Sort
structure SV(a2:Addr)(w:World):Prop where
 g3:w.cell? ⟨0,0,none⟩=some (.iface 314 (.pointer (some a2)))
theorem SV.below{a2:Addr}{w w':World}(h:SV a2 w)(hb:Below w.heap.size w w'):SV a2 w':=
 ⟨(hb.cell (p:=⟨0,0,none⟩) (qK _ _ h.g3)).trans h.g3⟩
def sErr(a2:Addr)(ok:Bool):Value:=if ok then .nilIface else .iface 314 (.pointer (some a2))
theorem sa8(a2:Addr)(ok:Bool)(w:World)(hv:SV a2 w) :
  Calls Tryz.prog 33 #[sErr a2 ok] w fun e w'=>e = .returned (.int .i64 ((if ok then 0 else 130:Nat):Nat))/\w'=w:=by
 have g3:=hv.g3;have I1:=Hd (din a2 w);have I2:=Hd (dis a2 w);clear hv;unfold sErr;cases ok
 ·go_enter Tryz.func33,Tryz.ntmps33;go_wp2_with (go_at_call 81;with_reducible refine I2.out.mono ?_;rintro e w' ⟨rfl,rfl⟩);go_ret;exact⟨rfl,rfl⟩
 ·go_enter Tryz.func33,Tryz.ntmps33;go_wp2_with (go_at_call 81;with_reducible refine I1.out.mono ?_;rintro e w' ⟨rfl,rfl⟩);go_ret;exact⟨rfl,rfl⟩
end Go.Proofs.Q9
namespace Go.Proofs.Q9
open Go.Proofs.YtjdccifdkjnknaaGreatDoor
open Go.ChangeShapes Go.WideShapes Go.RowKit
theorem gEt : Tryz.prog.globalNamed "errors.errorType" = some 3 := by kernel_rfl
theorem gM : Tryz.prog.globalNamed "tesserae/varint.errMore" = some 2 := by kernel_rfl
theorem gN2 : Tryz.prog.globalNamed "tesserae/varint.errNone" = some 1 := by kernel_rfl
theorem gSeg : Tryz.prog.globalNamed "tesserae/segment.errNone" = some 0 := by kernel_rfl
theorem gMT:(Tryz.prog.globals[2]?).map (·.type)=some 75:=by kernel_rfl
theorem gNT:(Tryz.prog.globals[1]?).map (·.type)=some 75:=by kernel_rfl
theorem gST:(Tryz.prog.globals[0]?).map (·.type)=some 75:=by kernel_rfl
theorem gRt : (Tryz.prog.cutTypes.find? (·.1 == "internal/reflectlite.rtype")).map (·.2) = some 222 := by kernel_rfl
theorem gOne:((List.range Tryz.prog.types.size).filter fun t=>Tryz.prog.rowNamed t [101,114,114,111,114])=[75]:=by kernel_rfl
theorem gS2 : "*" ++ "errors.errorString" = "*errors.errorString" := by decide
theorem gRow (u : TypeId) (h : Tryz.prog.typeName? 3 u = some "*errors.errorString") : u = 314 :=
 typeName_ptr_named (nm := "errors.errorString") (by rw [gS2]; kernel_rfl) (by kernel_rfl) (by decide) u (by rw [gS2]; exact h)
theorem gC3:Tryz.prog.cellsOf 333=1:=by kernel_rfl
theorem gC2:Tryz.prog.cellsOf 9=1:=by kernel_rfl
abbrev lV : List (String × DataW Unit) := [("errors.errorType", Rows.laid_errors_errorType), ("tesserae/varint.errMore", Rows.laid_tesserae_varint_errMore), ("tesserae/varint.errNone", Rows.laid_tesserae_varint_errNone), ("tesserae/segment.errNone", Rows.laid_tesserae_segment_errNone)]
theorem vol{W:World}(h:laidMetH Tryz.prog lV W):∃a0 a1 a2,DV2 a0 a1 W/\SV a2 W:=by
 have h' : laidMet Tryz.prog [("tesserae/varint.errMore", Rows.laid_tesserae_varint_errMore), ("tesserae/varint.errNone", Rows.laid_tesserae_varint_errNone), ("tesserae/segment.errNone", Rows.laid_tesserae_segment_errNone)] W ∧ handlesMet Tryz.prog [("errors.errorType", Rows.laid_errors_errorType)] W := h;obtain⟨name,u,ty,e1,e2,e3,e4,e5⟩:=h'.2 _ (zJ.2 rfl)
 have en:name=[101,114,114,111,114]:=(zr e1).symm;subst en;obtain rfl:=zr (gRt.symm.trans e2);have hm:ty∈(List.range Tryz.prog.types.size).filter fun t=>Tryz.prog.rowNamed t [101,114,114,111,114]:=qBx.2 ⟨zV.2 e3,e4⟩;rw[gOne]at hm;obtain rfl:=zJ.1 hm;have hh:typeHandle Tryz.prog 75 = .pointer (some ⟨5,75,none⟩):=by kernel_rfl
 rw[hh]at e5;obtain⟨a0,a1,s0,s1,c0,c1,t0,t1,Aa,Ab,_,_,_,_,_,_,Ad,Af,Ae⟩:=laid_sentinels2 h'.1 gM gMT gN2 gNT Tryz.underlying75 gRow Tryz.underlying314 Tryz.underlying333 rfl rfl Tryz.underlying9 gC3 gC2;obtain⟨_,a2,_,_,_,_,_,_,_,Ac,_,_,_,_,_,_,_,_,_⟩:=laid_sentinels2 (r:=[]) h'.1.tail gN2 gNT gSeg gST Tryz.underlying75 gRow Tryz.underlying314 Tryz.underlying333 rfl rfl Tryz.underlying9 gC3 gC2
 exact⟨a0,a1,a2,⟨Ad,by simpa using World.var?_cell gEt e5 0,by simpa using World.var?_cell gM Aa 0,by simpa using World.var?_cell gN2 Ab 0,⟨c0,t0,Af⟩,⟨c1,t1,Ae⟩⟩,⟨by simpa using World.var?_cell gSeg Ac 0⟩⟩
abbrev mS2:ByteArray:={ data:=#[109,111,114,101] }
abbrev nS:ByteArray:={ data:=#[110,111,32,118,97,114,105,110,116] }
abbrev segS:ByteArray:={ data:=#[110,111,32,115,101,103,109,101,110,116] }
noncomputable def low:Nat:=(World.holding Tryz.prog default ⟨#[],#[],[]⟩).heap.size
noncomputable def lW(os:Os):World:=
 let w0:=World.holding Tryz.prog os ⟨#[.cells #[.string mS2] 333,.cells #[.string nS] 333,.cells #[.string segS] 333],#[],[]⟩
 { w0 with heap:=(((w0.heap.modify 3 fun
     |.cells _ t frozen=>.cells #[.iface 222 (.agg #[.pointer (some ⟨5,75,none⟩)])] t frozen
     |o=>o).modify 2 fun
     |.cells _ t frozen=>.cells #[.iface 314 (.pointer (some ⟨low,0,none⟩))] t frozen
     |o=>o).modify 1 fun
     |.cells _ t frozen=>.cells #[.iface 314 (.pointer (some ⟨low+1,0,none⟩))] t frozen
     |o=>o).modify 0 fun
     |.cells _ t frozen=>.cells #[.iface 314 (.pointer (some ⟨low+2,0,none⟩))] t frozen
     |o=>o }
theorem lWo(os:Os):(lW os).os=os:=rfl
theorem lWm(os:Os)(args:Array Value):laidMetH Tryz.prog lV ((lW os).forCall (fun _ _=>0) ⟨#[],args,[]⟩).memory:=
 laidMetH_of_parts (laidMet_of_run (ps:=[.cell 2 0,.cell low 0,.cell 1 0,.cell (low+1) 0,.cell 0 0,.cell (low+2) 0]) 8 (by kernel_rfl) (by kernel_rfl) (by kernel_rfl)) (by kernel_rfl)
theorem lWs(os:Os)(args:Array Value):((lW os).forCall (fun _ _=>0) ⟨#[],args,[]⟩).Shaped Tryz.prog:=World.shaped_of_ZipB (by kernel_rfl) (by kernel_rfl)
theorem own:ownKnob Tryz.prog.godebug=none:=by kernel_rfl
theorem laidOut:laidOutB Tryz.prog=true:=by kernel_rfl
end Go.Proofs.Q9
namespace Go.Proofs.Q9
open Go.Proofs.YtjdccifdkjnknaaGreatDoor
open Go.RowKit Go.Sort Go.Shelf
abbrev Bd(b:Nat)(l:List UInt8)(w:World):Prop:=Lib.IsBuilder 88 5 b b (Lib.byteCells l) w
abbrev Oth(b:Nat)(w w':World):Prop:=Lib.OthersKept 5 (some b) w w'
theorem ck3(B b:Nat)(bs:List Value)(w:World)(h:Lib.IsBuilder 88 5 B b bs w) :
  Calls Tryz.prog 92 #[.pointer (some ⟨b,0,none⟩)] w fun e w'=>e = .returned (.tuple #[])/\(Lib.BuilderAt 88 5 B b (.pointer (some ⟨b,0,none⟩)) bs w'/\Below B w w'/\Lib.OthersKept 5 (some b) w w'):=by
 rcases h with h|h
 ·refine(cf2 b w h.cell0 h.shape h.frozen0).mono ?_;rintro e w' ⟨rfl,rfl⟩;exact⟨rfl,h.used _,(qJ B w).setCell (p:=⟨b,0,none⟩) h.1 _,(Lib.OthersKept.refl _ _ w).setCell ⟨b,0,none⟩ rfl _⟩
 ·refine(cu2 b w h.cell0).mono ?_;rintro e w' ⟨rfl,rfl⟩;exact⟨rfl,h,qJ B _,Lib.OthersKept.refl _ _ _⟩
theorem ok3{base:Nat}{e:TypeId}{size:Nat}{v:Value}{m:Nat}{xs:List Value}{w:World}(h:w.ownsRow base e size v m xs):∀g,v.ownBlock=some g->∃c fz,w.heap[g]?=some (.cells c e fz):=by
 intro g hg;rcases h.2 with⟨rfl,_⟩|⟨g',Aa,Ab,hv,_,h3,_⟩
 ·simp[Value.ownBlock]at hg
 ·subst hv;simp only[Value.ownBlock,xf]at hg;subst hg;exact⟨_,_,h3⟩
theorem wBk(B b:Nat)(bs:List Value)(c:Int)(w:World)(h:Lib.IsBuilder 88 5 B b bs w)(hlen:bs.length+1<=140737488355328)(hBw:B<=w.heap.size) :
  Calls Tryz.prog 142 #[.pointer (some ⟨b,0,none⟩),.int .u8 c] w fun e w'=>e = .returned .nilIface/\(Lib.BuilderAt 88 5 B b (.pointer (some ⟨b,0,none⟩)) (bs++[.int .u8 c]) w'/\Below B w w'/\Lib.OthersKept 5 (some b) w w'):=by
 obtain⟨i0,hi,Aj,Am,Ah⟩:=zF (P:=Tryz.prog) (e:=5) (z:=.int .u8 0) (size:=1) (bytes:=1) (by kernel_rfl);go_enter Tryz.func142,Tryz.ntmps142;go_wp2_with (go_at_call 92;refine(ck3 B b bs _ h).mono ?_);rintro e w1 ⟨rfl,h1,Af,Ai⟩;obtain⟨hB,v,Ad,Ac,Ak⟩:=h1;have c0:w1.cell? ⟨b,0,none⟩=some (.pointer (some ⟨b,0,none⟩)):=by rw[jF Ad];rfl
 have c1:w1.cell? ⟨b,1,none⟩=some v:=by rw[jF Ad];rfl
 go_wp2_with (at_builtin;refine qq _ rfl _ _ 86 rfl B 5 i0 (.int .u8 0) 1 1 Tryz.underlying86 hi Aj Am Ah rfl (by decide) _ _ _ rfl (Ac.alloc _) ⟨w1.heap.size,0,none⟩ 1 1 [.int .u8 c] rfl rfl ?c1 ?c2 ?c3 ?c4 ?c5 ?_)
 case c1=>
  intro j u hj
  match j,hj with
  |0,hj=>simp at hj;subst hj;simp[Addr.add]
 case c2=>intro u hu;simp at hu;subst hu;rfl
 case c3=>unfold maxLen;omega
 case c4=>omega
 case c5=>have:=Af.size;simp;omega
 intro v' w2 Ab Aa _;have Al:b<w1.heap.size:=(qA.1 Ad).1
 have Ag:w2.heap[b]?=some (.cells #[.pointer (some ⟨b,0,none⟩),v] 88 (0,0)):=by rw[Aa.block b (by simp;omega) (fun e=>Ak e.symm),Lib.alloc_old w1 _ b Al];exact Ad
 have d0:w2.cell? ⟨b,0,none⟩=some (.pointer (some ⟨b,0,none⟩)):=by rw[jF Ag];rfl
 have d1:w2.cell? ⟨b,1,none⟩=some v:=by rw[jF Ag];rfl
 have f1:w2.frozen? ⟨b,1,none⟩=false:=qAc Ag 1
 obtain⟨g,Ae,rfl⟩:∃g Ae,v' = .slice (some ⟨g,0,none⟩) (bs.length+1) Ae:=by
  rcases Ab.2 with⟨_,h0⟩|⟨g,Ae,An,hv,_⟩
  ·omega
  ·exact⟨g,Ae,hv⟩
 go_wp2;go_ret;refine⟨rfl,?_,?_,((Ai.alloc _).grown Aa (ok3 (Ac.alloc _))).setCell ⟨b,1,none⟩ rfl _⟩
 ·exact Lib.BuilderAt.put (T:=88) (e:=5) hB Ag (bs':=bs++[.int .u8 c]) (by simpa using Ab) (by decide)
 ·exact((Af.alloc (by have:=Af.size;omega) _).grown Aa (by have:=Af.size;simp;omega) (fun k hk=>(Ac.lt k hk).1)).setCell (p:=⟨b,1,none⟩) hB _
theorem wSk(B b:Nat)(bs:List Value)(s:ByteArray)(w:World)(h:Lib.IsBuilder 88 5 B b bs w)(hlen:bs.length+s.size<=140737488355328)(hBw:B<=w.heap.size) :
  Calls Tryz.prog 41 #[.pointer (some ⟨b,0,none⟩),.string s] w fun e w'=>e = .returned (.tuple #[.int .i64 s.size,.nilIface])/\(Lib.BuilderAt 88 5 B b (.pointer (some ⟨b,0,none⟩)) (bs++Lib.strCells s) w'/\Below B w w'/\Lib.OthersKept 5 (some b) w w'):=by
 obtain⟨i0,hi,Aj,Am,Ah⟩:=zF (P:=Tryz.prog) (e:=5) (z:=.int .u8 0) (size:=1) (bytes:=1) (by kernel_rfl);go_enter Tryz.func41,Tryz.ntmps41;go_wp2_with (go_at_call 92;refine(ck3 B b bs _ h).mono ?_);rintro e w1 ⟨rfl,h1,Ag,Ai⟩;obtain⟨hB,v,Ad,Ac,Ak⟩:=h1;have c0:w1.cell? ⟨b,0,none⟩=some (.pointer (some ⟨b,0,none⟩)):=by rw[jF Ad];rfl
 have c1:w1.cell? ⟨b,1,none⟩=some v:=by rw[jF Ad];rfl
 go_wp2_with (at_builtin;refine Lib.wpList_append_own_string _ rfl _ _ 86 9 rfl B 5 i0 Tryz.underlying86 Tryz.underlying9 hi Aj Am Ah _ _ _ rfl Ac s rfl ?c3 ?c4 ?c5 ?_)
 case c3=>unfold maxLen;omega
 case c4=>omega
 case c5=>have:=Ag.size;omega
 intro v' w2 Ab Aa _;have Al:b<w1.heap.size:=(qA.1 Ad).1
 have Ae:w2.heap[b]?=some (.cells #[.pointer (some ⟨b,0,none⟩),v] 88 (0,0)):=by rw[Aa.block b Al (fun e=>Ak e.symm)];exact Ad
 have d0:w2.cell? ⟨b,0,none⟩=some (.pointer (some ⟨b,0,none⟩)):=by rw[jF Ae];rfl
 have d1:w2.cell? ⟨b,1,none⟩=some v:=by rw[jF Ae];rfl
 have f1:w2.frozen? ⟨b,1,none⟩=false:=qAc Ae 1
 obtain⟨ao,n',Af,rfl⟩:∃ao n' Af,v' = .slice ao n' Af:=by
  rcases Ab.2 with⟨hv,_⟩|⟨g,Af,An,hv,_⟩
  ·exact⟨_,_,_,hv⟩
  ·exact⟨_,_,_,hv⟩
 go_wp2;go_ret2;refine⟨rfl,?_,?_,(Ai.grown Aa (ok3 Ac)).setCell ⟨b,1,none⟩ rfl _⟩
 ·exact Lib.BuilderAt.put (T:=88) (e:=5) hB Ae (bs':=bs++Lib.strCells s) (by simpa[Lib.strCells_length]using Ab) (by decide)
 ·exact(Ag.grown Aa (by have:=Ag.size;omega) (fun k hk=>(Ac.lt k hk).1)).setCell (p:=⟨b,1,none⟩) hB _
theorem bb5{b:Nat}{l:List UInt8}{s:ByteArray}{p:Value}{w:World}(h:Lib.BuilderAt 88 5 b b p (Lib.byteCells l++Lib.strCells s) w):Lib.BuilderAt 88 5 b b p (Lib.byteCells (l++s.data.toList)) w:=by
 have e:Lib.byteCells (l++s.data.toList)=Lib.byteCells l++Lib.strCells s:=by unfold Lib.byteCells Lib.strCells;rw[qs]
 rw[e];exact h
theorem bAs{b:Nat}{p:Value}{bs:List Value}{w w':World}(h:Lib.BuilderAt 88 5 b b p bs w)(hb:w'.heap[b]?=w.heap[b]?)(hk:∀(k:Nat) (c:Array Value) (fz:Nat×Nat),w.heap[k]?=some (Obj.cells c 5 fz)->w'.heap[k]?=w.heap[k]?):Lib.BuilderAt 88 5 b b p bs w':=by
 obtain⟨hB,v,h1,h2,h3⟩:=h;refine⟨hB,v,hb.trans h1,⟨h2.1,?_⟩,h3⟩;rcases h2.2 with h|⟨g,Ab,Aa,hv,Ac,hg,r⟩
 ·exact .inl h
 ·exact .inr ⟨g,Ab,Aa,hv,Ac,(hk g Aa _ hg).trans hg,r⟩
theorem bs2{b:Nat}{l:List UInt8}{w w':World}(h:Bd b l w)(hb:w'.heap[b]?=w.heap[b]?)(hk:∀(k:Nat) (c:Array Value) (fz:Nat×Nat),w.heap[k]?=some (Obj.cells c 5 fz)->w'.heap[k]?=w.heap[k]?):Bd b l w':=
 h.imp (fun h=>bAs h hb hk) fun h=>bAs h hb hk
theorem bf{b:Nat}{w:World}(h:w.heap[b]?=some (.cells #[.pointer none,.slice none 0 0] 88 (0,0))):Bd b [] w:=
 .inl ⟨qC _,_,h,qg _ _ _ _,by simp[Value.ownBlock]⟩
theorem sk2(b:Nat)(l:List UInt8)(w:World)(h:Bd b l w)(h0:l≠[]) :
  Calls Tryz.prog 43 #[.pointer (some ⟨b,0,none⟩)] w fun e w'=>e = .returned (.string ⟨l.toArray⟩)/\Below b w w'/\Oth b w w':=by
 refine(Tryz.Builder_String_k b b l w (Lib.IsBuilderF.of h) h0).mono ?_;rintro e w' ⟨rfl,_,hb,ho⟩;exact⟨rfl,hb,ho⟩
theorem DV2.below{a0 a1:Addr}{w w':World}(h:DV2 a0 a1 w)(hb:Below w.heap.size w w'):DV2 a0 a1 w':=by
 obtain⟨c0,t0,h0⟩:=h.b0;obtain⟨c1,t1,h1⟩:=h.b1
 exact⟨h.ne,(hb.cell (p:=⟨3,0,none⟩) (qK _ _ h.g0)).trans h.g0,(hb.cell (p:=⟨2,0,none⟩) (qK _ _ h.g1)).trans h.g1,(hb.cell (p:=⟨1,0,none⟩) (qK _ _ h.g2)).trans h.g2,
  ⟨c0,t0,(hb.block _ (qA.1 h0).1).trans h0⟩,⟨c1,t1,(hb.block _ (qA.1 h1).1).trans h1⟩⟩
theorem gWc(s:ByteArray):(Tess.getW s).2.2=0∨(Tess.getW s).2.2=20∨(Tess.getW s).2.2=21:=by
 unfold Tess.getW;split
 ·split
  ·exact .inl rfl
  ·exact .inr (.inl rfl)
 ·show(if s.size<10 then 21 else 20)=0∨_;split
  ·exact .inr (.inr rfl)
  ·exact .inr (.inl rfl)
def GP2(s:ByteArray)(w:World)(e:Ending)(w':World):Prop:=e = .returned (.tuple #[.int .u64 ((Tess.getW s).1:Nat),.string (Tess.getW s).2.1,.int .i64 ((Tess.getW s).2.2:Nat)])/\Below w.heap.size w w'
theorem ga2(a0 a1:Addr)(s:ByteArray)(w:World)(hv:DV2 a0 a1 w):Calls Tryz.prog 176 #[.string s] w (GP2 s w):=by
 obtain⟨w0,Ab⟩:=Xq (w.alloc (.cells #[.string s] 236))
 have Ad:Below w.heap.size w w0:=by rw[Ab];exact(qJ _ _).alloc (qC _) _
 have Af:=hv.below Ad;have hn:=na2 a0 a1 w.heap.size s w0 Af (by rw[Ab];exact qBe w _ _) (by rw[Ab];simp);have Aa:∀W,Below w.heap.size w W->Calls Tryz.prog 172 #[deV a0 a1 (Tess.getW s).2.2] W fun e w'=>e = .returned (.int .i64 ((Tess.getW s).2.2:Nat))/\w'=W:=fun W hB=>va2 a0 a1 _ W (hv.below hB) (gWc s);unfold GP2;obtain⟨⟨n,rest,c⟩,hg⟩:∃g,g=Tess.getW s:=⟨_,rfl⟩
 rw[<-hg]at hn Aa⊢;obtain⟨er,Ak⟩:=Xq (deV a0 a1 c)
 simp only at hn Aa⊢;rw[<-Ak]at hn Aa;have HN:=Hd hn;have HT:=Hd Aa;have HW:=Hd Ab;have Al:=Hd Ad;clear hn Aa Ab hv Af hg Ak Ad;go_enter Tryz.func176,Tryz.ntmps176;go_wp2_with (go_at_call 170;rw[<-HW.out];refine HN.out.mono ?_;rintro e w1 ⟨rfl,Ai,_,Ah⟩);have Ae:Below w.heap.size w w1:=Al.out.trans (Ah.below (by rw[HW.out];simp))
 have Aj:=Hd (fun d os=>xQ ((HT.out (grow (redrawn w1 d) os) (Bt Ae (xm w1 d os))).mono fun _ _ ⟨h1,h2⟩=>⟨h1,by rw[h2];exact qJ _ _⟩));have q1:=fun d os=>cell_regrown Ai d os;have Ao:=Hd Ae;clear Ah Ae Ai;refine yc (by kernel_rfl) (by kernel_rfl) ?_
 repeat(go_big_quiet_step (exact Aj.out _ _))
 refine qAl ?_;intro _ An;obtain⟨⟨dq,Ag⟩,Ac⟩:=An;subst Ac;have Am:=Hd (Bt Ao.out (xm w1 dq Ag));generalize grow (redrawn w1 dq) Ag=w2 at *;clear Aj q1;go_wp2;go_ret3;exact⟨rfl,Am.out⟩
theorem ra5(s:ByteArray)(w:World)(hs:s.size<=maxLen):Calls Tryz.prog 195 #[.string s] w (GP2 s w):=by
 unfold maxLen at hs;unfold GP2;go_enter Tryz.func195,Tryz.ntmps195;go_wp2;go_loopw [5,6] (fun s5 i wr=>∃k:Nat,k<=min s.size 10/\i = .int .i64 k/\s5 = .int .u64 (Tess.dec (s.data.toList.take k)%18446744073709551616:Nat)/\(∀j (hj:j<s.data.toList.length),j<k->128<=s.data.toList[j].toNat)/\Below w.heap.size w wr) (fun _ i _=>10-(intOf i).toNat)
 case atStart=>exact⟨0,qN _,rfl,rfl,fun j _ h=>absurd h (zH _),qJ _ _⟩
 case round=>
  obtain⟨k,hk,rfl,rfl,Ai,hB⟩:=hrel;have HA:=Hd Ai;have HB:=Hd hB;clear Ai hB;by_cases hlt:k<min s.size 10
  ·have Ap:k<s.size:=by omega
   have Aq:(k:Int)<(s.size:Int):=by omega
   have Az:(k:Int)<10:=by omega
   have Av:decide ((k:Int)<(s.size:Int))=true:=decide_eq_true Aq;have A5:k<=9:=by omega
   have Ar:s.data.toList[k]'(by simpa using Ap)=s[k]:=by simp;rfl
   obtain⟨q,hq⟩:=Xq (7*k)
   have h7:(7:Int)*(k:Int)=(q:Int):=by omega
   have A9:(0:Int)<=(q:Int):=by omega
   have A3:(q:Int)<=64:=by omega
   have Ba:IntKind.i64.wrap (q:Int)=(q:Int):=by go_bits;first|trivial|omega
   obtain⟨A,hA⟩:=Xq (Tess.dec (s.data.toList.take k)%18446744073709551616)
   obtain⟨B,hB⟩:=Xq (((s[k].toNat%128)*2^(7*k))%18446744073709551616)
   obtain⟨C,hC⟩:=Xq (Tess.dec (s.data.toList.take (k+1))%18446744073709551616)
   have Ao:A ||| B=C:=by rw[hA,hB,hC,Tess.take_split _ k (by simpa using Ap)];exact Tess.as2 (s.data.toList.take k) s.data.toList[k] k (by simp;omega) A5
   have Al:A<18446744073709551616:=by rw[hA];exact yX _ (by omega)
   have Am:B<18446744073709551616:=by rw[hB];exact yX _ (by omega)
   have Ax:C<18446744073709551616:=by rw[hC];exact yX _ (by omega)
   have A7:bits .or .u64 (A:Int) (B:Int)=(C:Int):=by rw[bits_or_u64_nat A B Al Am,Ao]
   have An:IntKind.u64.wrap (((s[k].toNat:Nat):Int)%128*2^q)=(B:Int):=by rw[sc6,hB,hq]
   obtain⟨d,hd⟩:=Xq (s[k].toNat%128)
   have A8:((s[k].toNat:Nat):Int).tmod 128=(d:Int):=by rw[Int.tmod_eq_emod_of_nonneg (by omega)];omega
   have Bb:IntKind.u64.wrap ((d:Int)*2^q)=(B:Int):=by rw[<-An];congr 2;omega
   have A1:d<128:=by omega
   have A4:IntKind.u8.wrap (d:Int)=(d:Int):=by go_bits;first|trivial|omega
   have A0:IntKind.u64.wrap (d:Int)=(d:Int):=by go_bits;first|trivial|omega
   have A6:IntKind.i64.wrap ((k:Int)+1)=(k:Int)+1:=by go_bits;first|trivial|omega
   have Bc:(k:Int)+1<=(s.size:Int):=by omega
   rw[<-hA];have HC:=Hd hC;clear hA hB hC Ao hq Al Am An hd;by_cases hc:s[k].toNat<128
   ·have A2:((s[k].toNat:Nat):Int)<128:=by omega
    have Aa:=Tess.sa7 s.data.toList k (by simp;omega) HA.out (.inr ⟨by simpa using Ap,by omega,by rw[Ar];exact hc⟩);have At:=Tess.again s.data.toList k (by simpa using Ap) (by omega) HA.out (by rw[Ar];exact hc)
    have Ab:Tess.gV s.data.toList k=true->Tess.getW s=(C,s.extract (k+1) s.size,0):=fun hg=>by unfold Tess.getW;rw[Aa,qR hlt,qR hg,HC.out,jf (At.2 hg)]
    have Ac:Tess.gV s.data.toList k=false->Tess.getW s=(0,s,20):=fun hg=>by unfold Tess.getW;rw[Aa,qR hlt,qH (by rw[hg];decide)]
    have Aj:=fun W=>ra6 9 C W (by omega) Ax
    have Ag:((Tess.putW C).toList==(s.extract 0 (k+1)).toList)=Tess.gV s.data.toList k:=by rw[Bool.eq_iff_iff,xM,<-At.1,<-HC.out,Tess.tl,Tess.tl];simp only[Tess.putW,yq,xG,yW,qV,Nat.sub_zero]
    obtain⟨g,hg⟩:=Xq (Tess.gV s.data.toList k)
    rw[<-hg]at Ab Ac Ag;have Af:=Hd Aj;have Ak:=Hd Ab;have As:=Hd Ac;clear Aa At Ab Ac Aj hg Ar HC;obtain⟨Z,hZ⟩:=Xq (Tess.putW C)
    rw[<-hZ]at Af Ag;clear hZ;obtain⟨Y,hY⟩:=Xq (s.extract 0 (k+1))
    rw[<-hY]at Ag;have Bd:=hY.symm;clear hY;cases g
    ·have HG:=Hd (As.out rfl);have C1:=Hd (fun d os=>xQ (Af.out (grow (redrawn wr d) os)));go_wp2;refine yc (by kernel_rfl) (by kernel_rfl) ?_
     repeat(go_big_quiet_step (exact C1.out _ _))
     refine qAl ?_;intro _ Ay;obtain⟨⟨dq,Ah⟩,Ad⟩:=Ay;subst Ad;have Au:=Hd (Bt HB.out (xm wr dq Ah));generalize grow (redrawn wr dq) Ah=w2 at *;clear C1;go_wp2;go_ret3;exact⟨by rw[HG.out];rfl,Au.out⟩
    ·have HG:=Hd (Ak.out rfl);have C1:=Hd (fun d os=>xQ (Af.out (grow (redrawn wr d) os)));go_wp2;refine yc (by kernel_rfl) (by kernel_rfl) ?_
     repeat(go_big_quiet_step (exact C1.out _ _))
     refine qAl ?_;intro _ Ay;obtain⟨⟨dq,Ah⟩,Ad⟩:=Ay;subst Ad;have Au:=Hd (Bt HB.out (xm wr dq Ah));generalize grow (redrawn wr dq) Ah=w2 at *;clear C1;go_wp2;go_quiet (fail);go_wp2;go_ret3;exact⟨by rw[HG.out];rfl,zi Au.out _⟩
   ·have A2:¬((s[k].toNat:Nat):Int)<128:=by omega
    go_wp2;go_roundw
    case rel=>
     refine⟨k+1,by omega,by go_num,by rw[HC.out],fun j hj hjk=>?_,HB.out⟩;by_cases hjk2:j<k
     ·exact HA.out j hj hjk2
     ·obtain rfl:j=k:=by omega
      rw[Ar];omega
    case measure=>simp[intOf];omega
  ·have Aa:=Tess.sa7 s.data.toList k (by simpa using hk) HA.out (.inl (by simp;omega))
   have hW:Tess.getW s=(0,s,if s.size<10 then 21 else 20):=by unfold Tess.getW;rw[Aa,qH hlt]
   have HG:=Hd hW;clear Aa hW;by_cases h10:s.size<10
   ·have Aq:¬(k:Int)<(s.size:Int):=by omega
    have Av:decide ((k:Int)<(s.size:Int))=false:=qG Aq;have Aw:(s.size:Int)<10:=by omega
    go_wp2;go_ret3;exact⟨by rw[HG.out,qR h10];rfl,HB.out⟩
   ·obtain rfl:k=10:=by omega
    have Aw:¬(s.size:Int)<10:=by omega
    by_cases Aq:(10:Nat)<s.size
    ·have Ae:(10:Int)<(s.size:Int):=by omega
     have Av:decide ((10:Int)<(s.size:Int))=true:=decide_eq_true Ae;go_wp2;go_ret3;exact⟨by rw[HG.out,qH h10];rfl,HB.out⟩
    ·have Ae:¬(10:Int)<(s.size:Int):=by omega
     have Av:decide ((10:Int)<(s.size:Int))=false:=qG Ae;go_wp2;go_ret3;exact⟨by rw[HG.out,qH h10];rfl,HB.out⟩
