/- Joined. -/
import Derived.Test.YtjdccifdkjnknaaGreatDoorZC14
set_option maxRecDepth 100000
set_option maxHeartbeats 4000000
namespace Tess
theorem ro6(r l:ByteArray)(h:(wW2 r l).2.2=0):rW r l=((wW2 r l).2.1,(wW2 r l).1,0):=by unfold rW;rw[qR h]
theorem rn5(r l:ByteArray)(h:(wW2 r l).2.2≠0):rW r l=(w0,r,(wW2 r l).2.2):=by unfold rW;rw[qH h]
end Tess
namespace Go.Proofs.Q9
open Go.RowKit Go.Sort Go.Shelf
theorem ra23(s:ByteArray)(w:World)(hs:s.size<=1000000):Calls Tryz.prog 151 #[.string s] w (DP2 s w):=by
 have Av:=ra5 s w (by unfold maxLen;omega);have A2:=Tess.gWs s;have A8:=Tess.gWl s;have Al:=Tess.gWs2 (Tess.Suf.refl s);unfold GP2 at Av;have Aa:Tess.numW s 1000=if(Tess.getW s).2.2=0 then(if 1000<(Tess.getW s).1 then(0,s,50)else((Tess.getW s).1,(Tess.getW s).2.1,0))else(0,s,(Tess.getW s).2.2):=rfl
 obtain⟨⟨n,r,c⟩,hg⟩:∃g,g=Tess.getW s:=⟨_,rfl⟩
 rw[<-hg]at Av A2 A8 Al Aa;simp only at Av A2 A8 Al Aa;obtain⟨i0,hi,Bd,Bk,Bh⟩:=zF diS;have Az:=Hd Av;have A3:=Hd Al;clear Av hg Al;unfold DP2;by_cases hc:c=0
 ·subst hc;rw[qR rfl]at Aa;by_cases hn:1000<n
  ·rw[qR hn]at Aa;have HD:=Hd (show Tess.decW s=([],s,50) by rw[Tess.dWo s _ _ _ Aa,qH (by decide)]);have A6:(1000:Int)<(n:Int):=by omega
   have Bm:decide ((1000:Int)<(n:Int))=true:=decide_eq_true A6;clear Aa;go_enter Tryz.func151,Tryz.ntmps151;go_wp2_with (go_at_call 195;refine Az.out.mono ?_;rintro e w1 ⟨rfl,Am⟩;have HB:=Hd Am;clear Am);go_ret3;rw[HD.out];exact⟨_,rfl,SlOf.nil _,HB.out⟩
  ·rw[qH hn]at Aa;have HD:=Hd (Tess.dWo s _ _ _ Aa);have A6:¬(1000:Int)<(n:Int):=by omega
   have Bm:decide ((1000:Int)<(n:Int))=false:=qG A6;clear Aa;go_enter Tryz.func151,Tryz.ntmps151;go_wp2_with (go_at_call 195;refine Az.out.mono ?_;rintro e w1 ⟨rfl,Am⟩;have HB:=Hd Am;clear Am)
   go_loopw [6,8,9,10] (fun s6 s8 s9 i wr=>∃(k m:Nat) (o:List ByteArray) (r' l:ByteArray),k+m=n/\i = .int .u64 k/\s6 = .string r'/\s9 = .string l/\wr.ownsRow w.heap.size 9 1 s8 o.length (o.map .string)/\l.size<=100/\o.length=k/\r'.size<=s.size/\(∀y∈o,y.size<=100)/\Tess.Suf r' s/\Tess.fin o m r' l 0=Tess.fin [] n r Tess.w0 0/\Below w.heap.size w wr) (fun _ _ _ i _=>n-(intOf i).toNat)
   case atStart=>exact⟨0,n,[],r,Tess.w0,by omega,rfl,rfl,rfl,qg _ _ _ _,qN _,rfl,A2,fun y hy=>by simp at hy,A3.out,rfl,HB.out⟩
   case round=>
    clear HB Az;obtain⟨k,m,o,r',l,Bx,rfl,rfl,rfl,Aw,hl,Bv,Bq,Ao,A9,Aq,hB⟩:=hrel;have HO:=Hd Aw;have At:=Hd Ao;have HS:=Hd A9;have HF:=Hd Aq;have HB:=Hd hB;clear Aw A9 Aq hB Ao;by_cases hm:m=0
    ·subst hm;have Bc:¬(k:Int)<(n:Int):=by omega
     have HE:=Hd ((Tess.fe o 0 r' l 0 (.inr rfl)).symm.trans HF.out);clear HF;have Ac:=Tess.do4 s n 0 r r' o HD.out HE.out.symm;have A1:=SlOf.owned HO.out;have Aj:=ra9 _ o wr A1 (fun y hy=>by have:=At.out y hy;unfold maxLen;omega);unfold EP at Aj;obtain⟨⟨E,x⟩,hg⟩:∃g,g=Tess.encW o:=⟨_,rfl⟩
     rw[<-hg]at Aj Ac;simp only at Aj Ac;have Ae:=Tess.sc7 HS.out E;have Bl:=Hd A1;have An:=Hd Aj;clear A1 Aj hg HE;obtain⟨Y,hY⟩:=Xq (s.extract 0 (s.size-r'.size))
     rw[<-hY]at Ae;obtain⟨d,hd⟩:=Xq (s.size-r'.size)
     rw[<-hd]at hY;have Bp:=hY.symm;have Bo:(s.size:Int)-(r'.size:Int)=(d:Int):=by omega
     have Bu:IntKind.i64.wrap (d:Int)=(d:Int):=by go_bits;first|trivial|omega
     have Br:(d:Int)<=(s.size:Int):=by omega
     clear hY hd;by_cases hx:x=0
     ·subst hx;by_cases heq:E=Y
      ·have Ag:=Hd (show Tess.decW s=(o,r',0) by rw[Ac,qR ⟨rfl,Ae.2 heq⟩]);have Bi:(E.toList==Y.toList)=true:=by rw[heq];simp
       clear heq Ac Ae;go_wp2_with (go_at_call 48;refine An.out.mono ?_;rintro e w2 ⟨rfl,Ad⟩;have Ak:=Hd Ad;clear Ad);go_ret3;rw[Ag.out];exact⟨_,rfl,Bl.out.below Ak.out,Bt HB.out Ak.out⟩
      ·have Ag:=Hd (show Tess.decW s=([],s,50) by rw[Ac,qH (fun h=>heq (Ae.1 h.2))])
       have Bi:(E.toList==Y.toList)=false:=by rw[qi];intro h;exact heq (Tess.toList_inj h)
       clear heq Ac Ae;go_wp2_with (go_at_call 48;refine An.out.mono ?_;rintro e w2 ⟨rfl,Ad⟩;have Ak:=Hd Ad;clear Ad);go_ret3;rw[Ag.out];exact⟨_,rfl,SlOf.nil _,Bt HB.out Ak.out⟩
     ·have Ag:=Hd (show Tess.decW s=([],s,50) by rw[Ac,qH (fun h=>hx h.1)]);have Be:((x:Int)==0)=false:=by rw[qi];omega
      have A4:¬(x:Int)=0:=by omega
      clear Ac Ae;go_wp2_with (go_at_call 48;refine An.out.mono ?_;rintro e w2 ⟨rfl,Ad⟩;have Ak:=Hd Ad;clear Ad);go_ret3;rw[Ag.out];exact⟨_,rfl,SlOf.nil _,Bt HB.out Ak.out⟩
    ·obtain⟨j,rfl⟩:∃j,m=j+1:=⟨m-1,by omega⟩
     have Bc:(k:Int)<(n:Int):=by omega
     have Bw:IntKind.u64.wrap ((k:Int)+1)=(k:Int)+1:=by rw[wum];exact Int.emod_eq_of_lt (by omega) (by omega)
     have Ab:=ra61 r' l wr (by unfold maxLen;omega) hl;unfold RP4 at Ab;have Ax:=Tess.wWs r' l hl;have Ba:=Tess.wWr r' l;have Ah:=Tess.wWs2 HS.out l;have As:=Tess.fw o j r' l;have Ar:=Tess.fb2 o j r' l;have Af:=Tess.ro6 r' l;have Ai:=Tess.rn5 r' l;obtain⟨⟨r2,l2,x⟩,hg⟩:∃g,g=Tess.wW2 r' l:=⟨_,rfl⟩
     rw[<-hg]at Ax Ba Ah As Ar Af Ai;simp only at Ax Ba Ah As Ar Af Ai;by_cases hx:x=0
     ·rw[Af hx]at Ab;subst hx;have Ay:=Hd ((As rfl).symm.trans HF.out);have A5:=Hd Ab;have A0:=Hd Ah;clear Ab As Ar Af Ai hg HF Ah
      go_wp2_with (first
       |(go_at_call 197;refine A5.out.mono ?_;rintro e w2 ⟨rfl,Ad⟩;have Ak:=Hd (Bt HB.out Ad);have Bs:=(Bt HB.out Ad).size;have Bb:=Hd (ob2 HO.out Ad);clear Ad)
       |(at_builtin;refine qq _ rfl _ _ 22 rfl w.heap.size 9 i0 (.string ByteArray.empty) 1 16 Tryz.underlying22 hi Bd Bk Bh rfl (by decide) _ _ _ rfl (Bb.out.alloc _) ⟨w2.heap.size,0,none⟩ 1 1 [.string l2] rfl rfl (zh _ _ _) (by simp[Value.oneCell']) (by unfold maxLen;omega) (by omega) (by simp;omega) ?_;intro v' w3 Au Ap _))
      go_roundw
      case rel=>
       have Bg:Below w.heap.size w w3:=(Ak.out.alloc Ak.out.size _).grown Ap (by simp;omega) (fun k e=>by have:=(Bb.out.lt k e).1;omega);exact⟨k+1,j,o++[l2],r2,l2,by omega,by go_num,rfl,rfl,by simpa using Au,Ax,by simp;omega,by omega,fun y hy=>by rcases zk.1 hy with h|h;exact At.out y h;rw[zJ.1 h];exact Ax,A0.out,Ay.out,Bg⟩
      case measure=>simp[intOf];omega
     ·rw[Ai hx]at Ab;have Ay:=Hd ((Ar hx).symm.trans HF.out);have A7:=(Tess.fe o j r2 l2 x (.inl hx)).symm.trans Ay.out;have Bj:=Hd (Tess.db2 s n 0 x r r2 o HD.out A7.symm hx);have Be:((x:Int)==0)=false:=by rw[qi];omega
      have A4:¬(x:Int)=0:=by omega
      have A5:=Hd Ab;clear Ab As Ar Af Ai hg HF Ah A7 Ay;go_wp2_with (go_at_call 197;refine A5.out.mono ?_;rintro e w2 ⟨rfl,Ad⟩;have Ak:=Hd (Bt HB.out Ad);clear Ad);go_ret3;rw[Bj.out];exact⟨_,rfl,SlOf.nil _,Ak.out⟩
 ·rw[qH hc]at Aa;have HD:=Hd (show Tess.decW s=([],s,c) by rw[Tess.dWo s _ _ _ Aa,qH hc]);have Bn:((c:Int)==0)=false:=by rw[qi];omega
  have Bf:¬(c:Int)=0:=by omega
  clear Aa;go_enter Tryz.func151,Tryz.ntmps151;go_wp2_with (go_at_call 195;refine Az.out.mono ?_;rintro e w1 ⟨rfl,Am⟩;have HB:=Hd Am;clear Am);go_ret3;rw[HD.out];exact⟨_,rfl,SlOf.nil _,HB.out⟩
end Go.Proofs.Q9
namespace Tess
def wb:ByteArray:=⟨#[98]⟩
end Tess
namespace Go.Proofs.Q9
open Go.RowKit Go.Sort Go.Shelf
end Go.Proofs.Q9
namespace Tess
def insW(o:List ByteArray)(x:ByteArray):List ByteArray:=if place o x<o.length/\o.getD (place o x) w0=x then o else o.take (place o x)++[x]++o.drop (place o x)
def bT(l:List ByteArray)(k:Nat):List ByteArray:=(l.take k).foldl insW []
def bW(l:List ByteArray):List ByteArray×Nat:=if l.any diL then([],50)else if 1000<(bT l l.length).length then([],50)else(bT l l.length,0)
theorem bTs(l:List ByteArray)(k:Nat)(h:k<l.length):bT l (k+1)=insW (bT l k) l[k]:=by unfold bT;rw[qQ h,yr];rfl
theorem iWl(o:List ByteArray)(x:ByteArray):(insW o x).length<=o.length+1:=by
 have:=pl2 o x;unfold insW;split
 ·omega
 ·simp only[qI,qy,zn,zX];omega
theorem iWn(o:List ByteArray)(x:ByteArray):insW o x≠[]:=by
 unfold insW;split
 ·rename_i h;intro e;rw[e]at h;exact absurd h.1 (zH _)
 ·simp
theorem iWm(o:List ByteArray)(x y:ByteArray)(h:y∈insW o x):y∈o∨y=x:=by
 unfold insW at h;split at h
 ·exact .inl h
 ·simp only[zk,zJ]at h;rcases h with (h|h)|h
  ·exact .inl (jp h)
  ·exact .inr h
  ·exact .inl (qBv h)
theorem bWl(l:List ByteArray)(k:Nat)(h:k<l.length)(hx:100<l[k].size):bW l=([],50):=by unfold bW;rw[qR];rw[yj];exact⟨l[k],qP h,decide_eq_true hx⟩
theorem bWo(l:List ByteArray)(h:∀j (hj:j<l.length),l[j].size<=100):bW l=if 1000<(bT l l.length).length then([],50)else(bT l l.length,0):=by unfold bW;rw[qH];rw[yj];rintro⟨x,hx,hl⟩;obtain⟨j,hj,rfl⟩:=zq hx;have:=h j hj;have:=zT hl;omega
end Tess
namespace Go
open Go.RowKit
theorem ol3{w:World}{base base':Nat}{e:TypeId}{size:Nat}{v:Value}{n:Nat}{xs:List Value}(h:w.ownsRow base e size v n xs)(hb:base'<=base):w.ownsRow base' e size v n xs:=by
 refine⟨h.1,?_⟩;rcases h.2 with h|⟨g,Aa,Ab,hv,hg,r⟩
 ·exact .inl h
 ·exact .inr ⟨g,Aa,Ab,hv,by omega,r⟩
theorem wLa3{P:Program}(w:World){ops:Array Oper}{rest:List Oper}{o:Oper}{a:Act}{Q:Exit->Act->World->Prop}(hgd:o.guard=none)(s x:Operand)(t:TypeId)
  (hop:o.op=Op.call { callee:=Callee.builtin Builtin.append,args:=#[s,x],argTypes:=#[t,t] })
  (base:Nat) (e:TypeId) (i:TypeInfo) (size:Nat) (h1:P.underlying t=some (.slice e)) (h2:P.info? e=some i)
  (v:Value) (k:Nat) (xs:List Value) (hs:a.eval s=v) (hown:w.ownsRow base e size v k xs) (hx:a.eval x = .slice none 0 0)
  (hK:wpList P ops Q rest (a.put o.dst v) w):wpList P ops Q (o::rest) a w:=by
 refine wpList_plain hgd fun K hK'=>?_;have Aa:=run_append_owned_none (P:=P) w base t o.type e i size h1 h2 v k xs hown;unfold Oper.wp;simp[execOp,hop,resolve,invoke,builtin,hs,hx,Aa,Result.andThen];exact hK' _ _ hK
namespace Flow
variable {P:Program} {ops:Array Oper}
theorem fa8{o:Oper}{a:Act}{w:World}{V:Value->World->Prop}(s x:Operand)(t:TypeId)(hop:o.op=Op.call { callee:=Callee.builtin Builtin.append,args:=#[s,x],argTypes:=#[t,t] })
  (u:Value) (hs:a.eval s=u) (sv:Value) (hx:a.eval x=sv) (h:∃v' w',(Builtin.append_ #[t,t] o.type #[u,sv]).run P w = .ok v' w'/\Below w.heap.size w w'/\V v' w')
  (hw:Region.wanted o (yielded ops a.tmps)=true):Runs P ops o (.inr V) a w:=by
 obtain⟨v',w',Aa,hb,hV⟩:=h;refine ro3 (w':=w') (u:=v') hw ?_ hb hV;simp[execOp,hop,resolve,invoke,builtin,hs,hx,Aa,Result.andThen]
end Flow
end Go
namespace Tess
open Go
def Up(l:List ByteArray):Prop:=l.Pairwise fun x y=>bl x y=true
theorem ba2{a b:ByteArray}(h:bl a b=true)(h':bl b a=true):False:=by have:=bt2 h h';rw[bi2]at this;cases this
theorem uo:∀(l m:List ByteArray),Up l->Up m->(∀x,x∈l↔x∈m)->l=m:=by
 intro l
 induction l with
 |nil=>
   intro m _ _ h;cases m with
   |nil=>rfl
   |cons b m=>exact absurd ((h b).2 (by simp)) (by simp)
 |cons a l ih=>
   intro m hl hm h;cases m with
   |nil=>exact absurd ((h a).1 (by simp)) (by simp)
   |cons b m=>
     have Aa:=qBa.1 hl;have Ab:=qBa.1 hm
     have Ac:a=b:=by
      rcases qm.1 ((h a).1 (by simp))with e|e
      ·exact e
      ·rcases qm.1 ((h b).2 (by simp))with e'|e'
       ·exact e'.symm
       ·exact(ba2 (Ab.1 a e) (Aa.1 b e')).elim
     subst Ac;rw[ih m Aa.2 Ab.2 fun x=>?_];constructor
     ·intro hx;rcases qm.1 ((h x).1 (by simp[hx]))with e|e
      ·subst e;exact(ba2 (Aa.1 x hx) (Aa.1 x hx)).elim
      ·exact e
     ·intro hx;rcases qm.1 ((h x).2 (by simp[hx]))with e|e
      ·subst e;exact(ba2 (Ab.1 x hx) (Ab.1 x hx)).elim
      ·exact e
theorem ua3{l:List ByteArray}(h:Up l):Asc l:=by intro i j Aa hj;rw[getD_lt l i (by omega),getD_lt l j hj];exact xU.1 h i j (by omega) hj Aa
theorem iWa(o:List ByteArray)(x y:ByteArray):y∈insW o x↔y∈o∨y=x:=by
 constructor
 ·exact iWm o x y
 ·intro h;unfold insW;split
  ·rename_i hc;rcases h with h|h
   ·exact h
   ·rw[getD_lt o _ hc.1]at hc;rw[h,<-hc.2];exact qP _
  ·rcases h with h|h
   ·rw[<-jm (place o x) o]at h;rcases zk.1 h with h|h
    ·simp[h]
    ·simp[h]
   ·simp[h]
theorem iWu(o:List ByteArray)(x:ByteArray)(h:Up o):Up (insW o x):=by
 have ha:=ua3 h;have hp:=ps3 o x;unfold insW;split
 ·exact h
 ·rename_i hc;have Ac:=pl2 o x;generalize place o x=p at *;refine List.pairwise_append.2 ⟨List.pairwise_append.2 ⟨h.sublist (List.take_sublist _ _),qBf _ _,?_⟩,h.sublist (List.drop_sublist _ _),?_⟩
  ·intro y hy z hz;obtain rfl:=zJ.1 hz;obtain⟨j,hj,rfl⟩:=zq hy;simp only[qy]at hj;have:=hp.1 j (by omega);rw[getD_lt o j (by omega)]at this;simpa using this
  ·intro y hy z hz;obtain⟨j,hj,rfl⟩:=zq hz;simp only[zn]at hj;have Aa:p<o.length:=by omega
   have hx:bl x o[p]=true:=by
    have h1:=hp.2 Aa;rw[getD_lt o p Aa]at h1;cases h2:bl x o[p]with
    |true=>rfl
    |false=>exact absurd ⟨Aa,by rw[getD_lt o p Aa];exact ba4 h1 h2⟩ hc
   have Ab:bl x (o.drop p)[j]=true:=by
    rw[List.getElem_drop];rcases jI j with rfl|Ad
    ·simpa using hx
    ·have:=ha p (p+j) (by omega) (by omega);rw[getD_lt o p Aa,getD_lt o (p+j) (by omega)]at this;exact bt2 hx this
   rcases zk.1 hy with hy|hy
   ·obtain⟨i,hi,rfl⟩:=zq hy;simp only[qy]at hi;have:=hp.1 i (by omega);rw[getD_lt o i (by omega)]at this;exact bt2 (by simpa using this) Ab
   ·obtain rfl:=zJ.1 hy;exact Ab
theorem bTu(l:List ByteArray):∀k,k<=l.length->Up (bT l k):=by
 intro k
 induction k with
 |zero=>intro _;simp[bT,Up]
 |succ k ih=>
   intro hk;rw[bTs l k (by omega)];exact iWu _ _ (ih (by omega))
theorem bTa(l:List ByteArray)(y:ByteArray):∀k,k<=l.length->(y∈bT l k↔y∈l.take k):=by
 intro k
 induction k with
 |zero=>intro _;simp[bT]
 |succ k ih=>
   intro hk;rw[bTs l k (by omega),iWa,ih (by omega),qQ (by omega),zk,zJ]
abbrev Lt:=List UInt8
theorem uc3(zs:List Lt)(h:zs.Pairwise fun x y=>x<=y):(Lib.compact zs).Pairwise fun x y=>x<y:=by
 unfold Lib.compact Lib.compactUpTo;rw[xi];rw[List.pairwise_filter];refine List.Pairwise.imp_of_mem ?_ (List.pairwise_lt_range (n:=zs.length));intro i j hi hj Ag _ hk;have Af:=zV.1 hi;have Aa:=zV.1 hj;unfold Lib.keeps at hk
 have Ac:zs[j]≠zs[j-1]:=by
  have:=zT hk;rcases this with e|e
  ·omega
  ·simpa[Aa,show j-1<zs.length by omega]using e
 have Ab:∀a b (Ae:a<=b) (hb:b<zs.length),zs[a]<=zs[b]:=by
  intro a b Ae hb;rcases jb a b with Ad|Ah
  ·exact xU.1 h a b (by omega) hb Ad
  ·have:a=b:=by omega
   subst this;exact List.le_refl _
 have h1:=Ab i (j-1) (by omega) (by omega);have h2:=Ab (j-1) j (by omega) Aa
 have h3:zs[j-1]<zs[j]:=by
  rcases Classical.em (zs[j-1]<zs[j])with h|h
  ·exact h
  ·exact absurd (List.le_antisymm (List.not_lt.1 h) h2) Ac
 have h4:zs[i]<zs[j]:=List.lt_of_le_of_lt h1 h3;simpa[Aa,show i<zs.length by omega]using h4
theorem mc2(zs:List Lt)(x:Lt):x∈Lib.compact zs↔x∈zs:=by
 constructor
 ·intro h;unfold Lib.compact Lib.compactUpTo at h;obtain⟨i,hi,rfl⟩:=qd.1 h;have Aa:i<zs.length:=zV.1 (qBx.1 hi).1;simp[Aa]
 ·intro h;obtain⟨i,hi,rfl⟩:=zq h;clear h
  induction i with
  |zero=>
    unfold Lib.compact Lib.compactUpTo;exact qd.2 ⟨0,qBx.2 ⟨zV.2 hi,by simp[Lib.keeps]⟩,by simp[hi]⟩
  |succ i ih=>
    by_cases e:zs[i+1]=zs[i]
    ·rw[e];exact ih (by omega)
    ·unfold Lib.compact Lib.compactUpTo;exact qd.2 ⟨i+1,qBx.2 ⟨zV.2 hi,by simpa[Lib.keeps,hi,show i<zs.length by omega]using e⟩,by simp[hi]⟩
def bytesOf(l:List ByteArray):List Lt:=l.map (·.data.toList)
def sB3(l:List ByteArray):List Lt:=(bytesOf l).mergeSort fun x y=>decide (x<=y)
def sW2(l:List ByteArray):List ByteArray:=(Lib.compact (sB3 l)).map fun b=>⟨b.toArray⟩
theorem sBu(l:List ByteArray):(sB3 l).Pairwise fun x y=>x<=y:=by
 unfold sB3;refine List.Pairwise.imp (fun h=>zT h) (List.pairwise_mergeSort (le:=fun(x y:Lt)=>decide (x<=y)) ?_ ?_ _)
 ·intro a b c h1 h2;exact decide_eq_true (List.le_trans (zT h1) (zT h2))
 ·intro a b;rcases List.le_total a b with h|h<;>simp[h]
theorem sWu(l:List ByteArray):Up (sW2 l):=by unfold sW2 Up;rw[xi];refine List.Pairwise.imp (fun {a b} h=>?_) (uc3 _ (sBu l));rw[bl3,tl,tl];exact decide_eq_true h
theorem sWa(l:List ByteArray)(y:ByteArray):y∈sW2 l↔y∈l:=by
 unfold sW2;rw[qd];constructor
 ·rintro⟨b,hb,rfl⟩;rw[mc2]at hb;have Aa:=(List.mergeSort_perm _ _).mem_iff.1 hb;obtain⟨x,hx,rfl⟩:=qd.1 Aa;simpa using hx
 ·intro h;refine⟨y.data.toList,?_,by simp⟩;rw[mc2];exact(List.mergeSort_perm _ _).mem_iff.2 (qd.2 ⟨y,h,rfl⟩)
theorem bs4(l:List ByteArray):bT l l.length=sW2 l:=
 uo _ _ (bTu l _ (qC _)) (sWu l) fun x=>by rw[bTa l x _ (qC _),jy,sWa]
theorem sWl(l:List ByteArray):(Lib.compact (sB3 l)).length=(sW2 l).length:=by unfold sW2;rw[qX]
theorem sBl(l:List ByteArray):(sB3 l).length=l.length:=by unfold sB3 bytesOf;simp
theorem ro5(l:List ByteArray)(h1:l.length<=1000)(h2:∀y∈l,y.size<=100)(h3:Asc l):right l=true:=by
 rw[rp2,qb,qb];refine⟨⟨decide_eq_true h1,?_⟩,?_⟩
 ·rw[xd,xI];intro y hy;have:=h2 y hy;unfold diL;simp;omega
 ·unfold chainTo;rw[qx];intro i hi;have Aa:=zV.1 hi;unfold ord;rcases jI i with rfl|h0
  ·rfl
  ·rw[h3 (i-1) i (by omega) Aa,Bool.or_true]
def mk(l:List UInt8):ByteArray:=⟨l.toArray⟩
theorem ml2(l:List UInt8):(mk l).data.toList=l:=rfl
theorem ms2(l:List UInt8):(mk l).size=l.length:=by show l.toArray.size=_;simp
theorem mo(b:ByteArray):mk b.data.toList=b:=rfl
theorem me2{b:ByteArray}{l:List UInt8}(h:b.data.toList=l):b=mk l:=by rw[<-h];rfl
theorem ma2(l m:List UInt8):mk l++mk m=mk (l++m):=by apply me2;rw[qAk,xq];rfl
theorem md2(l:List UInt8)(k:Nat):(mk l).extract k (mk l).size=mk (l.drop k):=by apply me2;rw[yq,xG,yW,ml2,ms2];exact qh (by simp)
theorem mt2(l:List UInt8)(k:Nat):(mk l).extract 0 k=mk (l.take k):=by apply me2;rw[yq,xG,yW,ml2];simp
theorem gWp2(n:Nat)(hn:n<16384)(r:List UInt8):getW (mk (putL n++r))=(n,mk r,0):=by
 by_cases h:n<128
 ·rw[pLl2 n h];have hc:(UInt8.ofNat n).toNat=n:=by rw[zP];omega
  have hs:stop (mk ([UInt8.ofNat n]++r)).data.toList=0:=by rw[ml2];unfold stop;rw[yw,qL,List.findIdx_cons,hc];simp[h]
  unfold getW;rw[hs,qR (by rw[ms2];simp only[qI,qU,zE];omega),qR (by unfold gV;simp),md2,ml2];simp only[qj,yw,qL,qY,qM,qV,dec,hc];rw[show n%128+128*0=n by omega]
 ·rw[pLg n h,pLl2 (n/128) (by omega)];have hc:(UInt8.ofNat (128+n%128)).toNat=128+n%128:=by rw[zP];omega
  have Aa:(UInt8.ofNat (n/128)).toNat=n/128:=by rw[zP];omega
  generalize UInt8.ofNat (128+n%128)=a at *;generalize UInt8.ofNat (n/128)=b at *
  have Ab:b≠0:=fun e=>by rw[e]at Aa;have:(0:UInt8).toNat=0:=rfl;omega
  have hs:stop (mk ([a,b]++r)).data.toList=1:=by rw[ml2];unfold stop;rw[qk,yw,qL,qL,List.findIdx_cons,List.findIdx_cons,hc,Aa,qG (by omega),decide_eq_true (by omega)];rfl
  unfold getW;rw[hs,qR (by rw[ms2];simp only[qI,qU,zE];omega),qR (by unfold gV;rw[ml2];simp[Ab]),md2,ml2];simp only[qk,qL,qY,qM,qV,dec,hc,Aa];rw[show(128+n%128)%128+128*(n/128%128+128*0)=n by omega];rfl
theorem nWp(n m:Nat)(hn:n<16384)(hm:n<=m)(r:List UInt8):numW (mk (putL n++r)) m=(n,mk r,0):=by unfold numW;rw[gWp2 n hn r];simp only[jH];rw[qH (by omega)]
def eF:ByteArray->List ByteArray->List UInt8
 |_,[]=>[]
 |a,y::l=>one a y++eF y l
theorem eTf(l:List ByteArray)(k:Nat)(hk:k<=l.length):eT l k++eF (lastOf l k) (l.drop k)=eF w0 l:=by
 induction k with
 |zero=>rfl
 |succ k ih=>
   rw[<-ih (by omega),zv (show k<l.length by omega)];show(eT l k++one (lastOf l k) (l.getD k w0))++_=eT l k++(one (lastOf l k) l[k]++eF l[k] (l.drop (k+1)));rw[lOs,getD_lt l k (by omega),zN]
theorem eLf(l:List ByteArray):encL l=putL l.length++eF w0 l:=by have:=eTf l l.length (qC _);rw[qBq]at this;unfold encL;rw[<-this];show _=putL l.length++(eT l l.length++[]);rw[zZ]
theorem st4:∀(x y:List UInt8),x.take (shr x y)=y.take (shr x y)
 |[],y=>by cases y<;>rfl
 |_::_,[]=>rfl
 |a::x,b::y=>by
   unfold shr;split
   ·rename_i h;rw[qL,qL,st4 x y,h]
   ·rfl
theorem st3(a b:ByteArray):a.data.toList.take (shared a b)=b.data.toList.take (shared a b):=st4 _ _
theorem wWo2(a y:ByteArray)(ha:a.size<=100)(hy:y.size<=100)(r:List UInt8):wW2 (mk (one a y++r)) a=(mk r,y,0):=by
 have Ac:=sl4 a y;have Ab:=st3 a y;generalize hn:shared a y=n at *
 have h1:numW (mk (one a y++r)) a.size=(n,mk (putL (y.size-n)++(y.data.toList.drop n++r)),0):=by
  have e:one a y++r=putL n++(putL (y.size-n)++(y.data.toList.drop n++r)):=by unfold one;rw[hn];simp only[zN]
  rw[e];exact nWp n a.size (by omega) Ac.1 _
 have h2:numW (mk (putL (y.size-n)++(y.data.toList.drop n++r))) (100-n)=(y.size-n,mk (y.data.toList.drop n++r),0):=nWp _ _ (by omega) (by omega) _;have hl:y.data.toList.length=y.size:=by simp
 have Aa:(y.data.toList.drop n).length=y.size-n:=by rw[zn,hl]
 rw[wWo _ a _ _ _ _ _ _ h1 h2,qR rfl,qR rfl,qH (by rw[ms2,qI];omega),md2,mt2];have e1:(y.data.toList.drop n++r).drop (y.size-n)=r:=by rw[<-Aa,List.drop_left]
 have e2:(y.data.toList.drop n++r).take (y.size-n)=y.data.toList.drop n:=by rw[<-Aa,qBk]
 rw[e1,e2]
 have e3:a.extract 0 n++mk (y.data.toList.drop n)=y:=by rw[<-mo a,mt2,ma2,Ab,jm];rfl
 rw[e3]
theorem wWf(l:List ByteArray):∀(a:ByteArray),a.size<=100->(∀y∈l,y.size<=100)->∀r,wW l.length (mk (eF a l++r)) a=(l,mk r,0):=by
 induction l with
 |nil=>intro a _ _ r;rfl
 |cons y l ih=>
   intro a ha hl r;have hy:=hl y (by simp)
   have hw:wW2 (mk (eF a (y::l)++r)) a=(mk (eF y l++r),y,0):=by show wW2 (mk ((one a y++eF y l)++r)) a=_;rw[zN];exact wWo2 a y ha hy _
   show wW (l.length+1) _ a=_;unfold wW;rw[hw];simp only[jH];rw[ih y hy (fun z hz=>hl z (by simp[hz])) r]
theorem de2(l:List ByteArray)(h:right l=true)(t:ByteArray):(encW l).2=0/\decW ((encW l).1++t)=(l,t,0):=by
 have he:encW l=(mk (encL l),0):=by unfold encW;rw[qR h];rfl
 have hs:mk (encL l)++t=mk (putL l.length++(eF w0 l++t.data.toList)):=by rw[<-mo t,ma2,eLf,zN];rfl
 have Aa:=rl2 l h;have hn:=nWp l.length 1000 (by omega) Aa (eF w0 l++t.data.toList)
 have Ab:∀y∈l,y.size<=100:=fun y hy=>by obtain⟨i,hi,rfl⟩:=zq hy;have:=rs2 l h i hi;rwa [getD_lt l i hi]at this
 have Ac:=wWf l w0 (qN _) Ab t.data.toList;refine⟨by rw[he],?_⟩;rw[he];show decW (mk (encL l)++t)=_;rw[hs,dWo _ _ _ _ hn,qR rfl,Ac];simp only[jH,he];rw[qR ⟨trivial,by rw[mo t];exact hs⟩];rfl
theorem df4(s:ByteArray)(h:(decW s).2.2=0):(encW (decW s).1).2=0/\(encW (decW s).1).1++(decW s).2.1=s/\right (decW s).1=true:=by
 have Aa:(encW (decW s).1).2=0/\(encW (decW s).1).1++(decW s).2.1=s:=by
  unfold decW at *;split at h
  ·rename_i h1;split at h
   ·rename_i h2;split at h
    ·rename_i h3;rw[qR h1,qR h2,qR h3];exact h3
    ·cases h
   ·rename_i h2;exact absurd h h2
  ·rename_i h1;exact absurd h h1
 refine⟨Aa.1,Aa.2,?_⟩;have:=Aa.1;unfold encW at this;split at this
 ·assumption
 ·cases this
theorem pm5(d:List ByteArray)(ha:Asc d)(i:Nat)(hi:i<d.length):place d d[i]=i:=by refine pa3 d d[i] i (yV hi) (fun j hj hji=>?_) (.inr ⟨hi,bi2 _⟩);have:=ha j i hji hi;rwa [getD_lt d j hj,getD_lt d i hi]at this
def has(l:List ByteArray)(x:ByteArray):Bool:=l.any fun y=>decide (y=x)
end Tess
namespace Tess
open Go Go.RowKit
theorem pLs(k:Nat):∀n,n<128^(k+1)->∃(L:List UInt8) (c:UInt8),putL n=L++[c]/\L.length<=k/\gO3 L/\c.toNat<128:=by
 induction k with
 |zero=>
   intro n hn;have h:n<128:=by simpa using hn
   exact⟨[],UInt8.ofNat n,pLl2 n h,qC _,fun j hj=>absurd hj (zH j),by rw[zP];omega⟩
 |succ k ih=>
   intro n hn;by_cases h:n<128
   ·exact⟨[],UInt8.ofNat n,pLl2 n h,qN _,fun j hj=>absurd hj (zH j),by rw[zP];omega⟩
   ·obtain⟨L,c,e,hl,hg,hc⟩:=ih (n/128) (by rw[yN]at hn;omega);refine⟨UInt8.ofNat (128+n%128)::L,c,by rw[pLg n h,e];rfl,by simp;omega,fun j hj=>?_,hc⟩;cases j with
    |zero=>show 128<=(UInt8.ofNat (128+n%128)).toNat;rw[zP];omega
    |succ j=>exact hg j (by simpa using hj)
theorem gWp(n:Nat)(hn:n<18446744073709551616)(r:List UInt8):getW (mk (putL n++r))=(n,mk r,0):=by
 have Ac:n<128^(9+1):=qF hn (by decide);obtain⟨L,c,e,hl,hg,hc⟩:=pLs 9 n Ac;have hd:=dpL 9 n Ac;have Ab:=pLl4 9 n Ac L c e;rw[e]at hd;have hL:(mk (putL n++r)).data.toList=L++c::r:=by rw[ml2,e];simp
 have hs:stop (L++c::r)=L.length:=by refine sa7 _ _ (by simp;omega) (fun j hj hk=>?_) (.inr ⟨by simp,by omega,by simpa using hc⟩);rw[xE hk];exact hg j hk
 have Ad:(L++c::r).getD L.length 0=c:=by simp
 have Aa:gV (L++c::r) L.length=true:=by
  unfold gV;rw[Ad];simp only[qb,qAe,qn];refine⟨?_,?_⟩
  ·rcases Ab with h|h
   ·left;rw[h];rfl
   ·exact .inr h
  ·by_cases h9:L.length<9
   ·exact .inl h9
   ·right;have h9:L.length=9:=by omega
    rw[da2,h9]at hd;have h3:(128:Nat)^9=9223372036854775808:=by decide
    rw[h3]at hd;omega
 unfold getW;rw[hL,hs,qR (by rw[ms2,e];simp only[qI,qU,zE];omega),qR Aa]
 have e1:(mk (putL n++r)).extract (L.length+1) (mk (putL n++r)).size=mk r:=by rw[md2,e];congr 1;rw[show L.length+1=(L++[c]).length by simp];exact List.drop_left
 have e2:(L++c::r).take (L.length+1)=L++[c]:=by rw[show L++c::r=(L++[c])++r by simp,show L.length+1=(L++[c]).length by simp];exact qBk
 rw[e1,e2,hd]
def tN(d:Int):Nat:=if 0<=d then(2*d).toNat else(-2*d-1).toNat
def bN2(k:Nat):Int:=if k%2=0 then((k/2:Nat):Int)else -((k/2:Nat):Int)-1
theorem bt3(d:Int):bN2 (tN d)=d:=by unfold bN2 tN;split<;>split<;>omega
theorem tl2(d:Int)(h: -9223372036854775808<=d/\d<=9223372036854775807):tN d<18446744073709551616:=by unfold tN;split<;>omega
def di:Int->List Int->List Int
 |_,[]=>[]
 |last,n::l=>wrap64 (n-last)::di n l
def pL2(l:List Int):List UInt8:=putL l.length++(di 0 l).flatMap fun d=>putL (tN d)
def takeN:Nat->Int->ByteArray->List Int×ByteArray×Nat
 |0,_,s=>([],s,0)
 |n+1,last,s=>
   if(getW s).2.2=0 then
    let x:=wrap64 (last+bN2 (getW s).1)
    let y:=takeN n x (getW s).2.1
    (x::y.1,y.2)
   else([],s,(getW s).2.2)
def uW(s:ByteArray):List Int×ByteArray×Nat:=
 if(getW s).2.2≠0 then([],s,(getW s).2.2)
 else if 1000<(getW s).1 then([],s,20)
 else
  let y:=takeN (getW s).1 0 (getW s).2.1
  if y.2.2=0 then y else([],s,y.2.2)
theorem wr5(x:Int): -9223372036854775808<=wrap64 x/\wrap64 x<=9223372036854775807:=by unfold wrap64;omega
theorem wb5(n last:Int)(h: -9223372036854775808<=n/\n<=9223372036854775807):wrap64 (last+wrap64 (n-last))=n:=by unfold wrap64;omega
theorem tNp:∀(l:List Int) (last:Int) (r:List UInt8),(∀x∈l,-9223372036854775808<=x/\x<=9223372036854775807)->takeN l.length last (mk (((di last l).flatMap fun d=>putL (tN d))++r))=(l,mk r,0)
 |[],_,_,_=>rfl
 |n::l,last,r,h=>by
   have hn:=h n (by simp);have ih:=tNp l n r fun x hx=>h x (by simp[hx])
   have e:((di last (n::l)).flatMap fun d=>putL (tN d))++r=putL (tN (wrap64 (n-last)))++(((di n l).flatMap fun d=>putL (tN d))++r):=by rw[di,zp,zN]
   rw[e,qU];unfold takeN;rw[gWp _ (tl2 _ (wr5 _)),qR rfl,bt3,wb5 n last hn];simp only[ih]
theorem unpack_pack(l:List Int)(hl:l.length<=1000)(h:∀x∈l,-9223372036854775808<=x/\x<=9223372036854775807)(r:List UInt8):uW (mk (pL2 l++r))=(l,mk r,0):=by unfold uW pL2;rw[zN,gWp _ (by omega),qH (by simp),qH (show ¬1000<l.length by omega)];simp only[tNp l 0 r h,jH]
theorem ri2{α:Type}{P:List α->Prop}(h0:P [])(h1:∀l x,P l->P (l++[x]))(l:List α):P l:=by
 rw[<-List.reverse_reverse l]
 induction l.reverse with
 |nil=>exact h0
 |cons x r ih=>rw[List.reverse_cons];exact h1 _ _ ih
def valB(l:List UInt8):Nat:=l.foldl (fun a b=>a*256+b.toNat) 0
theorem fB(l:List UInt8):∀a:Nat,l.foldl (fun a b=>a*256+b.toNat) a=a*256^l.length+valB l:=by
 unfold valB
 induction l with
 |nil=>intro a;simp
 |cons b l ih=>
   intro a;rw[jJ,jJ,ih,ih (0*256+b.toNat),qU,yN,jd,qBl,qj,xC,xB 256,jq]
theorem vBn:valB []=0:=rfl
theorem vBs(l:List UInt8)(b:UInt8):valB (l++[b])=valB l*256+b.toNat:=by unfold valB;rw[yr];rfl
theorem vBc(b:UInt8)(l:List UInt8):valB (b::l)=b.toNat*256^l.length+valB l:=by have:=fB l (0*256+b.toNat);rw[qBl,qj]at this;unfold valB at this⊢;rw[jJ,qBl,qj,this]
theorem vBa(l m:List UInt8):valB (l++m)=valB l*256^m.length+valB m:=by have:=fB m (valB l);unfold valB at *;rw[yr,this]
theorem vBl(l:List UInt8):valB l<256^l.length:=by
 induction l with
 |nil=>simp[vBn]
 |cons b l ih=>
   rw[vBc,qU,yN];have hb:b.toNat<256:=b.toNat_lt;have:b.toNat*256^l.length<=255*256^l.length:=jO _ (by omega);omega
def bytesBE:Nat->Nat->List UInt8
 |0,_=>[]
 |k+1,v=>bytesBE k (v/256)++[UInt8.ofNat (v%256)]
theorem bBl:∀k v,(bytesBE k v).length=k
 |0,_=>rfl
 |k+1,v=>by rw[bytesBE,qI,bBl k];rfl
theorem vb2:∀k v,v<256^k->valB (bytesBE k v)=v
 |0,v,h=>by
   have e:v=0:=by rw[Nat.pow_zero]at h;omega
   subst e;rfl
 |k+1,v,h=>by rw[yN]at h;rw[bytesBE,vBs,vb2 k (v/256) (by omega),zP];omega
theorem bv(l:List UInt8):bytesBE l.length (valB l)=l:=by
 refine ri2 (P:=fun l=>bytesBE l.length (valB l)=l) rfl (fun l b ih=>?_) l
 ·show bytesBE (l++[b]).length (valB (l++[b]))=l++[b];rw[qI,zX,bytesBE,vBs];have hb:b.toNat<256:=b.toNat_lt;rw[show(valB l*256+b.toNat)/256=valB l by omega,show(valB l*256+b.toNat)%256=b.toNat by omega,ih,UInt8.ofNat_toNat]
def fV(w:Nat)(l:List Nat):Nat:=l.foldl (fun a x=>a*2^w+x) 0
theorem fVs(w:Nat)(l:List Nat)(x:Nat):fV w (l++[x])=fV w l*2^w+x:=by unfold fV;rw[yr];rfl
theorem fVf(w:Nat)(l:List Nat):∀a:Nat,l.foldl (fun a x=>a*2^w+x) a=a*2^(l.length*w)+fV w l:=by
 unfold fV
 induction l with
 |nil=>intro a;simp
 |cons b l ih=>
   intro a;rw[jJ,jJ,ih,ih (0*2^w+b),qU,jd,qBl,qj,xC,jq,show 2^w*2^(l.length*w)=2^((l.length+1)*w) by rw[<-yZ,jd,ya,yO]]
theorem fVa(w:Nat)(l m:List Nat):fV w (l++m)=fV w l*2^(m.length*w)+fV w m:=by have:=fVf w m (fV w l);unfold fV at *;rw[yr,this]
theorem fVl(w:Nat)(l:List Nat):(h:∀x∈l,x<2^w)->fV w l<2^(l.length*w):=by
 refine ri2 (P:=fun l=>(∀x∈l,x<2^w)->fV w l<2^(l.length*w)) (fun _=>by simp[fV]) (fun l x ih h=>?_) l
 ·have h1:=ih fun y hy=>h y (by simp[hy]);have h2:=h x (by simp);rw[fVs,qI,zX,jd,ya,yZ];have:(fV w l+1)*2^w<=2^(l.length*w)*2^w:=jO _ h1;rw[jd,ya]at this;omega
theorem fVa2(w:Nat)(l:List Nat)(h:∀x∈l,x<2^w)(k:Nat)(hk:k<l.length):fV w l/2^((l.length-(k+1))*w)%2^w=l[k]:=by
 have e:l=(l.take k++[l[k]])++l.drop (k+1):=by rw[zN,yw,<-zv hk,jm]
 have hd:(l.drop (k+1)).length=l.length-(k+1):=zn
 have h1:fV w (l.drop (k+1))<2^((l.length-(k+1))*w):=by have:=fVl w (l.drop (k+1)) fun x hx=>h x (qBv hx);rwa [hd]at this
 have e2:fV w l=(fV w (l.take k)*2^w+l[k])*2^((l.length-(k+1))*w)+fV w (l.drop (k+1)):=by
  conv=>lhs;rw[e]
  rw[fVa,fVs,hd]
 rw[e2,xB,Nat.mul_add_div (jh _),xu h1,yD,xB,Nat.mul_add_mod];exact jf (h _ (qP hk))
def maxN(l:List Nat):Nat:=l.foldl max 0
theorem mNg:∀(l:List Nat) (a:Nat),a<=l.foldl max a/\∀x∈l,x<=l.foldl max a
 |[],a=>⟨qC _,fun x h=>by cases h⟩
 |y::l,a=>by
   obtain⟨h1,h2⟩:=mNg l (max a y);rw[jJ];refine⟨by omega,fun x hx=>?_⟩;rcases qm.1 hx with rfl|hx
   ·omega
   ·exact h2 x hx
theorem mNl(B:Nat):∀(l:List Nat) (a:Nat),a<=B->(∀x∈l,x<=B)->l.foldl max a<=B
 |[],_,h,_=>h
 |y::l,a,h,hl=>mNl B l (max a y) (by have:=hl y (by simp);omega) fun x hx=>hl x (by simp[hx])
def widN(l:List Nat):Nat:=bitLen (maxN l)
theorem wNl2(l:List Nat):∀x∈l,x<2^widN l:=fun x hx=>Nat.lt_of_le_of_lt ((mNg l 0).2 x hx) (bitLen_spec _).1
theorem wNl(l:List Nat)(h:∀x∈l,x<=65535):widN l<=16:=by
 have h1:maxN l<=65535:=mNl 65535 l 0 (by omega) h;by_cases h0:maxN l=0
 ·unfold widN;rw[h0];decide
 ·have h2:=(bitLen_spec (maxN l)).2 h0;unfold widN;rcases jb 16 (bitLen (maxN l))with h3|h3
  ·have:2^16<=2^(bitLen (maxN l)-1):=zf (by omega) (by omega);have e:(2:Nat)^16=65536:=by decide
   omega
  ·exact h3
def sP(n w:Nat):Nat:=(n*w+7)/8
def pN2(l:List Nat):List UInt8:=putL l.length++(UInt8.ofNat (widN l)::bytesBE (sP l.length (widN l)) (fV (widN l) l*2^(8*sP l.length (widN l)-l.length*widN l)))
def numK(w:Nat)(B:List UInt8)(k:Nat):Nat:=valB B/2^(8*B.length-(k+1)*w)%2^w
def uP(s:ByteArray):List Nat×ByteArray×Nat:=
 if(getW s).2.2≠0 then([],s,(getW s).2.2)
 else if 1000<(getW s).1 then([],s,40)
 else match (getW s).2.1.data.toList with
  |[]=>([],s,21)
  |b::t=>
    let n:=(getW s).1
    let w:=b.toNat
    if 16<w then([],s,40)
    else if t.length<sP n w then([],s,21)
    else
     let B:=t.take (sP n w)
     let l:=(List.range n).map (numK w B)
     if valB B%2^(8*B.length-n*w)≠0∨widN l≠w then([],s,40)
     else(l,mk (t.drop (sP n w)),0)
theorem sg2(n w:Nat):n*w<=8*sP n w:=by unfold sP;omega
theorem p22(k:Nat):256^k=2^(8*k):=by rw[Nat.pow_mul]
theorem upN(l:List Nat)(hl:l.length<=1000)(h:∀x∈l,x<=65535)(r:List UInt8):uP (mk (pN2 l++r))=(l,mk r,0):=by
 obtain⟨w,hw⟩:=XQ (widN l)
 have Ab:=wNl l h;have Ad:=wNl2 l;unfold pN2;rw[hw]at Ab Ad⊢;obtain⟨S,hS⟩:=XQ (sP l.length w)
 have Ae:=sg2 l.length w;rw[hS]at Ae⊢;have hV:=fVl w l Ad
 have hB:valB (bytesBE S (fV w l*2^(8*S-l.length*w)))=fV w l*2^(8*S-l.length*w):=by
  refine vb2 _ _ ?_;rw[p22]
  calc fV w l*2^(8*S-l.length*w)<2^(l.length*w)*2^(8*S-l.length*w):=Nat.mul_lt_mul_of_pos_right hV (jh _)
   _=2^(8*S):=by rw[<-yZ];congr 1;omega
 have Aa:=bBl S (fV w l*2^(8*S-l.length*w));generalize bytesBE S (fV w l*2^(8*S-l.length*w))=B at *;rw[zN,qk];unfold uP;rw[gWp _ (by omega),qH (by simp),qH (show ¬1000<l.length by omega),ml2];have Af:(UInt8.ofNat w).toNat=w:=by rw[zP];omega
 have ht:(B++r).take S=B:=by rw[<-Aa];exact qBk
 have hd:(B++r).drop S=r:=by rw[<-Aa];exact List.drop_left
 have Ac:(List.range l.length).map (numK w B)=l:=by
  refine xA (by simp) fun k h1 h2=>?_;rw[zL,yU];unfold numK;rw[hB,Aa];have hk:k<l.length:=h2
  have e:8*S-(k+1)*w=(8*S-l.length*w)+(l.length-(k+1))*w:=by
   have h3:(k+1)*w+(l.length-(k+1))*w=l.length*w:=by rw[<-jd];congr 1;omega
   omega
  rw[e,yZ,<-qBm,Nat.mul_div_cancel _ (jh _)];exact fVa2 w l Ad k hk
 simp only[Af,hS,ht,hd,Ac,hw];rw[qH (by omega),qH (by rw[qI];omega),qH];rw[hB,Aa,Nat.mul_mod_left];simp
end Tess
namespace Tess
open Go Kl Go.RowKit Go.Proofs.Q9
theorem sFj(l:List ByteArray):∀(f:Nat) (out:List ByteArray),(∀s∈l,s.size<=60000)->(joinL l).size<=f->sF f out (joinL l)=(out++l,0):=by
 induction l with
 |nil=>intro f out _ _;rw[sFz f out _ rfl,zZ]
 |cons s l ih=>
   intro f out h hf;have hr:rd (joinL (s::l))=(s,joinL l,0):=by rw[jLc];exact rm7 s _ (by have:=h s (by simp);omega)
   have hz:(joinL (s::l)).size≠0:=by rw[jLc,yJ,ms3];omega
   obtain⟨f',Aa,e⟩:=sFs2 f out (joinL (s::l)) hz hf (by rw[hr]);rw[e,hr,ih f' _ (fun x hx=>h x (by simp[hx])) (by rw[hr]at Aa;exact Aa)];simp
def nB2(x:ByteArray):List UInt8:=putL x.size++x.data.toList
def hB14(s:Sch):List UInt8:=putL s.dims.length++(putL s.mets.length++(putL s.grain.toNat++(s.dims++s.mets).flatMap nB2))
theorem sf2{s:Sch}(h:sO s=true):s.dims.length<=6/\s.mets.length<=4/\1<=s.grain/\s.grain<=1000000000/\∀x∈s.dims++s.mets,x.size<=20:=by unfold sO nO3 at h;simp only[qb,qn]at h;obtain⟨⟨⟨⟨⟨_,h1⟩,h2⟩,h3⟩,h4⟩,_,h5⟩:=h;refine⟨h1,h2,h3,h4,fun x hx=>?_⟩;have:=qx.1 h5 x hx;unfold nO at this;rw[qb,qn]at this;exact this.1
def I64s(l:List Int):Prop:=∀x∈l,-9223372036854775808<=x/\x<=9223372036854775807
def nR(n:Nat)(s:ByteArray):Option (List Int×ByteArray):=if(uW s).2.2=0/\(uW s).1.length=n then some ((uW s).1,(uW s).2.1)else none
theorem nb2(l:List Int)(hl:l.length<=1000)(h:I64s l)(r:List UInt8):nR l.length (mk (pL2 l++r))=some (l,mk r):=by unfold nR;rw[unpack_pack l hl h r];simp
def colT(C:List (CK×Pay)):List UInt8:=pL2 (C.map (·.1.1))++pL2 (C.map (·.2.n))
def tR2(s:ByteArray):Option (List Int×List Int):=
 if(uW s).2.2=0 then
  match nR (uW s).1.length s with
  |some (l,r)=>match nR (uW s).1.length r with
    |some (m,e)=>if e.size=0 then some (l,m)else none
    |none=>none
  |none=>none
 else none
theorem tb5(C:List (CK×Pay))(hC:C.length<=1000)(h1:I64s (C.map (·.1.1)))(h2:I64s (C.map (·.2.n))):tR2 (mk (colT C))=some (C.map (·.1.1),C.map (·.2.n)):=by have e1:=unpack_pack (C.map (fun x:CK×Pay=>x.1.1)) (by simpa using hC) h1 (pL2 (C.map (fun x:CK×Pay=>x.2.n)));have e2:=nb2 (C.map (fun x:CK×Pay=>x.1.1)) (by simpa using hC) h1 (pL2 (C.map (fun x:CK×Pay=>x.2.n)));have e3:=nb2 (C.map (fun x:CK×Pay=>x.2.n)) (by simpa using hC) h2 [];rw[zZ]at e3;rw[qX]at e2 e3;unfold tR2 colT;rw[e1];simp only[jH,qX,e2,e3];rfl
def dW(C:List (CK×Pay))(i:Nat):List ByteArray:=C.filterMap fun x=>x.1.2.getD i none
def dO2(C:List (CK×Pay))(i:Nat):List ByteArray:=sW2 (dW C i)
def idOf(d:List ByteArray):DV->Nat
 |none=>d.length
 |some b=>place d b
def colD(C:List (CK×Pay))(i:Nat):List UInt8:=encL (dO2 C i)++pN2 (C.map fun x=>idOf (dO2 C i) (x.1.2.getD i none))
def vA2(d:List ByteArray)(n:Nat):Option DV:=if d.length<n then none else if h:n<d.length then some (some d[n])else some none
def dimR(n:Nat)(s:ByteArray):Option (List DV):=
 if(decW s).2.2=0 then
  (if(uP (decW s).2.1).2.2=0/\(uP (decW s).2.1).1.length=n then
    (if(uP (decW s).2.1).2.1.size=0 then(uP (decW s).2.1).1.mapM (vA2 (decW s).1)else none)
  else none)
 else none
theorem mapM_some{α β:Type}(f:α->Option β)(g:α->β):∀(l:List α),(∀x∈l,f x=some (g x))->l.mapM f=some (l.map g)
 |[],_=>rfl
 |x::l,h=>by rw[qBn,h x (by simp),mapM_some f g l fun y hy=>h y (by simp[hy])];rfl
theorem sWf(l:List ByteArray):(sW2 l).length<=l.length:=by rw[<-sWl];have h:∀zs:List Lt,(Lib.compact zs).length<=zs.length:=fun zs=>Lib.compact_length_le zs;have:=h (sB3 l);rw[sBl]at this;exact this
theorem db3(C:List (CK×Pay))(i:Nat)(hC:C.length<=1000)(hw:∀x∈C,∀b,x.1.2.getD i none=some b->b.size<=100):dimR C.length (mk (colD C i))=some (C.map fun x=>x.1.2.getD i none):=by
 obtain⟨d,hd⟩:=XQ (dO2 C i)
 have Aa:∀b,b∈d↔b∈dW C i:=fun b=>by rw[<-hd];exact sWa _ b
 have Ae:d.length<=1000:=by rw[<-hd];have h1:=sWf (dW C i);have h2:(dW C i).length<=C.length:=je _ _;unfold dO2;omega
 have Af:∀y∈d,y.size<=100:=fun y hy=>by obtain⟨x,hx,e⟩:=qBb.1 ((Aa y).1 hy);exact hw x hx y e
 have Ad:Asc d:=by rw[<-hd];exact ua3 (sWu _)
 have hr:=ro5 d Ae Af Ad;have he:encW d=(mk (encL d),0):=by unfold encW;rw[qR hr];rfl
 have Ag:∀b,b∈d->∃h:place d b<d.length,d[place d b]=b:=fun b hb=>by obtain⟨j,hj,rfl⟩:=zq hb;have e:=pm5 d Ad j hj;exact⟨by rw[e];exact hj,by simp only[e]⟩
 have Ab:∀x∈C,idOf d (x.1.2.getD i none)<=1000/\vA2 d (idOf d (x.1.2.getD i none))=some (x.1.2.getD i none):=fun x hx=>by
  cases hv:x.1.2.getD i none with
  |none=>
    refine⟨Ae,?_⟩;unfold vA2 idOf;simp
  |some b=>
    obtain⟨h1,h2⟩:=Ag b ((Aa b).2 (qBb.2 ⟨x,hx,hv⟩));refine⟨by unfold idOf;simp only;omega,?_⟩;unfold vA2 idOf;simp only;rw[qH (by omega),dif_pos h1,h2]
 obtain⟨t,ht⟩:=XQ (pN2 (C.map fun x=>idOf d (x.1.2.getD i none)))
 have hp:=upN (C.map fun x=>idOf d (x.1.2.getD i none)) (by simpa using hC) (fun n hn=>by
  obtain⟨x,hx,rfl⟩:=qd.1 hn;have:=(Ab x hx).1
  omega) []
 rw[zZ,ht]at hp
 have Ac:decW (mk (encL d++t))=(d,mk t,0):=by have:=(de2 d hr (mk t)).2;rw[he,ma2]at this;exact this
 unfold dimR colD;rw[hd,ht,Ac];simp only[jH];rw[hp];simp only[qX,and_self,jH]
 rw[qR (by rfl),mapM_some (vA2 d) (fun n=>(vA2 d n).getD none) _ (fun n hn=>by
  obtain⟨x,hx,rfl⟩:=qd.1 hn
  rw[(Ab x hx).2];rfl),xe]
 congr 1;exact yI fun x hx=>by show(vA2 d (idOf d (x.1.2.getD i none))).getD none=_;rw[(Ab x hx).2];rfl
def colM(C:List (CK×Pay))(m:Nat):List UInt8:=
 pL2 (C.map fun x=>wHi (x.2.sums.getD m 0))++(pL2 (C.map fun x=>wrap64 (wLo (x.2.sums.getD m 0)))++(pL2 (C.map fun x=>x.2.mins.getD m 0)++pL2 (C.map fun x=>x.2.maxs.getD m 0)))
def wO(h l:Int):Int:=h*18446744073709551616+l%18446744073709551616
theorem wb8(n:Int):wO (wHi n) (wrap64 (wLo n))=n:=by unfold wO wHi wLo wrap64;omega
def metR(n:Nat)(s:ByteArray):Option (List Int×List Int×List Int):=
 match nR n s with
 |some (a,r1)=>match nR n r1 with
   |some (b,r2)=>match nR n r2 with
     |some (c,r3)=>match nR n r3 with
       |some (d,r4)=>if r4.size=0 then some (List.zipWith wO a b,c,d)else none
       |none=>none
     |none=>none
   |none=>none
 |none=>none
theorem zw:∀(l:List Int),List.zipWith wO (l.map wHi) (l.map fun n=>wrap64 (wLo n))=l
 |[]=>rfl
 |n::l=>by rw[jN,jN,List.zipWith_cons_cons,wb8,zw l]
theorem mb3(C:List (CK×Pay))(m:Nat)(hC:C.length<=1000)(h1:I64s (C.map fun x=>wHi (x.2.sums.getD m 0)))(h3:I64s (C.map fun x=>x.2.mins.getD m 0))(h4:I64s (C.map fun x=>x.2.maxs.getD m 0)) :
  metR C.length (mk (colM C m))=some (C.map fun x=>x.2.sums.getD m 0,C.map fun x=>x.2.mins.getD m 0,C.map fun x=>x.2.maxs.getD m 0):=by
 have h2:I64s (C.map fun x=>wrap64 (wLo (x.2.sums.getD m 0))):=fun z hz=>by obtain⟨x,_,rfl⟩:=qd.1 hz;exact wr5 _
 have e1:=nb2 _ (by simpa using hC) h1 (pL2 (C.map fun x=>wrap64 (wLo (x.2.sums.getD m 0)))++(pL2 (C.map fun x=>x.2.mins.getD m 0)++pL2 (C.map fun x=>x.2.maxs.getD m 0)));have e2:=nb2 _ (by simpa using hC) h2 (pL2 (C.map fun x=>x.2.mins.getD m 0)++pL2 (C.map fun x=>x.2.maxs.getD m 0));have e3:=nb2 _ (by simpa using hC) h3 (pL2 (C.map fun x=>x.2.maxs.getD m 0))
 have e4:=nb2 _ (by simpa using hC) h4 [];rw[qX]at e1 e2 e3 e4;rw[zZ]at e4;unfold metR colM;rw[e1];simp only;rw[e2];simp only;rw[e3];simp only;rw[e4];simp only;rw[qR (by rfl)];have:=zw (C.map fun x=>x.2.sums.getD m 0);rw[xe,xe]at this;exact zM some (Prod.ext this rfl)
def pS2(s:Sch)(C:List (CK×Pay)):List (List UInt8):=hB14 s::colT C::((List.range s.dims.length).map (colD C)++(List.range s.mets.length).map (colM C))
def encS(s:Sch)(C:List (CK×Pay)):ByteArray:=joinL ((pS2 s C).map mk)
def rS2(D M:Nat)(l:List ByteArray):Option (List (CK×Pay)):=
 if l.length=2+D+M then
  match tR2 (l.getD 1 w0)with
  |none=>none
  |some (ts,ns)=>match (List.range D).mapM fun i=>dimR ts.length (l.getD (2+i) w0)with
    |none=>none
    |some ds=>match (List.range M).mapM fun m=>metR ts.length (l.getD (2+D+m) w0)with
      |none=>none
      |some ms=>some ((List.range ts.length).map fun k=>((ts.getD k 0,ds.map (·.getD k none)),⟨ns.getD k 0,ms.map (·.1.getD k 0),ms.map (·.2.1.getD k 0),ms.map (·.2.2.getD k 0)⟩))
 else none
theorem getD_map{α β:Type}(f:α->β)(l:List α)(k:Nat)(h:k<l.length)(a:β):(l.map f).getD k a=f l[k]:=by rw[qE,qp,qD h];rfl
theorem rgD{α:Type}(l:List α)(a:α):(List.range l.length).map (fun i=>l.getD i a)=l:=by refine xA (by simp) fun i h1 h2=>?_;rw[zL,yU,qE,qD h2];rfl
theorem rb3{s:Sch}{C:List (CK×Pay)}(h:CO s C):rS2 s.dims.length s.mets.length ((pS2 s C).map mk)=some C:=by
 have hC:=h.len
 have Aa:∀x∈C,∀m,m<s.mets.length -> -9223372036854775808<=wHi (x.2.sums.getD m 0)/\wHi (x.2.sums.getD m 0)<=9223372036854775807:=fun x hx m hm=>by have hp:=(h.each x hx).pay;obtain⟨h1,h2,h3⟩:=hp.sum m hm;obtain⟨r1,r2,r3,r4⟩:=hp.rng m hm;have h0:=hp.one;have Ac:=(h.each x hx).most;have m1: -9223372036854775808*(x.2.n-1)<=x.2.mins.getD m 0*(x.2.n-1):=jx r1 (by omega);have m2:x.2.maxs.getD m 0*(x.2.n-1)<=9223372036854775807*(x.2.n-1):=jx r4 (by omega);unfold wHi;omega
 have hT:I64s (C.map fun x=>x.1.1):=fun z hz=>by obtain⟨x,hx,rfl⟩:=qd.1 hz;have:=(h.each x hx).time;omega
 have hN:I64s (C.map fun x=>x.2.n):=fun z hz=>by obtain⟨x,hx,rfl⟩:=qd.1 hz;have:=(h.each x hx).most;have:=(h.each x hx).pay.one;omega
 have hl:((pS2 s C).map mk).length=2+s.dims.length+s.mets.length:=by unfold pS2;simp;omega
 have g1:((pS2 s C).map mk).getD 1 w0=mk (colT C):=rfl
 have g2:∀i,i<s.dims.length->((pS2 s C).map mk).getD (2+i) w0=mk (colD C i):=fun i hi=>by unfold pS2;rw[show 2+i=i+1+1 by omega,jN,jN,xr,xr,qs,qE,jX (by simpa using hi),qp,qp,List.getElem?_range hi];rfl
 have g3:∀m,m<s.mets.length->((pS2 s C).map mk).getD (2+s.dims.length+m) w0=mk (colM C m):=fun m hm=>by unfold pS2;rw[show 2+s.dims.length+m=s.dims.length+m+1+1 by omega,jN,jN,xr,xr,qs,qE,jk (by simp),qp,qp];simp only[qX,xK,qBd];rw[List.getElem?_range hm];rfl
 have hd:(List.range s.dims.length).mapM (fun i=>dimR C.length (((pS2 s C).map mk).getD (2+i) w0))=some ((List.range s.dims.length).map fun i=>C.map fun x=>x.1.2.getD i none):=
  mapM_some _ _ _ fun i hi=>by
   rw[g2 i (zV.1 hi)];refine db3 C i hC fun x hx b hb=>?_;have hv:=(h.each x hx).dims.2;rw[qx]at hv
   have hm:some b∈x.1.2:=by
    rw[qE]at hb;cases he:x.1.2[i]? with
    |none=>rw[he]at hb;cases hb
    |some v=>rw[he]at hb;exact hb▸xF he
   have:=hv (valOf (some b)) (qd.2 ⟨_,hm,rfl⟩);unfold vO valOf at this;simpa using this
 have Ad:(List.range s.mets.length).mapM (fun m=>metR C.length (((pS2 s C).map mk).getD (2+s.dims.length+m) w0))=some ((List.range s.mets.length).map fun m=>(C.map fun x=>x.2.sums.getD m 0,C.map fun x=>x.2.mins.getD m 0,C.map fun x=>x.2.maxs.getD m 0)):=
  mapM_some _ _ _ fun m hm=>by
   have hm:=zV.1 hm;rw[g3 m hm];refine mb3 C m hC (fun z hz=>?_) (fun z hz=>?_) (fun z hz=>?_)
   ·obtain⟨x,hx,rfl⟩:=qd.1 hz;exact Aa x hx m hm
   ·obtain⟨x,hx,rfl⟩:=qd.1 hz;have:=(h.each x hx).pay.rng m hm;omega
   ·obtain⟨x,hx,rfl⟩:=qd.1 hz;have:=(h.each x hx).pay.rng m hm;omega
 unfold rS2;rw[qR hl,g1,tb5 C hC hT hN];simp only[qX];rw[hd];simp only;rw[Ad];simp only;congr 1;refine xA (by simp) fun k h1 h2=>?_;rw[zL,yU,getD_map _ C k h2,getD_map _ C k h2];simp only[xe];have hx:=h.each _ (qP h2)
 have e1:(List.range s.dims.length).map ((fun l:List DV=>l.getD k none) ∘ fun i=>C.map fun x=>x.1.2.getD i none)=C[k].1.2:=by rw[<-hx.dims.1];refine Eq.trans (yI fun i _=>?_) (rgD C[k].1.2 none);exact getD_map _ C k h2 none
 obtain⟨l1,l2,l3⟩:=hx.pay.len
 have Ab:∀(f:Pay->List Int),(f C[k].2).length=s.mets.length->(List.range s.mets.length).map (fun m=>(C.map fun x=>(f x.2).getD m 0).getD k 0)=f C[k].2:=fun f hf=>by rw[<-hf];refine Eq.trans (yI fun m _=>?_) (rgD (f C[k].2) 0);exact getD_map _ C k h2 0
 have e2:=Ab (fun p=>p.sums) l1;have e3:=Ab (fun p=>p.mins) l2;have e4:=Ab (fun p=>p.maxs) l3;rw[e1];show((C[k].1.1,C[k].1.2),(⟨C[k].2.n,(List.range s.mets.length).map (fun m=>(C.map fun x=>x.2.sums.getD m 0).getD k 0),(List.range s.mets.length).map (fun m=>(C.map fun x=>x.2.mins.getD m 0).getD k 0),(List.range s.mets.length).map (fun m=>(C.map fun x=>x.2.maxs.getD m 0).getD k 0)⟩:Pay))=C[k]
 rw[e2,e3,e4]
