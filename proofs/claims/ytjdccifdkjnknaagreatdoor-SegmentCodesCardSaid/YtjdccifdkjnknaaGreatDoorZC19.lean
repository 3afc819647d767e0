/- Joined. -/
import Derived.Test.YtjdccifdkjnknaaGreatDoorZC18
namespace Go.Proofs.Q9
open Go.RowKit Go.Sort Go.Shelf
open Tess (CK Pay ckLt)
open Tess.Kl (Asc)
theorem vc2(l:List Tess.DV):(l.map Tess.valOf).map Tess.Val.c=l:=by rw[xe];exact(yI fun v _=>Tess.cvO v).trans (List.map_id l)
end Go.Proofs.Q9
namespace Go
open Go.RowKit
variable {P:Program} (w:World)
theorem rcr(dT sT ty elem:TypeId)(g o dLen dCap k:Nat)(a:Addr)(sLen sCap:Nat)(cur:Array Value)(t:TypeId)(cs:List Value)
  (hu:P.underlying dT=some (.slice elem)) (hs:(P.info? elem).map (·.size)=some k)
  (hg:w.heap[g]?=some (.cells cur t (0,0))) (hn:cs.length=Nat.min sLen dLen*k)
  (hsrc:∀j v,cs[j]?=some v->w.cell? (a.add j)=some v) (hfit:o+cs.length<=cur.size) (h1:∀v∈cs,v.oneCell'=true) :
  (Builtin.copy_ #[dT,sT] ty #[.slice (some ⟨g,o,none⟩) dLen dCap,.slice (some a) sLen sCap]).run P w =
   .ok (goInt (Nat.min sLen dLen)) (w.setRow g (cur.toList.take o++cs++cur.toList.drop (o+cs.length)).toArray):=by
 have hl:=run_loadCells_list (P:=P) w a cs hsrc;have Aa:=run_storeCells_at P g o t cs 0 cur w hg (by simpa using hfit) h1;cases hq:P.info? elem with
 |none=>simp[hq]at hs
 |some i=>
   have hi:i.size=k:=by simpa[hq]using hs
   simp[Builtin.copy_,run_underlying hu,Builtin.lenOf,Builtin.firstCells,sizeOf,typeInfo,hq,hi,<-hn,hl,Aa]
theorem rcn(dT sT ty elem:TypeId)(d:Option Addr)(dLen dCap k:Nat)(hu:P.underlying dT=some (.slice elem))(hs:(P.info? elem).map (·.size)=some k) :
  (Builtin.copy_ #[dT,sT] ty #[.slice d dLen dCap,.slice none 0 0]).run P w = .ok (goInt 0) w:=by
 cases hq:P.info? elem with
 |none=>simp[hq]at hs
 |some i=>cases d<;>simp[Builtin.copy_,run_underlying hu,Builtin.lenOf,Builtin.firstCells,sizeOf,typeInfo,hq,storeCells]
theorem rms(t e:TypeId)(i:TypeInfo)(z:Value)(size:Nat)(ht:P.underlying t=some (.slice e))(hi:P.info? e=some i)(hz:i.zero=some z)(hsize:i.size=size)
  (kl kc:IntKind) (m n:Nat) (hmn:m<=n) (hbytes:i.bytes*n<=281474976710656) (h63:n<=maxLen) :
  ∃w' cur,(Instr.makeSlice t (.int kl (m:Int)) (.int kc (n:Int))).run P w = .ok (.slice (some ⟨w.heap.size,0,none⟩) m n) w' /\
    w'.heap[w.heap.size]?=some (.cells cur e (0,0))/\cur.size=n*size/\Below w.heap.size w w':=by
 subst hsize
 have Aa:(n:Int)<=9223372036854775807:=by have h:=h63;simp[maxLen]at h;omega
 have Ab:(i.bytes:Int)*(n:Int)<=281474976710656:=by
  have h:((i.bytes*n:Nat):Int)<=281474976710656:=by omega
  rwa [xZ]at h
 have hr:=run_make (P:=P) w t e i z ht hi hz kl kc m n (by omega) (by omega) Ab Aa;simp only[xj]at hr;exact⟨_,_,hr,jY _ _,size_madeCells _ _,(qJ _ _).alloc (qC _) _⟩
end Go
namespace Go.Proofs.Q9
open Go.RowKit Go.Sort
open Tess (CK Pay)
def one(g:Nat)(Z Y:Obj):FlowR.Rel where
 r w w':=w'.os=w.os/\w'.tape=w.tape/\w'.output=w.output/\w.heap.size<=w'.heap.size/\(∀k,k<w.heap.size->k≠g->w'.heap[k]?=w.heap[k]?) /\
   (w'.heap[g]?=w.heap[g]?∨(w.heap[g]?=some Z/\w'.heap[g]?=some Y))
 rf w:=⟨rfl,rfl,rfl,qC _,fun _ _ _=>rfl,.inl rfl⟩
 tr:=by
  rintro a b c ⟨h1,h2,h3,h4,h5,h6⟩ ⟨k1,k2,k3,k4,k5,k6⟩;refine⟨k1.trans h1,k2.trans h2,k3.trans h3,qt h4 k4,fun k hk hg=>(k5 k (qF hk h4) hg).trans (h5 k hk hg),?_⟩;rcases h6 with e1|⟨e1,e1'⟩<;>rcases k6 with e2|⟨e2,e2'⟩
  ·exact .inl (e2.trans e1)
  ·exact .inr ⟨e1▸e2,e2'⟩
  ·exact .inr ⟨e1,e2.trans e1'⟩
  ·exact .inr ⟨e1,e2'⟩
 drew w:=⟨rfl,rfl,rfl,qC _,fun _ _ _=>rfl,.inl rfl⟩
section
variable {g:Nat} {Z Y:Obj} {w w':World}
theorem ob3(hr:(one g Z Y).r w w'){b:Nat}(hb:b<w.heap.size)(hg:b≠g):w'.heap[b]?=w.heap[b]?:=hr.2.2.2.2.1 b hb hg
theorem oa11(hr:(one g Z Y).r w w'){b o:Nat}(hb:b<w.heap.size)(hg:b≠g):w'.cell? ⟨b,o,none⟩=w.cell? ⟨b,o,none⟩:=
 jz (a:=⟨b,o,none⟩) (hr.2.2.2.2.1 b hb hg)
theorem ob5(hr:(one g Z Y).r w w'){N:Nat}(hN:N<=g)(hw:N<=w.heap.size):Below N w w':=⟨hr.1,hr.2.1,hr.2.2.1,hr.2.2.2.1,fun k hk=>hr.2.2.2.2.1 k (by omega) (by omega)⟩
theorem oa4(hg:g<w.heap.size)(o:Obj):(one g Z Y).r w (w.alloc o):=
 ⟨rfl,rfl,rfl,by simp,fun k hk _=>heap_alloc_old w _ hk,.inl (heap_alloc_old w _ hg)⟩
def newRow(g:Nat)(cs:List Value)(v:Value)(w:World):Prop:=∃h,v = .slice (some ⟨h,0,none⟩) 1 1/\h<w.heap.size/\h≠g/\∀j u,cs[j]?=some u->w.cell? ⟨h,j,none⟩=some u
theorem nRm2(cs:List Value):FlowR.Spec.mono (one g Z Y) (.inr (newRow g cs)):=by rintro v a b ⟨h,h1,h2,h3,h4⟩ hr;exact⟨h,h1,qF h2 hr.2.2.2.1,h3,fun j u hu=>(oa11 hr h2 h3).trans (h4 j u hu)⟩
def tT2(g:Nat)(Y:Obj)(u v:Value)(w:World):Prop:=v=u/\w.heap[g]?=some Y
theorem tTm(u:Value):FlowR.Spec.mono (one g Z Y) (.inr (tT2 g Y u)):=by
 rintro v a b ⟨h1,hp⟩ hr;refine⟨h1,?_⟩;rcases hr.2.2.2.2.2 with e|⟨_,e⟩
 ·exact e.trans hp
 ·exact e
end
def over(cur:Array Value)(n:Nat)(cs:List Value):Array Value:=(cur.toList.take n++cs++cur.toList.drop (n+cs.length)).toArray
theorem os5{cur:Array Value}{n:Nat}{cs:List Value}(h:n+cs.length<=cur.size):(over cur n cs).size=cur.size:=by simp only[over,qu,qI,qy,zn,ju];omega
theorem oo3{cur:Array Value}{n:Nat}{cs:List Value}(h:n+cs.length<=cur.size):over (over cur n cs) n cs=over cur n cs:=by
 have hl:(cur.toList.take n).length=n:=by simp;omega
 have e1:(cur.toList.take n++cs++cur.toList.drop (n+cs.length)).take n=cur.toList.take n:=by rw[zN,List.take_append_of_le_length (by omega),qh (by omega)]
 have e2:(cur.toList.take n++cs++cur.toList.drop (n+cs.length)).drop (n+cs.length)=cur.toList.drop (n+cs.length):=
  qBw (by rw[qI,hl])
 unfold over;simp only[e1,e2]
theorem ot2{cur:Array Value}{n:Nat}{cs:List Value}(h:n+cs.length<=cur.size):(over cur n cs).toList.take (n+cs.length)=cur.toList.take n++cs:=by
 have hl:(cur.toList.take n).length=n:=by simp;omega
 unfold over;exact qAx (by rw[qI,hl])
theorem oa3{P:Program}{B n cap:Nat}{cur:Array Value}{T ty t:TypeId}{i:TypeInfo}{cs:List Value}{w0 w:World}{vs:Value}(ht:P.underlying t=some (.slice T))(hi:P.info? T=some i)(hz:i.size=6)
  (hw:(one B (.cells cur T (0,0)) (.cells (over cur (n*6) cs) T (0,0))).r w0 w) (h0:w0.heap[B]?=some (.cells cur T (0,0))) (hcs:cs.length=6) (h1:∀u∈cs,u.oneCell'=true)
  (hs:cur.size=cap*6) (hn:n+1<=cap) (hv:newRow B cs vs w) :
  ∃w',(Builtin.append_ #[t,t] ty #[.slice (some ⟨B,0,none⟩) n cap,vs]).run P w = .ok (.slice (some ⟨B,0,none⟩) (n+1) cap) w' /\
    (one B (.cells cur T (0,0)) (.cells (over cur (n*6) cs) T (0,0))).r w w'/\tT2 B (.cells (over cur (n*6) cs) T (0,0)) (.slice (some ⟨B,0,none⟩) (n+1) cap) (.slice (some ⟨B,0,none⟩) (n+1) cap) w':=by
 obtain⟨h,rfl,hl,Ab,hc⟩:=hv;have Aa:n*6+cs.length<=cur.size:=by omega
 obtain⟨c2,h2,h3,h4⟩:∃c2,w.heap[B]?=some (.cells c2 T (0,0))/\c2.size=cur.size/\over c2 (n*6) cs=over cur (n*6) cs:=by
  rcases hw.2.2.2.2.2 with e|⟨_,e⟩
  ·exact⟨cur,e.trans h0,rfl,rfl⟩
  ·exact⟨_,e,os5 Aa,oo3 Aa⟩
 have hr:=run_append_room (P:=P) w t ty T i ht hi B n cap c2 h2 ⟨h,0,none⟩ 1 1 cs (by rw[hz,hcs]) (fun j u hu=>by rw[Addr.add_lit,qj];exact hc j u hu) h1 hn (by rw[hz];omega);rw[hz]at hr;have hb:(w.setRow B (over c2 (n*6) cs)).heap[B]?=some (.cells (over cur (n*6) cs) T (0,0)):=by rw[h4];exact setRow_heap w B c2 _ T _ h2
 refine⟨_,hr,⟨rfl,rfl,rfl,by rw[setRow_size];exact qC _,fun k _ hk=>setRow_other w B k _ hk,?_⟩,rfl,hb⟩;rcases hw.2.2.2.2.2 with e|⟨_,e⟩
 ·exact .inr ⟨e.trans h0,hb⟩
 ·exact .inl (hb.trans e.symm)
theorem oo4{N B n cap:Nat}{cur:Array Value}{T:TypeId}{cs xs:List Value}{w:World}(hB:N<=B)(hb:w.heap[B]?=some (.cells (over cur (n*6) cs) T (0,0)))(hcs:cs.length=6)(hs:cur.size=cap*6)(hn:n+1<=cap)(hm:cap<=maxLen)
  (ht:cur.toList.take (n*6)=xs):w.ownsRow N T 6 (.slice (some ⟨B,0,none⟩) (n+1) cap) (n+1) (xs++cs):=by
 have Aa:n*6+cs.length<=cur.size:=by omega
 have hl:xs.length=n*6:=by rw[<-ht];simp;omega
 refine⟨by simp[hl,hcs];omega,.inr ⟨B,cap,_,rfl,hB,hb,hn,hm,by rw[os5 Aa,hs],?_⟩⟩;rw[<-ht,<-ot2 Aa,hcs,show(n+1)*6=n*6+6 by omega]
theorem ra2{P:Program}{R:FlowR.Rel}{ops:Array Oper}{o:Oper}{a:Act}{w w':World}{s:FlowR.Spec}{u v1 v2:Value}{t:TypeId}(y x:Operand)(ho:o.op = .call { callee:=.builtin .append,args:=#[y,x],argTypes:=#[t,t] })(hw:Region.wanted o (yielded ops a.tmps)=true)
  (h1:a.eval y=v1) (h2:a.eval x=v2) (hr:(Builtin.append_ #[t,t] o.type #[v1,v2]).run P w = .ok u w') (hb:R.r w w') (hv:s.holds u w'):FlowR.Runs R P ops o s a w:=
 FlowR.ro3 hw (by
  unfold execOp
  simp only[ho,resolve,invoke,builtin,xz,Sem.run_pure,Result.andThen_ok,List.map_toArray,jN,qAt,h1,h2,hr]) hb hv
theorem run_append_nil{P:Program}{w:World}{t ty e:TypeId}{i:TypeInfo}(ht:P.underlying t=some (.slice e))(hi:P.info? e=some i)(b:Addr)(n c:Nat)(hle:n<=c) :
  (Builtin.append_ #[t,t] ty #[.slice (some b) n c,.slice none 0 0]).run P w = .ok (.slice (some b) n c) w:=by
 simp[Builtin.append_,run_underlying ht,sizeOf,typeInfo,hi,Builtin.lenOf,hle,Builtin.firstCells,storeCells]
theorem wLa5{P:Program}{w:World}{ops:Array Oper}{rest:List Oper}{o:Oper}{a:Act}{Q:Exit->Act->World->Prop}(hgd:o.guard=none)(s x:Operand)(t:TypeId)
  (ho:o.op = .call { callee:=.builtin .append,args:=#[s,x],argTypes:=#[t,t] }) (e:TypeId) (i:TypeInfo) (ht:P.underlying t=some (.slice e)) (hi:P.info? e=some i) (b:Addr) (n c:Nat) (hs:a.eval s = .slice (some b) n c) (hx:a.eval x = .slice none 0 0) (hle:n<=c)
  (h:wpList P ops Q rest (a.put o.dst (.slice (some b) n c)) w):wpList P ops Q (o::rest) a w:=
 wpList_plain hgd fun _ hK=>by have hr:=run_append_nil (P:=P) (w:=w) (ty:=o.type) ht hi b n c hle;unfold Oper.wp execOp;simp only[ho,resolve,invoke,builtin,xz,Sem.run_pure,Result.andThen_ok,List.map_toArray,jN,qAt,hs,hx,hr];exact hK _ _ h
