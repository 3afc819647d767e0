/- What a cell and another one come to, in place: the program's add, walked. -/
import Derived.Test.YtjdccifdkjnknaaGreatDoorZC17
namespace Go.Proofs.Q9
open Go.RowKit Go.Sort
open Tess (CK Pay)
section
variable {B M:Nat} {S:Nat->Prop} {t n:Int} {vd vs vm vx us um ux:Value} {s1 m1 x1 s2 m2 x2:List Int} {W:World}
end
def two(g h:Nat)(Z Y Z' Y':Obj):FlowR.Rel where
 r w w':=w'.os=w.os/\w'.tape=w.tape/\w'.output=w.output/\w.heap.size<=w'.heap.size/\(∀k,k<w.heap.size->k≠g->k≠h->w'.heap[k]?=w.heap[k]?) /\
   (w'.heap[g]?=w.heap[g]?∨(w.heap[g]?=some Z/\w'.heap[g]?=some Y))/\(w'.heap[h]?=w.heap[h]?∨(w.heap[h]?=some Z'/\w'.heap[h]?=some Y'))
 rf w:=⟨rfl,rfl,rfl,qC _,fun _ _ _ _=>rfl,.inl rfl,.inl rfl⟩
 tr:=by
  rintro a b c ⟨h1,h2,h3,h4,h5,h6,h7⟩ ⟨k1,k2,k3,k4,k5,k6,k7⟩;refine⟨k1.trans h1,k2.trans h2,k3.trans h3,qt h4 k4,fun k hk hg hh=>(k5 k (qF hk h4) hg hh).trans (h5 k hk hg hh),?_,?_⟩
  ·rcases h6 with e1|⟨e1,e1'⟩<;>rcases k6 with e2|⟨e2,e2'⟩
   ·exact .inl (e2.trans e1)
   ·exact .inr ⟨e1▸e2,e2'⟩
   ·exact .inr ⟨e1,e2.trans e1'⟩
   ·exact .inr ⟨e1,e2'⟩
  ·rcases h7 with e1|⟨e1,e1'⟩<;>rcases k7 with e2|⟨e2,e2'⟩
   ·exact .inl (e2.trans e1)
   ·exact .inr ⟨e1▸e2,e2'⟩
   ·exact .inr ⟨e1,e2.trans e1'⟩
   ·exact .inr ⟨e1,e2'⟩
 drew w:=⟨rfl,rfl,rfl,qC _,fun _ _ _ _=>rfl,.inl rfl,.inl rfl⟩
theorem RA.num1{p:Nat->Prop}{w:World}{a:Option Addr}{n c:Nat}{l:List Int}(h:RA 1 intF p w (.slice a n c) l){k:Nat}(hk:k<l.length):∃b off,a=some ⟨b,off,none⟩/\b<w.heap.size/\w.cell? ⟨b,off+k,none⟩=some (.int .i64 l[k]):=by
 obtain⟨a',c',hv,_,_,hc⟩:=h.sM rfl;cases hv
 obtain⟨b,off,ha,hb,_,Aa⟩:=hc k hk;exact⟨b,off,ha,hb,by have:=Aa 0 (by omega);rw[yY,yD]at this;exact this⟩
theorem RA.num2{p:Nat->Prop}{w:World}{a:Option Addr}{n c:Nat}{l:List Int}(h:RA 2 wF p w (.slice a n c) l){k:Nat}(hk:k<l.length):∃b off,a=some ⟨b,off,none⟩/\b<w.heap.size/\w.cell? ⟨b,off+k*2,none⟩=some (.int .i64 (wHi l[k]))/\w.cell? ⟨b,off+k*2+1,none⟩=some (.int .u64 (wLo l[k])):=by
 obtain⟨a',c',hv,_,_,hc⟩:=h.sM rfl;cases hv
 obtain⟨b,off,ha,hb,_,Aa⟩:=hc k hk;exact⟨b,off,ha,hb,Aa 0 (by omega),Aa 1 (by omega)⟩
