/- Joined by mergeQ.py: Q1p, Q2p, Q3p, Q4p, Q5p, Q6p, Q7p, Q8p, Q9p -/
import Derived.Test.YtbbgjjjeecfnoaaGreatDoorXPA
namespace Tess
structure Tok where
 kind:Nat
 pos:Nat
 size:Nat
 text:ByteArray
 n:Int
namespace Tok
def isLet (c:UInt8):Bool:=decide (97≤c.toNat) && decide (c.toNat≤122)
def isDig (c:UInt8):Bool:=decide (48≤c.toNat) && decide (c.toNat≤57)
def whileL (p:Nat→UInt8→Bool):Nat→List UInt8→Nat
 | _,[]=>0
 | i,c :: r=>if p i c then 1 + whileL p (i + 1) r else 0
def digVal (l:List UInt8):Nat:=l.foldl (fun a c=>10 * a + (c.toNat - 48)) 0
def digitsOf (l:List UInt8):Option Nat:=if l.isEmpty || !l.all isDig then none else some (digVal l)
def parseInt (l:List UInt8):Option Int:=
 match l with
 | c :: r=>if c=45 then (digitsOf r).bind fun v=>if v≤9223372036854775808 then some (-(v:Int)) else none
   else (digitsOf l).bind fun v=>if v≤9223372036854775807 then some (v:Int) else none
 | []=>none
def pNum (i:Nat) (c:UInt8):Bool:=isDig c || (i == 0 && c == 45)
def pWord (_:Nat) (c:UInt8):Bool:=isLet c
def pName (i:Nat) (c:UInt8):Bool:=isLet c || (decide (0 < i) && (isDig c || c == 95))
def pBlank (_:Nat) (c:UInt8):Bool:=c == 32
def number (l:List UInt8):Option (Nat×Int):=(parseInt (l.take (whileL pNum 0 l))).map fun n=>(whileL pNum 0 l,n)
def hexOf (c:UInt8):Option Nat:=if isDig c then some (c.toNat - 48) else if 97≤c.toNat∧c.toNat≤102 then some (c.toNat - 87) else none
def escaped:List UInt8→UInt8×Nat
 | []=>(0,0)
 | c :: r=>if c=34∨c=92 then (c,1) else if c=120 then (match r with
   | a :: b :: _=>(match hexOf a,hexOf b with | some x,some y=>(UInt8.ofNat (16 * x + y),3) | _,_=>(0,0))
   | _=>(0,0)) else (0,0)
def strF:Nat→Nat→List UInt8→List UInt8→Option (Nat×List UInt8)
 | 0,_,_,_=>none
 | _ + 1,_,_,[]=>none
 | f + 1,i,acc,c :: r=>
   if c=34 then some (i + 1,acc)
   else if c.toNat < 32∨126 < c.toNat then none
   else if c=92 then (if (escaped r).2=0 then none else strF f (i + 1 + (escaped r).2) (acc ++ [(escaped r).1]) (r.drop (escaped r).2))
   else strF f (i + 1) (acc ++ [c]) r
def signs:List (List UInt8):=[[46,46],[33,61],[60,61],[62,61],[40],[41],[44],[124],[35],[61],[60],[62]]
def ofL (l:List UInt8):ByteArray:=⟨l.toArray⟩
def read (l:List UInt8):Tok:=
 match l with
 | []=>⟨6,0,0,ByteArray.empty,0⟩
 | c :: r=>
   if 0 < whileL pWord 0 l then ⟨1,0,whileL pWord 0 l,ofL (l.take (whileL pWord 0 l)),0⟩
   else if c=36∧0 < whileL pName 0 r∧whileL pName 0 r≤20 then ⟨2,0,whileL pName 0 r + 1,ofL (r.take (whileL pName 0 r)),0⟩
   else match (if c=34 then strF (r.length + 1) 1 [] r else none) with
    | some (sz,t)=>⟨4,0,sz,ofL t,0⟩
    | none=>match number l with
      | some (sz,n)=>⟨3,0,sz,ByteArray.empty,n⟩
      | none=>match signs.find? (fun x=>x.isPrefixOf l) with
        | some x=>⟨5,0,x.length,ofL x,0⟩
        | none=>⟨0,0,0,ByteArray.empty,0⟩
def tokF:Nat→Nat→List UInt8→List Tok
 | 0,_,_=>[]
 | f + 1,at_,l=>
   let b:=whileL pBlank 0 l
   let t:=read (l.drop b)
   let x:Tok:={ t with pos:=at_ + b }
   if t.kind=6∨t.kind=0 then [x] else x :: tokF f (at_ + b + t.size) (l.drop (b + t.size))
def toks (s:ByteArray):List Tok:=tokF (s.size + 1) 0 s.data.toList
end Tok
end Tess
namespace Tess
open Go
namespace Prs
abbrev R (α:Type):=Except Nat (α×List Tok)
def next (ts:List Tok):Tok:=ts.headD ⟨6,0,0,ByteArray.empty,0⟩
def skip (ts:List Tok):List Tok:=if 1 < ts.length then ts.tail else ts
def isT (l:List ByteArray) (ts:List Tok):Option (List Tok):=if ((next ts).kind == 1 || (next ts).kind == 5) && hasW l (next ts).text then some (skip ts) else none
def bindR {α β:Type} (x:R α) (k:α→List Tok→R β):R β:=match x with | .error e => .error e | .ok (y,r)=>k y r
def isR {β:Type} (l:List ByteArray) (ts:List Tok) (yes:List Tok→R β) (no:List Tok→R β):R β:=match isT l ts with | some r=>yes r | none=>no ts
def fail {β:Type} (ts:List Tok):R β:=.error (next ts).pos
def must {β:Type} (x:ByteArray) (ts:List Tok) (k:List Tok→R β):R β:=isR [x] ts k fail
def take (k:Nat) (ts:List Tok):R ByteArray:=if (next ts).kind=k then .ok ((next ts).text,skip ts) else fail ts
def num (lo hi:Int) (ts:List Tok):R Int:=if (next ts).kind=3∧lo≤(next ts).n∧(next ts).n≤hi then .ok ((next ts).n,skip ts) else fail ts
def list {α:Type} (sign:ByteArray) (rd:List Tok→R α):Nat→List Tok→R (List α)
 | 0,ts=>fail ts
 | f + 1,ts=>bindR (rd ts) fun x r=>isR [sign] r (fun r'=>bindR (list sign rd f r') fun l r2 => .ok (x :: l,r2)) fun r => .ok ([x],r)
def wComma:ByteArray:=⟨#[44]⟩
def wOpen:ByteArray:=⟨#[40]⟩
def wClose:ByteArray:=⟨#[41]⟩
def wBar:ByteArray:=⟨#[124]⟩
def wHash:ByteArray:=⟨#[35]⟩
def wDots:ByteArray:=⟨#[46,46]⟩
def wCount:ByteArray:=⟨#[99,111,117,110,116]⟩
def wSum:ByteArray:=⟨#[115,117,109]⟩
def wMin:ByteArray:=⟨#[109,105,110]⟩
def wMax:ByteArray:=⟨#[109,97,120]⟩
def wAvg:ByteArray:=⟨#[97,118,103]⟩
def kindOf (x:ByteArray):Option Nat:=if x=wCount then some 1 else if x=wSum then some 2 else if x=wMin then some 3 else if x=wMax then some 4 else if x=wAvg then some 5 else none
def aggOf (k:Nat) (ts:List Tok):R Agg:=if k=1 then .ok (⟨1,ByteArray.empty⟩,ts) else must wOpen ts fun r=>bindR (take 2 r) fun t r2=>must wClose r2 fun r3 => .ok (⟨(k:Nat),t⟩,r3)
def agg (ts:List Tok):R Agg:=if (next ts).kind≠1 then fail ts else match kindOf (next ts).text with | none=>fail ts | some k=>aggOf k (skip ts)
def names (ts:List Tok):R (List ByteArray):=list wComma (take 2) ts.length ts
def set (ts:List Tok):R (List ByteArray):=isR [wClose] ts (fun r => .ok ([],r)) fun ts=>bindR (names ts) fun l r=>must wClose r fun r2 => .ok (l,r2)
def wCube:ByteArray:=⟨#[99,117,98,101]⟩
def wRollup:ByteArray:=⟨#[114,111,108,108,117,112]⟩
def wSets:ByteArray:=⟨#[115,101,116,115]⟩
def by_ (ts:List Tok):R (List ByteArray×Int×List (List ByteArray)):=
 bindR (names ts) fun l r=>isR [wCube] r (fun r2 => .ok ((l,2,[]),r2)) fun r=>isR [wRollup] r (fun r2 => .ok ((l,3,[]),r2)) fun r=>isR [wSets] r (fun r2=>must wOpen r2 fun r3=>bindR (list wOpen set r3.length r3) fun s r4 => .ok ((l,4,s),r4)) fun r => .ok ((l,1,[]),r)
def wNone:ByteArray:=⟨#[110,111,110,101]⟩
def wPrefix:ByteArray:=⟨#[112,114,101,102,105,120]⟩
def wIs:ByteArray:=⟨#[105,115]⟩
def wBetween:ByteArray:=⟨#[98,101,116,119,101,101,110]⟩
def wAll:ByteArray:=⟨#[97,108,108]⟩
def wNot:ByteArray:=⟨#[110,111,116]⟩
def wTime:ByteArray:=⟨#[116,105,109,101]⟩
def wAnd:ByteArray:=⟨#[97,110,100]⟩
def wOr:ByteArray:=⟨#[111,114]⟩
def word (ts:List Tok):R ByteArray:=take 4 ts
def asked (name:ByteArray) (ts:List Tok):R Fil:=
 isR [wNone] ts (fun r => .ok (.mk 3 name [] 0 0 [],r)) fun ts=>isR [wPrefix] ts (fun r=>bindR (word r) fun w r2 => .ok (.mk 4 name [w] 0 0 [],r2)) fun ts=>
  isR [wIs] ts (fun r=>bindR (list wBar word r.length r) fun l r2 => .ok (.mk 2 name l 0 0 [],r2)) fun ts=>
   isR [wBetween] ts (fun r=>bindR (word r) fun a r2=>must wDots r2 fun r3=>bindR (word r3) fun b r4 => .ok (.mk 5 name [a,b] 0 0 [],r4)) fail
def time (ts:List Tok):R Fil:=bindR (num 0 9223372036854775807 ts) fun a r=>must wDots r fun r2=>bindR (num 0 9223372036854775807 r2) fun b r3 => .ok (.mk 6 ByteArray.empty [] a b [],r3)
def several (rd:List Tok→R Fil) (x:Fil) (ts:List Tok):R Fil:=
 isR [wAnd,wOr] ts (fun r3=>bindR (list (next ts).text rd r3.length r3) fun l r4=>must wClose r4 fun r5 => .ok (.mk (if (next ts).text=wOr then 9 else 8) ByteArray.empty [] 0 0 (x :: l),r5)) fail
def filter:Nat→List Tok→R Fil
 | 0,ts=>fail ts
 | f + 1,ts=>
   if (next ts).kind=2 then asked (next ts).text (skip ts)
   else isR [wAll] ts (fun r => .ok (.mk 1 ByteArray.empty [] 0 0 [],r)) fun ts=>isR [wNot] ts (fun r=>bindR (filter f r) fun x r2 => .ok (.mk 7 ByteArray.empty [] 0 0 [x],r2)) fun ts=>
    isR [wTime] ts time fun ts=>isR [wOpen] ts (fun r=>bindR (filter f r) fun x r2=>several (filter f) x r2) fail
def place (ts:List Tok):R Int:=bindR (num 1 1000 ts) fun n r => .ok (n - 1,r)
def ops:List ByteArray:=[⟨#[61]⟩,⟨#[33,61]⟩,⟨#[60]⟩,⟨#[60,61]⟩,⟨#[62]⟩,⟨#[62,61]⟩]
def cond2 (a:Int) (ts:List Tok):R Cond:=if (next ts).kind=5∧hasW ops (next ts).text=true then bindR (num (-9223372036854775808) 9223372036854775807 (skip ts)) fun n r3 => .ok (⟨a,(idxW ops (next ts).text:Nat) + 1,n⟩,r3) else fail ts
def cond (ts:List Tok):R Cond:=must wHash ts fun r=>bindR (place r) cond2
def wDesc:ByteArray:=⟨#[100,101,115,99]⟩
def keyEnd (agg:Bool) (at_:Int) (ts:List Tok):R Key:=isR [wDesc] ts (fun r => .ok (⟨agg,at_,true⟩,r)) fun ts => .ok (⟨agg,at_,false⟩,ts)
def key (by_:List ByteArray) (ts:List Tok):R Key:=
 isR [wHash] ts (fun r=>bindR (place r) fun a r2=>keyEnd true a r2) fun ts=>if (next ts).kind=2∧hasW by_ (next ts).text=true then keyEnd false (idxW by_ (next ts).text:Nat) (skip ts) else fail ts
def wSelect:ByteArray:=⟨#[115,101,108,101,99,116]⟩
def wBy:ByteArray:=⟨#[98,121]⟩
def wEvery:ByteArray:=⟨#[101,118,101,114,121]⟩
def wWhere:ByteArray:=⟨#[119,104,101,114,101]⟩
def wHaving:ByteArray:=⟨#[104,97,118,105,110,103]⟩
def wOrder:ByteArray:=⟨#[111,114,100,101,114]⟩
def wLimit:ByteArray:=⟨#[108,105,109,105,116]⟩
def part {α:Type} (w:ByteArray) (none_:α) (rd:List Tok→R α) (ts:List Tok):R α:=isR [w] ts rd fun ts => .ok (none_,ts)
def query (ts:List Tok):R Que:=
 must wSelect ts fun r=>bindR (list wComma agg r.length r) fun aggs r=>bindR (part wBy ([],1,[]) by_ r) fun b r=>bindR (part wEvery 0 (num 0 9223372036854775807) r) fun every r=>
  bindR (part wWhere (Fil.mk 1 ByteArray.empty [] 0 0 []) (fun r=>filter r.length r) r) fun fil r=>bindR (part wHaving [] (fun r=>list wComma cond r.length r) r) fun conds r=>
   bindR (part wOrder [] (fun r=>list wComma (key b.1) r.length r) r) fun keys r=>bindR (part wLimit 0 (num 0 1000000) r) fun limit r=>bindR (take 6 r) fun _ r => .ok (⟨aggs,b.1,b.2.1,b.2.2,every,fil,conds,keys,limit⟩,r)
def noQue:Que:=⟨[],[],0,[],0,.mk 0 ByteArray.empty [] 0 0 [],[],[],0⟩
def parse (s:ByteArray):Que×Nat×Nat:=
 if 4000 < s.size then (noQue,0,150) else match query (Tok.toks s) with
  | .error e=>(noQue,e,150)
  | .ok (q,_)=>(q,0,0)
end Prs
end Tess
namespace Tess
open Go
namespace Wr
abbrev Txt:=List UInt8
def bs (s:ByteArray):Txt:=s.data.toList
def join (sep:Txt):List Txt→Txt
 | []=>[]
 | [x]=>x
 | x :: y :: r=>x ++ sep ++ join sep (y :: r)
def digN:Nat→Nat→Txt→Txt
 | 0,_,acc=>acc
 | f + 1,n,acc=>if n < 10 then UInt8.ofNat (48 + n) :: acc else digN f (n / 10) (UInt8.ofNat (48 + n % 10) :: acc)
def digits (n:Int):Txt:=if n < 0 then 45 :: digN 20 n.natAbs [] else digN 20 n.natAbs []
def wrap (n:Int):Int:=(n + 9223372036854775808) % 18446744073709551616 - 9223372036854775808
def hexD (n:Nat):UInt8:=UInt8.ofNat (if n < 10 then 48 + n else 87 + n)
def quoteB (c:UInt8):Txt:=if c=34∨c=92 then [92,c] else if c.toNat < 32∨126 < c.toNat then [92,120,hexD (c.toNat / 16),hexD (c.toNat % 16)] else [c]
def quoted (s:ByteArray):Txt:=34 :: ((bs s).flatMap quoteB ++ [34])
def sComma:Txt:=[32,44,32]
def dollar (s:ByteArray):Txt:=36 :: bs s
def dollars (l:List ByteArray):Txt:=join sComma (l.map dollar)
def kindW (k:Int):Option ByteArray:=if k=1 then some Prs.wCount else if k=2 then some Prs.wSum else if k=3 then some Prs.wMin else if k=4 then some Prs.wMax else if k=5 then some Prs.wAvg else none
def summing (a:Agg):Txt:=match kindW a.kind with
 | none=>[63]
 | some w=>if a.kind=1 then bs w else bs w ++ [32,40,32,36] ++ bs a.met ++ [32,41]
def one (l:List ByteArray) (i:Int):Txt:=if i < 0∨(l.length:Int)≤i then [63] else bs (l.getD i.toNat ByteArray.empty)
def condition (c:Cond):Txt:=[35,32] ++ digits (wrap (c.pos + 1)) ++ [32] ++ one Prs.ops (wrap (c.op - 1)) ++ [32] ++ digits c.n
def key (names:List ByteArray) (k:Key):Txt:=(if k.agg then [35,32] ++ digits (wrap (k.pos + 1)) else 36 :: one names k.pos) ++ (if k.desc then 32 :: bs Prs.wDesc else [])
def set (l:List ByteArray):Txt:=if l.isEmpty then [40,32,41] else [40,32] ++ dollars l ++ [32,41]
def words (sep:Txt) (l:List ByteArray):Txt:=join sep (l.map quoted)
mutual
def asking:Fil→Txt
 | .mk k nm ws a b l=>
   if k=1 then bs Prs.wAll
   else if k=2 then (36 :: bs nm) ++ [32,105,115,32] ++ words [32,124,32] ws
   else if k=3 then (36 :: bs nm) ++ 32 :: bs Prs.wNone
   else if k=4 then (36 :: bs nm) ++ 32 :: bs Prs.wPrefix ++ [32] ++ words [32] ws
   else if k=5 then (36 :: bs nm) ++ 32 :: bs Prs.wBetween ++ [32] ++ words [32,46,46,32] ws
   else if k=6 then bs Prs.wTime ++ [32] ++ digits a ++ [32,46,46,32] ++ digits b
   else if k=7 then bs Prs.wNot ++ [32] ++ join [32] (askingL l)
   else if k=8 then [40,32] ++ join (32 :: bs Prs.wAnd ++ [32]) (askingL l) ++ [32,41]
   else [40,32] ++ join (32 :: bs Prs.wOr ++ [32]) (askingL l) ++ [32,41]
def askingL:List Fil→List Txt
 | []=>[]
 | f :: r=>asking f :: askingL r
end
def opt (b:Bool) (l:List Txt):List Txt:=if b then l else []
def written (q:Que):Txt:=
 join [32] ([bs Prs.wSelect,join sComma (q.aggs.map summing)] ++ opt (!q.names.isEmpty) [bs Prs.wBy,dollars q.names] ++ opt (q.mode == 2) [bs Prs.wCube] ++ opt (q.mode == 3) [bs Prs.wRollup]
  ++ opt (q.mode == 4) [bs Prs.wSets,join [32] (q.sets.map set)] ++ opt (q.every != 0) [bs Prs.wEvery,digits q.every] ++ opt (q.fil.kind != 1) [bs Prs.wWhere,asking q.fil]
  ++ opt (!q.conds.isEmpty) [bs Prs.wHaving,join sComma (q.conds.map condition)] ++ opt (!q.keys.isEmpty) [bs Prs.wOrder,join sComma (q.keys.map (key q.names))] ++ opt (q.limit != 0) [bs Prs.wLimit,digits q.limit])
end Wr
end Tess
namespace Tess
open Go
namespace Prs
def mv (g:Nat→Nat) (t:Tok):Tok:={ t with pos:=g t.pos }
def Rm {α:Type} (g:Nat→Nat):R α→R α
 | .error e => .error (g e)
 | .ok (x,r) => .ok (x,r.map (mv g))
variable {g:Nat→Nat}
theorem next_mv {ts:List Tok} (h:ts≠[]):next (ts.map (mv g))=mv g (next ts):=by
 cases ts with
 | nil=>exact absurd rfl h
 | cons a r=>rfl
theorem skip_mv (ts:List Tok):skip (ts.map (mv g))=(skip ts).map (mv g):=by
 unfold skip
 rw [List.length_map]
 split <;> simp
theorem skip_ne {ts:List Tok} (h:ts≠[]):skip ts≠[]:=by
 unfold skip
 split
 ·cases ts with
  | nil=>exact absurd rfl h
  | cons a r=>cases r with
    | nil=>rename_i h2;simp at h2
    | cons b r=>simp
 ·exact h
theorem isT_mv (l:List ByteArray) {ts:List Tok} (h:ts≠[]):isT l (ts.map (mv g))=(isT l ts).map (List.map (mv g)):=by
 unfold isT
 rw [next_mv h,skip_mv]
 show (if (((next ts).kind == 1 || (next ts).kind == 5) && hasW l (next ts).text)=true then _ else _)=_
 split <;> rfl
theorem isT_ne {l:List ByteArray} {ts r:List Tok} (h:ts≠[]) (e:isT l ts=some r):r≠[]:=by
 unfold isT at e
 split at e
 ·cases e;exact skip_ne h
 ·cases e
structure Nat_ {α:Type} (rd:List Tok→R α):Prop where
 mv:∀ (g:Nat→Nat) ts,ts≠[]→rd (ts.map (mv g))=Rm g (rd ts)
 ne:∀ ts x r,ts≠[]→rd ts = .ok (x,r)→r≠[]
theorem fail_nat {α:Type}:Nat_ (fail:List Tok→R α):=⟨fun g ts h=>by show Except.error (next (ts.map (Prs.mv g))).pos=_;rw [next_mv h];rfl,fun _ _ _ _ e=>by cases e⟩
theorem pure_nat {α:Type} (x:α):Nat_ (fun ts => .ok (x,ts)):=⟨fun _ _ _=>rfl,fun _ _ _ h e=>by cases e;exact h⟩
theorem skip_nat {α:Type} {k:List Tok→R α} (h:Nat_ k):Nat_ (fun ts=>k (skip ts)) where
 mv:=fun g ts hts=>by show k (skip (ts.map (Prs.mv g)))=_;rw [skip_mv];exact h.mv g _ (skip_ne hts)
 ne:=fun ts x r hts e=>h.ne _ x r (skip_ne hts) e
theorem peek_nat {α:Type} {F:Nat→ByteArray→Int→List Tok→R α} (h:∀ a b c,Nat_ (F a b c)):Nat_ (fun ts=>F (next ts).kind (next ts).text (next ts).n ts) where
 mv:=fun g ts hts=>by
  show F (next (ts.map (Prs.mv g))).kind (next (ts.map (Prs.mv g))).text (next (ts.map (Prs.mv g))).n (ts.map (Prs.mv g))=_
  rw [next_mv hts]
  exact (h _ _ _).mv g ts hts
 ne:=fun ts x r hts e=>(h _ _ _).ne ts x r hts e
theorem len_nat {α:Type} {F:Nat→List Tok→R α} (h:∀ n,Nat_ (F n)):Nat_ (fun ts=>F ts.length ts) where
 mv:=fun g ts hts=>by
  show F (ts.map (Prs.mv g)).length (ts.map (Prs.mv g))=_
  rw [List.length_map]
  exact (h _).mv g ts hts
 ne:=fun ts x r hts e=>(h _).ne ts x r hts e
theorem if_nat {α:Type} (p:Prop) [Decidable p] {k k':List Tok→R α} (h:Nat_ k) (h':Nat_ k'):Nat_ (fun ts=>if p then k ts else k' ts):=by
 by_cases hp:p
 ·simp only [hp,if_true];exact h
 ·simp only [hp,if_false];exact h'
theorem bind_nat {α β:Type} {rd:List Tok→R α} {k:α→List Tok→R β} (h1:Nat_ rd) (h2:∀ x,Nat_ (k x)):Nat_ (fun ts=>bindR (rd ts) k) where
 mv:=fun g ts h=>by
  show bindR (rd (ts.map (Prs.mv g))) k=_
  rw [h1.mv g ts h]
  cases hr:rd ts with
  | error e=>rfl
  | ok p=>
    obtain ⟨x,r⟩:=p
    exact (h2 x).mv g r (h1.ne ts x r h hr)
 ne:=fun ts y r' h e=>by
  cases hr:rd ts with
  | error e2=>rw [hr] at e;cases e
  | ok p=>
    obtain ⟨x,r⟩:=p
    rw [hr] at e
    exact (h2 x).ne r y r' (h1.ne ts x r h hr) e
theorem isR_nat {α:Type} (l:List ByteArray) {k k':List Tok→R α} (h1:Nat_ k) (h2:Nat_ k'):Nat_ (fun ts=>isR l ts k k') where
 mv:=fun g ts h=>by
  show isR l (ts.map (Prs.mv g)) k k'=_
  unfold isR
  rw [isT_mv l h]
  cases hr:isT l ts with
  | none=>exact h2.mv g ts h
  | some r=>exact h1.mv g r (isT_ne h hr)
 ne:=fun ts y r' h e=>by
  unfold isR at e
  cases hr:isT l ts with
  | none=>rw [hr] at e;exact h2.ne ts y r' h e
  | some r=>rw [hr] at e;exact h1.ne r y r' (isT_ne h hr) e
theorem must_nat {α:Type} (x:ByteArray) {k:List Tok→R α} (h:Nat_ k):Nat_ (fun ts=>must x ts k):=isR_nat [x] h fail_nat
theorem take_nat (k:Nat):Nat_ (take k):=peek_nat (F:=fun a b _ ts=>if a=k then .ok (b,skip ts) else fail ts) fun _ b _=>if_nat _ (skip_nat (pure_nat b)) fail_nat
theorem num_nat (lo hi:Int):Nat_ (num lo hi):=peek_nat (F:=fun a _ n ts=>if a=3∧lo≤n∧n≤hi then .ok (n,skip ts) else fail ts) fun _ _ n=>if_nat _ (skip_nat (pure_nat n)) fail_nat
theorem list_nat {α:Type} (sign:ByteArray) {rd:List Tok→R α} (h:Nat_ rd) (f:Nat):Nat_ (list sign rd f):=by
 induction f with
 | zero=>exact fail_nat
 | succ f ih=>exact bind_nat h fun x=>isR_nat _ (bind_nat ih fun l=>pure_nat (x :: l)) (pure_nat [x])
theorem aggOf_nat (k:Nat):Nat_ (aggOf k):=if_nat _ (pure_nat _) (must_nat _ (bind_nat (take_nat 2) fun _=>must_nat _ (pure_nat _)))
theorem agg_nat:Nat_ agg:=peek_nat (F:=fun a b _ ts=>if a≠1 then fail ts else match kindOf b with | none=>fail ts | some k=>aggOf k (skip ts)) fun a b _=>if_nat _ fail_nat (by
 cases kindOf b with
 | none=>exact fail_nat
 | some k=>exact skip_nat (aggOf_nat k))
theorem names_nat:Nat_ names:=len_nat fun n=>list_nat _ (take_nat 2) n
theorem set_nat:Nat_ set:=isR_nat _ (pure_nat _) (bind_nat names_nat fun l=>must_nat _ (pure_nat l))
theorem by_nat:Nat_ by_:=bind_nat names_nat fun _=>isR_nat _ (pure_nat _) (isR_nat _ (pure_nat _) (isR_nat _ (must_nat _ (bind_nat (len_nat fun n=>list_nat _ set_nat n) fun _=>pure_nat _)) (pure_nat _)))
theorem word_nat:Nat_ word:=take_nat 4
theorem asked_nat (name:ByteArray):Nat_ (asked name):=
 isR_nat _ (pure_nat _) (isR_nat _ (bind_nat word_nat fun _=>pure_nat _) (isR_nat _ (bind_nat (len_nat fun n=>list_nat _ word_nat n) fun _=>pure_nat _) (isR_nat _ (bind_nat word_nat fun _=>must_nat _ (bind_nat word_nat fun _=>pure_nat _)) fail_nat)))
theorem time_nat:Nat_ time:=bind_nat (num_nat _ _) fun _=>must_nat _ (bind_nat (num_nat _ _) fun _=>pure_nat _)
theorem several_nat {rd:List Tok→R Fil} (h:Nat_ rd) (x:Fil):Nat_ (several rd x):=
 peek_nat (F:=fun _ b _ ts=>isR [wAnd,wOr] ts (fun r3=>bindR (list b rd r3.length r3) fun l r4=>must wClose r4 fun r5 => .ok (Fil.mk (if b=wOr then 9 else 8) ByteArray.empty [] 0 0 (x :: l),r5)) fail)
  fun _ b _=>isR_nat _ (bind_nat (len_nat fun n=>list_nat b h n) fun _=>must_nat _ (pure_nat _)) fail_nat
theorem filter_nat (f:Nat):Nat_ (filter f):=by
 induction f with
 | zero=>exact fail_nat
 | succ f ih=>
   exact peek_nat (F:=fun a b _ ts=>if a=2 then asked b (skip ts) else isR [wAll] ts (fun r => .ok (Fil.mk 1 ByteArray.empty [] 0 0 [],r)) fun ts=>isR [wNot] ts (fun r=>bindR (filter f r) fun x r2 => .ok (Fil.mk 7 ByteArray.empty [] 0 0 [x],r2)) fun ts=>
     isR [wTime] ts time fun ts=>isR [wOpen] ts (fun r=>bindR (filter f r) fun x r2=>several (filter f) x r2) fail)
    fun a b _=>if_nat _ (skip_nat (asked_nat b)) (isR_nat _ (pure_nat _) (isR_nat _ (bind_nat ih fun _=>pure_nat _) (isR_nat _ time_nat (isR_nat _ (bind_nat ih fun x=>several_nat ih x) fail_nat))))
theorem place_nat:Nat_ place:=bind_nat (num_nat _ _) fun n=>pure_nat (n - 1)
theorem cond2_nat (a:Int):Nat_ (cond2 a):=
 peek_nat (F:=fun k b _ ts=>if k=5∧hasW ops b=true then bindR (num (-9223372036854775808) 9223372036854775807 (skip ts)) fun n r3 => .ok ((⟨a,(idxW ops b:Nat) + 1,n⟩:Cond),r3) else fail ts)
  fun _ _ _=>if_nat _ (bind_nat (skip_nat (num_nat _ _)) fun _=>pure_nat _) fail_nat
theorem cond_nat:Nat_ cond:=must_nat _ (bind_nat place_nat cond2_nat)
theorem keyEnd_nat (a:Bool) (n:Int):Nat_ (keyEnd a n):=isR_nat _ (pure_nat _) (pure_nat _)
theorem key_nat (l:List ByteArray):Nat_ (key l):=
 isR_nat _ (bind_nat place_nat fun a=>keyEnd_nat true a) (peek_nat (F:=fun k b _ ts=>if k=2∧hasW l b=true then keyEnd false (idxW l b:Nat) (skip ts) else fail ts) fun _ _ _=>if_nat _ (skip_nat (keyEnd_nat false _)) fail_nat)
theorem part_nat {α:Type} (w:ByteArray) (x:α) {rd:List Tok→R α} (h:Nat_ rd):Nat_ (part w x rd):=isR_nat _ h (pure_nat x)
theorem query_nat:Nat_ query:=
 must_nat _ (bind_nat (len_nat fun n=>list_nat _ agg_nat n) fun _=>bind_nat (part_nat _ _ by_nat) fun b=>bind_nat (part_nat _ _ (num_nat _ _)) fun _=>
  bind_nat (part_nat _ _ (len_nat fun n=>filter_nat n)) fun _=>bind_nat (part_nat _ _ (len_nat fun n=>list_nat _ cond_nat n)) fun _=>
   bind_nat (part_nat _ _ (len_nat fun n=>list_nat _ (key_nat b.1) n)) fun _=>bind_nat (part_nat _ _ (num_nat _ _)) fun _=>bind_nat (take_nat 6) fun _=>pure_nat _)
end Prs
end Tess
namespace Tess
open Go
namespace Tok
theorem whileL_le (p:Nat→UInt8→Bool) (l:List UInt8):∀ i,whileL p i l≤l.length:=by
 induction l with
 | nil=>intro i;exact Nat.le_refl _
 | cons c r ih=>
   intro i
   show (if p i c then 1 + whileL p (i + 1) r else 0)≤_
   have:=ih (i + 1)
   split <;> simp <;> omega
theorem pWord32:∀ i,pWord i 32=false:=fun _=>by simp [pWord,isLet]
theorem pName32:∀ i,pName i 32=false:=fun i=>by simp [pName,isLet,isDig]
theorem pNum32:∀ i,pNum i 32=false:=fun i=>by simp [pNum,isDig]
theorem escaped_le (r:List UInt8):(escaped r).2≤r.length:=by
 match r with
 | []=>exact Nat.le_refl _
 | [c]=>unfold escaped;simp only;split <;> (try split) <;> simp
 | [c,a]=>unfold escaped;simp only;split <;> (try split) <;> simp
 | c :: a :: d :: r=>
   unfold escaped
   simp only
   split
   ·simp
   ·split
    ·split <;> simp
    ·simp
end Tok
end Tess
namespace Tess
open Go
namespace Tok
theorem strF_size (f:Nat):∀ (i:Nat) (acc r:List UInt8) (sz:Nat) (t:List UInt8),strF f i acc r=some (sz,t)→i + 1≤sz∧sz≤i + r.length:=by
 induction f with
 | zero=>intro i acc r sz t e;cases e
 | succ f ih=>
   intro i acc r sz t e
   cases r with
   | nil=>cases e
   | cons c r=>
     simp only [strF] at e
     simp only [List.length_cons]
     split at e
     ·cases e;omega
     ·split at e
      ·cases e
      ·split at e
       ·split at e
        ·cases e
        ·have h:=ih _ _ _ _ _ e
         have he:=escaped_le r
         rw [List.length_drop] at h
         omega
       ·have h:=ih _ _ _ _ _ e
        omega
theorem number_size {l:List UInt8} {sz:Nat} {n:Int} (e:number l=some (sz,n)):0 < sz∧sz≤l.length:=by
 unfold number at e
 cases hp:parseInt (l.take (whileL pNum 0 l)) with
 | none=>rw [hp] at e;cases e
 | some v=>
   rw [hp] at e
   cases e
   refine ⟨?_,whileL_le _ _ _⟩
   rcases Nat.eq_zero_or_pos (whileL pNum 0 l) with h | h
   ·rw [h] at hp;cases hp
   ·exact h
theorem signs_size {l x:List UInt8} (e:signs.find? (fun x=>x.isPrefixOf l)=some x):0 < x.length∧x.length≤l.length:=by
 have h1:=List.mem_of_find?_eq_some e
 have h2:=List.find?_some e
 refine ⟨?_,?_⟩
 ·revert x
  intro x _ h1 _
  have:∀ y ∈ signs,0 < y.length:=by decide
  exact this x h1
 ·exact (List.isPrefixOf_iff_prefix.1 h2).length_le
theorem read_size (l:List UInt8):(read l).size≤l.length∧((read l).kind≠6→(read l).kind≠0→0 < (read l).size)∧((read l).kind=6↔l=[]):=by
 cases l with
 | nil=>exact ⟨Nat.le_refl _,fun h=>absurd rfl h,fun _=>rfl,fun _=>rfl⟩
 | cons c r=>
   have hl:=whileL_le pWord (c :: r) 0
   have hn:=whileL_le pName r 0
   simp only [read]
   split
   ·rename_i h;exact ⟨hl,fun _ _=>h,by simp⟩
   ·split
    ·refine ⟨?_,fun _ _=>Nat.succ_pos _,by simp⟩
     show whileL pName 0 r + 1≤_
     simp;exact hn
    ·split
     ·rename_i sz t e
      split at e
      ·have:=strF_size _ _ _ _ _ _ e
       refine ⟨?_,fun _ _=>by show 0 < sz;omega,by simp⟩
       show sz≤_
       simp;omega
      ·cases e
     ·split
      ·rename_i sz n e
       have:=number_size e
       exact ⟨this.2,fun _ _=>this.1,by simp⟩
      ·split
       ·rename_i x e
        have:=signs_size e
        exact ⟨this.2,fun _ _=>this.1,by simp⟩
       ·exact ⟨Nat.zero_le _,fun _ h=>absurd rfl h,by simp⟩
theorem blank_any (l:List UInt8):∀ i j,whileL pBlank i l=whileL pBlank j l:=by
 induction l with
 | nil=>intro i j;rfl
 | cons c r ih=>
   intro i j
   show (if pBlank i c then 1 + whileL pBlank (i + 1) r else 0)=if pBlank j c then 1 + whileL pBlank (j + 1) r else 0
   rw [ih (i + 1) (j + 1)]
   rfl
theorem blank_ahead (a:Nat) (m:List UInt8):whileL pBlank 0 (List.replicate a 32 ++ m)=a + whileL pBlank 0 m:=by
 induction a with
 | zero=>simp
 | succ a ih=>
   rw [List.replicate_succ,List.cons_append]
   show (if pBlank 0 32 then 1 + whileL pBlank 1 (List.replicate a 32 ++ m) else 0)=_
   rw [if_pos (show pBlank 0 32=true from rfl),blank_any _ 1 0,ih]
   omega
theorem tokF_ahead (a f at_:Nat) (m:List UInt8):tokF (f + 1) at_ (List.replicate a 32 ++ m)=tokF (f + 1) (at_ + a) m:=by
 have hd:∀ k,(List.replicate a (32:UInt8) ++ m).drop (a + k)=m.drop k:=by
  intro k
  rw [← List.drop_drop]
  simp
 simp only [tokF,blank_ahead,hd,Nat.add_assoc]
theorem tokF_pos (n:Nat):∀ (l:List UInt8),l.length≤n→∀ (f at_:Nat),∀ x ∈ tokF f at_ l,x.pos≤at_ + l.length:=by
 induction n with
 | zero=>
   intro l hl f at_ x hx
   obtain rfl:l=[]:=List.length_eq_zero_iff.1 (by omega)
   cases f with
   | zero=>cases hx
   | succ f=>
     have e0:whileL pBlank 0 ([]:List UInt8)=0:=rfl
     simp [tokF,e0,read] at hx
     subst hx
     simp
 | succ n ih=>
   intro l hl f at_ x hx
   cases f with
   | zero=>cases hx
   | succ f=>
     have hle:=whileL_le pBlank l 0
     have hs:=read_size (l.drop (whileL pBlank 0 l))
     rw [List.length_drop] at hs
     simp only [tokF] at hx
     split at hx
     ·rw [List.mem_singleton] at hx
      subst hx
      show at_ + whileL pBlank 0 l≤_
      omega
     ·rename_i hk
      have hpos:=hs.2.1 (fun h=>hk (Or.inl h)) (fun h=>hk (Or.inr h))
      rcases List.mem_cons.1 hx with rfl | hx
      ·show at_ + whileL pBlank 0 l≤_
       omega
      ·have:=ih _ (by rw [List.length_drop];omega) f _ x hx
       rw [List.length_drop] at this
       omega
theorem toks_ne (s:ByteArray):toks s≠[]:=by
 unfold toks
 simp only [tokF]
 split <;> simp
end Tok
namespace Prs
end Prs
end Tess
namespace Tess
open Go
namespace Prs
def Endd (ts:List Tok):Prop:=∃ l t,ts=l ++ [t]∧(t.kind=6∨t.kind=0)
theorem Endd.ne {ts:List Tok} (h:Endd ts):ts≠[]:=by
 obtain ⟨l,t,rfl,_⟩:=h
 simp
theorem skip_suffix (ts:List Tok):skip ts <:+ ts:=by
 unfold Prs.skip
 split
 ·exact List.tail_suffix ts
 ·exact List.suffix_refl ts
theorem Endd.skip {ts:List Tok} (h:Endd ts):Endd (skip ts)∧skip ts <:+ ts:=by
 refine ⟨?_,skip_suffix ts⟩
 unfold Prs.skip
 split
 ·rename_i hl
  obtain ⟨l,t,rfl,ht⟩:=h
  cases l with
  | nil=>simp at hl
  | cons a r=>exact ⟨r,t,rfl,ht⟩
 ·exact h
theorem Endd.isT {l:List ByteArray} {ts r:List Tok} (h:Endd ts) (e:isT l ts=some r):Endd r∧r.length < ts.length∧r <:+ ts:=by
 unfold Prs.isT at e
 split at e
 ·rename_i hk
  cases e
  refine ⟨h.skip.1,?_,skip_suffix ts⟩
  obtain ⟨p,t,rfl,ht⟩:=h
  cases p with
  | nil=>
    exfalso
    rw [Bool.and_eq_true] at hk
    have:next ([] ++ [t])=t:=rfl
    rw [this] at hk
    rcases ht with ht | ht <;> (rw [ht] at hk;exact absurd hk.1 (by decide))
  | cons a p=>
    unfold Prs.skip
    rw [if_pos (by simp)]
    simp
 ·cases e
def Keeps {α:Type} (rd:List Tok→R α):Prop:=∀ ts x r,Endd ts→rd ts = .ok (x,r)→Endd r∧r <:+ ts
section
variable {α β:Type}
theorem fail_keeps:Keeps (fail:List Tok→R α):=fun _ _ _ _ e=>by cases e
theorem pure_keeps (x:α):Keeps (fun ts => .ok (x,ts)):=fun _ _ _ h e=>by cases e;exact ⟨h,List.suffix_refl _⟩
theorem skip_keeps {k:List Tok→R α} (h:Keeps k):Keeps (fun ts=>k (Prs.skip ts)):=fun ts x r he e=>by
 have:=h _ x r he.skip.1 e
 exact ⟨this.1,this.2.trans he.skip.2⟩
theorem if_keeps (p:Prop) [Decidable p] {k k':List Tok→R α} (h:Keeps k) (h':Keeps k'):Keeps (fun ts=>if p then k ts else k' ts):=by
 by_cases hp:p
 ·simp only [hp,if_true];exact h
 ·simp only [hp,if_false];exact h'
theorem peek_keeps {F:Nat→ByteArray→Int→List Tok→R α} (h:∀ a b c,Keeps (F a b c)):Keeps (fun ts=>F (next ts).kind (next ts).text (next ts).n ts):=fun ts x r he e=>h _ _ _ ts x r he e
theorem len_keeps {F:Nat→List Tok→R α} (h:∀ n,Keeps (F n)):Keeps (fun ts=>F ts.length ts):=fun ts x r he e=>h _ ts x r he e
theorem bind_keeps {rd:List Tok→R α} {k:α→List Tok→R β} (h1:Keeps rd) (h2:∀ x,Keeps (k x)):Keeps (fun ts=>bindR (rd ts) k):=fun ts y r' he e=>by
 replace e:bindR (rd ts) k = .ok (y,r'):=e
 cases hr:rd ts with
 | error e2=>rw [hr] at e;cases e
 | ok p=>
   obtain ⟨x,r⟩:=p
   rw [hr] at e
   have a:=h1 ts x r he hr
   have b:=h2 x r y r' a.1 e
   exact ⟨b.1,b.2.trans a.2⟩
theorem isR_keeps (l:List ByteArray) {k k':List Tok→R α} (h1:Keeps k) (h2:Keeps k'):Keeps (fun ts=>isR l ts k k'):=fun ts y r' he e=>by
 replace e:isR l ts k k' = .ok (y,r'):=e
 unfold isR at e
 cases hr:Prs.isT l ts with
 | none=>rw [hr] at e;exact h2 ts y r' he e
 | some r=>
   rw [hr] at e
   have a:=he.isT hr
   have b:=h1 r y r' a.1 e
   exact ⟨b.1,b.2.trans a.2.2⟩
theorem must_keeps (x:ByteArray) {k:List Tok→R α} (h:Keeps k):Keeps (fun ts=>must x ts k):=isR_keeps [x] h fail_keeps
theorem take_keeps (k:Nat):Keeps (take k):=peek_keeps (F:=fun a b _ ts=>if a=k then .ok (b,Prs.skip ts) else fail ts) fun _ b _=>if_keeps _ (skip_keeps (pure_keeps b)) fail_keeps
theorem num_keeps (lo hi:Int):Keeps (num lo hi):=peek_keeps (F:=fun a _ n ts=>if a=3∧lo≤n∧n≤hi then .ok (n,Prs.skip ts) else fail ts) fun _ _ n=>if_keeps _ (skip_keeps (pure_keeps n)) fail_keeps
theorem list_keeps (sign:ByteArray) {rd:List Tok→R α} (h:Keeps rd) (f:Nat):Keeps (list sign rd f):=by
 induction f with
 | zero=>exact fail_keeps
 | succ f ih=>exact bind_keeps h fun x=>isR_keeps _ (bind_keeps ih fun l=>pure_keeps (x :: l)) (pure_keeps [x])
theorem list_fuel (sign:ByteArray) {rd:List Tok→R α} (h:Keeps rd) (n:Nat):∀ (ts:List Tok),ts.length≤n→Endd ts→∀ f g,ts.length≤f→ts.length≤g→list sign rd f ts=list sign rd g ts:=by
 induction n with
 | zero=>intro ts hn he;exact absurd (List.length_eq_zero_iff.1 (by omega)) he.ne
 | succ n ih=>
   intro ts hn he f g hf hg
   have hp:0 < ts.length:=List.length_pos_iff.2 he.ne
   obtain ⟨f,rfl⟩:∃ k,f=k + 1:=⟨f - 1,by omega⟩
   obtain ⟨g,rfl⟩:∃ k,g=k + 1:=⟨g - 1,by omega⟩
   show bindR (rd ts) _=bindR (rd ts) _
   cases hr:rd ts with
   | error e=>rfl
   | ok p=>
     obtain ⟨x,r⟩:=p
     have a:=h ts x r he hr
     have al:=a.2.length_le
     simp only [bindR,isR]
     cases hi:Prs.isT [sign] r with
     | none=>rfl
     | some r'=>
       have b:=a.1.isT hi
       simp only
       rw [ih r' (by omega) b.1 f g (by omega) (by omega)]
theorem list_round (sign:ByteArray) {rd:List Tok→R α} (h:Keeps rd) {ts:List Tok} (he:Endd ts) :
  list sign rd ts.length ts=bindR (rd ts) fun x r=>isR [sign] r (fun r'=>bindR (list sign rd r'.length r') fun l r2 => .ok (x :: l,r2)) fun r => .ok ([x],r):=by
 have hp:0 < ts.length:=List.length_pos_iff.2 he.ne
 obtain ⟨f,hf⟩:∃ k,ts.length=k + 1:=⟨ts.length - 1,by omega⟩
 rw [hf]
 show bindR (rd ts) _=bindR (rd ts) _
 cases hr:rd ts with
 | error e=>rfl
 | ok p=>
   obtain ⟨x,r⟩:=p
   have a:=h ts x r he hr
   have al:=a.2.length_le
   simp only [bindR,isR]
   cases hi:Prs.isT [sign] r with
   | none=>rfl
   | some r'=>
     have b:=a.1.isT hi
     simp only
     rw [list_fuel sign h r'.length r' (Nat.le_refl _) b.1 f r'.length (by omega) (Nat.le_refl _)]
end
theorem tokF_endd (n:Nat):∀ (l:List UInt8),l.length≤n→∀ (f at_:Nat),l.length < f→Endd (Tok.tokF f at_ l):=by
 induction n with
 | zero=>
   intro l hl f at_ hf
   obtain rfl:l=[]:=List.length_eq_zero_iff.1 (by omega)
   obtain ⟨f,rfl⟩:∃ k,f=k + 1:=⟨f - 1,by omega⟩
   exact ⟨[],_,rfl,Or.inl rfl⟩
 | succ n ih=>
   intro l hl f at_ hf
   obtain ⟨f,rfl⟩:∃ k,f=k + 1:=⟨f - 1,by omega⟩
   have hs:=Tok.read_size (l.drop (Tok.whileL Tok.pBlank 0 l))
   have hle:=Tok.whileL_le Tok.pBlank l 0
   rw [List.length_drop] at hs
   simp only [Tok.tokF]
   split
   ·rename_i hk;exact ⟨[],_,rfl,hk⟩
   ·rename_i hk
    have hpos:=hs.2.1 (fun h=>hk (Or.inl h)) (fun h=>hk (Or.inr h))
    obtain ⟨p,t,e,ht⟩:=ih (l.drop (Tok.whileL Tok.pBlank 0 l + (Tok.read (l.drop (Tok.whileL Tok.pBlank 0 l))).size)) (by rw [List.length_drop];omega) f (at_ + Tok.whileL Tok.pBlank 0 l + (Tok.read (l.drop (Tok.whileL Tok.pBlank 0 l))).size) (by rw [List.length_drop];omega)
    rw [e]
    exact ⟨_ :: p,t,rfl,ht⟩
theorem toks_endd (s:ByteArray):Endd (Tok.toks s):=by
 have hs:s.data.toList.length=s.size:=Array.length_toList
 exact tokF_endd s.size s.data.toList (by omega) _ 0 (by omega)
end Prs
end Tess
namespace Tess
open Go
namespace Prs
theorem aggOf_keeps (k:Nat):Keeps (aggOf k):=if_keeps _ (pure_keeps _) (must_keeps _ (bind_keeps (take_keeps 2) fun _=>must_keeps _ (pure_keeps _)))
theorem agg_keeps:Keeps agg:=peek_keeps (F:=fun a b _ ts=>if a≠1 then fail ts else match kindOf b with | none=>fail ts | some k=>aggOf k (skip ts)) fun a b _=>if_keeps _ fail_keeps (by
 cases kindOf b with
 | none=>exact fail_keeps
 | some k=>exact skip_keeps (aggOf_keeps k))
theorem names_keeps:Keeps names:=len_keeps fun n=>list_keeps _ (take_keeps 2) n
theorem set_keeps:Keeps set:=isR_keeps _ (pure_keeps _) (bind_keeps names_keeps fun l=>must_keeps _ (pure_keeps l))
theorem by_keeps:Keeps by_:=bind_keeps names_keeps fun _=>isR_keeps _ (pure_keeps _) (isR_keeps _ (pure_keeps _) (isR_keeps _ (must_keeps _ (bind_keeps (len_keeps fun n=>list_keeps _ set_keeps n) fun _=>pure_keeps _)) (pure_keeps _)))
theorem word_keeps:Keeps word:=take_keeps 4
theorem asked_keeps (name:ByteArray):Keeps (asked name):=
 isR_keeps _ (pure_keeps _) (isR_keeps _ (bind_keeps word_keeps fun _=>pure_keeps _) (isR_keeps _ (bind_keeps (len_keeps fun n=>list_keeps _ word_keeps n) fun _=>pure_keeps _) (isR_keeps _ (bind_keeps word_keeps fun _=>must_keeps _ (bind_keeps word_keeps fun _=>pure_keeps _)) fail_keeps)))
theorem time_keeps:Keeps time:=bind_keeps (num_keeps _ _) fun _=>must_keeps _ (bind_keeps (num_keeps _ _) fun _=>pure_keeps _)
theorem several_keeps {rd:List Tok→R Fil} (h:Keeps rd) (x:Fil):Keeps (several rd x):=
 peek_keeps (F:=fun _ b _ ts=>isR [wAnd,wOr] ts (fun r3=>bindR (list b rd r3.length r3) fun l r4=>must wClose r4 fun r5 => .ok (Fil.mk (if b=wOr then 9 else 8) ByteArray.empty [] 0 0 (x :: l),r5)) fail)
  fun _ b _=>isR_keeps _ (bind_keeps (len_keeps fun n=>list_keeps b h n) fun _=>must_keeps _ (pure_keeps _)) fail_keeps
theorem filter_keeps (f:Nat):Keeps (filter f):=by
 induction f with
 | zero=>exact fail_keeps
 | succ f ih=>
   exact peek_keeps (F:=fun a b _ ts=>if a=2 then asked b (skip ts) else isR [wAll] ts (fun r => .ok (Fil.mk 1 ByteArray.empty [] 0 0 [],r)) fun ts=>isR [wNot] ts (fun r=>bindR (filter f r) fun x r2 => .ok (Fil.mk 7 ByteArray.empty [] 0 0 [x],r2)) fun ts=>
     isR [wTime] ts time fun ts=>isR [wOpen] ts (fun r=>bindR (filter f r) fun x r2=>several (filter f) x r2) fail)
    fun a b _=>if_keeps _ (skip_keeps (asked_keeps b)) (isR_keeps _ (pure_keeps _) (isR_keeps _ (bind_keeps ih fun _=>pure_keeps _) (isR_keeps _ time_keeps (isR_keeps _ (bind_keeps ih fun x=>several_keeps ih x) fail_keeps))))
theorem place_keeps:Keeps place:=bind_keeps (num_keeps _ _) fun n=>pure_keeps (n - 1)
theorem cond2_keeps (a:Int):Keeps (cond2 a):=
 peek_keeps (F:=fun k b _ ts=>if k=5∧hasW ops b=true then bindR (num (-9223372036854775808) 9223372036854775807 (skip ts)) fun n r3 => .ok ((⟨a,(idxW ops b:Nat) + 1,n⟩:Cond),r3) else fail ts)
  fun _ _ _=>if_keeps _ (bind_keeps (skip_keeps (num_keeps _ _)) fun _=>pure_keeps _) fail_keeps
theorem cond_keeps:Keeps cond:=must_keeps _ (bind_keeps place_keeps cond2_keeps)
theorem keyEnd_keeps (a:Bool) (n:Int):Keeps (keyEnd a n):=isR_keeps _ (pure_keeps _) (pure_keeps _)
theorem key_keeps (l:List ByteArray):Keeps (key l):=
 isR_keeps _ (bind_keeps place_keeps fun a=>keyEnd_keeps true a) (peek_keeps (F:=fun k b _ ts=>if k=2∧hasW l b=true then keyEnd false (idxW l b:Nat) (skip ts) else fail ts) fun _ _ _=>if_keeps _ (skip_keeps (keyEnd_keeps false _)) fail_keeps)
end Prs
end Tess
namespace Tess
open Go
namespace Tok
end Tok
namespace Prs
end Prs
end Tess
