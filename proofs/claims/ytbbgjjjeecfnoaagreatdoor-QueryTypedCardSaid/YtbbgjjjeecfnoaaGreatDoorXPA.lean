/- Joined by mergeQ.py: D2p, F1p, F31p, H2p -/
import Derived.Test.YtbbgjjjeecfnoaaGreatDoorXB
namespace Tess
open Go
def bl (a b:ByteArray):Bool:=Op.bytesLess a.toList b.toList
theorem tl (a:ByteArray):a.toList=a.data.toList:=ByteArray.toList_eq a
end Tess
namespace Tess
open Go
structure Sch where
 dims:List ByteArray
 mets:List ByteArray
 grain:Int
structure Val where
 s:ByteArray
 null:Bool
def isLow (c:UInt8):Bool:=decide (97≤c.toNat) && decide (c.toNat≤122)
def isRest (c:UInt8):Bool:=isLow c || c.toNat == 95 || (decide (48≤c.toNat) && decide (c.toNat≤57))
def nameL:List UInt8→Bool
 | []=>false
 | c :: r=>isLow c && r.all isRest
def nameOk (s:ByteArray):Bool:=decide (s.size≤20) && nameL s.data.toList
def hasW (l:List ByteArray) (x:ByteArray):Bool:=l.any fun y=>decide (y=x)
def idxW (l:List ByteArray) (x:ByteArray):Nat:=l.findIdx fun y=>decide (y=x)
theorem hasW_iff (l:List ByteArray) (x:ByteArray):hasW l x=true↔x ∈ l:=by simp [hasW]
theorem hasW_not (l:List ByteArray) (x:ByteArray):hasW l x=false↔x ∉ l:=by rw [← hasW_iff];simp
theorem idxW_at (l:List ByteArray) (x:ByteArray) (k:Nat) (hk:k < l.length) (hx:l[k]=x) (h:∀ j (hj:j < l.length),j < k→l[j]≠x):idxW l x=k:=by
 unfold idxW
 rw [List.findIdx_eq hk]
 exact ⟨by simp [hx],fun j hj=>by simpa using h j (by omega) hj⟩
def distinct:List ByteArray→Bool
 | []=>true
 | a :: r => !hasW r a && distinct r
def namesOk (l:List ByteArray):Bool:=distinct l && l.all nameOk
def schOk (s:Sch):Bool:=(decide (1≤s.dims.length) && decide (s.dims.length≤6)) && decide (s.mets.length≤4) && decide (1≤s.grain) && decide (s.grain≤1000000000) && namesOk (s.dims ++ s.mets)
def placeW (ok:Bool) (l:List ByteArray) (x:ByteArray):Nat×Bool:=if ok && hasW l x then (idxW l x,true) else (0,false)
def dimW (s:Sch) (x:ByteArray):Nat×Bool:=placeW (schOk s) s.dims x
inductive Fil
 | mk (kind:Int) (name:ByteArray) (words:List ByteArray) (frm to:Int) (l:List Fil)
namespace Fil
def kind:Fil→Int | mk k _ _ _ _ _=>k
def name:Fil→ByteArray | mk _ n _ _ _ _=>n
def words:Fil→List ByteArray | mk _ _ w _ _ _=>w
def frm:Fil→Int | mk _ _ _ a _ _=>a
def to:Fil→Int | mk _ _ _ _ b _=>b
def l:Fil→List Fil | mk _ _ _ _ _ l=>l
mutual
def count:Fil→Nat | mk _ _ _ _ _ l=>1 + countL l
def countL:List Fil→Nat | []=>0 | f :: r=>count f + countL r
end
mutual
def deep:Fil→Nat | mk _ _ _ _ _ l=>1 + deepL l
def deepL:List Fil→Nat | []=>0 | f :: r=>max (deep f) (deepL r)
end
mutual
def pre (d:Nat):Fil→List (Nat×Fil) | mk k n w a b l=>(d,mk k n w a b l) :: preL (d + 1) l
def preL (d:Nat):List Fil→List (Nat×Fil) | []=>[] | f :: r=>pre d f ++ preL d r
end
def form (k:Int):Option (Bool×Bool×(Nat×Nat)×(Nat×Nat)):=
 if k=1 then some (false,false,(0,0),(0,0))
 else if k=2 then some (true,false,(1,8),(0,0))
 else if k=3 then some (true,false,(0,0),(0,0))
 else if k=4 then some (true,false,(1,1),(0,0))
 else if k=5 then some (true,false,(2,2),(0,0))
 else if k=6 then some (false,true,(0,0),(0,0))
 else if k=7 then some (false,false,(0,0),(1,1))
 else if k=8 then some (false,false,(0,0),(2,8))
 else if k=9 then some (false,false,(0,0),(2,8))
 else none
def inW (n:Nat) (p:Nat×Nat):Bool:=decide (p.1≤n) && decide (n≤p.2)
def own (s:Sch) (f:Fil):Bool:=
 match form f.kind with
 | none=>false
 | some (hn,hs,ws,ls)=>((dimW s f.name).2 == hn) && ((dimW s f.name).2 || f.name.size == 0) && (hs || (decide (f.frm=0) && decide (f.to=0))) && inW f.words.length ws && inW f.l.length ls && !f.words.any (fun x=>decide (100 < x.size))
def spanOk (a b:Int):Bool:=decide (0≤a) && decide (a≤b) && decide (b≤1000000000001)
def grainOk (g:Int):Bool:=decide (1≤g) && decide (g≤1000000000)
def spanFits (a b g:Int):Bool:=spanOk a b && grainOk g && decide (a % g=0) && (decide (b=1000000000001) || decide (b % g=0))
def spanHas (a b t:Int):Bool:=spanOk a b && decide (a≤t) && decide (t < b)
def badGrain (s:Sch) (f:Fil):Bool:=decide (f.kind=6) && !spanFits f.frm f.to s.grain
def chk (s:Sch):Nat→Bool→List (Nat×Fil)→Nat
 | _,g,[]=>if g then 110 else 0
 | n,g,(d,x) :: r=>if n + 1 > 40 || d > 6 || !own s x then 140 else chk s (n + 1) (g || badGrain s x) r
def checkE (s:Sch) (f:Fil):Nat:=if schOk s then chk s 0 false (pre 1 f) else 100
def isWord (f:Fil) (w:ByteArray):Bool:=
 if f.kind=4 then (f.words.getD 0 ByteArray.empty).data.toList.isPrefixOf w.data.toList
 else if f.kind=5 then !bl w (f.words.getD 0 ByteArray.empty) && !bl (f.words.getD 1 ByteArray.empty) w
 else hasW f.words w
def holdsDim (s:Sch) (dims:List Val) (f:Fil):Bool:=
 let v:=dims.getD (dimW s f.name).1 ⟨ByteArray.empty,false⟩
 if v.null || decide (f.kind=3) then v.null && decide (f.kind=3) else isWord f v.s
def holdsW (s:Sch) (t:Int) (dims:List Val) (f:Fil) (hs:List Bool):Bool:=
 if f.kind=7 then !hs.getD 0 false
 else if f.kind=8 then hs.all id
 else if f.kind=9 then hs.any id
 else if f.kind=6 then spanHas f.frm f.to t
 else if f.kind=1 then true
 else holdsDim s dims f
mutual
def holds (s:Sch) (t:Int) (dims:List Val):Fil→Bool | mk k n w a b l=>holdsW s t dims (mk k n w a b l) (holdsL s t dims l)
def holdsL (s:Sch) (t:Int) (dims:List Val):List Fil→List Bool | []=>[] | f :: r=>holds s t dims f :: holdsL s t dims r
end
mutual
def allP (p:Fil→Bool):Fil→Bool | mk k n w a b l=>p (mk k n w a b l) && allPL p l
def allPL (p:Fil→Bool):List Fil→Bool | []=>true | f :: r=>allP p f && allPL p r
end
theorem count_eq (f:Fil):f.count=1 + countL f.l:=by cases f;simp [count,l]
theorem deep_eq (f:Fil):f.deep=1 + deepL f.l:=by cases f;simp [deep,l]
theorem pre_eq (d:Nat) (f:Fil):pre d f=(d,f) :: preL (d + 1) f.l:=by cases f;simp [pre,l]
theorem allP_eq (p:Fil→Bool) (f:Fil):allP p f=(p f && f.l.all (allP p)):=by
 have h:∀ q:List Fil,allPL p q=q.all (allP p):=fun q=>by induction q with
  | nil=>rfl
  | cons a r ih=>simp [allPL,ih]
 cases f;simp [allP,l,h]
theorem deep_mem {f:Fil}:∀ {q:List Fil},f ∈ q→f.deep≤deepL q
 | [],h=>by cases h
 | a :: r,h=>by
   unfold deepL
   rcases List.mem_cons.1 h with rfl | h
   ·omega
   ·have:=deep_mem h;omega
theorem preL_append (d:Nat) (q r:List Fil):preL d (q ++ r)=preL d q ++ preL d r:=by
 induction q with
 | nil=>rfl
 | cons a q ih=>simp [preL,ih]
theorem countL_append (q r:List Fil):countL (q ++ r)=countL q + countL r:=by
 induction q with
 | nil=>simp [countL]
 | cons a q ih=>simp [countL,ih];omega
theorem countL_take_succ (q:List Fil) (k:Nat) (h:k < q.length):countL (q.take (k + 1))=countL (q.take k) + q[k].count:=by
 rw [List.take_succ_eq_append_getElem h,countL_append];simp [countL]
theorem countL_take_le (q:List Fil) (k:Nat):countL (q.take k)≤countL q:=by
 conv=>rhs;rw [← List.take_append_drop k q,countL_append]
 omega
theorem ind {p:Fil→Prop} (h:∀ f,(∀ x ∈ f.l,p x)→p f) (f:Fil):p f:=by
 have:∀ n f,f.deep≤n→p f:=by
  intro n
  induction n with
  | zero=>intro f hf;rw [deep_eq] at hf;omega
  | succ n ih=>intro f hf;exact h f fun x hx=>ih x (by have:=deep_mem hx;rw [deep_eq] at hf;omega)
 exact this _ f (Nat.le_refl _)
theorem pre_length (d:Nat) (f:Fil):(pre d f).length=f.count:=by
 induction f using ind generalizing d with
 | h f ih=>
   rw [pre_eq,count_eq,List.length_cons]
   have:∀ q:List Fil,(∀ x ∈ q,∀ d,(pre d x).length=x.count)→(preL (d + 1) q).length=countL q:=fun q=>by
    induction q with
    | nil=>intro _;rfl
    | cons a r ihr=>
      intro hq
      simp only [preL,countL,List.length_append,hq a (List.mem_cons_self),ihr (fun x hx=>hq x (List.mem_cons_of_mem _ hx))]
   rw [this _ (fun x hx d=>ih x hx d)];omega
theorem deepL_le (k:Nat) (q:List Fil):deepL q≤k↔∀ x ∈ q,x.deep≤k:=by
 induction q with
 | nil=>simp [deepL]
 | cons a r ih=>
   rw [show deepL (a :: r)=max a.deep (deepL r) from rfl,Nat.max_le,ih]
   simp
theorem pre_all (p:Fil→Bool) (m:Nat) (d:Nat) (f:Fil):((pre d f).all fun x => !decide (x.1 > m) && p x.2)=(decide (f.deep + d≤m + 1) && allP p f):=by
 induction f using ind generalizing d with
 | h f ih=>
   rw [pre_eq,allP_eq,List.all_cons]
   have:∀ q:List Fil,(∀ x ∈ q,∀ d,((pre d x).all fun x => !decide (x.1 > m) && p x.2)=(decide (x.deep + d≤m + 1) && allP p x))→((preL (d + 1) q).all fun x => !decide (x.1 > m) && p x.2)=(q.all (fun x=>decide (x.deep + (d + 1)≤m + 1)) && q.all (allP p)):=fun q=>by
    induction q with
    | nil=>intro _;rfl
    | cons a r ihr=>
      intro hq
      simp only [preL,List.all_append,hq a (List.mem_cons_self),ihr (fun x hx=>hq x (List.mem_cons_of_mem _ hx)),List.all_cons]
      cases decide (a.deep + (d + 1)≤m + 1) <;> cases allP p a <;> simp
   rw [this _ (fun x hx d=>ih x hx d)]
   rw [Bool.eq_iff_iff]
   simp only [Bool.and_eq_true,Bool.not_eq_true',decide_eq_false_iff_not,decide_eq_true_eq,List.all_eq_true]
   have e:f.deep + d≤m + 1↔d≤m∧∀ x ∈ f.l,x.deep + (d + 1)≤m + 1:=by
    rw [deep_eq]
    constructor
    ·intro h
     exact ⟨by omega,fun x hx=>by have:=(deepL_le (deepL f.l) f.l).1 (Nat.le_refl _) x hx;omega⟩
    ·rintro ⟨h1,h2⟩
     have:=(deepL_le (m - d) f.l).2 fun x hx=>by have:=h2 x hx;omega
     omega
   rw [e]
   constructor
   ·rintro ⟨⟨h1,h2⟩,h3,h4⟩;exact ⟨⟨by omega,h3⟩,h2,h4⟩
   ·rintro ⟨⟨h1,h3⟩,h2,h4⟩;exact ⟨⟨by omega,h2⟩,h3,h4⟩
theorem chk_eq (s:Sch) (l:List (Nat×Fil)):∀ n g,n≤40→chk s n g l=if n + l.length > 40 || !(l.all fun x => !decide (x.1 > 6) && own s x.2) then 140 else if g || l.any (fun x=>badGrain s x.2) then 110 else 0:=by
 induction l with
 | nil=>
   intro n g hn
   have:¬ n > 40:=by omega
   simp [chk,this]
 | cons a r ih=>
   intro n g hn
   obtain ⟨d,x⟩:=a
   simp only [chk]
   by_cases h1:n + 1 > 40
   ·have h2:n + (r.length + 1) > 40:=by omega
    simp [h1,h2]
   ·rw [ih (n + 1) _ (by omega)]
    have e:n + 1 + r.length=n + (r.length + 1):=by omega
    by_cases h3:d > 6
    ·simp [h3]
    ·have h3d:decide (d > 6)=false:=decide_eq_false h3
     have h1d:decide (n + 1 > 40)=false:=decide_eq_false h1
     simp only [List.length_cons,List.all_cons,List.any_cons,e,h3d,h1d,Bool.or_assoc,Bool.false_or,Bool.not_false,Bool.true_and]
     cases own s x
     ·simp
     ·simp only [Bool.not_true,Bool.true_and]
      rfl
theorem any_pre (p:Fil→Bool) (d:Nat) (f:Fil):(pre d f).any (fun x=>p x.2) = !allP (fun x => !p x) f:=by
 induction f using ind generalizing d with
 | h f ih=>
   rw [pre_eq,allP_eq,List.any_cons]
   have:∀ q:List Fil,(∀ x ∈ q,∀ d,(pre d x).any (fun x=>p x.2) = !allP (fun x => !p x) x)→(preL (d + 1) q).any (fun x=>p x.2) = !q.all (allP (fun x => !p x)):=fun q=>by
    induction q with
    | nil=>intro _;rfl
    | cons a r ihr=>
      intro hq
      simp only [preL,List.any_append,hq a (List.mem_cons_self),ihr (fun x hx=>hq x (List.mem_cons_of_mem _ hx)),List.all_cons]
      cases allP (fun x => !p x) a <;> simp
   rw [this _ (fun x hx d=>ih x hx d)]
   cases p f <;> simp
theorem checkE_eq (s:Sch) (f:Fil):checkE s f=if schOk s then (if decide (f.count > 40) || decide (f.deep > 6) || !allP (own s) f then 140 else if allP (fun x => !badGrain s x) f then 0 else 110) else 100:=by
 unfold checkE
 rw [chk_eq s _ 0 false (by omega),pre_length,pre_all,any_pre]
 have e:decide (f.deep + 1≤6 + 1) = !decide (f.deep > 6):=by rw [Bool.eq_iff_iff];simp
 rw [e]
 cases schOk s <;> simp
 cases decide (f.count > 40) <;> cases decide (f.deep > 6) <;> cases allP (own s) f <;> cases allP (fun x => !badGrain s x) f <;> simp_all
end Fil
end Tess
namespace Tess.Fil
theorem check0 (s:Sch) (f:Fil):checkE s f=0↔schOk s=true∧f.count≤40∧f.deep≤6∧allP (own s) f=true∧allP (fun x => !badGrain s x) f=true:=by
 rw [checkE_eq]
 cases schOk s <;> cases allP (own s) f <;> cases allP (fun x => !badGrain s x) f <;> simp
 split <;> simp
end Tess.Fil
namespace Tess
open Go
def metW (s:Sch) (x:ByteArray):Nat×Bool:=placeW (schOk s) s.mets x
def coarser (a b:Int):Bool:=Fil.grainOk a && Fil.grainOk b && decide (b % a=0)
def within (n a b:Int):Bool:=decide (a≤n) && decide (n≤b)
structure Agg where
 kind:Int
 met:ByteArray
structure Cond where
 pos:Int
 op:Int
 n:Int
structure Key where
 agg:Bool
 pos:Int
 desc:Bool
structure Que where
 aggs:List Agg
 names:List ByteArray
 mode:Int
 sets:List (List ByteArray)
 every:Int
 fil:Fil
 conds:List Cond
 keys:List Key
 limit:Int
namespace Que
def isTyped (s:Sch) (a:Agg):Bool:=if a.kind=1 then decide (a.met=ByteArray.empty) else (metW s a.met).2 && decide (1 < a.kind) && decide (a.kind≤5)
def nameAt (all:List ByteArray) (x:ByteArray):Int:=if hasW all x then (idxW all x:Nat) else -1
def inOrd (all:List ByteArray) (last:Int):List ByteArray→Bool
 | []=>true
 | x :: r=>if nameAt all x≤last then false else inOrd all (nameAt all x) r
def inOrder (l all:List ByteArray):Bool:=inOrd all (-1) l
def sizesOk (q:Que):Bool:=
 within q.aggs.length 1 6 && decide (q.names.length≤6) && within q.mode 1 4 && within q.sets.length (if q.mode=4 then 1 else 0) (if q.mode=4 then 8 else 0) && decide (q.conds.length≤4) && decide (q.keys.length≤4) && within q.limit 0 1000
def condOk (n:Nat) (c:Cond):Bool:=within c.pos 0 ((n:Int) - 1) && within c.op 1 6
def keyOk (na nb:Nat) (k:Key):Bool:=if k.agg then within k.pos 0 ((na:Int) - 1) else within k.pos 0 ((nb:Int) - 1)
def isOf (s:Sch) (q:Que):Bool:=
 sizesOk q && q.aggs.all (isTyped s) && inOrder q.names q.names && q.names.all (fun x=>(dimW s x).2) && q.sets.all (fun l=>inOrder l q.names) && q.conds.all (condOk q.aggs.length) && q.keys.all (keyOk q.aggs.length q.names.length)
def check (s:Sch) (q:Que):Nat:=if schOk s then (if isOf s q then (if decide (q.every≠0) && !coarser s.grain q.every then 110 else Fil.checkE s q.fil) else 152) else 100
def setFrom (l:List ByteArray):Nat→List ByteArray→Nat
 | _,[]=>0
 | i,x :: r=>(if hasW l x then 0 else 2 ^ i) + setFrom l (i + 1) r
def setOf (names l:List ByteArray):Nat:=setFrom l 0 names
end Que
end Tess
