/- A part of the proof. -/
import Derived.WalkSpells
import Derived.WalkLawsBesides
import Derived.Handy
import Derived.Lib.QuietBelow
import Derived.Lib.Hide
import Derived.BigQuiet
import Derived.Deep.RegionHeld3
import Derived.Shelf.Abstract
import Derived.Test.YtmbccnioijokfaaGreatDoorZs1
import Derived.Great.BuildSlice
import Derived.Lib.AppendZeros
import Derived.Deep.Upon
namespace Go.Proofs.YtmbccnioijokfaaGreatDoor
set_option maxRecDepth 100000
set_option maxHeartbeats 32000000
open Go.Value (int)
open Go.IntKind (i64 u8)
theorem pp {p:Prop}(h:p):Go.RowKit.Hid p:=h
theorem pt {α:Sort _}(e:α):∃x,x=e:=⟨e,rfl⟩
theorem _root_.Go.RowKit.Hid.o {p:Prop}(h:Go.RowKit.Hid p):p:=h
theorem py {a b:Prop} (h:a) (k:b):a/\b:=⟨h,k⟩
theorem pA (n:Nat):n<=n:=Nat.le_refl n
theorem pB {n m k:Nat} (h:n<=m) (g:m<=k):n<=k:=Nat.le_trans h g
theorem pC (n:Nat):0<=n:=Nat.zero_le n
theorem pD {n m k:Nat} (h:n<m) (g:m<=k):n<k:=Nat.lt_of_lt_of_le h g
theorem pE {α:Type _} {a b:α} (h:some a=some b):a=b:=Option.some.inj h
theorem pG {α:Type _} {l:List α} {i:Nat} {a:α} (h:l[i]?=some a):a∈l:=List.mem_of_getElem? h
theorem pH {α:Type _} {l:List α} {i:Nat} (h:i<l.length):l[i]?=some l[i]:=List.getElem?_eq_getElem h
theorem pI (B:Nat) (w:Go.World):Go.RowKit.Below B w w:=Go.RowKit.Below.refl B w
theorem pJ (n:Int) (h:-9223372036854775808<=n/\n<=9223372036854775807):Go.IntKind.i64.wrap n=n:=Go.IntWalk.i64_in n h
theorem pK (w:Go.World) (d:Nat) (os:Array Go.Obj):Go.RowKit.Below w.heap.size w (Go.Sort.grow (Go.redrawn w d) os):=Go.below_regrown w d os
instance:Coe Int Go.Value:=⟨fun n=>.int .i64 n⟩
instance:Coe Nat Go.Value:=⟨fun b=>.pointer (some ⟨b,0,none⟩)⟩
abbrev pM (w W:Go.World):Prop:=Go.RowKit.Below w.heap.size w W
variable {w1:World}{args:Array Value}{p:Addr}{B k i N id j bytes:Nat}{u:Value}{frm tu lo hi:Int}{Q:Exit -> Act -> World -> Prop}{a:Act}{o:Oper}
section
open Go.RowKit
def Qg (n:Int):Prop:= -9223372036854775808<=n/\n<=9223372036854775807
theorem Ys {n:Int}(h:(Lit.int .i64 n).wf=true):Qg n:=by
 simp [Lit.wf,IntKind.min,IntKind.max,IntKind.signed,IntKind.bits] at h;exact ⟨by omega,by omega⟩
theorem Xp {k:IntKind}{a b:Int}(h:a=b):Ending.returned (.int k a)=.returned (.int k b):=by rw [h]
theorem Cg {a b:Bool}(h:a=b):Ending.returned (.bool a)=.returned (.bool b):=by rw [h]
theorem PI {a b c b':Value}(h:a=c)(k:b=b'):Ending.returned (.tuple #[a,b])=.returned (.tuple #[c,b']):=by rw [h,k]
theorem vi {k:IntKind}{a b:Int}(h:a=b):Value.int k a=.int k b:=by rw [h]
theorem vb {a b:Bool}(h:a=b):Value.bool a=.bool b:=by rw [h]
def Xj (x y:Int):Int:=min x y
def Xv (x y:Int):Int:=max x y
theorem YY {P:Program}(ts:Array TypeId)(t:TypeId)(k a:IntKind)(x y:Int)(w:World):(Builtin.min_ ts t #[.int k x,.int a y]).run P w=.ok (.int k (Xj x y)) w:=by
 rw [run_min_int2];have h:(if y<x then y else x)=Xj x y:=by unfold Xj;omega
 rw [h]
theorem ZC {P:Program}(ts:Array TypeId)(t:TypeId)(k a:IntKind)(x y:Int)(w:World):(Builtin.max_ ts t #[.int k x,.int a y]).run P w=.ok (.int k (Xv x y)) w:=by
 rw [run_max_int2];have h:(if x<y then y else x)=Xv x y:=by unfold Xv;omega
 rw [h]
theorem after {w W W':World}(h:Below w.heap.size w W)(k:Below W.heap.size W W'):Below w.heap.size w W':=h.trans (k.mono h.size)
theorem BE {n:Nat}{w W W':World}(h:Below n w W)(a:n<=w.heap.size)(k:Below W.heap.size W W'):Below n w W':=h.trans (k.mono (pB a h.size))
theorem lU {W:World}(a:Below W.heap.size W w1):(∀b o,b<W.heap.size->w1.cell? ⟨b,o,none⟩=W.cell? ⟨b,o,none⟩)/\(∀b o,b<W.heap.size->w1.frozen? ⟨b,o,none⟩=W.frozen? ⟨b,o,none⟩):=
 ⟨λb o h=>a.cell (p:=⟨b,o,none⟩) h,λb o h=>a.frozen (p:=⟨b,o,none⟩) h⟩
theorem Ym {P:Program}{f:FuncId}{w:World}{v:Value}(h:Calls P f args w λe w'=>e=.returned v/\w=w'):Calls P f args w λe w'=>e=.returned v/\Below w.heap.size w w':=
 h.mono λ_ _ ⟨b,a⟩=>⟨b,by rw [<-a];exact pI _ _⟩
def Q0 (w:World)(g:Nat)(t:TypeId)(cs:Array Value):Prop:=w.heap[g]?=some (.cells cs t (0,0))
section
variable {w w':World}{g:Nat}{t:TypeId}{cs:Array Value}
theorem Q0.lt (h:Q0 w g t cs):g<w.heap.size:=by
 unfold Q0 at h;exact (Array.getElem?_eq_some_iff.1 h).1
theorem Q0.cell (h:Q0 w g t cs)(i:Nat):w.cell? ⟨g,i,none⟩=cs[i]?:=by
 unfold Q0 at h;simp [World.cell?,h]
theorem Q0.frz (h:Q0 w g t cs)(i:Nat):w.frozen? ⟨g,i,none⟩=false:=by
 unfold Q0 at h;simp [World.frozen?,h]
theorem Q0.new (w:World)(t:TypeId)(cs:Array Value):Q0 (w.alloc (.cells cs t)) w.heap.size t cs:=heap_alloc_new w _
theorem Q0.new' {w:World}{g:Nat}{t:TypeId}{cs:Array Value}(h:g=w.heap.size):Q0 (w.alloc (.cells cs t)) g t cs:=by subst h;exact Q0.new w t cs
theorem Q0.alloc (h:Q0 w g t cs)(o:Obj):Q0 (w.alloc o) g t cs:=by
 unfold Q0 at *;have a:=(Array.getElem?_eq_some_iff.1 h).1;rw [Below.heap_alloc w o g a];exact h
theorem Q0.set_ (h:Q0 w g t cs)(i:Nat)(u:Value):Q0 (w.setCell ⟨g,i,none⟩ u) g t (cs.setIfInBounds i u):=by
 unfold Q0 at *;simp [World.setCell,Array.getElem?_modify,h]
theorem Q0.far (h:Q0 w g t cs)(a:g≠p.block)(u:Value):Q0 (w.setCell p u) g t cs:=by
 unfold Q0 at *;rw [Below.heap_setCell w p u g a];exact h
theorem Q0.below (h:Q0 w g t cs)(b:Below B w w')(a:g<B):Q0 w' g t cs:=by
 unfold Q0 at *;rw [b.block g a];exact h
theorem Q0.on (h:Q0 w g t cs)(a:Below w.heap.size w w'):Q0 w' g t cs:=h.below a h.lt
theorem Q0.st3 {x y z:Value}(h:Q0 w g t #[x,y,z])(a b c:Value):Q0 (((w.setCell ⟨g,0,none⟩ a).setCell ⟨g,1,none⟩ b).setCell ⟨g,2,none⟩ c) g t #[a,b,c]:=((h.set_ 0 a).set_ 1 b).set_ 2 c
theorem Q0.st6 {x y z r s:Value}(h:Q0 w g t #[x,y,z,r,s,u])(a b c d e f:Value):Q0 ((((((w.setCell ⟨g,0,none⟩ a).setCell ⟨g,1,none⟩ b).setCell ⟨g,2,none⟩ c).setCell ⟨g,3,none⟩ d).setCell ⟨g,4,none⟩ e).setCell ⟨g,5,none⟩ f) g t #[a,b,c,d,e,f]:=
 (((((h.set_ 0 a).set_ 1 b).set_ 2 c).set_ 3 d).set_ 4 e).set_ 5 f
theorem Q0.c1 {a:Value}(h:Q0 w g t #[a]):w.cell? ⟨g,0,none⟩=some a/\w.frozen? ⟨g,0,none⟩=false:=⟨h.cell 0,h.frz 0⟩
theorem Q0.c3 {a b c:Value}(h:Q0 w g t #[a,b,c]):w.cell? ⟨g,0,none⟩=some a/\w.cell? ⟨g,1,none⟩=some b/\w.cell? ⟨g,2,none⟩=some c/\w.frozen? ⟨g,0,none⟩=false/\w.frozen? ⟨g,1,none⟩=false/\w.frozen? ⟨g,2,none⟩=false:=
 ⟨h.cell 0,h.cell 1,h.cell 2,h.frz 0,h.frz 1,h.frz 2⟩
theorem Q0.c6 {a b c d e f:Value}(h:Q0 w g t #[a,b,c,d,e,f]):(w.cell? ⟨g,0,none⟩=some a/\w.cell? ⟨g,1,none⟩=some b/\w.cell? ⟨g,2,none⟩=some c/\w.cell? ⟨g,3,none⟩=some d/\w.cell? ⟨g,4,none⟩=some e/\w.cell? ⟨g,5,none⟩=some f)/\
  w.frozen? ⟨g,0,none⟩=false/\w.frozen? ⟨g,1,none⟩=false/\w.frozen? ⟨g,2,none⟩=false/\w.frozen? ⟨g,3,none⟩=false/\w.frozen? ⟨g,4,none⟩=false/\w.frozen? ⟨g,5,none⟩=false:=
 ⟨⟨h.cell 0,h.cell 1,h.cell 2,h.cell 3,h.cell 4,h.cell 5⟩,h.frz 0,h.frz 1,h.frz 2,h.frz 3,h.frz 4,h.frz 5⟩
theorem Q0.re (h:Q0 w g t cs)(d:Nat)(os:Array Obj):Q0 (Go.Sort.grow (redrawn w d) os) g t cs:=h.below (pK w d os) h.lt
theorem Q0.re3 {a b c:Value}(h:Q0 w g t #[a,b,c]):(∀d os,(Go.Sort.grow (redrawn w d) os).cell? ⟨g,0,none⟩=some a)/\(∀d os,(Go.Sort.grow (redrawn w d) os).cell? ⟨g,1,none⟩=some b)/\(∀d os,(Go.Sort.grow (redrawn w d) os).cell? ⟨g,2,none⟩=some c):=
 ⟨λd os=>(h.re d os).cell 0,λd os=>(h.re d os).cell 1,λd os=>(h.re d os).cell 2⟩
theorem Q0.re6 {a b c x y z:Value}(h:Q0 w g t #[a,b,c,x,y,z]):(∀d os,(Go.Sort.grow (redrawn w d) os).cell? ⟨g,0,none⟩=some a)/\(∀d os,(Go.Sort.grow (redrawn w d) os).cell? ⟨g,1,none⟩=some b)/\(∀d os,(Go.Sort.grow (redrawn w d) os).cell? ⟨g,2,none⟩=some c)/\
  (∀d os,(Go.Sort.grow (redrawn w d) os).cell? ⟨g,3,none⟩=some x)/\(∀d os,(Go.Sort.grow (redrawn w d) os).cell? ⟨g,4,none⟩=some y)/\(∀d os,(Go.Sort.grow (redrawn w d) os).cell? ⟨g,5,none⟩=some z):=
 ⟨λd os=>(h.re d os).cell 0,λd os=>(h.re d os).cell 1,λd os=>(h.re d os).cell 2,λd os=>(h.re d os).cell 3,λd os=>(h.re d os).cell 4,λd os=>(h.re d os).cell 5⟩
theorem Q0.step {W:World}{o:Obj}(h:Q0 w g t cs)(b:pM w w1)(a:W=w1.alloc o):Q0 W g t cs:=by
 rw [a];exact (h.on b).alloc o
theorem Q0.fresh {W:World}(a:W=w1.alloc (.cells cs t)):Q0 W w1.heap.size t cs:=by
 rw [a];exact Q0.new w1 t cs
theorem GR {v W:World}{o:Obj}(h:pM v w)(a:pM w w1)(b:W=w1.alloc o):Below v.heap.size v W:=by
 rw [b];exact (after h a).alloc (after h a).size o
end
theorem QN {w:World}{v:Value}(h:w.cell? p=some v):p.block<w.heap.size:=by
 unfold World.cell? at h;cases hh:w.heap[p.block]? with
 | none=>simp [hh] at h
 | some b=>exact (Array.getElem?_eq_some_iff.1 hh).1
theorem PJ {w:World}{v:Value}(h:w.cell? p=some v):p.spot=none:=by
 unfold World.cell? at h;cases hs:p.spot with
 | none=>rfl
 | some k=>cases hh:w.heap[p.block]?<;>simp [hh,hs] at h;split at h<;>simp at h
theorem Yt {w w':World}(a:Below B w w')(h:p.block<B):w'.cell? p=w.cell? p:=by
 unfold World.cell?;rw [a.block p.block h]
theorem PK {n cap:Nat}(d:n<=cap)(a:cap<=maxLen)(hlt:k<n):wrap64 ((k:Int)+1)=k+1:=by
 have c:=pB d a;have b:maxLen<=9223372036854775807:=by decide
 have h3:=pB c b;clear d a c b;exact IntWalk.wrap64_in _ (by omega)
theorem Ts {k:Nat}(h:wrap64 ((k:Int)+1)=k+1):Value.int .i64 (wrap64 ((k:Int)+1))=.int .i64 ((k+1:Nat):Int):=by rw [h];rfl
theorem PL {n k:Nat}(hlt:k<n)(h:wrap64 ((k:Int)+1)=k+1):n - (intOf (int i64 (wrap64 ((k:Int)+1)))).toNat<n - (intOf (int i64 k)).toNat:=by
 rw [h];clear h;show n - ((k:Int)+1).toNat<n - (k:Int).toNat;omega
theorem ZY {n:Nat}(hlt:k<n):n - (intOf (int i64 ((k:Int)+1))).toNat<n - (intOf (int i64 k)).toNat:=by
 show n - ((k:Int)+1).toNat<n - (k:Int).toNat;omega
end
section
abbrev Rn:=Int×Int
def Qu (l:List Rn):List Int:=l.flatMap λr=>List.replicate r.1.toNat r.2
def XP (l:List Rn)(r:Rn):List Rn:=
 if r.1<1 then l else match l.getLast? with
  | some x=>if x.2=r.2 then l.dropLast++[(x.1+r.1,x.2)] else l++[r]
  | none=>[r]
def Xl:List Rn->Prop
 | []=>True
 | [r]=>1<=r.1
 | r::s::l=>1<=r.1/\r.2≠s.2/\Xl (s::l)
def Qh (l:List Rn):Int:=(l.map (·.1)).sum
theorem Zo:Xl []:=trivial
theorem GS:Qu []=[]:=rfl
theorem Xi (r:Rn)(l:List Rn):Qu (r::l)=List.replicate r.1.toNat r.2++Qu l:=rfl
theorem AQ (l m:List Rn):Qu (l++m)=Qu l++Qu m:=by simp [Qu]
theorem Xl.tail {r:Rn}{l:List Rn}(h:Xl (r::l)):Xl l:=by
 cases l with
 | nil=>trivial
 | cons s l=>exact h.2.2
theorem Xl.pos {l:List Rn}(h:Xl l):∀r∈l,1<=r.1:=by
 induction l with
 | nil=>intro r a;cases a
 | cons s l b=>
  intro r a;rcases List.mem_cons.1 a with rfl|a
  ·cases l with
   | nil=>exact h
   | cons s l=>exact h.1
  ·exact b h.tail r a
theorem Xl.snoc {l:List Rn}{r:Rn}(h:Xl l)(b:1<=r.1)(c:∀x,l.getLast?=some x->x.2≠r.2):Xl (l++[r]):=by
 induction l with
 | nil=>exact b
 | cons s l d=>
  cases l with
  | nil=>exact ⟨h,c s rfl,b⟩
  | cons t l=>exact ⟨h.1,h.2.1,d h.2.2 (λx a=>c x (by rw [List.getLast?_cons_cons];exact a))⟩
theorem Xl.last {l:List Rn}{x:Rn}{n:Int}(h:Xl (l++[x]))(a:1<=n):Xl (l++[(n,x.2)]):=by
 induction l with
 | nil=>exact a
 | cons s l b=>
  cases l with
  | nil=>exact ⟨h.1,h.2.1,a⟩
  | cons t l=>exact ⟨h.1,h.2.1,b h.2.2⟩
theorem Bd {l:List Rn}{x:Rn}(h:l.getLast?=some x):l=l.dropLast++[x]:=by
 have a:l≠[]:=by rintro rfl;cases h
 rw [List.getLast?_eq_some_getLast a] at h;rw [<-pE h];exact (List.dropLast_concat_getLast a).symm
theorem Ch {l:List Rn}(h:Xl l)(r:Rn):Xl (XP l r):=by
 unfold XP;split
 ·exact h
 ·rename_i hr;cases hl:l.getLast? with
  | none=>exact (by omega:1<=r.1)
  | some x=>
   dsimp only;split
   ·have e:=Bd hl;have hx:=h.pos x (by rw [e];simp)
    rw [e] at h;exact h.last (by omega)
   ·rename_i b;exact h.snoc (by omega) λy a=>by rw [hl] at a;cases a;exact b
theorem Em (a b:Int)(c:Int)(ha:0<=a)(hb:0<=b):List.replicate (a+b).toNat c=List.replicate a.toNat c++List.replicate b.toNat c:=by
 rw [List.replicate_append_replicate,show (a+b).toNat=a.toNat+b.toNat by omega]
theorem CO {l:List Rn}(h:Xl l)(r:Rn):Qu (XP l r)=Qu l++List.replicate r.1.toNat r.2:=by
 unfold XP;split
 ·rw [show r.1.toNat=0 by omega];simp
 ·rename_i hr;cases hl:l.getLast? with
  | none=>
   obtain rfl:l=[]:=by simpa using hl
   simp [Qu]
  | some x=>
   dsimp only;split
   ·rename_i a;have e:=Bd hl;have hx:=h.pos x (by rw [e];simp)
    conv=>rhs;rw [e]
    rw [AQ,AQ,List.append_assoc,Xi,Xi];simp only [GS,List.append_nil];rw [Em _ _ _ (by omega) (by omega),a]
   ·rw [AQ];simp [Qu]
def Xk (l:List Rn)(m:List Rn):List Rn:=m.foldl XP l
theorem ZZ {l:List Rn}(h:Xl l)(m:List Rn):Xl (Xk l m):=by
 induction m generalizing l with
 | nil=>exact h
 | cons r m a=>exact a (Ch h r)
theorem UG {l:List Rn}(h:Xl l)(m:List Rn):Qu (Xk l m)=Qu l++Qu m:=by
 induction m generalizing l with
 | nil=>simp [Xk,Qu]
 | cons r m a=>
  show Qu (Xk (XP l r) m)=_;rw [a (Ch h r),CO h,Xi,List.append_assoc]
theorem Ae {a:Nat}{x:Int}(h:0<a):List.replicate a x=x::List.replicate (a - 1) x:=by
 cases a with
 | zero=>omega
 | succ a=>rfl
theorem Tt {l m:List Rn}(e:Xl l)(d:Xl m)(h:Qu l=Qu m):l=m:=by
 induction l generalizing m with
 | nil=>
  cases m with
  | nil=>rfl
  | cons s m=>
   have:=d.pos s List.mem_cons_self;rw [Xi,Ae (by omega)] at h
   cases h
 | cons r l p=>
  have k:=e.pos r List.mem_cons_self;cases m with
  | nil=>
   rw [Xi,Ae (by omega)] at h
   cases h
  | cons s m=>
   have n:=d.pos s List.mem_cons_self;obtain ⟨a,x⟩:=r;obtain ⟨b,y⟩:=s;dsimp only at k n;have j:x=y:=by
    have g:=h;rw [Xi,Xi] at g;dsimp only at g;rw [Ae (a:=a.toNat) (by omega),Ae (a:=b.toNat) (by omega)] at g
    exact (List.cons.inj g).1
   subst j;have key:∀(l m:List Rn) (a b:Int),1<=a->a<=b->Xl ((a,x)::l)->Xl ((b,x)::m)->Qu ((a,x)::l)=Qu ((b,x)::m)->a=b:=by
    intro l m a b ha c o h2 f;rw [Xi,Xi] at f;dsimp only at f;rw [show b=a+(b - a) by omega,Em _ _ _ (by omega) (by omega),List.append_assoc] at f
    have i:=List.append_cancel_left f;by_cases hd:b - a=0
    ·omega
    ·rw [Ae (by omega)] at i
     cases l with
     | nil=>cases i
     | cons u l=>
      have hu:=o.2.2.pos u List.mem_cons_self;rw [Xi,Ae (a:=u.1.toNat) (by omega)] at i
      have:=(List.cons.inj i).1;exact absurd this.symm o.2.1
   have c:a=b:=by
    rcases Int.le_total a b with c|c
    ·exact key l m a b k c e d h
    ·exact (key m l b a n c d e h.symm).symm
   subst c;rw [Xi,Xi] at h;rw [p e.tail d.tail (List.append_cancel_left h)]
theorem Ze {l:List Rn}(h:∀r∈l,0<=r.1):Qh l=(Qu l).length:=by
 induction l with
 | nil=>rfl
 | cons r l a=>
  have h1:=h r List.mem_cons_self;rw [Xi,List.length_append,List.length_replicate];have:=a λs b=>h s (List.mem_cons_of_mem _ b)
  unfold Qh at *;rw [List.map_cons,List.sum_cons,this];omega
def Zf:List Rn->Int->Int->Int->List Rn->List Rn
 | [],_,_,_,out=>out
 | r::l,frm,tu,at_,out=>
  Zf l frm tu (at_+r.1) (if max frm at_<min tu (at_+r.1) then XP out (min tu (at_+r.1) - max frm at_,r.2) else out)
theorem Ko {l:List Rn}{at_:Int}{a:List Rn}(h:Xl a):Xl (Zf l frm tu at_ a):=by
 induction l generalizing at_ a with
 | nil=>exact h
 | cons r l b=>
  unfold Zf;apply b;split
  ·exact Ch h _
  ·exact h
theorem dq (a b n:Nat)(x:Int):((List.replicate n x).take b).drop a=List.replicate (min b n - a) x:=by
 rw [List.take_replicate,List.drop_replicate]
theorem GT {l:List Rn}(b:∀r∈l,0<=r.1){at_:Int}{a:List Rn}(h:Xl a)(h0:0<=at_):
  Qu (Zf l frm tu at_ a)=Qu a++((Qu l).take (tu - at_).toNat).drop (frm - at_).toNat:=by
 induction l generalizing at_ a with
 | nil=>simp [Zf,Qu]
 | cons r l c=>
  have hr:=b r List.mem_cons_self;unfold Zf;rw [c (λs d=>b s (List.mem_cons_of_mem _ d)) (by split;exact Ch h _;exact h) (by omega)]
  have e:Qu (if max frm at_<min tu (at_+r.1) then XP a (min tu (at_+r.1) - max frm at_,r.2) else a)=Qu a++((List.replicate r.1.toNat r.2).take (tu - at_).toNat).drop (frm - at_).toNat:=by
   rw [dq];split
   ·rw [CO h];congr 2;dsimp only;omega
   ·rw [show min (tu - at_).toNat r.1.toNat - (frm - at_).toNat=0 by omega]
    simp
  rw [e,Xi,List.append_assoc,List.take_append,List.drop_append,List.length_take,List.length_replicate];congr 2;rw [show (tu - at_).toNat - r.1.toNat=(tu - (at_+r.1)).toNat by omega]
  by_cases ht:(tu - (at_+r.1)).toNat=0
  ·rw [ht];simp
  ·rw [show (frm - at_).toNat - min (tu - at_).toNat r.1.toNat=(frm - (at_+r.1)).toNat by omega]
def Vw (l:List Rn)(frm tu b:Int):List Rn:=Xk (Xk (Xk [] (Zf l 0 frm 0 [])) (XP [] (tu - frm,b))) (Zf l tu (Qh l) 0 [])
theorem Jk (l:List Rn)(a c b:Int):Xl (Vw l a c b):=ZZ (ZZ (ZZ Zo _) _) _
theorem FP {l:List Rn}(h:Xl l){b:Int} :
  Qu (Vw l frm tu b)=(Qu l).take frm.toNat++List.replicate (tu - frm).toNat b++(Qu l).drop tu.toNat:=by
 have a:∀r∈l,0<=r.1:=λr c=>by have:=h.pos r c;omega
 unfold Vw;rw [UG (ZZ (ZZ Zo _) _),UG (ZZ Zo _),UG Zo,CO Zo,GT a Zo (by omega),GT a Zo (by omega),Ze a]
 simp [GS]
theorem OC {l:List Rn}(h:Xl l){b:Int}(a:i<(Qu l).length):Qu (Vw l i (i+1) b)=(Qu l).set i b:=by
 have hp:∀r∈l,0<=r.1:=λr c=>by have:=h.pos r c;omega
 rw [FP h];rw [show ((i:Int)).toNat=i by omega,show ((i:Int)+1 - i).toNat=1 by omega,show ((i:Int)+1).toNat=i+1 by omega]
 rw [List.set_eq_take_append_cons_drop,if_pos a];simp
def BF:List Rn->Int->Int
 | [],_=> -1
 | r::l,i=>if 0<=i/\i<r.1 then r.2 else BF l (i - r.1)
theorem PM {l:List Rn}(a:∀r∈l,0<=r.1)(i:Nat):BF l i=((Qu l)[i]?).getD (-1):=by
 induction l generalizing i with
 | nil=>rfl
 | cons r l b=>
  have hr:=a r List.mem_cons_self;unfold BF;rw [Xi];by_cases h:(i:Int)<r.1
  ·rw [if_pos ⟨by omega,h⟩,List.getElem?_append_left (by rw [List.length_replicate];omega),List.getElem?_replicate,if_pos (by omega)];rfl
  ·rw [if_neg (by omega),show ((i:Int) - r.1)=((i - r.1.toNat:Nat):Int) by omega,b (λs c=>a s (List.mem_cons_of_mem _ c)),List.getElem?_append_right (by rw [List.length_replicate];omega),List.length_replicate]
def Yn (cs:List Int):List Rn:=Xk [] (cs.map λb=>(1,b))
theorem Ur (cs:List Int):Xl (Yn cs):=ZZ Zo _
theorem Us (cs:List Int):Qu (Yn cs)=cs:=by
 unfold Yn;rw [UG Zo];induction cs with
 | nil=>rfl
 | cons c cs a=>
  rw [List.map_cons,Xi,show Qu []++(List.replicate (1:Int).toNat c++Qu (cs.map λb=>((1:Int),b)))=c::(Qu []++Qu (cs.map λb=>((1:Int),b))) from rfl,a]
theorem Do (l m:List Rn):Qh (l++m)=Qh l+Qh m:=by unfold Qh;rw [List.map_append,List.sum_append]
theorem XD {l:List Rn}(h:∀r∈l,1<=r.1):(l.length:Int)<=Qh l:=by
 induction l with
 | nil=>simp [Qh]
 | cons r l a=>
  have h1:=h r List.mem_cons_self;have h2:=a λs b=>h s (List.mem_cons_of_mem _ b)
  unfold Qh at *;rw [List.map_cons,List.sum_cons,List.length_cons];omega
theorem EB {l:List Rn}(h:∀r∈l,1<=r.1)(r:Rn):∀x∈XP l r,1<=x.1:=by
 intro x a;unfold XP at a;split at a
 ·exact h x a
 ·rename_i hr;split at a
  ·rename_i y c;have b:y∈l:=List.mem_of_getLast? c;split at a
   ·rcases List.mem_append.1 a with a|a
    ·exact h x (List.dropLast_subset l a)
    ·have:=h y b;simp at a;rw [a];dsimp only;omega
   ·rcases List.mem_append.1 a with a|a
    ·exact h x a
    ·simp at a;rw [a];omega
  ·simp at a;rw [a];omega
theorem Jl {l:List Rn}(r:Rn)(hr:0<=r.1):Qh (XP l r)=Qh l+r.1:=by
 unfold XP;split
 ·omega
 ·split
  ·rename_i y a;have e:=Bd a;split
   ·conv=>rhs;rw [e]
    rw [Do,Do];simp [Qh];omega
   ·rw [Do];simp [Qh]
  ·rename_i a;obtain rfl:l=[]:=by simpa using a
   simp [Qh]
theorem Dp {l:List Rn}(h:∀r∈l,1<=r.1)(m:List Rn):∀x∈Xk l m,1<=x.1:=by
 induction m generalizing l with
 | nil=>exact h
 | cons r m a=>exact a (EB h r)
theorem Ax {l:List Rn}(m:List Rn)(a:∀r∈m,0<=r.1):Qh (Xk l m)=Qh l+Qh m:=by
 induction m generalizing l with
 | nil=>simp [Xk,Qh]
 | cons r m c=>
  show Qh (Xk (XP l r) m)=_;rw [c λs b=>a s (List.mem_cons_of_mem _ b),Jl r (a r List.mem_cons_self)]
  simp [Qh];omega
theorem FQ (l m:List Rn)(r:Rn):Xk l (m++[r])=XP (Xk l m) r:=by simp [Xk]
theorem D5:∀x∈([]:List Rn),1<=x.1:=by intro x a;cases a
abbrev Bs:=List B8
section
variable {α β:Type}
def Yb (l:List (Int×α)):Prop:=l.Pairwise (λp q=>p.1<q.1)
def QO:List (Int×α)->Int×α->List (Int×α)
 | [],w=>[w]
 | x::r,w=>if w.1<x.1 then w::x::r else if x.1=w.1 then w::r else x::QO r w
theorem Dq {p w:Int×α} :∀{l:List (Int×α)},p∈QO l w->p=w∨p∈l
 | [],h=>by simpa [QO] using h
 | x::r,h=>by
  unfold QO at h;split at h
  ·simpa using h
  ·split at h
   ·rcases List.mem_cons.1 h with h|h
    ·exact .inl h
    ·exact .inr (List.mem_cons_of_mem _ h)
   ·rcases List.mem_cons.1 h with h|h
    ·exact .inr (h▸List.mem_cons_self)
    ·rcases Dq h with h|h
     ·exact .inl h
     ·exact .inr (List.mem_cons_of_mem _ h)
theorem ZD {x:Int×α}{r:List (Int×α)} :Yb (x::r)↔(∀p∈r,x.1<p.1)/\Yb r:=List.pairwise_cons
theorem Tu:Yb ([]:List (Int×α)):=List.Pairwise.nil
theorem EC {w:Int×α} :∀{l:List (Int×α)},Yb l->Yb (QO l w)
 | [],_=>by simp [QO,Yb]
 | x::r,h=>by
  obtain ⟨c,d⟩:=ZD.1 h;unfold QO;split
  ·rename_i b;refine ZD.2 ⟨λp a=>?_,h⟩
   rcases List.mem_cons.1 a with rfl|a
   ·exact b
   ·have:=c p a;omega
  ·split
   ·rename_i e;exact ZD.2 ⟨λp a=>e▸c p a,d⟩
   ·refine ZD.2 ⟨λp a=>?_,EC d⟩
    rcases Dq a with rfl|a
    ·omega
    ·exact c p a
theorem FY (f:α->β)(w:Int×α):∀l:List (Int×α),(QO l w).map (λp=>(p.1,f p.2))=QO (l.map λp=>(p.1,f p.2)) (w.1,f w.2)
 | []=>rfl
 | x::r=>by
  unfold QO;simp only [List.map_cons];split
  ·simp
  ·split
   ·simp
   ·simp [FY f w r]
theorem FZ (w:Int×α):∀l:List (Int×α),(QO l w).length<=l.length+1
 | []=>by simp [QO]
 | x::r=>by
  unfold QO;split
  ·simp
  ·split
   ·simp
   ·have:=FZ w r;simp;omega
theorem Tv (f:α->β){l:List (Int×α)}(h:Yb l):Yb (l.map λp=>(p.1,f p.2)):=by
 unfold Yb at *;rw [List.pairwise_map];exact h
def XT (l:List (Int×α))(k:Int):Option α:=(l.find? λp=>p.1==k).map (·.2)
theorem Kp (k:Int):XT ([]:List (Int×α)) k=none:=rfl
theorem Yo (x:Int×α)(r:List (Int×α))(k:Int):XT (x::r) k=if x.1=k then some x.2 else XT r k:=by
 unfold XT;by_cases h:x.1=k
 ·rw [if_pos h,List.find?_cons_of_pos (by simpa using h)];rfl
 ·rw [if_neg h,List.find?_cons_of_neg (by simpa using h)]
theorem PN {l:List (Int×α)}{k:Int}(h:∀p∈l,p.1≠k):XT l k=none:=by
 unfold XT;rw [List.find?_eq_none.2 (λp a=>by simpa using h p a)]
 rfl
theorem Kq (f:α->β)(k:Int):∀l:List (Int×α),XT (l.map λp=>(p.1,f p.2)) k=(XT l k).map f
 | []=>rfl
 | x::r=>by
  rw [List.map_cons,Yo,Yo,Kq f k r];dsimp only;split<;>rfl
theorem Kr (w:Int×α)(k:Int):∀{l:List (Int×α)},Yb l->XT (QO l w) k=if w.1=k then some w.2 else XT l k
 | [],_=>by simp [QO,Yo,Kp]
 | x::r,h=>by
  obtain ⟨h1,a⟩:=ZD.1 h;unfold QO;split
  ·rw [Yo]
  ·split
   ·rename_i he;rw [Yo,Yo];split
    ·rfl
    ·rw [if_neg (by omega)]
   ·rw [Yo,Yo,Kr w k a];split
    ·rw [if_neg (by omega)]
    ·rfl
theorem dt {l:List (Int×α)}(h:Yb l){p:Int×α}(b:l[i]?=some p):XT l p.1=some p.2:=by
 induction l generalizing i with
 | nil=>cases b
 | cons x r c=>
  obtain ⟨e,d⟩:=ZD.1 h;rw [Yo];cases i with
  | zero=>
   obtain rfl:x=p:=by simpa using b
   rw [if_pos rfl]
  | succ i=>
   have a:r[i]?=some p:=by simpa using b
   have:=e p (pG a);rw [if_neg (by omega)]
   exact c d a
def Xw (s l:List (Int×α)):List (Int×α):=l.foldl QO s
theorem Jm (s l:List (Int×α))(w:Int×α):Xw s (l++[w])=QO (Xw s l) w:=by simp [Xw]
theorem Ci (s l:List (Int×α))(w:Int×α):Xw s (w::l)=Xw (QO s w) l:=rfl
theorem Dr:∀{l s:List (Int×α)},Yb s->Yb (Xw s l)
 | [],_,h=>h
 | w::r,s,h=>by rw [Ci];exact Dr (EC h)
theorem N3:∀(l s:List (Int×α)),(Xw s l).length<=s.length+l.length
 | [],s=>by simp [Xw]
 | w::r,s=>by
  rw [Ci];have h1:=N3 r (QO s w);have h2:=FZ w s;simp only [List.length_cons];omega
theorem Fg {p:Int×α} :∀{l s:List (Int×α)},p∈Xw s l->p∈s∨p∈l
 | [],_,h=>.inl h
 | w::r,s,h=>by
  rw [Ci] at h;rcases Fg h with h|h
  ·rcases Dq h with rfl|h
   ·exact .inr List.mem_cons_self
   ·exact .inl h
  ·exact .inr (List.mem_cons_of_mem _ h)
theorem N4 (f:α->β):∀(l s:List (Int×α)),(Xw s l).map (λp=>(p.1,f p.2))=Xw (s.map λp=>(p.1,f p.2)) (l.map λp=>(p.1,f p.2))
 | [],s=>rfl
 | w::r,s=>by rw [Ci,N4 f r,FY];rfl
end
def YO (l:List (Int×Bs)):Nat:=(l.map λp=>p.2.length).sum
theorem Cj (x:Int×Bs)(r:List (Int×Bs)):YO (x::r)=x.2.length+YO r:=by simp [YO]
theorem Fh {M:Nat} :∀{l:List (Int×Bs)},(∀p∈l,p.2.length<=M)->YO l<=l.length * M
 | [],_=>by simp [YO]
 | x::r,h=>by
  have h1:=h x List.mem_cons_self;have h2:=Fh (l:=r) (λp a=>h p (List.mem_cons_of_mem _ a))
  rw [Cj,List.length_cons,Nat.succ_mul];omega
def D6 (l:List (Int×Bs))(k:Int):Nat:=((XT l k).getD []).length
theorem G0 (w:Int×Bs):∀{l:List (Int×Bs)},Yb l->YO (QO l w)+D6 l w.1=YO l+w.2.length
 | [],_=>by simp [QO,YO,D6,Kp]
 | x::r,h=>by
  obtain ⟨c,b⟩:=ZD.1 h;unfold QO D6;rw [Yo];split
  ·rename_i hlt;rw [if_neg (by omega),PN (λp a=>by have:=c p a;omega)]
   simp only [Cj,Option.getD_none,List.length_nil];omega
  ·split
   ·rename_i he;simp only [Cj,Option.getD_some];omega
   ·have:=G0 w b;unfold D6 at this;simp only [Cj];omega
structure DS where
 room:Int
 fails:Int
 waits:Int
 safe:List (Int×Bs)
 l:List (Int×Bs)
namespace DS
def now (S:DS):List (Int×Bs):=Xw S.safe S.l
def asked (S:DS):DS×Bool:=
 if 0<S.waits then ({ S with waits:=0 },false) else if 0<S.fails then ({ S with fails:=S.fails - 1 },true) else (S,false)
def fits (S:DS)(k:Int)(b:Bs):Bool:=decide ((YO (QO S.now (k,b)):Int)<=S.room)
def put (S:DS)(k:Int)(b:Bs):DS×Int:=
 if S.asked.2 then (S.asked.1,9) else if S.fits k b then ({ S.asked.1 with l:=S.l++[(k,b)] },0) else (S.asked.1,8)
def sync (S:DS):DS×Int:=
 if S.asked.2 then (S.asked.1,9) else ({ S.asked.1 with safe:=S.now,l:=[] },0)
end DS
def GU:List (Int×Bs)->List (Int×Bs)->Nat->List (Int×Bs)
 | s,[],_=>s
 | s,w::r,k=>if w.2.length<=k then GU (QO s w) r (k - w.2.length) else QO s (w.1,w.2.take k)
def Ay (S:DS)(n:Int):Nat:=min n.toNat (YO S.l)
def DS.crash (S:DS)(n:Int):DS×Int:=({ S with safe:=GU S.safe S.l (Ay S n),l:=[],fails:=0,waits:=0 },((YO S.l - Ay S n:Nat):Int))
theorem Be (S:DS):S.asked.1.safe=S.safe/\S.asked.1.l=S.l/\S.asked.1.room=S.room:=by
 unfold DS.asked;split
 ·exact ⟨rfl,rfl,rfl⟩
 ·split<;>exact ⟨rfl,rfl,rfl⟩
structure DOk (S:DS)(N M:Nat):Prop where
 rise:Yb S.safe
 keys:∀p∈S.safe++S.l,Qg p.1
 many:S.safe.length+S.l.length<=N
 size:∀p∈S.safe++S.l,p.2.length<=M
 room:0<=S.room/\S.room<=1048576
 waits:S.waits=0∨S.waits=1
 fails:0<=S.fails/\S.fails<=9223372036854775807
theorem DOk.mono {S:DS}{a M M':Nat}(h:DOk S N M)(d:N<=a)(c:M<=M'):DOk S a M':=⟨h.rise,h.keys,pB h.many d,λp b=>pB (h.size p b) c,h.room,h.waits,h.fails⟩
theorem DOk.asked {S:DS}{M:Nat}(h:DOk S N M):DOk S.asked.1 N M:=by
 obtain ⟨a,b,c⟩:=Be S;refine ⟨by rw [a];exact h.rise,by rw [a,b];exact h.keys,by rw [a,b];exact h.many,by rw [a,b];exact h.size,by rw [c];exact h.room,?_,?_⟩
 ·have:=h.waits;unfold DS.asked;split
  ·exact .inl rfl
  ·split<;>exact this
 ·have:=h.fails;unfold DS.asked;split
  ·exact this
  ·split
   ·dsimp only;omega
   ·exact this
theorem DOk.put {S:DS}{M:Nat}{k:Int}{b:Bs}(h:DOk S N M)(e:Qg k)(f:b.length<=M):DOk (S.put k b).1 (N+1) M:=by
 have c:=h.asked;obtain ⟨d,e2,e3⟩:=Be S;unfold DS.put;split
 ·exact c.mono (by omega) (pA _)
 ·split
  ·refine ⟨c.rise,λp a=>?_,?_,λp a=>?_,c.room,c.waits,c.fails⟩
   ·dsimp only at a;rw [d,<-List.append_assoc,List.mem_append] at a;rcases a with a|a
    ·exact h.keys p a
    ·obtain rfl:p=(k,b):=by simpa using a
     exact e
   ·have:=h.many;dsimp only;rw [d,List.length_append,List.length_singleton];omega
   ·dsimp only at a;rw [d,<-List.append_assoc,List.mem_append] at a;rcases a with a|a
    ·exact h.size p a
    ·obtain rfl:p=(k,b):=by simpa using a
     exact f
  ·exact c.mono (by omega) (pA _)
theorem DOk.now {S:DS}{M:Nat}(h:DOk S N M):Yb S.now/\(∀p∈S.now,Qg p.1)/\S.now.length<=N/\(∀p∈S.now,p.2.length<=M):=
 ⟨Dr h.rise,λp a=>h.keys p (List.mem_append.2 (Fg a)),pB (N3 _ _) h.many,λp a=>h.size p (List.mem_append.2 (Fg a))⟩
theorem DOk.sync {S:DS}{M:Nat}(h:DOk S N M):DOk S.sync.1 N M:=by
 have a:=h.asked;obtain ⟨d,c,e,f⟩:=h.now;unfold DS.sync;split
 ·exact a
 ·exact ⟨d,λp b=>c p (by simpa using b),by simpa using e,λp b=>f p (by simpa using b),a.room,a.waits,a.fails⟩
theorem Ks {M:Nat}{S:DS}(h:DOk S N M):YO S.now<=N * M:=by
 obtain ⟨-,-,b,a⟩:=h.now;exact pB (Fh a) (Nat.mul_le_mul_right _ b)
end
section
open Go.RowKit
section
variable {w W:World}{g:Nat}{t:TypeId}{cs:Array Value}{d:Nat}{os:Array Obj}
theorem Q0.eqw {w W:World}(e:w=W)(h:Q0 w g t cs):Q0 W g t cs:=e▸h
end
def Qe (n:Int):Int:=min (max n (-140737488355328)) 140737488355328
theorem ZR (n:Int): -140737488355328<=Qe n:=by unfold Qe;omega
theorem ZS (n:Int):Qe n<=140737488355328:=by unfold Qe;omega
theorem Zm {n:Int}(h: -140737488355328<=n)(k:n<=140737488355328):Qe n=n:=by unfold Qe;omega
theorem Kt (n:Int):Qe (Qe n)=Qe n:=by unfold Qe;omega
def Q9 (a b:Int):Int:=Qe (Qe a+Qe b)
def Qs (a b:Int):Int:=Qe (Qe a - Qe b)
def Tw (a b:Int):Int:=Qe (Qe a * Qe b / 65536)
def Zb (n m:Int):Int:=(if n<0 then -(n+1) else n)%m
theorem UH (n:Int){m:Int}(h:0<m):0<=Zb n m:=by unfold Zb;exact Int.emod_nonneg _ (by omega)
theorem UI (n:Int){m:Int}(h:0<m):Zb n m<m:=by unfold Zb;exact Int.emod_lt_of_pos _ h
def U7 (n:Int):Int:=if n<0 then -n else n
def Jn (n:Int)(below rest:Bool):Int:=if below&&rest then n+1 else n
def Iy (q:Int)(rest below:Bool):Int:=
 if 140737488355328<=q then (if below then -140737488355328 else 140737488355328)
 else if below then -(Jn q below rest) else q
theorem PO (n:Int)(b r:Bool):n<=Jn n b r/\Jn n b r<=n+1:=by unfold Jn;split<;>omega
def Xc (x y z i:Int):Int:=if i=0 then x else if i=1 then y else if i=2 then z else 0
def Qy (x a i n:Int):Int:=if i=a then Qe n else x
theorem iL {a b p:Int}(h:Qe a * Qe b=p):Tw a b=Qe (p / 65536):=by rw [<-h];rfl
theorem N5 {n:Int}(h: -140737488355328<=n)(k:n<=140737488355328):0<=U7 n/\U7 n<=140737488355328:=by unfold U7;omega
theorem du (u v:Int):u * v=if (decide (u<0) !=decide (v<0)) then -(U7 u * U7 v) else U7 u * U7 v:=by
 unfold U7;by_cases a:u<0<;>by_cases b:v<0<;>simp [a,b,Int.neg_mul,Int.mul_neg]
theorem dv (u v p:Int)(a:U7 u * U7 v=p)(h0:0<=p):
  (0<p / 18446744073709551616->∀r,Iy 140737488355328 r (decide (u<0) !=decide (v<0))=Qe (u * v / 65536))/\
  (p / 18446744073709551616<=0->Iy (p%18446744073709551616 / 65536) (p%65536 !=0) (decide (u<0) !=decide (v<0))=Qe (u * v / 65536)):=by
 rw [du,a];unfold Iy Jn Qe;cases (decide (u<0) !=decide (v<0))<;>simp<;>refine ⟨?_,?_⟩<;>intros<;>omega
theorem JS (n:Int):bits .and .i64 n 65535=n%65536:=by
 show IntKind.i64.wrap ((BitVec.ofInt 64 n&&&BitVec.ofInt 64 65535).toNat:Int)=_;have e:(BitVec.ofInt 64 65535).toNat=2 ^ 16 - 1:=by decide
 rw [BitVec.toNat_and,e,Nat.and_two_pow_sub_one_eq_mod,BitVec.toNat_ofInt,IntKind.wrap_i64];omega
section
variable {P:Program}{ops:Array Oper}{md:Region.Mode}{C:World->Prop}
def UJ (P:Program)(md:Region.Mode)(ops:Array Oper)(C:World->Prop)(n:Nat)(L:Act->Prop):Nat->Array Bool->Act->Prop
 | 0,listed,a=>Region.ready md ops listed=[n]/\Region.ready md ops (listed.setIfInBounds n true)=[]/\L a
 | f+1,listed,a=>n∉Region.ready md ops listed/\Region.ready md ops listed≠[]/\∀i∈Region.ready md ops listed,qOp P ops C i (UJ P md ops C n L f (listed.setIfInBounds i true)) a
theorem Eu {n:Nat}{L:Act->Prop}{Q':Exit->Act->World->Prop}(o:∀a w,C w->L a->wpOp P ops Q' n (λa w=>Q' .normal a w) a w):
  ∀(f:Nat) (listed:Array Bool) (a:Act) (w:World),C w->UJ P md ops C n L f listed a->wpAny P md ops Q' (f+1) listed a w:=by
 intro f;induction f with
 | zero=>
  intro listed a w d h;obtain ⟨c,g,k⟩:=h;refine ⟨λh=>(by rw [c] at h;cases h),λi b=>?_⟩
  rw [c] at b;obtain rfl:i=n:=by simpa using b
  exact wpOp_mono (K:=λa w=>Q' .normal a w) (λ_ _ j=>⟨g,j⟩) (o a w d k)
 | succ f l=>
  intro listed a w d h;obtain ⟨_,c,g⟩:=h;exact ⟨λh=>absurd h c,λi b=>wpOp_of_qOp d (λm w' e j=>l _ m w' e j) (g i b)⟩
theorem Ga {n:Nat}{s:Oper}{v:Value}{L:Act->Prop}(M:ops[i]?=some s)(J:∀R,n∈Region.ready md ops R->R.getD i false=true)(l:∀(j:Nat) (o:Oper) cs b,ops[j]?=some o->o.op≠.select cs b):
  ∀(f:Nat) (listed:Array Bool) (a:Act),
   (∀j r,ops[j]?=some r->j≠i->listed.getD j true=false->(∀e∈r.after,Region.binds md e=true->e.on≠i)->s.apart ops r=true)->
   i∈Region.ready md ops listed->n∉Region.ready md ops listed->YieldsIn P ops C s v a->
   UJ P md ops C n L f (listed.setIfInBounds i true) (a.put s.dst v)->UJ P md ops C n L (f+1) listed a:=by
 intro f;induction f with
 | zero=>
  intro listed a _ m B A H;refine ⟨B,λh=>(by rw [h] at m;cases m),λj x=>?_⟩
  by_cases c:j=i
  ·subst c;exact A.qOp M H
  ·have N:=ready_mono x c;rw [H.1] at N;obtain rfl:j=n:=by simpa using N
   exact absurd x B
 | succ f W=>
  intro listed a d m B A H;refine ⟨B,λh=>(by rw [h] at m;cases m),λj x=>?_⟩
  by_cases c:j=i
  ·subst c;exact A.qOp M H
  ·obtain ⟨w,r,q,p⟩:=mem_ready.1 x;have g:=(mem_ready.1 m).1;have G:s.apart ops r=true:=d j r q c w λe X S F=>by
    have y:=p e X S;rw [F] at y;by_cases K:i<listed.size<;>simp [K] at g y
    rw [g] at y;cases y
   have U:=qOp_put q G (λcs b=>l i s cs b M) (λcs b=>l j r cs b q) A (H.2.2 j (ready_mono x c))
   refine qOp_mono (λV O=>W (listed.setIfInBounds j true) V ?_ (ready_mono m (Ne.symm c)) ?_ O.1 ?_) U
   ·intro k ok T E u D;refine d k ok T E ?_ D;by_cases t:j=k
    ·subst t;exact w
    ·rwa [getD_set_ne true t] at u
   ·intro I;have z:=J _ I;rw [getD_set_ne false c] at z;have Q:=(mem_ready.1 m).1;by_cases K:i<listed.size<;>simp [K] at z Q
    rw [Q] at z;cases z
   ·rw [Array.setIfInBounds_comm _ _ c];exact O.2
def BG (md:Region.Mode)(ops:Array Oper)(n:Nat):Nat->Nat->Array Bool->Bool
 | 0,_,listed=>decide (Region.ready md ops listed=[n])&&(Region.ready md ops (listed.setIfInBounds n true)).isEmpty
 | f+1,k,listed=>(Region.ready md ops listed).contains k&&Region.free md ops listed k&&!(Region.ready md ops listed).contains n&&
   (match ops[n]? with|some o=>o.after.any (λe=>Region.binds md e&&e.on==k)|none=>false)&&BG md ops n f (k+1) (listed.setIfInBounds k true)
def OD (md:Region.Mode)(ops:Array Oper)(n:Nat):Bool:=Region.noSelect ops&&BG md ops n n 0 (Array.replicate ops.size false)
theorem Iz {n:Nat}{L:Act->Prop}(w:Region.noSelect ops=true):∀(l:List Oper) (k:Nat) (listed:Array Bool) (a:Act),(∀j,j<l.length->l[j]?=ops[k+j]?)->
  BG md ops n l.length k listed=true->wpQuiet P ops C L l a->UJ P md ops C n L l.length listed a:=by
 intro l;induction l with
 | nil=>
  intro k listed a _ c h;simp only [List.length_nil,BG,Bool.and_eq_true,decide_eq_true_eq,List.isEmpty_iff] at c;exact ⟨c.1,c.2,h⟩
 | cons o l z=>
  intro k listed a r c h;have f:ops[k]?=some o:=by simpa using (r 0 (by simp)).symm
  simp only [List.length_cons,BG,Bool.and_eq_true,Bool.not_eq_true'] at c;obtain ⟨⟨⟨⟨u,s⟩,x⟩,q⟩,i⟩:=c;have m:qOp P ops C k (wpQuiet P ops C L l) a:=by unfold qOp;simp only [f];exact h
  obtain ⟨v,t,B⟩:=yieldsIn_of_qOp f m;refine Ga f (λl' g=>?_) (Region.noSelect_spec w) l.length listed a (Region.free_spec f s) (by simpa using u) (by simpa using x) t
   (z (k+1) _ _ (λj A=>by have:=r (j+1) (by simpa using A);simpa [Nat.add_assoc,Nat.add_comm 1 j] using this) i B)
  obtain ⟨_,oL,p,d⟩:=mem_ready.1 g;rw [p] at q;obtain ⟨e,y,b⟩:=Array.any_eq_true'.1 q;simp only [Bool.and_eq_true,beq_iff_eq] at b;have:=d e y b.1
  rwa [b.2] at this
theorem IA {w:World}{l:List Oper}(n:Nat)(k:P.follows .mixedOrders=true)(b:l.length=n+1)(d:OD .any l.toArray n=true)(m:C { w with drawn:=w.drawn+1 })
  (h:wpQuiet P l.toArray C (λc=>∀w',C w'->wpList P l.toArray Q (l.drop n) c w') (l.take n) a):(Code.region id l.toArray true).wp P Q a w:=by
 simp only [OD,Bool.and_eq_true] at d;refine wp_region_any k ?_;have f:l.toArray.size=n+1:=by simpa using b
 have ht:(l.take n).length=n:=by simp;omega
 have e:=Iz (C:=C) (md:=.any) (n:=n) (L:=λc=>∀w',C w'->wpList P l.toArray Q (l.drop n) c w') d.1 (l.take n) 0 (Array.replicate l.toArray.size false) a
  (λj hj=>by simp only [Nat.zero_add,List.getElem?_toArray];rw [List.getElem?_take_of_lt (by omega)]) (by rw [ht];exact d.2) h
 rw [ht] at e;rw [f] at e ⊢;refine Eu (λa w i o=>?_) n _ a _ m e
 have g:l.drop n=[l[n]'(by omega)]:=by
  rw [List.drop_eq_getElem_cons (by omega),List.drop_of_length_le (by omega)]
 have:=o w i;rw [g] at this;unfold wpOp;simp only [List.getElem?_toArray,List.getElem?_eq_getElem (show n<l.length by omega)]
 exact this
theorem Qo {w:World}{l:List Oper}(n:Nat)(c:P.follows .mixedOrders=true)(b:l.length=n+1)(f:OD .any l.toArray n=true)
  (h:wpQuiet P l.toArray (λw'=>∃p:Regrown,w'=Go.Sort.grow (redrawn w p.d) p.os) (λe=>∀w',(∃p:Regrown,w'=Go.Sort.grow (redrawn w p.d) p.os)->wpList P l.toArray Q (l.drop n) e w') (l.take n) a):(Code.region id l.toArray true).wp P Q a w:=
 IA (C:=λw'=>∃p:Regrown,w'=Go.Sort.grow (redrawn w p.d) p.os) n c b f ⟨⟨w.drawn+1,#[]⟩,by rw [Go.Sort.grow_empty];rfl⟩ h
end
section
variable {P:Program}{ops:Array Oper}{md:Region.Mode}{C:World->Prop}
def nU (w w':World):Prop:=Below w.heap.size w w'
def Bf (P:Program)(o:Oper)(a:Act)(w:World)(v:Value):Prop:=Oper.quietUpon P (λw'=>nU w w') w v ((execOp a.eval o).run P w)
def Ka (P:Program)(o:Oper)(a:Act)(C:World->Prop)(K:Act->Prop):Prop:=∃v,(∀w,C w->Bf P o a w v)/\K (a.put o.dst v)
def UK (P:Program)(ops:Array Oper)(C:World->Prop)(o:Oper)(v:Value)(a:Act):Prop:=
 (Region.wanted o (yielded ops a.tmps)=true/\∀w,C w->Bf P o a w v)∨(Region.wanted o (yielded ops a.tmps)=false/\v=undef)
theorem MM {w:World}{v:Value}{K:Act->World->Prop}{Q':Exit->Act->World->Prop}(h:Bf P o a w v)(d:∀w',Below w.heap.size w w'->K (a.put o.dst v) w'):o.wp P a w K Q':=by
 unfold Bf at h;unfold Oper.wp;generalize (execOp a.eval o).run P w=r at *;cases r with
 | ok k w'=>
  cases k<;>simp only [Oper.quietUpon] at h<;>simp only [Oper.upon]
  case value u=>
   obtain ⟨b,g⟩:=h;rw [b,g];exact d _ (pI _ _)
  case skip=>
   obtain ⟨b,g⟩:=h;rw [b,<-g];exact d _ (pI _ _)
  case enter f args=>
   obtain ⟨b,j⟩:=h;rw [b];exact j.mono λe w'' ⟨i,c⟩=>by subst i;exact d _ c
 | halt x w'=>simp only [Oper.quietUpon] at h
end
attribute [go_sem] Ka Bf
section
variable {w w0 W W':World}{g b:Nat}{t:TypeId}{cs:Array Value}
theorem Q0.put3 {x y z v r:Value}(h:Q0 W b t #[x,y,z])(a:W'=((W.setCell ⟨b,0,none⟩ u).setCell ⟨b,1,none⟩ v).setCell ⟨b,2,none⟩ r):Q0 W' b t #[u,v,r]:=by rw [a];exact h.st3 u v r
theorem Q0.far3 {v r:Value}(h:Q0 w g t cs)(d:pM w W)(hle:w.heap.size<=b)(c:W'=((W.setCell ⟨b,0,none⟩ u).setCell ⟨b,1,none⟩ v).setCell ⟨b,2,none⟩ r):Q0 W' g t cs:=by
 have a:g≠b:=by have:=h.lt;omega
 rw [c];exact (((h.on d).far a u).far a v).far a r
theorem Bg {v r:Value}(h:pM w0 w)(e:pM w W)(c:w.heap.size<=b)(d:W'=((W.setCell ⟨b,0,none⟩ u).setCell ⟨b,1,none⟩ v).setCell ⟨b,2,none⟩ r):Below w0.heap.size w0 W':=by
 have a:w0.heap.size<=b:=pB h.size c;rw [d];exact ((((after h e).setCell (p:=⟨b,0,none⟩) a u).setCell (p:=⟨b,1,none⟩) a v).setCell (p:=⟨b,2,none⟩) a r)
end
end
section
open Go.RowKit
def Uk (lo hi:Int):List Int:=(List.range (hi+1 - lo).toNat).map λi:Nat=>lo+(i:Int)
theorem Gb (h:hi<lo):Uk lo hi=[]:=by
 unfold Uk;rw [show (hi+1 - lo).toNat=0 by omega];rfl
theorem ED (h:lo<=hi):Uk lo hi=lo::Uk (lo+1) hi:=by
 unfold Uk;rw [show (hi+1 - lo).toNat=(hi+1 - (lo+1)).toNat+1 by omega,List.range_succ_eq_map]
 simp only [List.map_cons,List.map_map,Int.ofNat_zero,Int.add_zero];congr 1;apply List.map_congr_left;intro i _;simp only [Function.comp_apply,Nat.succ_eq_add_one,Int.natCast_add];omega
theorem Tx {n:Int} :n∈Uk lo hi↔lo<=n/\n<=hi:=by
 unfold Uk;simp only [List.mem_map,List.mem_range];constructor
 ·rintro ⟨i,h,rfl⟩;omega
 ·rintro ⟨h1,h2⟩;exact ⟨(n - lo).toNat,by omega,by omega⟩
theorem CP (a b:Int):(Uk a b).length=(b+1 - a).toNat:=by simp [Uk]
abbrev Cl:=Int×Int×Int
def UL (x0 x1 y1 z0 z1 y:Int):List Cl:=(Uk y y1).flatMap λy=>(Uk z0 z1).flatMap λz=>(Uk x0 x1).map λx=>(x,y,z)
def Az (x0 x1 y1 z0 z1 y z:Int):List Cl:=((Uk z z1).flatMap λz=>(Uk x0 x1).map λx=>(x,y,z))++UL x0 x1 y1 z0 z1 (y+1)
def Ck (x0 x1 y1 z0 z1 y z x:Int):List Cl:=((Uk x x1).map λx=>(x,y,z))++Az x0 x1 y1 z0 z1 y (z+1)
section
variable {x0 x1 y1 z0 z1 y z x:Int}
theorem PP (h:y1<y):UL x0 x1 y1 z0 z1 y=[]:=by unfold UL;rw [Gb h];rfl
theorem OE (h:y<=y1):UL x0 x1 y1 z0 z1 y=Az x0 x1 y1 z0 z1 y z0:=by
 unfold Az;rw [UL,ED h];rfl
theorem PQ (h:z1<z):Az x0 x1 y1 z0 z1 y z=UL x0 x1 y1 z0 z1 (y+1):=by unfold Az;rw [Gb h];rfl
theorem OF (h:z<=z1):Az x0 x1 y1 z0 z1 y z=Ck x0 x1 y1 z0 z1 y z x0:=by
 unfold Ck;rw [Az,ED h];simp [Az,List.append_assoc]
theorem PR (h:x1<x):Ck x0 x1 y1 z0 z1 y z x=Az x0 x1 y1 z0 z1 y (z+1):=by unfold Ck;rw [Gb h];rfl
theorem OG (h:x<=x1):Ck x0 x1 y1 z0 z1 y z x=(x,y,z)::Ck x0 x1 y1 z0 z1 y z (x+1):=by
 unfold Ck;rw [ED h];rfl
end
theorem PS {α:Type}{xs t:List α}{a:α}(h:xs.drop i=a::t):xs[i]?=some a/\xs.drop (i+1)=t/\i<xs.length:=by
 refine ⟨?_,?_,?_⟩
 ·have:=List.getElem?_drop (xs:=xs) (i:=i) (j:=0);rw [h] at this;simpa using this.symm
 ·rw [<-List.tail_drop,h];rfl
 ·rcases Nat.lt_or_ge i xs.length with b|b
  ·exact b
  ·rw [List.drop_eq_nil_of_le b] at h;cases h
theorem drop_nil {α:Type}{xs:List α}(h:xs.drop i=[])(hi:i<=xs.length):i=xs.length:=by
 have:=List.drop_eq_nil_iff.1 h;omega
def Ku (x0 x1 y0 y1 z0 z1:Int):List Cl:=UL x0 x1 y1 z0 z1 y0
theorem Ty {x0 x1 e y1 z0 z1:Int}{c:Cl} :c∈Ku x0 x1 e y1 z0 z1↔(x0<=c.1/\c.1<=x1)/\(e<=c.2.1/\c.2.1<=y1)/\z0<=c.2.2/\c.2.2<=z1:=by
 unfold Ku UL;simp only [List.mem_flatMap,List.mem_map,Tx];constructor
 ·rintro ⟨y,a,z,d,x,b,rfl⟩;exact ⟨b,a,d⟩
 ·rintro ⟨b,a,d⟩;exact ⟨_,a,_,d,_,b,rfl⟩
theorem Kv {α β:Type}(l:List α)(f:α->List β)(k:Nat)(h:∀a,(f a).length=k):(l.flatMap f).length=l.length * k:=by
 induction l with
 | nil=>simp
 | cons a l b=>simp [List.flatMap_cons,h,b,Nat.succ_mul,Nat.add_comm]
theorem MN (x0 x1 a y1 z0 z1:Int):(Ku x0 x1 a y1 z0 z1).length=(y1+1 - a).toNat * ((z1+1 - z0).toNat * (x1+1 - x0).toNat):=by
 unfold Ku UL;rw [Kv _ _ ((z1+1 - z0).toNat * (x1+1 - x0).toNat),CP];intro y;rw [Kv _ _ (x1+1 - x0).toNat,CP];intro z;simp [CP]
section
variable {w w0:World}{g n:Nat}{t:TypeId}
theorem Q0.row {cs:Array Value}{w:World}(h:Q0 w g t cs)(a:Array Value):Q0 (w.setRow g a) g t a:=setRow_heap w g cs a t (0,0) h
theorem Q0.row_far {a:Nat}{c:TypeId}{cs:Array Value}{w:World}(h:Q0 w a c cs)(b:a≠g)(d:Array Value):Q0 (w.setRow g d) a c cs:=(setRow_other w g a d b).trans h
theorem Ut {w w0:World}(h:Below n w0 w)(hn:n<=g)(a:Array Value):Below n w0 (w.setRow g a):=
 ⟨h.os,h.tape,h.output,by rw [setRow_size];exact h.size,λb c=>(setRow_other w g b a (by omega)).trans (h.block b c)⟩
end
section
variable {P:Program}{w w':World}{base:Nat}{e:TypeId}{size:Nat}{α:Type}{enc:α->List Value}{v:Value}{xs:List α}
def Q5 (w:World)(base:Nat)(e:TypeId)(size:Nat)(enc:α->List Value)(v:Value)(xs:List α):Prop:=w.ownsRow base e size v xs.length (xs.flatMap enc)
def Rd (w:World)(q:Option Addr)(size:Nat)(enc:α->List Value)(xs:List α):Prop:=
 0<xs.length->∃g o,q=some ⟨g,o,none⟩/\∀i x,xs[i]?=some x->∀j u,(enc x)[j]?=some u->w.cell? ⟨g,o+i * size+j,none⟩=some u
theorem Rd.on {q:Option Addr}(h:Rd w q size enc xs)(e:Below w.heap.size w w'):Rd w' q size enc xs:=λf=>by
 obtain ⟨g,o,d,a⟩:=h f;exact ⟨g,o,d,λi x c j u b=>by rw [Yt e (QN (a i x c j u b))];exact a i x c j u b⟩
theorem Rd.at {g o:Nat}(h:Rd w (some ⟨g,o,none⟩) size enc xs){x:α}(a:xs[i]?=some x)(d:(enc x)[j]?=some u):w.cell? ⟨g,o+i * size+j,none⟩=some u:=by
 have e:0<xs.length:=by have:=(List.getElem?_eq_some_iff.1 a).1;omega
 obtain ⟨g',o',b,c⟩:=h e;cases b;exact c i x a j u d
theorem Q5.nil:Q5 w base e size enc (.slice none 0 0) ([]:List α):=⟨by simp,.inl ⟨rfl,rfl⟩⟩
theorem D7 (a:∀x,(enc x).length=size):∀(xs:List α) (i:Nat) (x:α),xs[i]?=some x->∀j u,(enc x)[j]?=some u->(xs.flatMap enc)[i * size+j]?=some u:=by
 intro xs;induction xs with
 | nil=>intro i x h;cases h
 | cons y ys d=>
  intro i x c j u b;rw [List.flatMap_cons];have hj:j<size:=by rw [<-a x];exact (List.getElem?_eq_some_iff.1 b).1
  cases i with
  | zero=>
   obtain rfl:y=x:=by simpa using c
   rw [List.getElem?_append_left (by rw [a];omega)]
   simpa using b
  | succ i=>
   rw [List.getElem?_append_right (by rw [a,Nat.succ_mul];omega),a,show (i+1) * size+j - size=i * size+j by rw [Nat.succ_mul];omega]
   exact d i x (by simpa using c) j u b
theorem Q5.form (k:∀x,(enc x).length=size)(h:Q5 w base e size enc v xs):∃q cap,v=.slice q xs.length cap/\xs.length<=cap/\cap<=maxLen/\Rd w q size enc xs/\(∀a,q=some a->base<=a.block/\a.block<w.heap.size)/\(0<xs.length->∃g,q=some ⟨g,0,none⟩):=by
 rcases h.2 with ⟨c,m⟩|⟨g,cap,cur,c,n,f,y,s,hs,ht⟩
 ·exact ⟨none,0,by rw [c,m],by omega,by omega,λr=>by omega,λa d=>(by cases d),λr=>by omega⟩
 ·refine ⟨_,cap,c,y,s,λ_=>⟨g,0,rfl,λi x p j u o=>?_⟩,λa d=>by cases d;exact ⟨n,(Array.getElem?_eq_some_iff.1 f).1⟩,λ_=>⟨g,rfl⟩⟩
  have b:=D7 k xs i x p j u o;rw [<-ht] at b;have l:=(List.getElem?_eq_some_iff.1 b).1;rw [List.length_take] at l;rw [List.getElem?_take_of_lt (by omega)] at b
  rw [show 0+i * size+j=i * size+j by omega]
  have:=Q0.cell (w:=w) (t:=e) (cs:=cur) f (i * size+j);rw [this];simpa using b
theorem Q5.on (h:Q5 w base e size enc v xs)(d:pM w w'):Q5 w' base e size enc v xs:=by
 refine ⟨h.1,?_⟩;rcases h.2 with c|⟨g,cap,cur,b,a,f,r⟩
 ·exact .inl c
 ·exact .inr ⟨g,cap,cur,b,a,Q0.on f d,r⟩
theorem Q5.far (h:Q5 w base e size enc v xs)(a:p.block<base)(u:Value):Q5 (w.setCell p u) base e size enc v xs:=ownsRow_setCell_below h a u
theorem Q5.kept (h:Q5 w base e size enc v xs)(c:∀g,base<=g->g<w.heap.size->w'.heap[g]?=w.heap[g]?):Q5 w' base e size enc v xs:=by
 refine ⟨h.1,?_⟩;rcases h.2 with f|⟨g,cap,cur,d,a,b,r⟩
 ·exact .inl f
 ·exact .inr ⟨g,cap,cur,d,a,(c g a (Array.getElem?_eq_some_iff.1 b).1).trans b,r⟩
theorem Q5.block (h:Q5 w base e size enc v xs):∀k,v.ownBlock=some k->base<=k/\k<w.heap.size:=World.ownsRow.lt h
theorem V0 {ts ty:TypeId}{z:Value}{b:Nat}{x:α}(ht:P.underlying ts=some (.slice e))(p:(P.info? e).map (λi=>(i.zero,i.size,i.bytes))=some (some z,size,bytes))(A:z.cells.size=size)(D:0<size)(n:0<bytes)
  (B:(enc x).length=size) (y:∀u∈enc x,u.oneCell'=true) (c:Q5 w base e size enc v xs) (E:∀j u,(enc x)[j]?=some u->w.cell? ⟨b,j,none⟩=some u) (o:(xs.length+1) * bytes<=140737488355328) (a:base<=w.heap.size):
  ∃v' w',(Builtin.append_ #[ts,ts] ty #[v,.slice (some ⟨b,0,none⟩) 1 1]).run P w=.ok v' w'/\Q5 w' base e size enc v' (xs++[x])/\w.grownBy w' v.ownBlock/\Below base w w'/\∃g cap,v'=.slice (some ⟨g,0,none⟩) (xs.length+1) cap:=by
 obtain ⟨i,p,d,f,m⟩:=info_parts p;have l:xs.length+1<=maxLen:=by
  have:(xs.length+1) * 1<=(xs.length+1) * bytes:=Nat.mul_le_mul_left _ n;simp only [maxLen];omega
 obtain ⟨v',w',t,r,q,h5⟩:=run_append_own (P:=P) w base ts ty e i z size bytes ht p d f m A D v xs.length (xs.flatMap enc) c ⟨b,0,none⟩ 1 1 (enc x) (by rw [B];omega) (λj u C=>by
  have:=E j u C;unfold Addr.add;by_cases h:j=0<;>simp [h] at this ⊢ <;>exact this) y l o a
 refine ⟨v',w',t,?_,q,(pI _ _).grown q a λk h=>(c.block k h).1,?_⟩
 ·unfold Q5;rw [List.length_append,List.flatMap_append,List.length_singleton,List.flatMap_singleton];exact r
 ·rcases r.2 with ⟨s,h0⟩|⟨g,cap,_,s,_⟩
  ·omega
  ·exact ⟨g,cap,s⟩
end
abbrev OH (n:Int):List Value:=[int i64 n]
theorem nV (n:Int):(OH n).length=1:=rfl
section
variable {P:Program}{w w':World}{base n m c:Nat}{e:TypeId}{size:Nat}{α:Type}{enc:α->List Value}{v:Value}{xs ys:List α}{q:Option Addr}
theorem Kw (a:∀x,(enc x).length=size):∀(xs:List α) (j:Nat) (u:Value),(xs.flatMap enc)[j]?=some u->∃i r x,xs[i]?=some x/\(enc x)[r]?=some u/\j=i * size+r:=by
 intro xs;induction xs with
 | nil=>intro j u h;cases h
 | cons y ys d=>
  intro j u h;rw [List.flatMap_cons] at h;by_cases b:j<size
  ·rw [List.getElem?_append_left (by rw [a];exact b)] at h
   exact ⟨0,j,y,rfl,h,by omega⟩
  ·rw [List.getElem?_append_right (by rw [a];omega),a] at h
   obtain ⟨i,r,x,e,c,h3⟩:=d _ _ h;exact ⟨i+1,r,x,by simpa using e,c,by rw [Nat.succ_mul];omega⟩
theorem QV (b:∀x,(enc x).length=size):∀xs:List α,(xs.flatMap enc).length=xs.length * size:=by
 intro xs;induction xs with
 | nil=>simp
 | cons y ys a=>rw [List.flatMap_cons,List.length_append,b,a,List.length_cons,Nat.succ_mul];omega
theorem Rd.take {g o:Nat}(h:Rd w (some ⟨g,o,none⟩) size enc xs)(k:Nat):Rd w (some ⟨g,o,none⟩) size enc (xs.take k):=λc=>by
 rw [List.length_take] at c;refine ⟨g,o,rfl,λi x a j u b=>?_⟩
 rw [List.getElem?_take] at a;split at a
 ·exact h.at a b
 ·cases a
theorem Rd.drop {g o:Nat}(h:Rd w (some ⟨g,o,none⟩) size enc xs)(k:Nat):Rd w (some ⟨g,o+k * size,none⟩) size enc (xs.drop k):=λhn=>by
 refine ⟨g,_,rfl,λi x a j u b=>?_⟩
 rw [List.getElem?_drop] at a;have:=h.at a b;rw [Nat.add_mul,<-Nat.add_assoc] at this;exact this
theorem Gc {ts ty:TypeId}{z:Value}(ht:P.underlying ts=some (.slice e))(p:(P.info? e).map (λi=>(i.zero,i.size,i.bytes))=some (some z,size,bytes))(L:z.cells.size=size)(O:0<size)(D:0<bytes)
  (E:∀x,(enc x).length=size) (J:∀x∈ys,∀u∈enc x,u.oneCell'=true) (b:Q5 w base e size enc v xs) (M:ys.length=m) (hmc:m<=c) (R:Rd w q size enc ys) (F:(xs.length+m) * bytes<=140737488355328) (d:base<=w.heap.size):
  ∃v' w',(Builtin.append_ #[ts,ts] ty #[v,.slice q m c]).run P w=.ok v' w'/\Q5 w' base e size enc v' (xs++ys)/\Below base w w':=by
 subst M;obtain ⟨i,p,s,t,C⟩:=info_parts p;have B:xs.length+ys.length<=maxLen:=by
  have:(xs.length+ys.length) * 1<=(xs.length+ys.length) * bytes:=Nat.mul_le_mul_left _ D;simp only [maxLen];omega
 by_cases G:0<ys.length
 ·obtain ⟨g,o,rfl,U⟩:=R G;obtain ⟨v',w',H,N,I,_⟩:=run_append_own (P:=P) w base ts ty e i z size bytes ht p s t C L O v xs.length (xs.flatMap enc) b ⟨g,o,none⟩ ys.length c (ys.flatMap enc) (QV E ys) (λj u T=>by
    obtain ⟨k,r,x,S,K,rfl⟩:=Kw E ys j u T;have:=U k x S r u K;unfold Addr.add;by_cases l:k * size+r=0
    ·rw [if_pos l];rw [show o+k * size+r=o by omega] at this;exact this
    ·rw [if_neg l];rw [show o+k * size+r=o+(k * size+r) by omega] at this;exact this) (λu n=>by
    rw [List.mem_flatMap] at n;obtain ⟨x,Q,n⟩:=n;exact J x Q u n) B F d
  refine ⟨v',w',H,?_,(pI _ _).grown I d λk l=>(b.block k l).1⟩
  unfold Q5;rw [List.length_append,List.flatMap_append];exact N
 ·obtain rfl:ys=[]:=by cases ys with|nil=>rfl|cons y ys=>simp at G
  have h:Src P i.size ts (.slice q 0 c) 0 [] w:=by
   cases q with
   | none=>exact Src.ofNil w ht c
   | some a=>exact Src.ofSlice w ht a 0 c [] (by simp) (by simp) (by simp)
  obtain ⟨V,f,rfl,A,_⟩:=b.form E;refine ⟨_,w,run_append_nothing w ts ts ty e i ht p V _ f A _ h,?_,pI _ _⟩;rw [List.append_nil];exact b
end
section
variable {P:Program}{w w':World}{base n m c c2:Nat}{e:TypeId}{size:Nat}{α:Type}{enc:α->List Value}{v:Value}{xs ys:List α}{q q2:Option Addr}
theorem PT {t s:TypeId}(b:P.underlying t=some (.slice s))(e:∀x,(enc x).length=size)(n:∀x∈ys,∀u∈enc x,u.oneCell'=true)(f:Rd w q size enc ys):Src P size t (.slice q ys.length c) ys.length (ys.flatMap enc) w:=by
 cases q with
 | none=>
  have:ys=[]:=by
   cases ys with
   | nil=>rfl
   | cons y ys=>obtain ⟨g,o,h,-⟩:=f (by simp);cases h
  subst this;exact Src.ofNil w b c
 | some a=>
  refine Src.ofSlice w b a ys.length c _ (QV e ys) (λj u m=>?_) (λu d=>by
   rw [List.mem_flatMap] at d;obtain ⟨x,l,d⟩:=d;exact n x l u d)
  obtain ⟨k,r,x,i,v,rfl⟩:=Kw e ys j u m;obtain ⟨g,o,h,p⟩:=f (by have:=(List.getElem?_eq_some_iff.1 i).1;omega)
  obtain rfl:=pE h;have:=p k x i r u v;unfold Addr.add;by_cases b:k * size+r=0
  ·rw [if_pos b];rw [show o+k * size+r=o by omega] at this;exact this
  ·rw [if_neg b];rw [show o+k * size+r=o+(k * size+r) by omega] at this;exact this
theorem EE {ts ty:TypeId}{z:Value}(ht:P.underlying ts=some (.slice e))(l:(P.info? e).map (λi=>(i.zero,i.size,i.bytes))=some (some z,size,bytes))(s:z.cells.size=size)(g:0<bytes)
  (a:∀x,(enc x).length=size) (t:∀x∈xs,∀u∈enc x,u.oneCell'=true) (o:∀x∈ys,∀u∈enc x,u.oneCell'=true) (r:Rd w q size enc xs) (p:Rd w q2 size enc ys) (n:c<xs.length+ys.length) (j:(xs.length+ys.length) * bytes<=140737488355328):
  ∃cap w',(Builtin.append_ #[ts,ts] ty #[.slice q xs.length c,.slice q2 ys.length c2]).run P w=.ok (.slice (some ⟨w.heap.size,0,none⟩) (xs.length+ys.length) cap) w'/\Q5 w' w.heap.size e size enc (.slice (some ⟨w.heap.size,0,none⟩) (xs.length+ys.length) cap) (xs++ys)/\Below w.heap.size w w':=by
 obtain ⟨i,l,h,b,f⟩:=info_parts l;have d:xs.length+ys.length<=maxLen:=by
  have:(xs.length+ys.length) * 1<=(xs.length+ys.length) * bytes:=Nat.mul_le_mul_left _ g;simp only [maxLen];omega
 have m:Src P i.size ts (.slice q xs.length c) xs.length (xs.flatMap enc) w:=by rw [b];exact PT ht a t r
 have k:Src P i.size ts (.slice q2 ys.length c2) ys.length (ys.flatMap enc) w:=by rw [b];exact PT ht a o p
 have hrun:=run_append_grow_src (P:=P) w ts ts ty e i z ht l h q xs.length c (xs.flatMap enc) m.cellsD _ _ _ k n (by simp only [maxLen] at d;omega) (growslice_fits n (by rw [f];exact j))
 refine ⟨_,_,hrun,⟨?_,.inr ⟨w.heap.size,_,_,by rw [List.length_append],pA _,heap_alloc_new w.drew _,?_,grownCap_le_maxLen w _ c e d,?_,?_⟩⟩,(pI _ _).drew.alloc (pA _) _⟩
 ·rw [QV a]
 ·rw [List.length_append];exact grownCap_ge w _ c e
 ·simp only [Array.size_append,List.size_toArray,size_zeroCells,s,List.length_append,QV a];have:=grownCap_ge w (xs.length+ys.length) c e;rw [<-Nat.add_mul,<-Nat.add_mul];congr 1;omega
 ·rw [List.length_append,List.flatMap_append];simp only [Array.toList_append];rw [List.take_append_of_le_length (by rw [List.length_append,QV a,QV a,Nat.add_mul];exact pA _)]
  rw [List.take_of_length_le (by rw [List.length_append,QV a,QV a,Nat.add_mul];exact pA _)]
end
theorem Yr {P:Program}{w:World}{base:Nat}{e:TypeId}{size:Nat}{α:Type}{enc:α->List Value}{v:Value}{xs:List α}{ts ty:TypeId}{z:Value}{b:Nat}{x:α}(ht:P.underlying ts=some (.slice e))(o:(P.info? e).map (λi=>(i.zero,i.size,i.bytes))=some (some z,size,bytes))(B:z.cells.size=size)(E:0<size)(m:0<bytes)
  (C:(enc x).length=size) (y:∀u∈enc x,u.oneCell'=true) (c:Q5 w base e size enc v xs) (F:∀j u,(enc x)[j]?=some u->w.cell? ⟨b,j,none⟩=some u) (n:(xs.length+1) * bytes<=140737488355328) (a:base<=w.heap.size):
  ∃g cap w',(Builtin.append_ #[ts,ts] ty #[v,.slice (some ⟨b,0,none⟩) 1 1]).run P w=.ok (.slice (some ⟨g,0,none⟩) (xs.length+1) cap) w'/\Q5 w' base e size enc (.slice (some ⟨g,0,none⟩) (xs.length+1) cap) (xs++[x])/\w.grownBy w' v.ownBlock/\(v.ownBlock=some g∨w.heap.size<=g):=by
 obtain ⟨i,o,d,f,l⟩:=info_parts o;have k:xs.length+1<=maxLen:=by
  have:(xs.length+1) * 1<=(xs.length+1) * bytes:=Nat.mul_le_mul_left _ m;simp only [maxLen];omega
 obtain ⟨v',w',r,p,t,-,A⟩:=run_append_own_at (P:=P) w base ts ty e i z size bytes ht o d f l B E v xs.length (xs.flatMap enc) c ⟨b,0,none⟩ 1 1 (enc x) (by rw [C];omega) (λj u D=>by
  have:=F j u D;unfold Addr.add;by_cases s:j=0<;>simp [s] at this ⊢ <;>exact this) y k n a
 rcases p.2 with ⟨q,h0⟩|⟨g,cap,_,q,_⟩
 ·omega
 ·subst q;refine ⟨g,cap,w',r,?_,t,?_⟩
  ·unfold Q5;rw [List.length_append,List.flatMap_append,List.length_singleton,List.flatMap_singleton];exact p
  ·rcases A with h|h
   ·exact .inl h.symm
   ·right;simp [Value.ownBlock] at h;omega
end
end Go.Proofs.YtmbccnioijokfaaGreatDoor