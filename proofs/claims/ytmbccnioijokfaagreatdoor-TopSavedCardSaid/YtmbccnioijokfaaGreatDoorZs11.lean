/- A part of the proof. -/
import Derived.Test.YtmbccnioijokfaaGreatDoorZs6
import Derived.Test.YtmbccnioijokfaaGreatDoorZs3
import Derived.Maps.RangeWalk
namespace Go.Proofs.YtmbccnioijokfaaGreatDoor
set_option maxRecDepth 100000
set_option maxHeartbeats 32000000
open Go.Value (int)
open Go.IntKind (i64 u8)
open Go.Proofs.Tryz
variable {v:Value}{w w':World}{b n k i m g base b0 r:Nat}{F G:Nat -> B8}{p:Addr}{K:Nat -> Prop}{ops:Array Oper}{o:Oper}{a:Act}{Q:Exit -> Act -> World -> Prop}
section
open Go.RowKit Go.Maps
abbrev SL:=Option Addr×Nat×Nat
def Xn (s:SL):Value:=.slice s.1 s.2.1 s.2.2
def RS:Value->Option (DataW SL×List MemPlace)
 | .slice q n c=>some (.held (q,n,c),[])
 | _=>none
theorem Hf (s:SL):RS (Xn s)=some (.held s,[]):=rfl
theorem Hg {y:DataW SL×List MemPlace}(h:RS v=some y):∃s:SL,v=Xn s/\y=(.held s,[]):=by
 cases v<;>simp [RS] at h
 rename_i q n c;exact ⟨(q,n,c),rfl,h.symm⟩
def En (l:List (Int×SL)):List (Lit×DataW SL):=l.map λp=>(Lit.int .i64 p.1,DataW.held p.2)
def DM (l:List (Int×SL)):DataW SL:=.map (En l)
theorem BO (a b:Int):(Lit.int .i64 a).sameKey (.int .i64 b)=decide (a=b):=by simp [Lit.sameKey]
theorem TW (a b:Int):(Lit.int .i64 a).before (.int .i64 b)=decide (a<b):=by simp [Lit.before]
theorem OS (k:Int)(l:List (Int×SL)):(En l).filter (λp=>!p.1.sameKey (.int .i64 k))=En (l.filter λp=>!decide (p.1=k)):=by
 unfold En;rw [List.filter_map];congr 1;apply List.filter_congr;intro p _;simp [BO]
theorem Hh (k:Int)(s:SL):∀{l:List (Int×SL)},(∀p∈l,p.1≠k)->DataW.insert (.int .i64 k,.held s) (En l)=En (QO l (k,s))
 | [],_=>rfl
 | x::r,h=>by
  have c:=h x List.mem_cons_self;show DataW.insert _ ((Lit.int .i64 x.1,DataW.held x.2)::En r)=_;unfold DataW.insert QO;rw [TW];dsimp only;by_cases a:k<x.1
  ·rw [if_pos (by simpa using a),if_pos a];rfl
  ·rw [if_neg (by simpa using a),if_neg a,if_neg c,Hh k s (λp b=>h p (List.mem_cons_of_mem _ b))]
   rfl
theorem FS (k:Int)(s:SL):∀{l:List (Int×SL)},Yb l->QO (l.filter λp=>!decide (p.1=k)) (k,s)=QO l (k,s)
 | [],_=>rfl
 | x::r,h=>by
  obtain ⟨d,f⟩:=ZD.1 h;by_cases a:x.1=k
  ·have e:(x::r).filter (λp=>!decide (p.1=k))=r:=by
    rw [List.filter_cons_of_neg (by simp [a]),List.filter_eq_self]
    intro p c;have:=d p c;simp;omega
   rw [e];show QO r (k,s)=if k<x.1 then _ else if x.1=k then (k,s)::r else _;rw [if_neg (by omega),if_pos a]
   cases r with
   | nil=>rfl
   | cons y r=>
    have:=d y List.mem_cons_self;show (if k<y.1 then _ else _)=_;rw [if_pos (by omega)]
  ·rw [List.filter_cons_of_pos (by simp [a])]
   show (if k<x.1 then _ else if x.1=k then _ else _)=if k<x.1 then _ else if x.1=k then _ else _;by_cases b:k<x.1
   ·rw [if_pos b,if_pos b];congr 2;rw [List.filter_eq_self];intro p c;have:=d p c;simp;omega
   ·rw [if_neg b,if_neg a,if_neg b,if_neg a,FS k s f]
theorem KH {l:List (Int×SL)}(h:Yb l)(k:Int)(s:SL):(DM l).put (.int .i64 k) (.held s)=DM (QO l (k,s)):=by
 show DataW.map (DataW.insert (.int .i64 k,.held s) ((En l).filter λp=>!p.1.sameKey (.int .i64 k)))=.map (En (QO l (k,s)))
 rw [OS,Hh k s (λp a=>by simpa using (List.mem_filter.1 a).2),FS k s h]
theorem Nm (k:Int):∀l:List (Int×SL),((En l).find? λp=>p.1.sameKey (.int .i64 k))=(l.find? λp=>p.1==k).map λp=>(Lit.int .i64 p.1,DataW.held p.2)
 | []=>rfl
 | x::r=>by
  show (((Lit.int .i64 x.1,DataW.held x.2)::En r).find? _)=_;by_cases a:x.1=k
  ·rw [List.find?_cons_of_pos (by simp [BO,a]),List.find?_cons_of_pos (by simp [a])];rfl
  ·rw [List.find?_cons_of_neg (by simp [BO,a]),List.find?_cons_of_neg (by simp [a]),Nm k r]
theorem Gj (l:List (Int×SL))(k:Int)(z:DataW SL):(DM l).atKey (.int .i64 k) z=match XT l k with|some s=>.held s|none=>z:=by
 unfold DM XT;simp only [DataW.atKey,Nm];cases l.find? λp=>p.1==k<;>rfl
theorem KI (k:Int):∀l:List (Int×SL),Maps.has (DM l) (.int .i64 k)=(XT l k).isSome
 | []=>rfl
 | x::r=>by
  have b:=KI k r;have e:Maps.has (DM (x::r)) (.int .i64 k)=((Lit.int .i64 x.1).sameKey (.int .i64 k)||Maps.has (DM r) (.int .i64 k)):=rfl;rw [e,b,Yo,BO];by_cases a:x.1=k<;>simp [a]
theorem dO (l:List (Int×SL)):Maps.size (DM l)=l.length:=by simp [DM,En,Maps.size]
theorem EH {P:Program}{k:TypeId}{l:List (Int×SL)}(h:w.ownsMap P k RS b n (DM l)):w.ownsMap P k RS b l.length (DM l):=by
 obtain ⟨e,a,f,F,hs,d⟩:=h;refine ⟨e,a,f,F,?_,d⟩;have c:=dO l;rw [d] at c;simp only [Maps.size] at c;rw [length_sorted,List.length_map,Array.length_toList] at c;omega
theorem Hi {P:Program}{k:TypeId}{D:DataW SL}(h:w.ownsMap P k RS b n D):∀cs t u,w.heap[b]?≠some (.cells cs t u):=by
 obtain ⟨es,clock,a,_⟩:=h;intro cs t u e;rw [a] at e;cases e
theorem Al {P:Program}{k:TypeId}{D:DataW SL}(h:w.ownsMap P k RS b n D)(c:w'.heap[b]?=w.heap[b]?):w'.ownsMap P k RS b n D:=by
 obtain ⟨d,a,e,r⟩:=h;exact ⟨d,a,c.trans e,r⟩
def Zx (F:Nat->B8)(n:Nat):Bs:=(List.range n).map F
theorem VK (F:Nat->B8)(n:Nat):(Zx F n).length=n:=by simp [Zx]
theorem Ju (F:Nat->B8)(h:k<=n):(Zx F n).take k=Zx F k:=by simp [Zx,<-List.map_take,List.take_range,Nat.min_eq_left h]
theorem VW (h:i<n):(Zx F n)[i]?=some (F i):=by simp [Zx,h]
theorem dP:Zx F n=Zx G m↔n=m/\∀i,i<n->F i=G i:=by
 constructor
 ·intro h;have b:=congrArg List.length h;rw [VK,VK] at b;subst b;refine ⟨rfl,λi a=>?_⟩
  have:(Zx F n)[i]?=(Zx G n)[i]?:=by rw [h]
  rw [VW a,VW a] at this;exact pE this
 ·rintro ⟨rfl,h⟩;unfold Zx;exact List.map_congr_left λi a=>h i (by simpa using a)
def QW (w:World)(s:SL):Bs:=match s.1 with
 | some a=>Zx (λi=>Hd w ⟨a.block,a.off+i,none⟩) s.2.1
 | none=>[]
structure GoodS (w:World)(base:Nat)(s:SL):Prop where
 cap:s.2.1<=s.2.2
 most:s.2.2<=maxLen
 lies:0<s.2.1->∃g o F,s.1=some ⟨g,o,none⟩/\Vy w g o s.2.1 F/\(g<base∨∃cur,Q0 w g 5 cur)
theorem Rt {x:B8}(h:w.cell? p=some (int u8 (n8 x))):Hd w p=x:=by
 rw [Rl h];unfold n8;simp
theorem Ub {o c:Nat}(h:Vy w g o n F):QW w (some ⟨g,o,none⟩,n,c)=Zx F n:=by
 unfold QW;dsimp only;rw [dP];exact ⟨rfl,λi a=>Rt (h i a)⟩
theorem VL (w:World)(q:Option Addr)(c:Nat):QW w (q,0,c)=[]:=by
 unfold QW;cases q<;>rfl
theorem ma {q:Option Addr}{c:Nat}(h:YF w q n F):QW w (q,n,c)=Zx F n:=by
 rcases Nat.eq_zero_or_pos n with a|a
 ·subst a;rw [VL];rfl
 ·obtain ⟨g,o,rfl,b⟩:=h a;exact Ub b
theorem GoodS.byq {s:SL}(h:GoodS w base s):YF w s.1 s.2.1 (λi=>(QW w s).getD i 0):=λf=>by
 obtain ⟨g,o,F,a,b,-⟩:=h.lies f;refine ⟨g,o,a,λi d=>?_⟩
 have e:QW w s=Zx F s.2.1:=by
  obtain ⟨q,n,c⟩:=s;dsimp only at a b ⊢;rw [a];exact Ub b
 dsimp only;rw [e,List.getD_eq_getElem?_getD,VW d];exact b i d
theorem GoodS.len {s:SL}(h:GoodS w base s):(QW w s).length=s.2.1:=by
 rcases Nat.eq_zero_or_pos s.2.1 with a|a
 ·obtain ⟨q,n,c⟩:=s;dsimp only at a;subst a;rw [VL];rfl
 ·obtain ⟨g,o,F,b,d,-⟩:=h.lies a;obtain ⟨q,n,c⟩:=s;dsimp only at b d ⊢;rw [b,Ub d,VK]
def VX (w:World)(base b:Nat):Prop:=b<base∨∃cur,Q0 w b 5 cur
theorem GoodS.kept {s:SL}(h:GoodS w base s)(r:Kept K w w')(t:∀b,VX w base b->K b):GoodS w' base s/\QW w' s=QW w s:=by
 have key:0<s.2.1->∃g o F,s.1=some ⟨g,o,none⟩/\Vy w g o s.2.1 F/\Vy w' g o s.2.1 F/\(g<base∨∃cur,Q0 w' g 5 cur):=λa=>by
  obtain ⟨g,o,F,f,d,k⟩:=h.lies a;have l:=t g k;have m:g<w.heap.size:=d.lt a;have e:=r.block g m l;refine ⟨g,o,F,f,d,λi p=>?_,k.imp id λ⟨cur,u⟩=>⟨cur,e.trans u⟩⟩
  have:=d i p;unfold World.cell? at *;dsimp only at *;rw [e];exact this
 refine ⟨⟨h.cap,h.most,λa=>?_⟩,?_⟩
 ·obtain ⟨g,o,F,f,-,d,k⟩:=key a;exact ⟨g,o,F,f,d,k⟩
 ·rcases Nat.eq_zero_or_pos s.2.1 with a|a
  ·obtain ⟨q,n,c⟩:=s;dsimp only at a;subst a;rw [VL,VL]
  ·obtain ⟨g,o,F,f,d,j,-⟩:=key a;obtain ⟨q,n,c⟩:=s;dsimp only at f d j;rw [f,Ub d,Ub j]
theorem GoodS.on {s:SL}(h:GoodS w base s)(a:Below w.heap.size w w'):GoodS w' base s/\QW w' s=QW w s:=h.kept (K:=λ_=>True) (Kept.of_below a |>.mono λ_ _=>trivial) (λ_ _=>trivial)
theorem GoodS.cut {s:SL}(h:GoodS w base s)(a:k<=s.2.1):GoodS w base (s.1,k,s.2.2)/\QW w (s.1,k,s.2.2)=(QW w s).take k:=by
 refine ⟨⟨pB a h.cap,h.most,λb=>?_⟩,?_⟩
 ·obtain ⟨g,o,F,e,d,f⟩:=h.lies (by dsimp only at b;omega)
  exact ⟨g,o,F,e,d.le a,f⟩
 ·rcases Nat.eq_zero_or_pos s.2.1 with b|b
  ·obtain ⟨q,n,c⟩:=s;dsimp only at b a ⊢;subst b;obtain rfl:k=0:=by omega
   rw [VL];rfl
  ·obtain ⟨g,o,F,e,d,-⟩:=h.lies b;obtain ⟨q,n,c⟩:=s;dsimp only at e d a ⊢;rw [e,Ub d,Ub (d.le a),Ju F a]
theorem GoodS.own (h:w.ownsRow b0 5 1 v n (bl F n)):∃s:SL,v=Xn s/\s.2.1=n/\GoodS w base s/\QW w s=Zx F n:=by
 obtain ⟨q,cap,rfl,f,a,b⟩:=Vs h;refine ⟨(q,n,cap),rfl,rfl,⟨f,a,λe=>?_⟩,ma b⟩
 obtain ⟨g,cap',cur,c,hbg,C,-,-,-,d⟩:=Gh h e;obtain ⟨rfl,-,-⟩:=Value.slice.inj c;exact ⟨g,0,F,rfl,d,.inr ⟨cur,C⟩⟩
def Yj (w:World)(l:List (Int×SL)):List (Int×Bs):=l.map λp=>(p.1,QW w p.2)
def Y0 (w:World)(base:Nat)(l:List (Int×SL)):Prop:=∀p∈l,GoodS w base p.2
theorem KJ (w:World)(l:List (Int×SL))(k:Int)(s:SL):Yj w (QO l (k,s))=QO (Yj w l) (k,QW w s):=FY (QW w) (k,s) l
theorem TX (w:World)(s l:List (Int×SL)):Yj w (Xw s l)=Xw (Yj w s) (Yj w l):=N4 (QW w) l s
theorem Gk (w:World)(l:List (Int×SL))(k:Int):XT (Yj w l) k=(XT l k).map (QW w):=Kq (QW w) k l
theorem Ru (w:World)(l:List (Int×SL))(k:Int)(s:SL):Yj w (l++[(k,s)])=Yj w l++[(k,QW w s)]:=by simp [Yj]
theorem Am (w:World)(l:List (Int×SL)):(Yj w l).length=l.length:=by simp [Yj]
theorem Rv {l:List (Int×SL)}(h:Yb (Yj w l)):Yb l:=by
 unfold Yb Yj at *;rw [List.pairwise_map] at h;exact h
theorem Y0.put {l:List (Int×SL)}{k:Int}{s:SL}(h:Y0 w base l)(b:GoodS w base s):Y0 w base (QO l (k,s)):=λp a=>by
 rcases Dq a with rfl|a
 ·exact b
 ·exact h p a
theorem Y0.now {s l:List (Int×SL)}(h:Y0 w base s)(b:Y0 w base l):Y0 w base (Xw s l):=λp a=>by
 rcases Fg a with a|a
 ·exact h p a
 ·exact b p a
theorem Y0.kept {l:List (Int×SL)}(h:Y0 w base l)(d:Kept K w w')(c:∀b,VX w base b->K b):Y0 w' base l/\Yj w' l=Yj w l:=
 ⟨λp a=>((h p a).kept d c).1,List.map_congr_left λp a=>by rw [((h p a).kept d c).2]⟩
theorem Y0.on {l:List (Int×SL)}(h:Y0 w base l)(a:Below w.heap.size w w'):Y0 w' base l/\Yj w' l=Yj w l:=h.kept (K:=λ_=>True) (Kept.of_below a |>.mono λ_ _=>trivial) (λ_ _=>trivial)
theorem Y0.get {l:List (Int×SL)}(h:Y0 w base l){k:Int}{s:SL}(a:XT l k=some s):GoodS w base s:=by
 unfold XT at a;cases hf:l.find? λp=>p.1==k with
 | none=>rw [hf] at a;cases a
 | some p=>
  rw [hf] at a;obtain rfl:p.2=s:=by simpa using a
  exact h p (List.mem_of_find?_eq_some hf)
def U5:List (Value×Value)->Nat->List MapEntry
 | [],_=>[]
 | p::l,k=> { key:=p.1,val:=p.2,born:=k } ::U5 l (k+1)
theorem KL:∀(l:List (Value×Value)) (k:Nat) (p:Value×Value),U5 (l++[p]) k=U5 l k++[{ key:=p.1,val:=p.2,born:=k+l.length }]
 | [],_,_=>rfl
 | q::l,k,p=>by
  show _::U5 (l++[p]) (k+1)=_;rw [KL l (k+1) p];show _=_::(U5 l (k+1)++_);congr 3;simp;omega
def YI (r:Nat)(l:List (Value×Value))(w:World):Prop:=w.heap[r]?=some (.map (U5 l 0).toArray l.length)
theorem YI.lt {l:List (Value×Value)}(h:YI r l w):r<w.heap.size:=by
 unfold YI at h;exact (Array.getElem?_eq_some_iff.1 h).1
theorem YI.on {l:List (Value×Value)}(h:YI r l w)(a:pM w w'):YI r l w':=by
 have:=h.lt;unfold YI at *;rw [a.block r this];exact h
section
variable {P:Program}
theorem Nn {mty kt o:TypeId}{d:TypeDesc}{l:List (Value×Value)}{k val:Value}(m:P.underlying mty=some (.map kt o))(g:P.underlying kt=some d)(j:MapKept.IsKey d k)(h:YI r l w)(i:Instr.findNow d k (U5 l 0) 0=some none):
  ∃w',(Instr.mapUpdate mty (.map (some r)) k val).run P w=.ok () w'/\YI r (l++[(k,val)]) w'/\Kept (λb=>b≠r) w w':=by
 have n:(Instr.checkKey false 10000 kt k).run P w=.ok () w:=MapKept.run_checkKey g j false 9999;have c:w.heap[r]?=some (.map (U5 l 0).toArray l.length):=h;have hr:=h.lt;refine ⟨{ w with heap:=w.heap.setIfInBounds r (.map (U5 (l++[(k,val)]) 0).toArray (l++[(k,val)]).length) },?_,?_,?_⟩
 ·have a:(U5 l 0).toArray.push { key:=k,val:=val,born:=l.length } =(U5 (l++[(k,val)]) 0).toArray:=by
   rw [KL];simp
  have e:(l++[(k,val)]).length=l.length+1:=by simp
  rw [<-a,e];simp [Instr.mapUpdate,run_underlying m,MapKept.run_getObj_map c,n,MapKept.run_findKey g i,MapKept.run_setObj_map _ c,Result.andThen]
 ·unfold YI;exact (MapKept.heap_set c).1
 ·exact ⟨rfl,rfl,rfl,by simp,λb hb' f=>(MapKept.heap_set c).2 b f⟩
theorem JU {rest:List Oper}(i:o.guard=none)(m x v:Operand)(t:TypeId)(c:o.op=Op.insert t m x v)(kt z:TypeId)(d:TypeDesc)
  (ht:P.underlying t=some (.map kt z)) (s:P.underlying kt=some d) (r:Nat) (l:List (Value×Value)) (q:a.eval m=.map (some r)) (h:YI r l w) (k val:Value) (n:a.eval x=k) (u:a.eval v=val) (j:MapKept.IsKey d k) (f:Instr.findNow d k (U5 l 0) 0=some none)
  (y:∀w',YI r (l++[(k,val)]) w'->Kept (λb=>b≠r) w w'->wpList P ops Q rest (a.put o.dst undef) w'):
  wpList P ops Q (o::rest) a w:=by
 refine wpList_plain i λK' e=>?_
 obtain ⟨w',hrun,g,p⟩:=Nn (val:=val) ht s j h f;unfold Oper.wp;simp [execOp,c,q,n,u,hrun,Result.andThen];exact e _ _ (y w' g p)
theorem KM {mty kt m:TypeId}{d:TypeDesc}{l:List (Value×Value)}{k:Value}(b:P.underlying mty=some (.map kt m))(a:P.underlying kt=some d)(j:MapKept.IsKey d k)(h:YI r l w)(c:Instr.findNow d k (U5 l 0) 0=some (some (i,v))):
  (Instr.lookup mty (.map (some r)) k false).run P w=.ok v w:=by
 have f:w.heap[r]?=some (.map (U5 l 0).toArray l.length):=h;have g:∀e,(Instr.checkKey e 10000 kt k).run P w=.ok () w:=λe=>MapKept.run_checkKey a j e 9999
 simp [Instr.lookup,run_underlying b,MapKept.run_getObj_map f,g,MapKept.run_findKey a c,Result.andThen]
theorem Rw {mty kt b:TypeId}{d:TypeDesc}{l:List (Value×Value)}{k z:Value}(c:P.underlying mty=some (.map kt b))(a:P.underlying kt=some d)(j:MapKept.IsKey d k)(h:YI r l w)(f:Instr.findNow d k (U5 l 0) 0=some none)(m:(zeroValue b).run P w=.ok z w):
  (Instr.lookup mty (.map (some r)) k false).run P w=.ok z w:=by
 have g:w.heap[r]?=some (.map (U5 l 0).toArray l.length):=h;have i:∀e,(Instr.checkKey e 10000 kt k).run P w=.ok () w:=λe=>MapKept.run_checkKey a j e 9999
 simp [Instr.lookup,run_underlying c,MapKept.run_getObj_map g,i,MapKept.run_findKey a f,m,Result.andThen]
theorem KN (w:World):YI w.heap.size [] (w.alloc (.map #[] 0)):=by
 show (w.heap.push (Obj.map #[] 0))[w.heap.size]?=_;simp [U5]
end
end
end Go.Proofs.YtmbccnioijokfaaGreatDoor