/- A part of the proof. -/
import Derived.Test.YtmbccnioijokfaaGreatDoorZs2
import Derived.RangeFuncNested
import Derived.RangeFuncBound
import Derived.OrdersIn
namespace Go.Proofs.YtmbccnioijokfaaGreatDoor
set_option maxRecDepth 100000
set_option maxHeartbeats 32000000
open Go.Value (int)
open Go.IntKind (i64 u8)
variable {p:Addr}{g i j t id b:Nat}{cs args:Array Value}{a:Act}{u v:Value}{listed:Array Bool}{o:Oper}{Ds:Nat -> List Nat}{an:Nat -> Nat -> Bool}{vs:Nat -> Value}{Φ:World -> Prop}
section
open Go.RowKit
structure Kept (K:Nat->Prop)(w w':World):Prop where
 os:w'.os=w.os
 tape:w'.tape=w.tape
 output:w'.output=w.output
 size:w.heap.size<=w'.heap.size
 block:∀b,b<w.heap.size->K b->w'.heap[b]?=w.heap[b]?
section
variable {K K':Nat->Prop}{A B C:World}
theorem Kept.refl (K:Nat->Prop)(A:World):Kept K A A:=⟨rfl,rfl,rfl,pA _,λ_ _ _=>rfl⟩
theorem Kept.trans (h:Kept K A B)(k:Kept K B C):Kept K A C:=
 ⟨k.os.trans h.os,k.tape.trans h.tape,k.output.trans h.output,pB h.size k.size,λb c a=>(k.block b (pD c h.size) a).trans (h.block b c a)⟩
theorem Kept.mono (h:Kept K A B)(a:∀b,K' b->K b):Kept K' A B:=⟨h.os,h.tape,h.output,h.size,λb d c=>h.block b d (a b c)⟩
theorem Kept.of_below (h:Below A.heap.size A B):Kept K A B:=⟨h.os,h.tape,h.output,h.size,λb a _=>h.block b a⟩
theorem Kept.on (h:Kept K A B)(k:Below B.heap.size B C):Kept K A C:=h.trans (Kept.of_below k)
theorem Kept.alloc (h:Kept K A B)(o:Obj):Kept K A (B.alloc o):=h.on ((pI _ _).alloc (pA _) o)
theorem Kept.setCell (h:Kept K A B)(c:¬K p.block)(u:Value):Kept K A (B.setCell p u):=
 h.trans ⟨rfl,rfl,rfl,by simp [World.setCell],λb _ a=>Below.heap_setCell B p u b (λe=>c (e▸a))⟩
theorem Kept.fresh (h:Kept K A B)(hp:A.heap.size<=p.block)(u:Value):Kept K A (B.setCell p u):=
 ⟨h.os,h.tape,h.output,by simp [World.setCell];exact h.size,λb c a=>(Below.heap_setCell B p u b (by omega)).trans (h.block b c a)⟩
theorem Kept.putObj (h:Kept K A B){l:Nat}(c:¬K l)(o:Obj):Kept K A (B.putObj l o):=
 h.trans ⟨rfl,rfl,rfl,by simp [World.putObj],λb _ a=>World.putObj_heap_other (λe=>c (e▸a))⟩
theorem Kept.grown (h:Kept K A B){row:Option Nat}(a:B.grownBy C row)(d:∀k,row=some k->¬K k):Kept K A C:=
 h.trans ⟨a.os,a.tape,a.output,a.size,λb f c=>a.block b f (λe=>d b e.symm c)⟩
theorem Kept.below {n:Nat}(h:Kept K A B)(hn:n<=A.heap.size)(a:∀b,b<n->K b):Below n A B:=⟨h.os,h.tape,h.output,h.size,λb c=>h.block b (by omega) (a b c)⟩
theorem Kept.blk {t:TypeId}(h:Kept K A B)(b:K g)(a:Q0 A g t cs):Q0 B g t cs:=(h.block g a.lt b).trans a
end
def U8 (lo hi b:Nat):Prop:=lo<=b/\b<hi
def OI (P:Program)(gf:Nat)(lb:Array Value){α:Type}(encs:α->Array Value)(xs:List α)(cap:Nat->Prop)(w0:World):Prop:=
 ∀(m l:Nat) (J Jx:Nat->Nat->World->Prop) (W:World),Kept cap w0 W->
  (∀Z i A B,J Z i A->Kept (λb=>¬U8 W.heap.size Z b) A B->J Z i B)->(∀Z i A B,Jx Z i A->Kept (λb=>¬U8 W.heap.size Z b) A B->Jx Z i B)->
  (∀Z i x A,W.heap.size<=Z->Z<=A.heap.size->xs[i]?=some x->J Z i A->YieldAt Fence.wide m P l (encs x) A λe B=>
   (e=.returned (.bool true)/\J Z (i+1) B/\Kept (λb=>U8 W.heap.size Z b∨cap b) A B)∨(e=.returned (.bool false)/\Jx Z i B))->
  (∀Z,J Z 0 W)->
  CallsIn Fence.wide (m+1) P gf (#[.func (.yield l) #[] #[]]++lb) W λe B=>(∃v,e=.returned v)/\∃Z,W.heap.size<=Z/\(J Z xs.length B∨∃i,i<xs.length/\Jx Z i B)
def iM (K:Nat->Prop)(I:Nat->World->Prop)(Ix:Code->Nat->World->Prop)(i:Nat)(A:World):Exit->Act->World->Prop
 | .normal,_,B=>Kept K A B/\I (i+1) B
 | .ret,_,B=>Kept K A B/\Ix .ret i B
 | .exit id,_,B=>Kept K A B/\Ix (.exit id) i B
 | .goto t,_,B=>Kept K A B/\Ix (.goto t) i B
 | .panic _,_,_=>False
 | .outgrown,_,_=>False
def Cm (lo hi:Nat)(cap:Nat->Prop)(b:Nat):Prop:=U8 lo hi b∨cap b
theorem Gd {P:Program}{m:Nat}{α:Type}{g:Operand}{ps:Array Tmp}{assign body:Code}{Q:Exit->Act->World->Prop}{w:World}{gf:Nat}{lb:Array Value}
  (hg:a.eval g=.func (.func gf) #[] lb) (eg:∀args w,(callFunc gf args).run P w=.ok (.enter gf args) w)
  {C:α->Array Value} {xs:List α} {cap:Nat->Prop} (al:OI P gf lb C xs cap w) (L:∀b,cap b->b<w.heap.size) (ao:∀x,(C x).size=ps.size)
  (I:Nat->Nat->World->Prop) (Ix:Nat->Code->Nat->World->Prop)
  (hI:∀Z i A B,I Z i A->Kept (λb=>¬U8 w.heap.size Z b) A B->I Z i B) (G:∀Z c i A B,Ix Z c i A->Kept (λb=>¬U8 w.heap.size Z b) A B->Ix Z c i B) (h0:∀Z,I Z 0 w)
  (J:∀Z l i x A,l=w.heap.size+1->w.heap.size+2<=Z->Z<=A.heap.size->xs[i]?=some x->I Z i A->
   assign.wpIn (Fence.wide.inRound l) m P (Exit.then (λa1 y=>Kept (Cm w.heap.size Z cap) A y/\
    ∀A2,Kept (λb=>b≠l) y A2->A2.heap.size=y.heap.size->body.wpIn (Fence.wide.inRound l) m P (iM (Cm w.heap.size Z cap) (I Z) (Ix Z) i A2) a1 A2) (λ_ _ _=>False))
    { tmps:=(ps.zip (C x)).foldl (λt (p,v)=>t.setIfInBounds p v) a.tmps,defers:=[] } A)
  (hdone:∀Z W,I Z xs.length W->W.heap[w.heap.size]?=some (.deferred (some []))->Q .normal { a with defers:= { target:=.collected w.heap.size,args:=#[] } ::a.defers } W)
  (hstop:∀Z c i W,i<xs.length->Ix Z c i W->W.heap[w.heap.size]?=some (.deferred (some []))->c.wp P Q { a with defers:= { target:=.collected w.heap.size,args:=#[] } ::a.defers } W):
  (Code.rangeFunc g ps assign body).wp P Q a w:=by
 refine wpIn_wide.1 (wpIn_rangeFunc (n:=m+2) ?_);intro fn ag;obtain ⟨f,j⟩:∃f:LoopState->Option Code->Loop,f=λst pe=> { state:=st,pending:=pe,fn,tmps:=a.tmps,params:=ps,assign,body,defers:=w.heap.size } :=⟨_,rfl⟩
 obtain ⟨r,E⟩:∃r,(w.alloc (.deferred (some []))).alloc (.loop (f .ready none))=r:=⟨_,rfl⟩;have hs1:r.heap.size=w.heap.size+2:=by rw [<-E];simp
 have am:r.heap[w.heap.size+1]?=some (.loop (f .ready none)):=by
  rw [<-E];have:=World.alloc_heap_new (w.alloc (.deferred (some []))) (.loop (f .ready none));rwa [World.size_alloc] at this
 have ah:r.heap[w.heap.size]?=some (.deferred (some [])):=by
  rw [<-E];exact (Below.heap_alloc _ _ _ (by simp)).trans (World.alloc_heap_new w _)
 have ab:Below w.heap.size w r:=by rw [<-E];exact ((pI _ w).alloc (pA _) _).alloc (by simp) _
 have U:∀Z b,¬U8 w.heap.size Z b->¬U8 r.heap.size Z b:=λZ b h h'=>h ⟨by have:=h'.1;omega,h'.2⟩
 refine ⟨w.heap.size+1,[{ target:=.collected w.heap.size,args:=#[] }],r,{ target:=.fn (.func gf) lb,args:=#[.func (.yield (w.heap.size+1)) #[] #[]] },r,gf,
  #[.func (.yield (w.heap.size+1)) #[] #[]]++lb,r,?_,?_,?_,?_,λ_=>by omega,?_⟩
 ·rw [<-E,j];exact run_enterLoop_outer _ _ _ _ _
 ·simp only [resolve,hg];simp [go_sem]
 ·intro f' _;trivial
 ·simp [invoke,go_sem,eg]
 ·refine (al m (w.heap.size+1)
   (λZ i W=>I Z i W/\W.heap[w.heap.size+1]?=some (.loop (f .ready none))/\W.heap[w.heap.size]?=some (.deferred (some [])))
   (λZ i W=>r.heap.size<=Z/\∃c,Ix Z c i W/\W.heap[w.heap.size+1]?=some (.loop (f .done (some c)))/\W.heap[w.heap.size]?=some (.deferred (some [])))
   r (Kept.of_below ab) ?_ ?_ ?_ (λZ=>⟨hI _ _ _ _ (h0 Z) (Kept.of_below ab),am,ah⟩)).mono ?_
  ·rintro Z i A B ⟨h1,T,h3⟩ D;have F:=(Array.getElem?_eq_some_iff.1 T).1;exact ⟨hI _ _ _ _ h1 (D.mono (U Z)),(D.block _ F (λh=>by have:=h.1;omega)).trans T,(D.block _ (by omega) (λh=>by have:=h.1;omega)).trans h3⟩
  ·rintro Z i A B ⟨h0,c,h1,T,h3⟩ D;have F:=(Array.getElem?_eq_some_iff.1 T).1;exact ⟨h0,c,G _ _ _ _ _ h1 (D.mono (U Z)),(D.block _ F (λh=>by have:=h.1;omega)).trans T,(D.block _ (by omega) (λh=>by have:=h.1;omega)).trans h3⟩
  ·
   rintro Z i x A N ae hx ⟨V,F,D⟩;have hy:=run_yield (P:=P) (args:=C x) F (by rw [j];exact ao x)
   rw [j] at hy;refine ⟨fn,_,assign,body,hy,roundIn_of_wpIn ag ?_⟩;refine wpIn_mono (J Z _ i x A rfl (by omega) ae hx V) ?_
   rintro e a1 y h;cases e with
   | exit id=>exact h.elim
   | goto t=>exact h.elim
   | ret=>exact h.elim
   | panic c=>exact h.elim
   | outgrown=>exact h.elim
   | normal=>
    obtain ⟨M,O⟩:=h;have an:w.heap.size+1<A.heap.size:=(Array.getElem?_eq_some_iff.1 F).1;have X:y.heap[w.heap.size+1]?=some (.loop (f .ready none)):=(M.block _ an (.inl ⟨by omega,by omega⟩)).trans F
    have ak:y.heap[w.heap.size]?=some (.deferred (some [])):=(M.block _ (by omega) (.inl ⟨by omega,by omega⟩)).trans D
    have Y:w.heap.size+1<y.heap.size:=(Array.getElem?_eq_some_iff.1 X).1;refine ⟨_,run_beginRound X (by rw [j]),?_⟩
    have ac:(y.putObj (w.heap.size+1) (.loop { f .ready none with state:=.busy })).heap[w.heap.size+1]?=some (.loop { f .ready none with state:=.busy }):=World.putObj_heap_same Y
    have aj:(y.putObj (w.heap.size+1) (.loop { f .ready none with state:=.busy })).heap[w.heap.size]?=some (.deferred (some [])):=(World.putObj_heap_other (by omega)).trans ak
    have af:Kept (λb=>U8 r.heap.size Z b∨cap b) A (y.putObj (w.heap.size+1) (.loop { f .ready none with state:=.busy })):=
     (M.mono (K':=λb=>U8 r.heap.size Z b∨cap b) (λb h=>h.imp (λh=>⟨by have:=h.1;omega,h.2⟩) id)).putObj (λh=>by rcases h with h|h;exact absurd h.1 (by omega);exact absurd (L _ h) (by omega)) _
    refine wpIn_mono (O _ ((Kept.refl _ y).putObj (by simp) _) (by simp [World.putObj])) ?_
    have K:∀(d:Option Code) (z:World),Kept (Cm w.heap.size Z cap) (y.putObj (w.heap.size+1) (.loop { f .ready none with state:=.busy })) z->
      (Instr.endRound (w.heap.size+1) d).run P z=.ok (.bool d.isNone) (z.putObj (w.heap.size+1) (.loop (f (if d.isNone then .ready else .done) d)))/\
      (z.putObj (w.heap.size+1) (.loop (f (if d.isNone then .ready else .done) d))).heap[w.heap.size+1]?=some (.loop (f (if d.isNone then .ready else .done) d))/\
      (z.putObj (w.heap.size+1) (.loop (f (if d.isNone then .ready else .done) d))).heap[w.heap.size]?=some (.deferred (some []))/\
      Kept (λb=>¬U8 w.heap.size Z b) z (z.putObj (w.heap.size+1) (.loop (f (if d.isNone then .ready else .done) d)))/\
      Kept (λb=>U8 r.heap.size Z b∨cap b) A (z.putObj (w.heap.size+1) (.loop (f (if d.isNone then .ready else .done) d))):=λd z k=>by
     have hsz2:(y.putObj (w.heap.size+1) (.loop { f .ready none with state:=.busy })).heap.size=y.heap.size:=by simp [World.putObj]
     have aa:=(k.block (w.heap.size+1) (by omega) (.inl ⟨by omega,by omega⟩)).trans ac
     have ad:=(k.block w.heap.size (by omega) (.inl ⟨by omega,by omega⟩)).trans aj
     have:=run_endRound (P:=P) d aa;rw [j] at this ⊢;refine ⟨this,World.putObj_heap_same (Array.getElem?_eq_some_iff.1 aa).1,(World.putObj_heap_other (by omega)).trans ad,(Kept.refl _ _).putObj (λh=>h ⟨by omega,by omega⟩) _,?_⟩
     refine (af.trans ?_).putObj (λh=>by rcases h with h|h;exact absurd h.1 (by omega);exact absurd (L _ h) (by omega)) _
     rw [j] at k ⊢;exact k.mono (λb h=>h.imp (λh=>⟨by have:=h.1;omega,h.2⟩) id)
    rintro e a3 z S;cases e with
    | normal=>
     obtain ⟨k,u⟩:=S;obtain ⟨R,o,s,q,H⟩:=K none z k;exact ⟨_,_,R,.inl ⟨rfl,⟨hI _ _ _ _ u q,o,s⟩,H⟩⟩
    | ret=>
     obtain ⟨k,u⟩:=S;obtain ⟨R,o,s,q,H⟩:=K (some .ret) z k;exact ⟨_,_,R,.inr ⟨rfl,N,.ret,G _ _ _ _ _ u q,o,s⟩⟩
    | exit id=>
     obtain ⟨k,u⟩:=S;obtain ⟨R,o,s,q,H⟩:=K (some (.exit id)) z k;exact ⟨_,_,R,.inr ⟨rfl,N,.exit id,G _ _ _ _ _ u q,o,s⟩⟩
    | goto t=>
     obtain ⟨k,u⟩:=S;obtain ⟨R,o,s,q,H⟩:=K (some (.goto t)) z k;exact ⟨_,_,R,.inr ⟨rfl,N,.goto t,G _ _ _ _ _ u q,o,s⟩⟩
    | panic ch=>exact S.elim
    | outgrown=>exact S.elim
  ·rintro e W2 ⟨⟨v,rfl⟩,Z,hZ,(⟨V,F,D⟩|⟨i,ai,hZ',c,V,F,D⟩)⟩
   ·exact ⟨none,_,by have:=run_endLoop (P:=P) F (by rw [j];simp);rw [j] at this;exact this,hdone Z _ (hI _ _ _ _ V ((Kept.refl _ _).putObj (λh=>h ⟨by omega,by omega⟩) _)) ((World.putObj_heap_other (by omega)).trans D)⟩
   ·exact ⟨some c,_,by have:=run_endLoop (P:=P) F (by rw [j];simp);rw [j] at this;exact this,wpIn_wide.2 (hstop Z c i _ ai (G _ _ _ _ _ V ((Kept.refl _ _).putObj (λh=>h ⟨by omega,by omega⟩) _)) ((World.putObj_heap_other (by omega)).trans D))⟩
theorem Q0.putObj {w:World}{D:Nat}{t:TypeId}(h:Q0 w g t cs)(a:g≠D)(o:Obj):Q0 (w.putObj D o) g t cs:=(World.putObj_heap_other a).trans h
theorem VD {n D:Nat}{w w':World}(h:Below n w w')(hD:n<=D)(o:Obj):Below n w (w'.putObj D o):=
 h.trans ⟨rfl,rfl,rfl,by simp [World.putObj],λk hk=>World.putObj_heap_other (by omega)⟩
theorem Bw {w:World}{D:Nat}{o:Obj}(h:w.heap[D]?=some o)(a:D≠p.block):(w.setCell p u).heap[D]?=some o:=(Below.heap_setCell w p u D a).trans h
theorem UM {F:Fence}{n:Nat}{P:Program}{a:Func}{R:Ending->World->Prop}{tmps:Array Value}{w:World}{D:Nat}(d:w.heap[D]?=some (.deferred (some [])))
  (b:(results a tmps).run P (w.putObj D (.deferred none))=.ok v (w.putObj D (.deferred none))) (c:R (.returned v) (w.putObj D (.deferred none))):bodyPostM F n P a R .ret { tmps:=tmps,defers:=[{ target:=.collected D,args:=#[] }] } w:=by
 refine ⟨by simp,.inl ⟨_,_,rfl,run_takeDeferred d,?_⟩⟩
 exact ⟨v,b,c⟩
abbrev QK:=World->(Nat->Prop)->Prop
structure QK.Fit (u8:TypeId)(P:QK):Prop where
 lt:∀{w M},P w M->∀b,M b->b<w.heap.size
 nob:∀{w M},P w M->∀b,M b->∀cs,¬Q0 w b u8 cs
 kept:∀{w M w' K},P w M->Kept K w w'->(∀b,M b->K b)->(∀b cs,Q0 w b u8 cs->K b)->P w' M
def Q6 (P:QK)(w:World)(M:Nat->Prop)(w':World):Prop:=∃M',P w' M'/\(∀b,M' b->M b∨w.heap.size<=b)/\Kept (λb=>¬M b) w w'
section
variable {u8:TypeId}{P Q P':QK}{w w' w'':World}{M M' N:Nat->Prop}
theorem QK.Fit.on (F:QK.Fit u8 P)(h:P w M)(a:Below w.heap.size w w'):P w' M:=F.kept h (Kept.of_below a |>.mono λ_ _=>trivial) (λ_ _=>trivial) (λ_ _ _=>trivial)
theorem QK.Fit.beside (F:QK.Fit u8 P)(h:P w M)(c:Kept (λb=>¬N b) w w')(a:∀b,M b->¬N b)(f:∀b,N b->∀cs,¬Q0 w b u8 cs):P w' M:=
 F.kept h c a (λb cs d e=>f b e cs d)
theorem Q6.same (h:P w M):Q6 P w M w:=⟨M,h,λ_ h=>.inl h,Kept.refl _ w⟩
theorem Q6.below (h:P w' M)(a:Below w.heap.size w w'):Q6 P w M w':=⟨M,h,λ_ h=>.inl h,(Kept.of_below a).mono λ_ _=>trivial⟩
theorem Q6.mono (h:Q6 P w M w')(k:∀M',P w' M'->Q w' M'):Q6 Q w M w':=by
 obtain ⟨M',a,c,b⟩:=h;exact ⟨M',k M' a,c,b⟩
theorem Q6.on (F:QK.Fit u8 P)(h:Q6 P w M w')(a:pM w' w''):Q6 P w M w'':=by
 obtain ⟨M',b,d,c⟩:=h;exact ⟨M',F.on b a,d,c.on a⟩
theorem Q6.ahead (a:pM w w')(h:Q6 P w' M w''):Q6 P w M w'':=by
 obtain ⟨M',d,c,f⟩:=h;exact ⟨M',d,λb e=>(c b e).imp_right (pB a.size),((Kept.of_below a).mono λ_ _=>trivial).trans f⟩
theorem Tz (e:∀b,M' b->M b∨w.heap.size<=b)(a:Kept (λb=>¬M b) w w')(k:Kept (λb=>¬M' b) w' w''):Kept (λb=>¬M b) w w'':=
 ⟨k.os.trans a.os,k.tape.trans a.tape,k.output.trans a.output,pB a.size k.size,λb d c=>(k.block b (pD d a.size) λh=>by
  rcases e b h with h|h
  ·exact c h
  ·omega).trans (a.block b d c)⟩
theorem Q6.bind (c:∀b,M' b->M b∨w.heap.size<=b)(d:Kept (λb=>¬M b) w w')(k:Q6 P w' M' w''):Q6 P w M w'':=by
 obtain ⟨a,e,f,g⟩:=k;refine ⟨a,e,λb i=>?_,Tz c d g⟩
 rcases f b i with h|h
 ·exact c b h
 ·exact .inr (pB d.size h)
theorem Q6.blk {t:TypeId}(h:Q6 P w M w')(a:¬M g)(b:Q0 w g t cs):Q0 w' g t cs:=by
 obtain ⟨M',-,-,c⟩:=h;exact c.blk a b
theorem Q6.kept (h:Q6 P w M w'):Kept (λb=>¬M b) w w':=by
 obtain ⟨M',-,-,a⟩:=h;exact a
def Dt (P Q:QK):QK:=λw M=>∃A B,P w A/\Q w B/\(∀b,A b->¬B b)/\∀b,M b↔A b∨B b
theorem TA (F:QK.Fit u8 P)(G:QK.Fit u8 Q):QK.Fit u8 (Dt P Q) where
 lt:=λ⟨A,B,e,d,_,a⟩ b c=>by
  rcases (a b).1 c with h|h
  ·exact F.lt e b h
  ·exact G.lt d b h
 nob:=λ⟨A,B,e,d,_,a⟩ b c cs=>by
  rcases (a b).1 c with h|h
  ·exact F.nob e b h cs
  ·exact G.nob d b h cs
 kept:=λ⟨A,B,e,d,j,a⟩ g f i=>⟨A,B,F.kept e g (λb c=>f b ((a b).2 (.inl c))) i,G.kept d g (λb c=>f b ((a b).2 (.inr c))) i,j,a⟩
theorem Jo {A B:Nat->Prop}(F:QK.Fit u8 P)(G:QK.Fit u8 Q)(m:P w A)(g:Q w B)(f:∀b,A b->¬B b)(e:∀b,M b↔A b∨B b)(h:Q6 P' w A w'):Q6 (Dt P' Q) w M w':=by
 obtain ⟨k,l,i,j⟩:=h;refine ⟨λb=>k b∨B b,⟨k,B,l,G.beside g j (λb d c=>f b c d) (F.nob m),λb c d=>?_,λ_=>Iff.rfl⟩,λb a=>?_,j.mono λb a c=>a ((e b).2 (.inl c))⟩
 ·rcases i b c with h|h
  ·exact f b h d
  ·have:=G.lt g b d;omega
 ·rcases a with a|a
  ·exact (i b a).imp_left λh=>(e b).2 (.inl h)
  ·exact .inl ((e b).2 (.inr a))
end
section
variable {P:Program}{ops:Array Oper}{md:Region.Mode}{C:World->Prop}
abbrev XO:=Value->World->Prop
theorem Du (h:i<listed.size):listed.getD i true=listed.getD i false:=by simp [h]
variable {m s:Nat}{oA:Oper}{R:XO}{L:Act->Prop}{Q':Exit->Act->World->Prop}
def IB (ops:Array Oper):Bool:=ops.all λo=>match o.op with|.defer _=>false|_=>true
theorem Kx (h:IB ops=true)(b:ops[j]?=some o)(c:Call):o.op≠.defer c:=by
 intro a;have:=Array.all_eq_true_iff_forall_mem.1 h o (Array.mem_of_getElem? b);simp [a] at this
theorem MO {l n:Nat}{row:String}{w:World}{X:Value->World->Prop}(h:Rows P row args w X):RowsIn (Fence.wide.inRound l) n P row args w X:=
 λc cs _=>let ⟨v,w',hx,hs⟩:=h c cs;⟨v,w',hx,by rw [fenced_inRound];exact stepsIn_wide.2 hs⟩
theorem lV {l n:Nat}{w:World}{K K':Act->World->Prop}{Q:Exit->Act->World->Prop}(i:∀c,o.op≠.defer c)(b:∀a w,K a w->K' a w)(h:o.wp P a w K Q):o.wpIn (Fence.wide.inRound l) n P a w K' Q:=by
 refine ⟨λ_ _=>trivial,?_⟩
 rw [Oper.semAt_eq _ _ _ i];unfold Oper.wp at h;generalize (execOp a.eval o).run P w=r at *;cases r with
 | ok j w'=>
  cases j<;>simp only [Oper.upon] at h<;>simp only [Oper.uponIn]
  case value u=>exact b _ _ h
  case skip=>exact b _ _ h
  case defer d=>exact b _ _ h
  case enter f args=>
   refine ⟨λh=>(by cases h),CallsIn.inRound l (callsIn_wide.2 (h.mono λe w'' g=>?_))⟩
   cases e with
   | returned v=>exact b _ _ g
   | panicked c=>exact g
   | outgrown=>exact g
  case row r args=>exact ⟨λh=>(by cases h),MO λc cs=>let ⟨v,w'',hx,hs⟩:=h c cs;⟨v,w'',b _ _ hx,hs⟩⟩
 | halt x w'=>cases x<;>simp only [Oper.upon] at h<;>first|exact h|cases h
theorem iN {l n:Nat}{Q:Exit->Act->World->Prop}(e:IB ops=true)(g:¬LetsOut Q):∀(f:Nat) (listed:Array Bool) (a:Act) (w:World),Go.wpAny P md ops Q f listed a w->wpAnyIn (Fence.wide.inRound l) n P md ops Q f listed a w:=by
 intro f;induction f with
 | zero=>intro listed a w h;exact h
 | succ f c=>
  intro listed a w h;refine ⟨h.1,λi j=>?_⟩
  have b:=h.2 i j;unfold wpOp at b;unfold wpOpIn;cases ho:ops[i]? with
  | none=>rw [ho] at b;exact c _ _ _ b
  | some o=>
   rw [ho] at b;dsimp only at b ⊢;by_cases d:Region.wanted o (yielded ops a.tmps)=true
   ·rw [if_pos d] at b ⊢;rcases b with b|b
    ·exact lV (Kx e ho) (λa w=>c _ a w) b
    ·exact absurd b.2 g
   ·rw [if_neg d] at b ⊢;exact ⟨λ_ _=>trivial,c _ _ _ b⟩
end
section
variable {P:Program}{ops:Array Oper}{C:World->Prop}
def Xm (ops:Array Oper)(i:Nat):Option Tmp:=(ops[i]?).bind (·.dst)
def kd (ks:List Nat)(i:Nat):Nat:=ks.getD i 3
theorem Af (a:Act)(x:Option Tmp)(v:Value):(a.put x v).tmps.size=a.tmps.size:=by cases x<;>simp [Act.put]
theorem OJ (a:Act)(x:Option Tmp)(v:Value):(a.put x v).defers=a.defers:=by cases x<;>rfl
theorem Ge (a:Act){x:Option Tmp}(v:Value)(h:x≠some t):(a.put x v).tmps.getD t undef=a.tmps.getD t undef:=by
 cases x with
 | none=>rfl
 | some d=>
  have b:d≠t:=λe=>h (by rw [e])
  simp [Act.put,Array.getElem?_setIfInBounds_ne b]
theorem N6 (a:Act)(v:Value)(h:t<a.tmps.size):(a.put (some t) v).tmps.getD t undef=v:=by simp [Act.put,h]
theorem dw {b:Act}(e:a.tmps.size=b.tmps.size)(d:∀t,a.tmps.getD t undef=b.tmps.getD t undef)(f:a.defers=b.defers):a=b:=by
 obtain ⟨ta,da⟩:=a;obtain ⟨tb,db⟩:=b;dsimp only at *;subst f;congr 1;apply Array.ext e;intro i g c;have:=d i;simpa [g,c] using this
def QE (ops:Array Oper)(V:Nat->Value)(S:List Nat)(a:Act):Act:=S.foldl (λa i=>a.put (Xm ops i) (V i)) a
theorem Yi (V:Nat->Value)(i:Nat)(S:List Nat)(a:Act):QE ops V (i::S) a=QE ops V S (a.put (Xm ops i) (V i)):=rfl
theorem Fi (V:Nat->Value)(S T:List Nat)(a:Act):QE ops V (S++T) a=QE ops V T (QE ops V S a):=by simp [QE,List.foldl_append]
theorem XU (V:Nat->Value)(S:List Nat):∀a,(QE ops V S a).tmps.size=a.tmps.size:=by
 induction S with
 | nil=>intro a;rfl
 | cons i S b=>intro a;rw [Yi,b,Af]
theorem Dv (V:Nat->Value)(S:List Nat):∀a,(QE ops V S a).defers=a.defers:=by
 induction S with
 | nil=>intro a;rfl
 | cons i S b=>intro a;rw [Yi,b,OJ]
theorem Dw (V:Nat->Value)(S:List Nat):∀a,(∀j∈S,Xm ops j≠some t)->(QE ops V S a).tmps.getD t undef=a.tmps.getD t undef:=by
 induction S with
 | nil=>intro a _;rfl
 | cons i S b=>intro a h;rw [Yi,b _ (λj c=>h j (List.mem_cons_of_mem _ c)),Ge _ _ (h i (by simp))]
def Kb (ops:Array Oper):Prop:=∀i j d,i≠j->Xm ops i=some d->Xm ops j≠some d
theorem IC (m:Kb ops)(V:Nat->Value)(d:Xm ops j=some t)(S:List Nat):∀a,t<a.tmps.size->j∈S->(QE ops V S a).tmps.getD t undef=V j:=by
 induction S with
 | nil=>intro a _ h;cases h
 | cons i S g=>
  intro a ht h;rw [Yi];by_cases b:j∈S
  ·exact g _ (by rw [Af];exact ht) b
  ·have c:j=i:=by
    rcases List.mem_cons.1 h with e|e
    ·exact e
    ·exact absurd e b
   subst c;rw [Dw V S _ (λk f e=>m j k t (λl=>b (l▸f)) d e),d,N6 _ _ ht]
theorem Uu (f:Kb ops){V d:Nat->Value}{S T:List Nat}(h:∀j,Xm ops j=some t->(j∈S↔j∈T)/\(j∈S->V j=d j)):(QE ops V S a).tmps.getD t undef=(QE ops d T a).tmps.getD t undef:=by
 by_cases ht:t<a.tmps.size
 ·by_cases e:∃j∈S,Xm ops j=some t
  ·obtain ⟨j,c,b⟩:=e;rw [IC f V b S a ht c,IC f d b T a ht ((h j b).1.1 c)];exact (h j b).2 c
  ·rw [Dw V S a (λj c b=>e ⟨j,c,b⟩),Dw d T a (λj c b=>e ⟨j,(h j b).1.2 c,b⟩)]
 ·have i:¬t<(QE ops V S a).tmps.size:=by rw [XU];exact ht
  have g:¬t<(QE ops d T a).tmps.size:=by rw [XU];exact ht
  simp [i,g]
theorem VE (c:Kb ops){V b:Nat->Value}{S T:List Nat}(h:∀j,(j∈S↔j∈T)/\(j∈S->V j=b j)):QE ops V S a=QE ops b T a:=
 dw (by rw [XU,XU]) (λ_=>Uu c λj _=>h j) (by rw [Dv,Dv])
def AA (ops:Array Oper)(o:Oper)(a b:Act):Prop:=∀t∈o.looksAt ops,a.tmps.getD t undef=b.tmps.getD t undef
theorem Bh {b:Act}(c:∀cs b,o.op≠.select cs b)(h:AA ops o a b):execOp a.eval o=execOp b.eval o:=
 execOp_congr o c λx d=>by
  cases x with
  | tmp t=>exact h t (List.mem_append_left _ (List.mem_filterMap.2 ⟨.tmp t,by simpa using d,rfl⟩))
  | _=>rfl
theorem UN {b:Act}(h:AA ops o a b)(e:a.tmps.size=b.tmps.size):Region.wanted o (yielded ops a.tmps)=Region.wanted o (yielded ops b.tmps):=by
 unfold Region.wanted;cases hg:o.guard with
 | none=>rfl
 | some i=>
  obtain ⟨g,want⟩:=i;have f:yielded ops a.tmps g=yielded ops b.tmps g:=by
   unfold yielded;cases ht:(ops[g]?).bind (·.dst) with
   | none=>rfl
   | some t=>
    have:=h t (by simp [Oper.looksAt,hg,ht])
    by_cases c:t<a.tmps.size
    ·have d:t<b.tmps.size:=e▸c;simp [c,d] at this ⊢;rw [this]
    ·have d:¬t<b.tmps.size:=e▸c;simp [c,d]
  simp only [f]
theorem UK.alike {b:Act}(c:∀cs b,o.op≠.select cs b)(h:AA ops o a b)(d:a.tmps.size=b.tmps.size)(hy:UK P ops C o v a):UK P ops C o v b:=by
 unfold UK Bf at *
 rwa [<-Bh c h,<-UN h d]
def N7 (P:Program)(D:List Nat)(R:XO)(w:World):Result Next->Prop
 | .ok (.value u) w'=>Kept (λb=>b∉D) w w'/\R u w'
 | .ok .skip w'=>Kept (λb=>b∉D) w w'/\R undef w'
 | .ok (.enter f args) w'=>w'=w/\Calls P f args w (λe w''=>∃u,e=.returned u/\Kept (λb=>b∉D) w w''/\R u w'')
 | _=>False
def VV (P:Program)(D:List Nat)(o:Oper)(a:Act)(R:XO)(w:World):Prop:=N7 P D R w ((execOp a.eval o).run P w)
def Fj (w:World)(v:Value):Result Next->Prop
 | .ok (.value u) w'=>w'=w/\u=v
 | _=>False
def Cn (P:Program)(o:Oper)(a:Act)(w:World)(v:Value):Prop:=Fj w v ((execOp a.eval o).run P w)
def OK (P:Program)(o:Oper)(a:Act)(K:Act->Prop):Prop:=∃v,(∀w,Cn P o a w v)/\K (a.put o.dst v)
def UO (P:Program)(ops:Array Oper)(o:Oper)(v:Value)(a:Act):Prop:=
 (Region.wanted o (yielded ops a.tmps)=true/\∀w,Cn P o a w v)∨(Region.wanted o (yielded ops a.tmps)=false/\v=undef)
theorem Ky {w:World}(h:Cn P o a w v):Bf P o a w v:=by
 unfold Cn at h;unfold Bf;generalize (execOp a.eval o).run P w=r at *;cases r with
 | ok b w'=>cases b<;>simp only [Fj] at h<;>exact h
 | halt x w'=>exact h.elim
theorem PU {w:World}{K:Act->World->Prop}{Q:Exit->Act->World->Prop}(h:Cn P o a w v)(b:K (a.put o.dst v) w):o.wp P a w K Q:=by
 unfold Cn at h;unfold Oper.wp;generalize (execOp a.eval o).run P w=r at *;cases r with
 | ok c w'=>
  cases c<;>simp only [Fj] at h
  obtain ⟨rfl,rfl⟩:=h;exact b
 | halt x w'=>exact h.elim
theorem UO.gives (h:UO P ops o v a):UK P ops C o v a:=h.imp (λh=>⟨h.1,λw _=>Ky (h.2 w)⟩) id
theorem UO.alike {b:Act}(c:∀cs b,o.op≠.select cs b)(h:AA ops o a b)(d:a.tmps.size=b.tmps.size)(hy:UO P ops o v a):UO P ops o v b:=by
 unfold UO Cn at *
 rwa [<-Bh c h,<-UN h d]
def Jp (P:Program)(ops:Array Oper)(C:World->Prop)(k:Nat)(o:Oper)(v:Value)(a:Act):Prop:=if k=0 then UK P ops C o v a else UO P ops o v a
def YG (P:Program)(ops:Array Oper)(C:World->Prop)(L:Act->Prop):List Nat->List Oper->Act->Prop
 | _,[],a=>L a
 | [],_::_,_=>False
 | 0::ks,o::l,a=>if Region.wanted o (yielded ops a.tmps) then Ka P o a C (YG P ops C L ks l) else YG P ops C L ks l (a.put o.dst undef)
 | 1::ks,o::l,a=>if Region.wanted o (yielded ops a.tmps) then OK P o a (YG P ops C L ks l) else YG P ops C L ks l (a.put o.dst undef)
 | (_+2)::ks,_::l,a=>YG P ops C L ks l a
theorem Q8 {L:Act->Prop}{ks:List Nat}(h:L a):YG P ops C L ks [] a:=by unfold YG;exact h
theorem Qf {L:Act->Prop}{ks:List Nat}{l:List Oper}
  (h:∀K:Act->Prop,(∀a,YG P ops C L ks l a->K a)->if Region.wanted o (yielded ops a.tmps) then Ka P o a C K else K (a.put o.dst undef)):YG P ops C L (0::ks) (o::l) a:=h _ λ_ h=>h
theorem Vo {L:Act->Prop}{ks:List Nat}{l:List Oper}
  (h:∀K:Act->Prop,(∀a,YG P ops C L ks l a->K a)->if Region.wanted o (yielded ops a.tmps) then OK P o a K else K (a.put o.dst undef)):YG P ops C L (1::ks) (o::l) a:=h _ λ_ h=>h
theorem Qi {L:Act->Prop}{ks:List Nat}{l:List Oper}{k:Nat}(h:YG P ops C L ks l a):YG P ops C L ((k+2)::ks) (o::l) a:=h
def Yc (P:Program)(C:World->Prop)(w0:World)(Ds:Nat->List Nat)(Rs:Nat->XO)(an:Nat->Nat->Bool)(T:Act->World->Prop):List Nat->List Oper->Nat->Act->(World->Prop)->((Nat->Prop)->World->Prop)->Prop
 | _,[],_,a,Φ,_=>∀w',C w'->Φ w'->T a w'
 | [],_::_,_,_,_,_=>False
 | 0::ks,_::l,i,a,Φ,Ψ=>Yc P C w0 Ds Rs an T ks l (i+1) a Φ Ψ
 | 1::ks,_::l,i,a,Φ,Ψ=>Yc P C w0 Ds Rs an T ks l (i+1) a Φ Ψ
 | 2::ks,o::l,i,a,Φ,Ψ=>(∀w',C w'->Kept (λb=>b∈Ds i) w0 w'->Ψ (λj=>an i j=true) w'->VV P (Ds i) o a (Rs i) w')/\∀v,Yc P C w0 Ds Rs an T ks l (i+1) (a.put o.dst v) (λw=>Φ w/\Rs i v w) (λS w=>Ψ S w/\(S i->Rs i v w))
 | (_+3)::ks,_::l,i,a,Φ,Ψ=>Yc P C w0 Ds Rs an T ks l (i+1) a Φ Ψ
def Qd:List Nat->List Oper->List Oper
 | _,[]=>[]
 | [],_::_=>[]
 | 0::ks,_::l=>Qd ks l
 | 1::ks,_::l=>Qd ks l
 | 2::ks,_::l=>Qd ks l
 | (_+3)::ks,o::l=>o::Qd ks l
def Qp (ks:List Nat)(p:Nat->Bool)(k n:Nat):List Nat:=(List.range' k (n - k)).filter λi=>p (kd ks i)
theorem QU {ks:List Nat}{p:Nat->Bool}{k n:Nat} :i∈Qp ks p k n↔(k<=i/\i<n)/\p (kd ks i)=true:=by
 unfold Qp;simp only [List.mem_filter,List.mem_range'_1];constructor
 ·rintro ⟨a,b⟩;exact ⟨⟨a.1,by omega⟩,b⟩
 ·rintro ⟨a,b⟩;exact ⟨⟨a.1,by omega⟩,b⟩
theorem VF {ks:List Nat}{p:Nat->Bool}{k n:Nat}(h:k<n):Qp ks p k n=if p (kd ks k) then k::Qp ks p (k+1) n else Qp ks p (k+1) n:=by
 unfold Qp;rw [show n - k=(n - (k+1))+1 by omega,List.range'_succ,List.filter_cons]
theorem VG {ks:List Nat}{p:Nat->Bool}{k n:Nat}(h:n<=k):Qp ks p k n=[]:=by unfold Qp;rw [show n - k=0 by omega];rfl
abbrev pQ (k:Nat):Bool:=decide (k<2)
abbrev pL (k:Nat):Bool:=k==2
abbrev pT (k:Nat):Bool:=decide (3<=k)
theorem Kc {ks:List Nat}{k:Nat}{r:List Nat}(h:ks.drop i=k::r):kd ks i=k/\ks.drop (i+1)=r:=by
 constructor
 ·have:=List.getElem?_drop (xs:=ks) (i:=i) (j:=0);rw [h] at this;simp only [List.getElem?_cons_zero,Nat.add_zero] at this;simp [kd,<-this]
 ·rw [<-List.tail_drop,h];rfl
theorem Kd {l r:List Oper}(h:l.drop i=o::r):l.toArray[i]?=some o/\l.drop (i+1)=r/\i<l.length:=by
 refine ⟨?_,?_,?_⟩
 ·have:=List.getElem?_drop (xs:=l) (i:=i) (j:=0);rw [h] at this;simpa using this.symm
 ·rw [<-List.tail_drop,h];rfl
 ·rcases Nat.lt_or_ge i l.length with a|a
  ·exact a
  ·rw [List.drop_eq_nil_of_le a] at h;cases h
section
variable {l:List Oper}{ks:List Nat}
theorem Kz {L:Act->Prop} :∀(r:List Oper) (g:List Nat) (k:Nat) (a:Act),l.drop k=r->ks.drop k=g->YG P l.toArray C L g r a->
  ∃V:Nat->Value,(∀i o,k<=i->l.toArray[i]?=some o->kd ks i<2->Jp P l.toArray C (kd ks i) o (V i) (QE l.toArray V (Qp ks pQ k i) a))/\L (QE l.toArray V (Qp ks pQ k l.length) a):=by
 intro r;induction r with
 | nil=>
  intro g k a F _ h;have M:l.length<=k:=by simpa using F
  refine ⟨λ_=>undef,λi o s z=>?_,?_⟩
  ·have:=(Array.getElem?_eq_some_iff.1 z).1;simp at this;omega
  ·rw [VG M];unfold YG at h;exact h
 | cons o r J=>
  intro g k a F A h;obtain ⟨z,x,u⟩:=Kd F;have y:Xm l.toArray k=o.dst:=by unfold Xm;rw [z];rfl
  cases g with
  | nil=>exact h.elim
  | cons c g=>
   obtain ⟨t,m⟩:=Kc A;have b:∀(v:Value),c<2->Jp P l.toArray C c o v a->YG P l.toArray C L g r (a.put o.dst v)->
     ∃V:Nat->Value,(∀i o,k<=i->l.toArray[i]?=some o->kd ks i<2->Jp P l.toArray C (kd ks i) o (V i) (QE l.toArray V (Qp ks pQ k i) a))/\L (QE l.toArray V (Qp ks pQ k l.length) a):=by
    intro v hc2 N w;obtain ⟨V,G,B⟩:=J g (k+1) _ x m w;have Q:∀(S:List Nat) (a:Act),(∀i∈S,k<i)->QE l.toArray (λi=>if i=k then v else V i) S a=QE l.toArray V S a:=by
     intro S;induction S with
     | nil=>intro a _;rfl
     | cons i S E=>
      intro a K;have s:=K i (by simp)
      rw [Yi,Yi,E _ (λj O=>K j (List.mem_cons_of_mem _ O)),if_neg (by omega)]
    have d:∀n,k<n->QE l.toArray (λi=>if i=k then v else V i) (Qp ks pQ k n) a=QE l.toArray V (Qp ks pQ (k+1) n) (a.put o.dst v):=λn I=>by
     rw [VF I,t,if_pos (by simp;omega),Yi,y,if_pos rfl]
     exact Q _ _ λi s=>by have:=(QU.1 s).1.1;omega
    refine ⟨λi=>if i=k then v else V i,λi H s e p=>?_,by rw [d _ u];exact B⟩
    rcases Nat.lt_or_eq_of_le s with q|q
    ·rw [d i q];dsimp only;rw [if_neg (show ¬i=k by omega)];exact G i H (by omega) e p
    ·subst q;rw [VG (pA _)];dsimp only;rw [if_pos rfl,t];rw [z] at e;obtain rfl:=pE e;exact N
   match c,h,t with
   | 0,h,t=>
    unfold YG at h;by_cases f:Region.wanted o (yielded l.toArray a.tmps)=true
    ·rw [if_pos f] at h;obtain ⟨v,D,w⟩:=h;exact b v (by omega) (show UK P l.toArray C o v a from .inl ⟨f,D⟩) w
    ·rw [if_neg f] at h;exact b undef (by omega) (show UK P l.toArray C o undef a from .inr ⟨by simpa using f,rfl⟩) h
   | 1,h,t=>
    unfold YG at h;by_cases f:Region.wanted o (yielded l.toArray a.tmps)=true
    ·rw [if_pos f] at h;obtain ⟨v,D,w⟩:=h;exact b v (by omega) (show UO P l.toArray o v a from .inl ⟨f,D⟩) w
    ·rw [if_neg f] at h;exact b undef (by omega) (show UO P l.toArray o undef a from .inr ⟨by simpa using f,rfl⟩) h
   | c+2,h,t=>
    unfold YG at h;obtain ⟨V,G,B⟩:=J g (k+1) _ x m h;have d:∀n,k<n->Qp ks pQ k n=Qp ks pQ (k+1) n:=λn I=>by rw [VF I,t,if_neg (by simp [pQ])]
    refine ⟨V,λi H s e p=>?_,by rw [d _ u];exact B⟩
    rcases Nat.lt_or_eq_of_le s with q|q
    ·rw [d i q];exact G i H (by omega) e p
    ·subst q;omega
theorem TB {w0:World}{s:Nat->XO}{T:Act->World->Prop} :∀(r:List Oper) (m:List Nat) (k:Nat) (a:Act) (Φ:World->Prop) (Ψ:(Nat->Prop)->World->Prop),l.drop k=r->ks.drop k=m->Yc P C w0 Ds s an T m r k a Φ Ψ->
  ∀V:Nat->Value,(∀i o,k<=i->l.toArray[i]?=some o->kd ks i=2->∀w',C w'->Kept (λb=>b∈Ds i) w0 w'->Ψ (λj=>an i j=true) w'->(∀j,k<=j->j<i->kd ks j=2->an i j=true->s j (V j) w')->VV P (Ds i) o (QE l.toArray V (Qp ks pL k i) a) (s i) w')/\
   ∀w',C w'->Φ w'->(∀i,k<=i->i<l.length->kd ks i=2->s i (V i) w')->T (QE l.toArray V (Qp ks pL k l.length) a) w':=by
 intro r;induction r with
 | nil=>
  intro m k a Φ Ψ I _ h V;have O:l.length<=k:=by simpa using I
  refine ⟨λi o v E=>?_,λw' z w _=>?_⟩
  ·have:=(Array.getElem?_eq_some_iff.1 E).1;simp at this;omega
  ·rw [VG O];unfold Yc at h;exact h w' z w
 | cons o r N=>
  intro m k a Φ Ψ I G h V;obtain ⟨E,x,t⟩:=Kd I;have y:Xm l.toArray k=o.dst:=by unfold Xm;rw [E];rfl
  cases m with
  | nil=>exact h.elim
  | cons c m=>
   obtain ⟨p,q⟩:=Kc G;have skip:c≠2->Yc P C w0 Ds s an T m r (k+1) a Φ Ψ->(∀i o,k<=i->l.toArray[i]?=some o->kd ks i=2->∀w',C w'->Kept (λb=>b∈Ds i) w0 w'->Ψ (λj=>an i j=true) w'->(∀j,k<=j->j<i->kd ks j=2->an i j=true->s j (V j) w')->VV P (Ds i) o (QE l.toArray V (Qp ks pL k i) a) (s i) w')/\
     ∀w',C w'->Φ w'->(∀i,k<=i->i<l.length->kd ks i=2->s i (V i) w')->T (QE l.toArray V (Qp ks pL k l.length) a) w':=λJ h=>by
    obtain ⟨K,H⟩:=N m (k+1) a Φ Ψ x q h V;have f:∀n,k<n->Qp ks pL k n=Qp ks pL (k+1) n:=λn M=>by rw [VF M,p,if_neg (by simpa using J)]
    refine ⟨λi L v g u=>?_,λw' z w d=>by rw [f _ t];exact H w' z w λi v=>d i (by omega)⟩
    rcases Nat.lt_or_eq_of_le v with d|d
    ·rw [f i d];exact λw' D A B F=>K i L (by omega) g u w' D A B λj Q=>F j (by omega)
    ·subst d;omega
   match c,h,p,skip with
   | 0,h,p,skip=>unfold Yc at h;exact skip (by omega) h
   | 1,h,p,skip=>unfold Yc at h;exact skip (by omega) h
   | 2,h,p,_=>
    unfold Yc at h;obtain ⟨K,H⟩:=N m (k+1) _ _ _ x q (h.2 (V k)) V;have f:∀n,k<n->QE l.toArray V (Qp ks pL k n) a=QE l.toArray V (Qp ks pL (k+1) n) (a.put o.dst (V k)):=λn M=>by
     rw [VF M,p,if_pos (by simp),Yi,y]
    refine ⟨λi L v g u=>?_,λw' z w d=>by rw [f _ t];exact H w' z ⟨w,d k (pA _) t p⟩ λi v=>d i (by omega)⟩
    rcases Nat.lt_or_eq_of_le v with d|d
    ·rw [f i d];exact λw' D A B F=>K i L (by omega) g u w' D A ⟨B,λe=>F k (pA _) d p e⟩ λj Q=>F j (by omega)
    ·subst d;rw [VG (pA _)];rw [E] at g;obtain rfl:=pE g;exact λw' D A B _=>h.1 w' D A B
   | c+3,h,p,skip=>unfold Yc at h;exact skip (by omega) h
theorem TC:∀(r:List Oper) (b:List Nat) (k:Nat),l.drop k=r->ks.drop k=b->b.length=r.length->Qd b r=(Qp ks pT k l.length).filterMap λi=>l.toArray[i]?:=by
 intro r;induction r with
 | nil=>
  intro b k h _ _;have n:l.length<=k:=by simpa using h
  rw [VG n];unfold Qd;rfl
 | cons o r p=>
  intro b k h j a;obtain ⟨m,g,f⟩:=Kd h;cases b with
  | nil=>simp at a
  | cons c b=>
   obtain ⟨q,d⟩:=Kc j;have e:=p b (k+1) g d (by simpa using a)
   rw [VF f,q]
   match c with
   | 0=>rw [if_neg (by simp)];unfold Qd;exact e
   | 1=>rw [if_neg (by simp)];unfold Qd;exact e
   | 2=>rw [if_neg (by simp)];unfold Qd;exact e
   | c+3=>rw [if_pos (by simp)];unfold Qd;simp only [List.filterMap_cons,m,e]
end
end
attribute [go_sem] OK Cn Fj
end
section
open Go.RowKit
section
variable {P:Program}{ops:Array Oper}{C:World->Prop}{ks:List Nat}
structure Sch (ops:Array Oper)(ks:List Nat)(anc:Nat->Nat->Prop):Prop where
 sel:∀(j:Nat) (o:Oper) cs b,ops[j]?=some o->o.op≠.select cs b
 len:ks.length=ops.size
 apart:Kb ops
 edges:∀(i:Nat) (o:Oper),ops[i]?=some o->∀e∈o.after,Region.binds .any e=true->e.on<i
 lower:∀i j,anc i j->j<i/\∃o,ops[i]?=some o/\∃e∈o.after,Region.binds .any e=true/\(e.on=j∨anc e.on j)
 looks:∀(i:Nat) (o:Oper),ops[i]?=some o->∀t∈o.looksAt ops,∀j,Xm ops j=some t->(anc i j/\(kd ks j<2∨3<=kd ks i∨(kd ks i=2/\kd ks j=2)))∨(kd ks i<3/\kd ks i≠1/\3<=kd ks j)
 tail:∀(i:Nat) (o:Oper),ops[i]?=some o->3<=kd ks i->∀j,j<ops.size->kd ks j=1∨(3<=kd ks j/\i<=j)∨anc i j
def ZT (b:Array Nat)(i j:Nat):Bool:=(b.getD i 0).testBit j
def Ag (ops:Array Oper)(ks:List Nat):Bool:=
 Region.noSelect ops&&ks.length==ops.size&&
 (List.range ops.size).all λi=>match ops[i]? with
  | none=>false
  | some o=>o.after.all (λe=>!Region.binds .any e||decide (e.on<i))&&
   (List.range ops.size).all λj=>
    (j==i||match o.dst with|none=>true|some d=>Xm ops j !=some d)&&
    (match Xm ops j with|none=>true|some d=>!(o.looksAt ops).contains d||(ZT (Region.before ops) i j&&(decide (kd ks j<2)||decide (3<=kd ks i)||(decide (kd ks i=2)&&decide (kd ks j=2))))||(decide (kd ks i<3)&&kd ks i !=1&&decide (3<=kd ks j)))&&
    (!ZT (Region.before ops) i j||(decide (j<i)&&o.after.any λe=>Region.binds .any e&&(e.on==j||ZT (Region.before ops) e.on j)))&&
    (decide (kd ks i<3)||kd ks j==1||(decide (3<=kd ks j)&&decide (i<=j))||ZT (Region.before ops) i j)
def N8 (ops:Array Oper)(ks:List Nat):Bool:=(List.range ops.size).all λi=>match ops[i]? with
  | none=>false
  | some o=>kd ks i !=2||o.guard.isNone
def AE (ops:Array Oper)(ks:List Nat):Bool:=Ag ops ks&&N8 ops ks
theorem TD (h:AE ops ks=true)(i:Nat)(o:Oper)(a:ops[i]?=some o)(b:kd ks i=2):o.guard=none:=by
 simp only [AE,N8,Bool.and_eq_true,List.all_eq_true,List.mem_range] at h;have:=h.2 i (Array.getElem?_eq_some_iff.1 a).1;rw [a] at this;simpa [b] using this
theorem dA (h:Ag ops ks=true):Sch ops ks (λi j=>i<ops.size/\j<ops.size/\ZT (Region.before ops) i j=true):=by
 simp only [Ag,Bool.and_eq_true,beq_iff_eq,List.all_eq_true,List.mem_range] at h;obtain ⟨⟨r,n⟩,p⟩:=h;have key:∀(i:Nat) (o:Oper),ops[i]?=some o->(o.after.all (λe=>!Region.binds .any e||decide (e.on<i))=true)/\∀j,j<ops.size->
   ((
    (j==i||match o.dst with|none=>true|some d=>Xm ops j !=some d)=true/\
    (match Xm ops j with|none=>true|some d=>!(o.looksAt ops).contains d||(ZT (Region.before ops) i j&&(decide (kd ks j<2)||decide (3<=kd ks i)||(decide (kd ks i=2)&&decide (kd ks j=2))))||(decide (kd ks i<3)&&kd ks i !=1&&decide (3<=kd ks j)))=true)/\
    (!ZT (Region.before ops) i j||(decide (j<i)&&o.after.any λe=>Region.binds .any e&&(e.on==j||ZT (Region.before ops) e.on j)))=true)/\
    (decide (kd ks i<3)||kd ks j==1||(decide (3<=kd ks j)&&decide (i<=j))||ZT (Region.before ops) i j)=true:=λi o b=>by
  have:=p i (Array.getElem?_eq_some_iff.1 b).1;rw [b] at this;simp only [Bool.and_eq_true,List.all_eq_true,List.mem_range] at this;exact ⟨this.1,this.2⟩
 have low:∀(i:Nat) (o:Oper),ops[i]?=some o->∀e∈o.after,Region.binds .any e=true->e.on<i:=λi o b e k g=>by
  have:=Array.all_eq_true_iff_forall_mem.1 (key i o b).1 e k;simpa [g] using this
 refine ⟨Region.noSelect_spec r,n,λi j d l hi c=>?_,low,λi j ⟨hi,c,q⟩=>?_,λi o b t ht j c=>?_,λi o b hk j c=>?_⟩
 ·have f:j<ops.size:=by
   unfold Xm at c;cases h:ops[j]? with
   | none=>rw [h] at c;cases c
   | some _=>exact (Array.getElem?_eq_some_iff.1 h).1
  cases b:ops[i]? with
  | none=>unfold Xm at hi;rw [b] at hi;cases hi
  | some o=>
   have m:o.dst=some d:=by unfold Xm at hi;rw [b] at hi;exact hi
   have:=((key i o b).2 j f).1.1.1;rw [m] at this;simp only [Bool.or_eq_true,beq_iff_eq,bne_iff_ne,ne_eq] at this;rcases this with e|e
   ·exact l e.symm
   ·exact e c
 ·have b:ops[i]?=some (ops[i]'hi):=Array.getElem?_eq_getElem hi;have a:=((key i _ b).2 j c).1.2;rw [q] at a;simp only [Bool.not_true,Bool.false_or,Bool.and_eq_true,decide_eq_true_eq] at a;obtain ⟨e,k,g⟩:=Array.any_eq_true'.1 a.2;simp only [Bool.and_eq_true,Bool.or_eq_true,beq_iff_eq] at g;have:=low i _ b e k g.1;exact ⟨a.1,_,b,e,k,g.1,g.2.imp id λh=>⟨by omega,c,h⟩⟩
 ·have f:j<ops.size:=by
   unfold Xm at c;cases h:ops[j]? with
   | none=>rw [h] at c;cases c
   | some _=>exact (Array.getElem?_eq_some_iff.1 h).1
  have a:=((key i o b).2 j f).1.1.2;rw [c] at a;have s:(o.looksAt ops).contains t=true:=by simpa using ht
  simp only [s,Bool.not_true,Bool.false_or,Bool.and_eq_true,Bool.or_eq_true,decide_eq_true_eq,bne_iff_ne,ne_eq] at a;rcases a with a|a
  ·exact .inl ⟨⟨(Array.getElem?_eq_some_iff.1 b).1,f,a.1⟩,or_assoc.1 a.2⟩
  ·exact .inr ⟨a.1.1,a.1.2,a.2⟩
 ·have a:=((key i o b).2 j c).2;simp only [Bool.or_eq_true,decide_eq_true_eq,beq_iff_eq,Bool.and_eq_true] at a;rcases a with ((a|a)|a)|a
  ·omega
  ·exact .inl a
  ·exact .inr (.inl a)
  ·exact .inr (.inr ⟨(Array.getElem?_eq_some_iff.1 b).1,c,a⟩)
abbrev up (listed:Array Bool)(i:Nat):Bool:=listed.getD i false
def N9 (ops:Array Oper)(listed:Array Bool):Prop:=∀(j:Nat) (o:Oper),up listed j=true->ops[j]?=some o->∀e∈o.after,Region.binds .any e=true->up listed e.on=true
variable {anc:Nat->Nat->Prop}
theorem Sch.looks1 (H:Sch ops ks anc)(b:ops[i]?=some o)(hk:kd ks i=1∨3<=kd ks i){t:Tmp}(ht:t∈o.looksAt ops)(a:Xm ops j=some t):anc i j/\(kd ks j<2∨3<=kd ks i):=by
 rcases H.looks i o b t ht j a with h|h
 ·exact ⟨h.1,by omega⟩
 ·omega
theorem Sch.anc_up (H:Sch ops ks anc)(m:N9 ops listed):∀(i:Nat) (o:Oper) (j:Nat),ops[i]?=some o->(∀e∈o.after,Region.binds .any e=true->up listed e.on=true)->anc i j->up listed j=true:=by
 intro i;induction i using Nat.strongRecOn with
 | _ i l=>
  intro o j f g k;obtain ⟨_,o',a,e,d,c,h⟩:=H.lower i j k;rw [f] at a;obtain rfl:=pE a;rcases h with h|h
  ·rw [<-h];exact g e d c
  ·obtain ⟨_,o2,b,_⟩:=H.lower _ _ h;exact l e.on (H.edges i o f e d c) o2 j b (m e.on o2 (g e d c) b) h
theorem YZ (a:i<listed.size):up (listed.setIfInBounds i true) j=if j=i then true else up listed j:=by
 unfold up;by_cases h:j=i
 ·subst h;simp [a]
 ·rw [if_neg h,getD_set_ne false (λe=>h e.symm)]
theorem N9.set (g:N9 ops listed)(m:i<listed.size)(k:ops[i]?=some o)(l:∀e∈o.after,Region.binds .any e=true->up listed e.on=true):N9 ops (listed.setIfInBounds i true):=by
 intro j n c a e d f;rw [YZ m] at c ⊢;by_cases h:e.on=i
 ·rw [if_pos h]
 ·rw [if_neg h];by_cases b:j=i
  ·subst b;rw [k] at a;obtain rfl:=pE a;exact l e d f
  ·rw [if_neg b] at c;exact g j n c a e d f
def D8 (n:Nat)(listed:Array Bool):Nat:=(List.range n).countP λi=>!up listed i
theorem MP (p q:Nat->Bool)(i:Nat)(k:p i=true)(m:q i=false)(c:∀j,j≠i->q j=p j):∀l:List Nat,l.Nodup->i∈l->l.countP p=l.countP q+1:=by
 intro l;induction l with
 | nil=>intro _ h;cases h
 | cons a l f=>
  intro d h;rw [List.nodup_cons] at d;by_cases b:a=i
  ·subst b;rw [List.countP_cons_of_pos k,List.countP_cons_of_neg (by rw [m];decide)]
   congr 1;exact List.countP_congr λj g=>by rw [c j (λe=>d.1 (e▸g))]
  ·have n:i∈l:=by
    rcases List.mem_cons.1 h with e|e
    ·exact absurd e.symm b
    ·exact e
   have:=f d.2 n;cases hp:p a with
   | true=>rw [List.countP_cons_of_pos hp,List.countP_cons_of_pos (by rw [c a b];exact hp),this]
   | false=>rw [List.countP_cons_of_neg (by rw [hp];decide),List.countP_cons_of_neg (by rw [c a b,hp];decide),this]
theorem Na {n:Nat}(hs:listed.size=n)(c:i<n)(a:up listed i=false):D8 n listed=D8 n (listed.setIfInBounds i true)+1:=by
 refine MP _ _ i (by rw [a];rfl) ?_ (λj b=>?_) _ List.nodup_range (List.mem_range.2 c)
 ·rw [YZ (by omega),if_pos rfl];rfl
 ·rw [YZ (by omega),if_neg b]
theorem Dx {n:Nat}(h:D8 n listed=0)(a:i<n):up listed i=true:=by
 have:=List.countP_eq_zero.1 h i (List.mem_range.2 a);simpa using this
theorem Sch.ready_ne (H:Sch ops ks anc)(hs:listed.size=ops.size)(h:D8 ops.size listed≠0):Region.ready .any ops listed≠[]:=by
 intro f;apply h;have b:∀i,i<ops.size->up listed i=true:=by
  intro i;induction i using Nat.strongRecOn with
  | _ i c=>
   intro a;cases hu:up listed i with
   | true=>rfl
   | false=>
    exfalso;have:i∈Region.ready .any ops listed:=mem_ready.2 ⟨by rw [Du (by omega)];exact hu,_,Array.getElem?_eq_getElem a,λe d j=>by
     have g:=H.edges i _ (Array.getElem?_eq_getElem a) e d j;exact c _ g (by omega)⟩
    rw [f] at this;cases this
 exact List.countP_eq_zero.2 λi a=>by rw [b i (List.mem_range.1 a)];decide
theorem PV (hs:listed.size=ops.size)(h:D8 ops.size listed=0):Region.ready .any ops listed=[]:=by
 cases hr:Region.ready .any ops listed with
 | nil=>rfl
 | cons i r=>
  exfalso;obtain ⟨a,o,b,_⟩:=mem_ready.1 (show i∈Region.ready .any ops listed by rw [hr];simp)
  have c:=(Array.getElem?_eq_some_iff.1 b).1;rw [Du (by omega)] at a
  have:=Dx h c;rw [show up listed i=listed.getD i false from rfl,a] at this;cases this
theorem GV {p:Nat->Bool}{k n:Nat}(h1:k<=i)(h2:i<n)(a:p (kd ks i)=true):Qp ks p k n=Qp ks p k i++i::Qp ks p (i+1) n:=by
 unfold Qp;have e:List.range' k (n - k)=List.range' k (i - k)++List.range' i (n - i):=by
  rw [show n - k=(i - k)+(n - i) by omega,<-List.range'_append_1]
  congr 2;omega
 rw [e,List.filter_append,show n - i=(n - (i+1))+1 by omega,List.range'_succ,List.filter_cons,if_pos a]
theorem ID (V:Nat->Value){x:Option Tmp}(S:List Nat):∀a,(∀j∈S,∀d,x=some d->Xm ops j≠some d)->(QE ops V S a).put x v=QE ops V S (a.put x v):=by
 induction S with
 | nil=>intro a _;rfl
 | cons i S c=>
  intro a h;rw [Yi,Yi,c _ (λj f=>h j (List.mem_cons_of_mem _ f)),Act.put_comm a v (V i) (λd b e=>h i (by simp) d b e)]
theorem PX (V:Nat->Value)(g:List Deferred)(S:List Nat):∀a,({ QE ops V S a with defers:=g } :Act)=QE ops V S { a with defers:=g } :=by
 induction S with
 | nil=>intro a;rfl
 | cons i S b=>
  intro a;rw [Yi,Yi,b];congr 1;cases Xm ops i<;>rfl
theorem TE {V:Nat->Value}{S:List Nat}{w:World}{X K K':Act->World->Prop}{Q:Exit->Act->World->Prop}(b:execOp (QE ops V S a).eval o=execOp a.eval o)(k:∀j∈S,∀d,o.dst=some d->Xm ops j≠some d)
  (l:∀g v w',K (QE ops V S (({ a with defers:=g } :Act).put o.dst v)) w'->K' (({ a with defers:=g } :Act).put o.dst v) w')
  (h:o.wp P (QE ops V S a) w K (Exit.then X (λ_ _ _=>False))):o.wp P a w K' Q:=by
 have i:∀v w',K ((QE ops V S a).put o.dst v) w'->K' (a.put o.dst v) w':=λv w' h=>l a.defers v w' (by rw [<-ID V S a k];exact h)
 unfold Oper.wp at h ⊢;rw [b] at h;generalize (execOp a.eval o).run P w=r at *;cases r with
 | ok n w'=>
  cases n<;>simp only [Oper.upon] at h ⊢
  case value u=>exact i _ _ h
  case skip=>exact i _ _ h
  case defer d=>
   refine l (d::a.defers) undef w' ?_;rw [<-ID V S _ k,<-PX];rw [Dv] at h;exact h
  case enter f args=>
   refine h.mono λe w'' b=>?_
   cases e with
   | returned v=>exact i _ _ b
   | panicked c=>exact b.elim
   | outgrown=>obtain ⟨_,_,m⟩:=b;exact m.elim
  case row r args=>exact λc cs=>let ⟨v,w'',hx,hs⟩:=h c cs;⟨v,w'',i _ _ hx,hs⟩
 | halt x w'=>cases x<;>simp only [Oper.upon] at h ⊢ <;>first|exact h.elim|exact h
variable {Q:Exit->Act->World->Prop}{V:Nat->Value}{a0:Act}
abbrev V4 (ks:List Nat)(n:Nat):List Nat:=Qp ks pQ 0 n++Qp ks pL 0 n
abbrev pF (k:Nat):Bool:=k==1
theorem VH {n:Nat} :i∈V4 ks n↔i<n/\kd ks i<3:=by
 unfold V4;rw [List.mem_append,QU,QU];simp only [pQ,pL,decide_eq_true_eq,beq_iff_eq];omega
theorem KA (h:¬t<a.tmps.size):a.tmps.getD t undef=undef:=by simp [h]
theorem Sch.phase2 (H:Sch ops ks anc)(hG:∀(i:Nat) (o:Oper),ops[i]?=some o->kd ks i=1->UO P ops o (V i) (QE ops V (Qp ks pQ 0 i) a0)):
  ∀(f:Nat) (listed:Array Bool) (cur:Act) (w:World),listed.size=ops.size->N9 ops listed->D8 ops.size listed=f->(∀i,i<ops.size->kd ks i=0∨kd ks i=2->up listed i=true)->
   (∀t,(∀j,3<=kd ks j->Xm ops j≠some t)->cur.tmps.getD t undef=(QE ops V ((V4 ks ops.size).filter (up listed)) a0).tmps.getD t undef)->cur.tmps.size=a0.tmps.size->
   wpList P ops (Exit.then (λa w=>Q .normal a w) (λ_ _ _=>False)) (((Qp ks pT 0 ops.size).filter λi=>!up listed i).filterMap λi=>ops[i]?) (QE ops V ((Qp ks pF 0 ops.size).filter λi=>!up listed i) cur) w->
   Go.wpAny P .any ops Q f listed cur w:=by
 intro f;induction f with
 | zero=>
  intro listed cur w U Y X hz r l k;refine ⟨PV U X,?_⟩;have e:∀p:Nat->Bool,((Qp ks p 0 ops.size).filter λi=>!up listed i)=[]:=λp=>List.filter_eq_nil_iff.2 λi hi=>by
   rw [Dx X (QU.1 hi).1.2];decide
  rw [e,e] at k;exact k
 | succ f ih=>
  intro listed cur w U Y X hz r l k;refine ⟨λhr=>absurd hr (H.ready_ne U (by omega)),λi hi=>?_⟩
  obtain ⟨T,o,x,he⟩:=mem_ready.1 hi;have u:=(Array.getElem?_eq_some_iff.1 x).1;rw [Du (by omega)] at T
  have c:Xm ops i=o.dst:=by unfold Xm;rw [x];rfl
  have hkz:¬(kd ks i=0∨kd ks i=2):=λh=>by
   have:=hz i u h;rw [show up listed i=listed.getD i false from rfl,T] at this;cases this
  have I:∀j,anc i j->up listed j=true:=λj=>H.anc_up Y i o j x he
  have M:=Y.set (by omega) x he
  have F:(listed.setIfInBounds i true).size=ops.size:=by simp [U]
  have L:D8 ops.size (listed.setIfInBounds i true)=f:=by have:=Na U u T;omega
  have N:∀j,j<ops.size->kd ks j=0∨kd ks j=2->up (listed.setIfInBounds i true) j=true:=λj b h=>by
   rw [YZ (by omega)];split
   ·rfl
   ·exact hz j b h
  unfold wpOp;rw [x];dsimp only;by_cases J:kd ks i=1
  ·
   have D:AA ops o (QE ops V (Qp ks pQ 0 i) a0) cur:=λt ht=>by
    rw [r t λj b e=>by have:=(H.looks1 x (.inl J) ht e).2;omega]
    refine Uu H.apart λj b=>?_
    obtain ⟨ha,hk2⟩:=H.looks1 x (.inl J) ht b;have n:=I j ha;have m:=(H.lower i j ha).1;refine ⟨⟨λ_=>List.mem_filter.2 ⟨VH.2 ⟨by omega,by omega⟩,n⟩,λ_=>QU.2 ⟨⟨pC _,m⟩,by simp [pQ];omega⟩⟩,λ_=>rfl⟩
   have hy:=UO.alike (H.sel i o · · x) D (by rw [XU,l]) (hG i o x J)
   have S:wpList P ops (Exit.then (λa w=>Q .normal a w) (λ_ _ _=>False)) (((Qp ks pT 0 ops.size).filter λj=>!up (listed.setIfInBounds i true) j).filterMap λi=>ops[i]?)
     (QE ops V ((Qp ks pF 0 ops.size).filter λj=>!up (listed.setIfInBounds i true) j) (cur.put o.dst (V i))) w:=by
    have e1:((Qp ks pT 0 ops.size).filter λj=>!up (listed.setIfInBounds i true) j)=(Qp ks pT 0 ops.size).filter λj=>!up listed j:=List.filter_congr λj b=>by
     have:=(QU.1 b).2;simp only [pT,decide_eq_true_eq] at this;rw [YZ (by omega),if_neg (λe=>by subst e;omega)]
    have Z:QE ops V ((Qp ks pF 0 ops.size).filter λj=>!up (listed.setIfInBounds i true) j) (cur.put o.dst (V i))=QE ops V ((Qp ks pF 0 ops.size).filter λj=>!up listed j) cur:=by
     rw [<-c,<-Yi];refine VE H.apart λj=>⟨?_,λ_=>rfl⟩
     simp only [List.mem_cons,List.mem_filter,Bool.not_eq_true',QU,pF,beq_iff_eq];rw [YZ (by omega)]
     constructor
     ·rintro (rfl|⟨n,m⟩)
      ·exact ⟨⟨⟨pC _,u⟩,J⟩,T⟩
      ·by_cases z:j=i
       ·rw [if_pos z] at m;cases m
       ·rw [if_neg z] at m;exact ⟨n,m⟩
     ·rintro ⟨n,m⟩;by_cases z:j=i
      ·exact .inl z
      ·exact .inr ⟨n,by rw [if_neg z];exact m⟩
    rw [e1,Z];exact k
   have y:∀t,(∀j,3<=kd ks j->Xm ops j≠some t)->(cur.put o.dst (V i)).tmps.getD t undef=(QE ops V ((V4 ks ops.size).filter (up (listed.setIfInBounds i true))) a0).tmps.getD t undef:=λt ht=>by
    have W:i∈(V4 ks ops.size).filter (up (listed.setIfInBounds i true)):=List.mem_filter.2 ⟨VH.2 ⟨u,by omega⟩,by rw [YZ (by omega),if_pos rfl]⟩
    by_cases O:o.dst=some t
    ·by_cases B:t<cur.tmps.size
     ·rw [O,N6 _ _ B,IC H.apart V (c.trans O) _ a0 (l▸B) W]
     ·have n:¬t<(cur.put o.dst (V i)).tmps.size:=by rw [Af];exact B
      have m:¬t<(QE ops V ((V4 ks ops.size).filter (up (listed.setIfInBounds i true))) a0).tmps.size:=by rw [XU,<-l];exact B
      rw [KA n,KA m]
    ·rw [Ge _ _ O,r t ht];refine Uu H.apart λj b=>⟨?_,λ_=>rfl⟩
     rw [List.mem_filter,List.mem_filter,YZ (by omega),if_neg (λe=>by subst e;rw [c] at b;exact O b)]
   rcases hy with ⟨R,hv⟩|⟨R,hv⟩
   ·rw [if_pos R];exact .inl (PU (hv w) (ih _ _ w F M L N y (by rw [Af,l]) S))
   ·rw [if_neg (by rw [R];decide),<-hv]
    exact ih _ _ w F M L N y (by rw [Af,l]) S
  ·
   have C:3<=kd ks i:=by omega
   have K:∀q:Nat->Bool,q i=true->(∀j,j<i->3<=kd ks j->q j=false)->((Qp ks pT 0 ops.size).filter q)=i::(Qp ks pT (i+1) ops.size).filter q:=λq n m=>by
    rw [GV (pC i) u (by simp [pT];omega),List.filter_append,List.filter_cons,if_pos n,List.filter_eq_nil_iff.2,List.nil_append]
    intro j b;obtain ⟨G,A⟩:=QU.1 b;simp only [pT,decide_eq_true_eq] at A;rw [m j G.2 A];decide
   have s:∀j,j<i->3<=kd ks j->up listed j=true:=λj b J=>by
    rcases H.tail i o x C j (by omega) with h|h|h
    ·omega
    ·omega
    ·exact I j h
   rw [K (λj=>!up listed j) (by rw [show up listed i=listed.getD i false from rfl,T];rfl) (λj b J=>by rw [s j b J];rfl),List.filterMap_cons,x] at k
   dsimp only at k;have hS:∀j∈(Qp ks pF 0 ops.size).filter (λj=>!up listed j),∀d,o.dst=some d->Xm ops j≠some d:=λj b d O e=>by
    obtain ⟨n,_⟩:=List.mem_filter.1 b;have m:=(QU.1 n).2;simp only [pF,beq_iff_eq] at m;exact H.apart i j d (λe'=>by subst e';omega) (c.trans O) e
   have D:AA ops o (QE ops V ((Qp ks pF 0 ops.size).filter λj=>!up listed j) cur) cur:=λt ht=>by
    refine Dw V _ _ λj b e=>?_
    obtain ⟨_,n⟩:=List.mem_filter.1 b;rw [I j (H.looks1 x (.inr C) ht e).1] at n;cases n
   have E:∀(g:List Deferred) (v:Value) (w':World),wpList P ops (Exit.then (λa w=>Q .normal a w) (λ_ _ _=>False)) (((Qp ks pT (i+1) ops.size).filter λj=>!up listed j).filterMap λi=>ops[i]?)
     (QE ops V ((Qp ks pF 0 ops.size).filter λj=>!up listed j) (({ cur with defers:=g } :Act).put o.dst v)) w'->Go.wpAny P .any ops Q f (listed.setIfInBounds i true) (({ cur with defers:=g } :Act).put o.dst v) w':=λg v w' h=>by
    refine ih _ _ w' F M L N (λt ht=>?_) (by rw [Af];exact l) ?_
    ·rw [Ge _ _ (λe=>ht i C (c.trans e))]
     show cur.tmps.getD t undef=_;rw [r t ht];refine Uu H.apart λj b=>⟨?_,λ_=>rfl⟩
     rw [List.mem_filter,List.mem_filter,YZ (by omega),if_neg (λe=>by subst e;exact ht j C b)]
    ·have e1:((Qp ks pT 0 ops.size).filter λj=>!up (listed.setIfInBounds i true) j)=(Qp ks pT (i+1) ops.size).filter λj=>!up listed j:=by
      rw [GV (pC i) u (by simp [pT];omega),List.filter_append,List.filter_cons,if_neg (by rw [YZ (by omega),if_pos rfl];decide),List.filter_eq_nil_iff.2,List.nil_append]
      ·exact List.filter_congr λj b=>by
        have:=(QU.1 b).1;rw [YZ (by omega),if_neg (by omega)]
      ·intro j b;obtain ⟨G,A⟩:=QU.1 b;simp only [pT,decide_eq_true_eq] at A;rw [YZ (by omega),if_neg (by omega),s j G.2 A];decide
     have Z:((Qp ks pF 0 ops.size).filter λj=>!up (listed.setIfInBounds i true) j)=(Qp ks pF 0 ops.size).filter λj=>!up listed j:=List.filter_congr λj b=>by
      have:=(QU.1 b).2;simp only [pF,beq_iff_eq] at this;rw [YZ (by omega),if_neg (λe=>by subst e;omega)]
     rw [e1,Z];exact h
   simp only [wpList] at k;rw [UN D (by rw [XU])] at k
   by_cases R:Region.wanted o (yielded ops cur.tmps)=true
   ·rw [if_pos R] at k ⊢;rcases k with k|⟨_,_,_,hf⟩
    ·exact .inl (TE (Bh (H.sel i o · · x) D) hS E k)
    ·exact hf.elim
   ·rw [if_neg R] at k ⊢;rw [ID V _ _ hS] at k;exact E cur.defers undef w k
def Ah (P:Program)(R:XO)(w:World):Result Next->Prop
 | .ok (.value u) w'=>R u w'
 | .ok .skip w'=>R undef w'
 | .ok (.enter f args) w'=>w'=w/\Calls P f args w (λe w''=>∃u,e=.returned u/\R u w'')
 | _=>False
def Zp (P:Program)(o:Oper)(a:Act)(R:XO)(w:World):Prop:=Ah P R w ((execOp a.eval o).run P w)
theorem KB {w:World}{R:XO}{K:Act->World->Prop}{Q':Exit->Act->World->Prop}(h:Zp P o a R w)(b:∀v w',R v w'->K (a.put o.dst v) w'):o.wp P a w K Q':=by
 unfold Zp at h;unfold Oper.wp;generalize (execOp a.eval o).run P w=r at *;cases r with
 | ok j w'=>
  cases j<;>simp only [Ah] at h<;>simp only [Oper.upon]
  case value u=>exact b _ _ h
  case skip=>exact b _ _ h
  case enter f args=>
   obtain ⟨c,i⟩:=h;rw [c];exact i.mono λe w'' ⟨u,d,g⟩=>by subst d;exact b _ _ g
 | halt x w'=>simp only [Ah] at h
theorem Zp.alike {R:XO}{w:World}{b:Act}(c:∀cs b,o.op≠.select cs b)(h:AA ops o a b)(hy:Zp P o a R w):Zp P o b R w:=by
 unfold Zp at *
 rwa [<-Bh c h]
theorem Zp.mono {R c:XO}{w:World}(b:∀v w,R v w->c v w)(h:Zp P o a R w):Zp P o a c w:=by
 unfold Zp at *;generalize (execOp a.eval o).run P w=r at *;cases r with
 | ok i w'=>
  cases i<;>simp only [Ah] at h ⊢
  case value u=>exact b _ _ h
  case skip=>exact b _ _ h
  case enter f args=>exact ⟨h.1,h.2.mono λe w'' ⟨u,d,g⟩=>⟨u,d,b _ _ g⟩⟩
 | halt x w'=>simp only [Ah] at h
def AB (P:Program)(ops:Array Oper)(o:Oper)(a:Act)(R:XO)(w:World):Prop:=
 (Region.wanted o (yielded ops a.tmps)=true/\Zp P o a R w)∨(Region.wanted o (yielded ops a.tmps)=false/\R undef w)
theorem AB.alike {R:XO}{w:World}{b:Act}(e:∀cs b,o.op≠.select cs b)(h:AA ops o a b)(f:a.tmps.size=b.tmps.size)(d:AB P ops o a R w):AB P ops o b R w:=by
 unfold AB at *;rw [<-UN h f];exact d.imp (λc=>⟨c.1,c.2.alike e h⟩) id
def upd (vs:Nat->Value)(i:Nat)(v:Value):Nat->Value:=λj=>if j=i then v else vs j
theorem Yu (a:Nat->Value)(i:Nat)(v:Value):upd a i v i=v:=by unfold upd;rw [if_pos rfl]
theorem XE (h:j≠i):upd vs i v j=vs j:=by unfold upd;rw [if_neg h]
abbrev UP:=(Nat->Prop)->(Nat->Value)->World->Prop
def Zg (S:Nat->Prop)(i:Nat):Nat->Prop:=λj=>j=i∨S j
def Yq (P:Program)(ops:Array Oper)(C:World->Prop)(I:UP)(an:Nat->Nat->Bool)(ks0:List Nat)(T:Act->World->Prop):List Nat->List Oper->Nat->Act->(Nat->Value)->Prop
 | _,[],n,a,vs=>∀V w',C w'->(∀j,j<n->kd ks0 j=2->V j=vs j)->I (λj=>j<n/\kd ks0 j=2) V w'->T a w'
 | [],_::_,_,_,_=>False
 | 0::ks,_::l,i,a,vs=>Yq P ops C I an ks0 T ks l (i+1) a vs
 | 1::ks,_::l,i,a,vs=>Yq P ops C I an ks0 T ks l (i+1) a vs
 | 2::ks,o::l,i,a,vs=>(∀S V w',C w'->(∀j,j<i->kd ks0 j=2->V j=vs j)->(∀j,j<i->kd ks0 j=2->an i j=true->S j)->¬S i->I S V w'->AB P ops o a (λv w=>C w/\I (Zg S i) (upd V i v) w) w')/\∀v,Yq P ops C I an ks0 T ks l (i+1) (a.put o.dst v) (upd vs i v)
 | (_+3)::ks,_::l,i,a,vs=>Yq P ops C I an ks0 T ks l (i+1) a vs
section
variable {l:List Oper}
theorem PY {I:UP}{T:Act->World->Prop} :∀(r:List Oper) (m:List Nat) (k:Nat) (a:Act) (x:Nat->Value),l.drop k=r->ks.drop k=m->k<=l.length->Yq P l.toArray C I an ks T m r k a x->
  ∀V:Nat->Value,(∀j,j<k->kd ks j=2->V j=x j)->(∀i o,k<=i->l.toArray[i]?=some o->kd ks i=2->∀S w',C w'->(∀j,j<i->kd ks j=2->an i j=true->S j)->¬S i->I S V w'->AB P l.toArray o (QE l.toArray V (Qp ks pL k i) a) (λv w=>C w/\I (Zg S i) (upd V i v) w) w')/\
   ∀w',C w'->I (λj=>j<l.length/\kd ks j=2) V w'->T (QE l.toArray V (Qp ks pL k l.length) a) w':=by
 intro r;induction r with
 | nil=>
  intro m k a x K _ F h V f;have R:k=l.length:=by
   have:l.length<=k:=by simpa using K
   omega
  refine ⟨λi o E D=>?_,λw' B y=>?_⟩
  ·have:=(Array.getElem?_eq_some_iff.1 D).1;simp at this;omega
  ·rw [VG (Nat.le_of_eq R.symm)];unfold Yq at h;subst R;exact h V w' B f y
 | cons o r U=>
  intro m k a x K G F h V f;obtain ⟨D,z,g⟩:=Kd K;have A:Xm l.toArray k=o.dst:=by unfold Xm;rw [D];rfl
  cases m with
  | nil=>exact h.elim
  | cons c m=>
   obtain ⟨u,p⟩:=Kc G;have skip:c≠2->Yq P l.toArray C I an ks T m r (k+1) a x->(∀i o,k<=i->l.toArray[i]?=some o->kd ks i=2->∀S w',C w'->(∀j,j<i->kd ks j=2->an i j=true->S j)->¬S i->I S V w'->AB P l.toArray o (QE l.toArray V (Qp ks pL k i) a) (λv w=>C w/\I (Zg S i) (upd V i v) w) w')/\
     ∀w',C w'->I (λj=>j<l.length/\kd ks j=2) V w'->T (QE l.toArray V (Qp ks pL k l.length) a) w':=λL h=>by
    obtain ⟨M,J⟩:=U m (k+1) a x z p g h V (λj Q t=>f j (by rcases Nat.lt_or_eq_of_le (Nat.le_of_lt_succ Q) with e|e;exact e;subst e;omega) t)
    have b:∀n,k<n->Qp ks pL k n=Qp ks pL (k+1) n:=λn O=>by rw [VF O,u,if_neg (by simpa using L)]
    refine ⟨λi N E d q=>?_,λw' B y=>by rw [b _ g];exact J w' B y⟩
    rcases Nat.lt_or_eq_of_le E with s|s
    ·rw [b i s];exact M i N (by omega) d q
    ·subst s;omega
   match c,h,u,skip with
   | 0,h,u,skip=>unfold Yq at h;exact skip (by omega) h
   | 1,h,u,skip=>unfold Yq at h;exact skip (by omega) h
   | 2,h,u,_=>
    unfold Yq at h;obtain ⟨M,J⟩:=U m (k+1) _ _ z p g (h.2 (V k)) V (λj Q t=>by rcases Nat.lt_or_eq_of_le (Nat.le_of_lt_succ Q) with e|e;exact (f j e t).trans (XE (by omega)).symm;subst e;exact (Yu _ _ _).symm)
    have b:∀n,k<n->QE l.toArray V (Qp ks pL k n) a=QE l.toArray V (Qp ks pL (k+1) n) (a.put o.dst (V k)):=λn O=>by
     rw [VF O,u,if_pos (by simp),Yi,A]
    refine ⟨λi N E d q=>?_,λw' B y=>by rw [b _ g];exact J w' B y⟩
    rcases Nat.lt_or_eq_of_le E with s|s
    ·rw [b i s];exact M i N (by omega) d q
    ·subst s;rw [VG (pA _)];rw [D] at d;obtain rfl:=pE d;exact λS w' X W Y H=>h.1 S V w' X f W Y H
   | c+3,h,u,skip=>unfold Yq at h;exact skip (by omega) h
end
def UQ (ks:List Nat)(n:Nat)(listed:Array Bool):Nat->Prop:=λj=>j<n/\kd ks j=2/\up listed j=true
theorem PZ {n:Nat}(a:i<listed.size)(b:kd ks i≠2):UQ ks n (listed.setIfInBounds i true)=UQ ks n listed:=by
 funext j;unfold UQ;rw [YZ a];by_cases h:j=i
 ·subst h;simp [b]
 ·rw [if_neg h]
theorem TF {n:Nat}(b:i<listed.size)(c:i<n)(a:kd ks i=2):UQ ks n (listed.setIfInBounds i true)=Zg (UQ ks n listed) i:=by
 funext j;unfold UQ Zg;rw [YZ b];by_cases h:j=i
 ·subst h;simp [a,c]
 ·rw [if_neg h];simp [h]
theorem TG {n:Nat}(h:∀i,i<n->kd ks i=2->up listed i=true):UQ ks n listed=λj=>j<n/\kd ks j=2:=by
 funext j;unfold UQ;exact propext ⟨λh=>⟨h.1,h.2.1⟩,λa=>⟨a.1,a.2,h j a.1 a.2⟩⟩
theorem Sch.phase1I (H:Sch ops ks anc){Vq:Nat->Value}{I:UP}(aa:∀i j,an i j=true->i<ops.size->j<ops.size->anc i j)
  (hC:∀w w',C w->Below w.heap.size w w'->C w') (hR:∀S V w w',C w->I S V w->Below w.heap.size w w'->I S V w')
  (hG:∀(i:Nat) (o:Oper),ops[i]?=some o->kd ks i<2->Jp P ops C (kd ks i) o (Vq i) (QE ops Vq (Qp ks pQ 0 i) a0))
  (hL:∀V:Nat->Value,(∀(i:Nat) (o:Oper),ops[i]?=some o->kd ks i=2->∀S w',C w'->(∀j,j<i->kd ks j=2->an i j=true->S j)->¬S i->I S V w'->AB P ops o (QE ops V (Qp ks pL 0 i) (QE ops Vq (Qp ks pQ 0 ops.size) a0)) (λv w=>C w/\I (Zg S i) (upd V i v) w) w')/\
   ∀w',C w'->I (λj=>j<ops.size/\kd ks j=2) V w'->wpList P ops (Exit.then (λa w=>Q .normal a w) (λ_ _ _=>False)) ((Qp ks pT 0 ops.size).filterMap λi=>ops[i]?) (QE ops V (Qp ks pL 0 ops.size) (QE ops Vq (Qp ks pQ 0 ops.size) a0)) w'):
  ∀(f:Nat) (listed:Array Bool) (V:Nat->Value) (w:World),listed.size=ops.size->N9 ops listed->D8 ops.size listed=f->(∀i,kd ks i<2->V i=Vq i)->(∀i,3<=kd ks i->up listed i=false)->C w->
   I (UQ ks ops.size listed) V w->Go.wpAny P .any ops Q f listed (QE ops V ((V4 ks ops.size).filter (up listed)) a0) w:=by
 intro f;induction f with
 | zero=>
  intro listed V w D Y Z l O q d;refine H.phase2 (V:=V) (a0:=a0) (λi o k K=>?_) 0 listed _ w D Y Z (λi E _=>Dx Z E) (λt _=>rfl) (XU _ _ _) ?_
  ·have:=hG i o k (by omega)
   rw [show QE ops V (Qp ks pQ 0 i) a0=QE ops Vq (Qp ks pQ 0 i) a0 from VE H.apart λj=>⟨Iff.rfl,λh=>l j (by have:=(QU.1 h).2;simpa [pQ] using this)⟩,l i (by omega)]
   unfold Jp at this
   rwa [if_neg (by omega)] at this
  ·exact finish listed V w D l O q d (λi E _=>Dx Z E)
 | succ f ih=>
  intro listed V w D Y Z l O q d;by_cases c:∀i,i<ops.size->kd ks i=0∨kd ks i=2->up listed i=true
  ·refine H.phase2 (V:=V) (a0:=a0) (λi o k K=>?_) (f+1) listed _ w D Y Z c (λt _=>rfl) (XU _ _ _) ?_
   ·have:=hG i o k (by omega)
    rw [show QE ops V (Qp ks pQ 0 i) a0=QE ops Vq (Qp ks pQ 0 i) a0 from VE H.apart λj=>⟨Iff.rfl,λh=>l j (by have:=(QU.1 h).2;simpa [pQ] using this)⟩,l i (by omega)]
    unfold Jp at this
    rwa [if_neg (by omega)] at this
   ·exact finish listed V w D l O q d c
  ·refine ⟨λhr=>absurd hr (H.ready_ne D (by omega)),λi E=>?_⟩
   obtain ⟨N,o,k,he⟩:=mem_ready.1 E;have x:=(Array.getElem?_eq_some_iff.1 k).1;rw [Du (by omega)] at N
   have W:Xm ops i=o.dst:=by unfold Xm;rw [k];rfl
   have L:∀j,anc i j->up listed j=true:=λj=>H.anc_up Y i o j k he
   have ab:kd ks i<3:=by
    rcases Nat.lt_or_ge (kd ks i) 3 with h|h
    ·exact h
    ·exfalso;apply c;intro j g K;rcases H.tail i o k h j g with b|b|b
     ·omega
     ·omega
     ·exact L j b
   have F:=Y.set (by omega) k he
   have y:(listed.setIfInBounds i true).size=ops.size:=by simp [D]
   have A:D8 ops.size (listed.setIfInBounds i true)=f:=by have:=Na D x N;omega
   have B:∀j,3<=kd ks j->up (listed.setIfInBounds i true) j=false:=λj g=>by
    rw [YZ (by omega),if_neg (λe=>by subst e;omega)];exact O j g
   have z:∀(R:Nat->Value) (v:Value),(∀j,j≠i->R j=V j)->R i=v->(QE ops V ((V4 ks ops.size).filter (up listed)) a0).put o.dst v=QE ops R ((V4 ks ops.size).filter (up (listed.setIfInBounds i true))) a0:=λR v b J=>by
    have e:(QE ops V ((V4 ks ops.size).filter (up listed)) a0).put o.dst v=QE ops R ((V4 ks ops.size).filter (up listed)++[i]) a0:=by
     rw [Fi,Yi,W,J,show QE ops R ((V4 ks ops.size).filter (up listed)) a0=QE ops V ((V4 ks ops.size).filter (up listed)) a0 from VE H.apart λj=>⟨Iff.rfl,λh=>b j (λe=>by subst e;exact absurd ((List.mem_filter.1 h).2.symm.trans N) (by decide))⟩]
     rfl
    rw [e];refine VE H.apart λj=>⟨?_,λ_=>rfl⟩
    rw [List.mem_append,List.mem_filter,List.mem_filter,List.mem_singleton,YZ (by omega),VH]
    constructor
    ·rintro (⟨r,h4⟩|rfl)
     ·exact ⟨r,by split<;>first|rfl|exact h4⟩
     ·exact ⟨⟨x,ab⟩,by rw [if_pos rfl]⟩
    ·rintro ⟨r,h4⟩;by_cases X:j=i
     ·exact .inr X
     ·rw [if_neg X] at h4;exact .inl ⟨r,h4⟩
   have p:∀t∈o.looksAt ops,∀j,Xm ops j=some t->(up listed j=true/\j<i/\(kd ks j<2∨(kd ks i=2/\kd ks j=2)))∨3<=kd ks j:=λt ht j g=>by
    rcases H.looks i o k t ht j g with ⟨b,J⟩|b
    ·exact .inl ⟨L j b,(H.lower i j b).1,by omega⟩
    ·exact .inr b.2.2
   unfold wpOp;rw [k];dsimp only;by_cases K:kd ks i<2
   ·have G:AA ops o (QE ops Vq (Qp ks pQ 0 i) a0) (QE ops V ((V4 ks ops.size).filter (up listed)) a0):=λt ht=>by
     refine Uu H.apart λj g=>?_
     rcases p t ht j g with ⟨b,J,r⟩|r
     ·exact ⟨⟨λ_=>List.mem_filter.2 ⟨VH.2 ⟨by omega,by omega⟩,b⟩,λ_=>QU.2 ⟨⟨pC _,J⟩,by simp [pQ];omega⟩⟩,λ_=>(l j (by omega)).symm⟩
     ·exact ⟨⟨λh=>(by have:=(QU.1 h).2;simp [pQ] at this;omega),λh=>(by have:=(VH.1 (List.mem_filter.1 h).1).2;omega)⟩,λh=>(by have:=(QU.1 h).2;simp [pQ] at this;omega)⟩
    have s:=hG i o k K;have M:UK P ops C o (V i) (QE ops V ((V4 ks ops.size).filter (up listed)) a0):=by
     rw [l i K];unfold Jp at s;by_cases hz:kd ks i=0
     ·rw [if_pos hz] at s;exact UK.alike (H.sel i o · · k) G (by rw [XU,XU]) s
     ·rw [if_neg hz] at s;exact UK.alike (H.sel i o · · k) G (by rw [XU,XU]) s.gives
    have u:UQ ks ops.size (listed.setIfInBounds i true)=UQ ks ops.size listed:=PZ (by omega) (by omega)
    rcases M with ⟨m,T⟩|⟨m,T⟩
    ·rw [if_pos m];refine .inl (MM (T w q) λw' hb=>?_)
     rw [z V (V i) (λ_ _=>rfl) rfl]
     exact ih _ V w' y F A l B (hC _ _ q hb) (by rw [u];exact hR _ _ _ _ q d hb)
    ·rw [if_neg (by rw [m];decide),<-T,z V (V i) (λ_ _=>rfl) rfl]
     exact ih _ V w y F A l B q (by rw [u];exact d)
   ·have U:kd ks i=2:=by omega
    have G:AA ops o (QE ops V (Qp ks pL 0 i) (QE ops Vq (Qp ks pQ 0 ops.size) a0)) (QE ops V ((V4 ks ops.size).filter (up listed)) a0):=λt ht=>by
     rw [show QE ops Vq (Qp ks pQ 0 ops.size) a0=QE ops V (Qp ks pQ 0 ops.size) a0 from VE H.apart λj=>⟨Iff.rfl,λh=>(l j (by have:=(QU.1 h).2;simpa [pQ] using this)).symm⟩,<-Fi]
     refine Uu H.apart λj g=>⟨?_,λ_=>rfl⟩
     rcases p t ht j g with ⟨b,J,r⟩|r
     ·refine ⟨λ_=>List.mem_filter.2 ⟨VH.2 ⟨by omega,by omega⟩,b⟩,λ_=>?_⟩
      rcases r with r|⟨-,r⟩
      ·exact List.mem_append_left _ (QU.2 ⟨⟨pC _,by omega⟩,by simp [pQ];omega⟩)
      ·exact List.mem_append_right _ (QU.2 ⟨⟨pC _,J⟩,by simp [pL,r]⟩)
     ·refine ⟨λh=>?_,λh=>(by have:=(VH.1 (List.mem_filter.1 h).1).2;omega)⟩
      rcases List.mem_append.1 h with h|h
      ·have:=(QU.1 h).2;simp [pQ] at this;omega
      ·have:=(QU.1 h).2;simp [pL] at this;omega
    have u:=TF (ks:=ks) (n:=ops.size) (listed:=listed) (by omega) x U
    have M:=AB.alike (H.sel i o · · k) G (by rw [XU,XU,XU]) ((hL V).1 i o k U (UQ ks ops.size listed) w q (λj hj1 ac ad=>⟨by omega,ac,L j (aa i j ad x (by omega))⟩) (λh=>by have:=h.2.2;rw [show up listed i=listed.getD i false from rfl,N] at this;cases this) d)
    rcases M with ⟨m,M⟩|⟨m,M⟩
    ·rw [if_pos m];refine .inl (KB M λv w' T=>?_)
     rw [z (upd V i v) v (λj g=>XE g) (Yu _ _ _)]
     exact ih _ _ w' y F A (λj g=>by rw [XE (λe=>by subst e;omega)];exact l j g) B T.1 (by rw [u];exact T.2)
    ·rw [if_neg (by rw [m];decide),z (upd V i undef) undef (λj g=>XE g) (Yu _ _ _)]
     exact ih _ _ w y F A (λj g=>by rw [XE (λe=>by subst e;omega)];exact l j g) B q (by rw [u];exact M.2)
where
 finish (listed:Array Bool) (V:Nat->Value) (w:World) (D:listed.size=ops.size) (l:∀i,kd ks i<2->V i=Vq i) (O:∀i,3<=kd ks i->up listed i=false) (q:C w) (d:I (UQ ks ops.size listed) V w)
   (c:∀i,i<ops.size->kd ks i=0∨kd ks i=2->up listed i=true):wpList P ops (Exit.then (λa w=>Q .normal a w) (λ_ _ _=>False)) (((Qp ks pT 0 ops.size).filter λi=>!up listed i).filterMap λi=>ops[i]?)
    (QE ops V ((Qp ks pF 0 ops.size).filter λi=>!up listed i) (QE ops V ((V4 ks ops.size).filter (up listed)) a0)) w:=by
  have h:=(hL V).2 w q (by rw [<-TG (listed:=listed) λi E K=>c i E (.inr K)];exact d)
  rw [show QE ops Vq (Qp ks pQ 0 ops.size) a0=QE ops V (Qp ks pQ 0 ops.size) a0 from VE H.apart λj=>⟨Iff.rfl,λh=>(l j (by have:=(QU.1 h).2;simpa [pQ] using this)).symm⟩,<-Fi] at h
  rw [<-Fi,List.filter_eq_self.2 (λi E=>by
   have:=(QU.1 E).2;rw [O i (by simpa [pT] using this)];rfl)]
  rw [show QE ops V ((V4 ks ops.size).filter (up listed)++(Qp ks pF 0 ops.size).filter λi=>!up listed i) a0=QE ops V (Qp ks pQ 0 ops.size++Qp ks pL 0 ops.size) a0 from VE H.apart λj=>⟨?_,λ_=>rfl⟩]
  ·exact h
  ·rw [List.mem_append,List.mem_filter,List.mem_filter,VH,QU];simp only [pF,beq_iff_eq,Bool.not_eq_true'];constructor
   ·rintro (b|b)
    ·exact b.1
    ·exact ⟨b.1.1.2,by omega⟩
   ·intro b;cases N:up listed j with
    | true=>exact .inl ⟨b,rfl⟩
    | false=>
     refine .inr ⟨⟨⟨pC _,b.1⟩,?_⟩,rfl⟩;have J:¬(kd ks j=0∨kd ks j=2):=λh=>by rw [c j b.1 h] at N;cases N
     omega
def V8 (w:World)(D:List Nat)(f:Nat->Obj):World:=D.foldl (λw b=>w.putObj b (f b)) w
theorem R4 (w:World)(f:Nat->Obj):V8 w [] f=w:=rfl
structure Messed where
 d:Nat
 os:Array Obj
 f:Nat->Obj
instance:Inhabited Messed:=⟨⟨0,#[],λ_=>default⟩⟩
abbrev Zq (w:World)(D:List Nat):World->Prop:=λw'=>∃p:Messed,w'=Go.Sort.grow (redrawn (V8 w D p.f) p.d) p.os
theorem FR (w:World)(b:Nat)(o:Obj):(w.putObj b o).os=w.os/\(w.putObj b o).tape=w.tape/\(w.putObj b o).output=w.output/\(w.putObj b o).heap.size=w.heap.size:=⟨rfl,rfl,rfl,by simp [World.putObj]⟩
theorem GW (D:List Nat)(f:Nat->Obj):∀w:World,(V8 w D f).os=w.os/\(V8 w D f).tape=w.tape/\(V8 w D f).output=w.output/\(V8 w D f).heap.size=w.heap.size:=by
 induction D with
 | nil=>intro w;exact ⟨rfl,rfl,rfl,rfl⟩
 | cons b D d=>
  intro w;obtain ⟨h,e,i,g⟩:=d (w.putObj b (f b));obtain ⟨c,g2,j,a⟩:=FR w b (f b);exact ⟨h.trans c,e.trans g2,i.trans j,g.trans a⟩
theorem Dy {D:List Nat}{f:Nat->Obj}{k:Nat} :∀w:World,k∉D->(V8 w D f).heap[k]?=w.heap[k]?:=by
 induction D with
 | nil=>intro w _;rfl
 | cons b D a=>
  intro w h;have c:=a (w.putObj b (f b)) (λe=>h (List.mem_cons_of_mem _ e))
  exact c.trans (World.putObj_heap_other (λe=>h (by rw [e];simp)))
theorem R6 {D:List Nat}{f:Nat->Obj}{k:Nat} :∀w:World,k∈D->k<w.heap.size->(V8 w D f).heap[k]?=some (f k):=by
 induction D with
 | nil=>intro w h;cases h
 | cons b D d=>
  intro w h c;by_cases a:k∈D
  ·exact d (w.putObj b (f b)) a (by rw [(FR w b (f b)).2.2.2];exact c)
  ·obtain rfl:k=b:=by
    rcases List.mem_cons.1 h with e|e
    ·exact e
    ·exact absurd e a
   exact (Dy (w.putObj k (f k)) a).trans (World.putObj_heap_same c)
theorem Qb {w w':World}{D:List Nat}(h:Zq w D w'):Kept (λb=>b∉D) w w':=by
 obtain ⟨p,rfl⟩:=h;obtain ⟨i,g,k,e⟩:=GW D p.f w;have a:=pK (V8 w D p.f) p.d p.os;exact ⟨a.os.trans i,a.tape.trans g,a.output.trans k,by rw [<-e];exact a.size,λb c j=>(a.block b (by rw [e];exact c)).trans (Dy w j)⟩
theorem GX {w w':World}{D:List Nat}(h:Kept (λb=>b∉D) w w'):Zq w D w':=by
 have l:Below (V8 w D λb=>w'.heap.getD b default).heap.size (V8 w D λb=>w'.heap.getD b default) w':=by
  obtain ⟨i,g,j,e⟩:=GW D (λb=>w'.heap.getD b default) w
  refine ⟨h.os.trans i.symm,h.tape.trans g.symm,h.output.trans j.symm,by rw [e];exact h.size,λk a=>?_⟩
  rw [e] at a;by_cases c:k∈D
  ·rw [R6 w c a];have:=pD a h.size;simp [this]
  ·rw [Dy w c];exact h.block k a c
 obtain ⟨p,f⟩:=regrown_of_below l;exact ⟨⟨p.d,p.os,λb=>w'.heap.getD b default⟩,f⟩
theorem Kept.none {w w':World}(h:Kept (λb=>b∉([]:List Nat)) w w'):Below w.heap.size w w':=h.below (pA _) λ_ _=>by simp
theorem Q0.sp {w:World}{t:TypeId}{D:List Nat}(h:Q0 w g t cs)(a:g∉D)(f:Nat->Obj)(d:Nat)(os:Array Obj):Q0 (Go.Sort.grow (redrawn (V8 w D f) d) os) g t cs:=
 (Qb (D:=D) ⟨⟨d,os,f⟩,rfl⟩).blk a h
theorem Qc {w0:World}{c:Nat->XO}{T:Act->World->Prop}{Ψ:(Nat->Prop)->World->Prop}(h:∀w',Below w0.heap.size w0 w'->Φ w'->T a w'):Yc P (Zq w0 []) w0 Ds c an T [] [] i a Φ Ψ:=by
 unfold Yc;exact λw' b=>h w' (Qb b).none
theorem XX {w0:World}{D:List Nat}{d:Nat->XO}{T:Act->World->Prop}{Ψ:(Nat->Prop)->World->Prop}(h:∀w',Kept (λb=>b∉D) w0 w'->Φ w'->T a w'):Yc P (Zq w0 D) w0 Ds d an T [] [] i a Φ Ψ:=by
 unfold Yc;exact λw' c=>h w' (Qb c)
theorem Qv {w0:World}{c:Nat->XO}{T:Act->World->Prop}{Ψ:(Nat->Prop)->World->Prop}{l:List Oper}(f:∀w',C w'->Kept (λb=>b∈Ds i) w0 w'->VV P (Ds i) o a (c i) w')(e:∀v,Yc P C w0 Ds c an T ks l (i+1) (a.put o.dst v) (λw=>Φ w/\c i v w) (λS w=>Ψ S w/\(S i->c i v w))):
  Yc P C w0 Ds c an T (2::ks) (o::l) i a Φ Ψ:=by unfold Yc;exact ⟨λw' h d _=>f w' h d,e⟩
theorem Xz {w0:World}{c:Nat->XO}{T:Act->World->Prop}{Ψ:(Nat->Prop)->World->Prop}{l:List Oper}(e:∀w',C w'->Kept (λb=>b∈Ds i) w0 w'->Ψ (λj=>an i j=true) w'->VV P (Ds i) o a (c i) w')(d:∀v,Yc P C w0 Ds c an T ks l (i+1) (a.put o.dst v) (λw=>Φ w/\c i v w) (λS w=>Ψ S w/\(S i->c i v w))):
  Yc P C w0 Ds c an T (2::ks) (o::l) i a Φ Ψ:=by unfold Yc;exact ⟨e,d⟩
def R7:Nat->Prop
 | 2=>False
 | _=>True
theorem Q2 {w0:World}{b:Nat->XO}{T:Act->World->Prop}{Ψ:(Nat->Prop)->World->Prop}{l:List Oper}{k:Nat}(h:Yc P C w0 Ds b an T ks l (i+1) a Φ Ψ)(c:R7 k:=by exact trivial):Yc P C w0 Ds b an T (k::ks) (o::l) i a Φ Ψ:=by
 match k,c with
 | 0,_=>unfold Yc;exact h
 | 1,_=>unfold Yc;exact h
 | k+3,_=>unfold Yc;exact h
def ZN (D:List Nat)(w0 w:World):Prop:=Kept (λb=>b∉D) w0 w
section
variable {D:List Nat}{w0 w w':World}
theorem ZN.on (h:ZN D w0 w)(k:Below w.heap.size w w'):ZN D w0 w':=Kept.on h k
theorem ZN.none (h:ZN [] w0 w):Below w0.heap.size w0 w:=Kept.none h
theorem ZN.blk {t:TypeId}(h:ZN D w0 w)(a:g∉D)(b:Q0 w0 g t cs):Q0 w g t cs:=Kept.blk h a b
end
theorem Co {w0:World}{D:List Nat}{I:UP}{ks0:List Nat}{T:Act->World->Prop}{n:Nat}(h:∀V w',ZN D w0 w'->(∀j,j<n->kd ks0 j=2->V j=vs j)->I (λj=>j<n/\kd ks0 j=2) V w'->T a w'):Yq P ops (Zq w0 D) I an ks0 T [] [] n a vs:=by
 unfold Yq;exact λV w' b=>h V w' (Qb b)
theorem XY {w0:World}{D:List Nat}{I:UP}{ks0:List Nat}{T:Act->World->Prop}{l:List Oper}(e:o.guard=none)
  (k:∀S V w',ZN D w0 w'->(∀j,j<i->kd ks0 j=2->V j=vs j)->(∀j,j<i->kd ks0 j=2->an i j=true->S j)->¬S i->I S V w'->Zp P o a (λv w=>ZN D w0 w/\I (Zg S i) (upd V i v) w) w') (d:∀v,Yq P ops (Zq w0 D) I an ks0 T ks l (i+1) (a.put o.dst v) (upd vs i v)):
  Yq P ops (Zq w0 D) I an ks0 T (2::ks) (o::l) i a vs:=by
 unfold Yq;exact ⟨λS V w' b m g f c=>.inl ⟨by simp [Region.wanted,e],(k S V w' (Qb b) m g f c).mono λv w h=>⟨GX h.1,h.2⟩⟩,d⟩
theorem QL {I:UP}{ks0:List Nat}{T:Act->World->Prop}{l:List Oper}{k:Nat}(h:Yq P ops C I an ks0 T ks l (i+1) a vs)(b:R7 k:=by exact trivial):Yq P ops C I an ks0 T (k::ks) (o::l) i a vs:=by
 match k,b with
 | 0,_=>unfold Yq;exact h
 | 1,_=>unfold Yq;exact h
 | k+3,_=>unfold Yq;exact h
theorem KC {Q:Exit->Act->World->Prop}{w:World}{l:List Oper}(ks:List Nat)(D:List Nat)(I:UP)(B:Ag l.toArray ks=true)
  (p:∀S V c f,Kept (λb=>b∉D) w c->I S V c->Below c.heap.size c f->I S V f) (r:∀V,I (λ_=>False) V w) (Vq:Nat->Value)
  (g:∀i o,0<=i->l.toArray[i]?=some o->kd ks i<2->Jp P l.toArray (Zq w D) (kd ks i) o (Vq i) (QE l.toArray Vq (Qp ks pQ 0 i) a))
  (n:∀V:Nat->Value,(∀i o,l.toArray[i]?=some o->kd ks i=2->∀S w',Zq w D w'->(∀j,j<i->kd ks j=2->ZT (Region.before l.toArray) i j=true->S j)->¬S i->I S V w'->AB P l.toArray o (QE l.toArray V (Qp ks pL 0 i) (QE l.toArray Vq (Qp ks pQ 0 l.length) a)) (λv w'=>Zq w D w'/\I (Zg S i) (upd V i v) w') w')/\
   ∀w',Zq w D w'->I (λj=>j<l.length/\kd ks j=2) V w'->wpList P l.toArray (Exit.then (λa w=>Q .normal a w) (λ_ _ _=>False)) (Qd ks l) (QE l.toArray V (Qp ks pL 0 l.length) (QE l.toArray Vq (Qp ks pQ 0 l.length) a)) w'):
  Go.wpAny P .any l.toArray Q l.toArray.size (Array.replicate l.toArray.size false) a { w with drawn:=w.drawn+1 } :=by
 have H:=dA B;have d:ks.length=l.length:=by simpa using H.len
 have e:l.length=l.toArray.size:=by simp
 rw [TC (l:=l) (ks:=ks) l ks 0 rfl rfl d,e] at n;have m:∀K:Nat->Prop,Kept K w { w with drawn:=w.drawn+1 } :=λK=>⟨rfl,rfl,rfl,pA _,λ_ _ _=>rfl⟩
 have:=H.phase1I (C:=Zq w D) (Q:=Q) (a0:=a) (I:=I) (an:=ZT (Region.before l.toArray)) (λi j h g q=>⟨g,q,h⟩) (Vq:=Vq) (λc f t u=>GX ((Qb t).trans (Kept.of_below u))) (λS V c f y=>p S V c f (Qb y)) (λi o A s=>g i o (pC _) A s)
  n
  l.toArray.size (Array.replicate l.toArray.size false) Vq { w with drawn:=w.drawn+1 } (by simp) (λj o k=>by simp [up,Array.getElem?_replicate] at k;split at k<;>cases k)
  (by simp only [D8];rw [List.countP_eq_length.2 (λi _=>by simp [up,Array.getElem?_replicate];split<;>rfl)];simp) (λ_ _=>rfl) (λi _=>by simp [up,Array.getElem?_replicate];split<;>rfl) (GX (m _))
  (by
   have x:UQ ks l.toArray.size (Array.replicate l.toArray.size false)=λ_=>False:=by
    funext j;exact propext ⟨λh=>(by have:=h.2.2;simp [up,Array.getElem?_replicate] at this;split at this<;>cases this),λh=>h.elim⟩
   rw [x];exact p _ _ w _ (Kept.refl _ _) (r Vq) ⟨rfl,rfl,rfl,pA _,λ_ _=>rfl⟩)
 have z:(V4 ks l.toArray.size).filter (up (Array.replicate l.toArray.size false))=[]:=List.filter_eq_nil_iff.2 λi _=>by simp [up,Array.getElem?_replicate];split<;>simp
 rw [z] at this;exact this
theorem dB {Q:Exit->Act->World->Prop}{w:World}{l:List Oper}(ks:List Nat)(D:List Nat)(I:UP)(s:Ag l.toArray ks=true)
  (q:∀S V c f,Kept (λb=>b∉D) w c->I S V c->Below c.heap.size c f->I S V f) (m:∀V,I (λ_=>False) V w)
  (h:YG P l.toArray (Zq w D) (λp=>Yq P l.toArray (Zq w D) I (ZT (Region.before l.toArray)) ks (λd w''=>wpList P l.toArray (Exit.then (λa w=>Q .normal a w) (λ_ _ _=>False)) (Qd ks l) d w'') ks l 0 p (λ_=>undef)) ks l a):
  Go.wpAny P .any l.toArray Q l.toArray.size (Array.replicate l.toArray.size false) a { w with drawn:=w.drawn+1 } :=by
 obtain ⟨Vq,r,k⟩:=Kz (l:=l) (ks:=ks) l ks 0 a rfl rfl h;have e:=λV=>PY (l:=l) (ks:=ks) l ks 0 _ _ rfl rfl (pC _) k V (λj hj=>by omega)
 exact KC ks D I s q m Vq r λV=>⟨λi o g n=>(e V).1 i o (pC _) g n,(e V).2⟩
theorem VV.one {D:List Nat}{R:XO}{w:World}(h:VV P D o a R w):Zp P o a (λv w'=>Kept (λb=>b∉D) w w'/\R v w') w:=by
 unfold VV at h;unfold Zp;generalize (execOp a.eval o).run P w=r at *;cases r with
 | ok c w'=>cases c<;>exact h
 | halt x w'=>exact h
theorem EF {Q:Exit->Act->World->Prop}{w:World}{l:List Oper}(ks:List Nat)(D:List Nat)(m:Nat->List Nat)(t:Nat->XO)(H:∀i b,b∈m i->b∈D)(A:∀i j b,i≠j->b∈m i->b∉m j)
  (E:∀i j v w w',i≠j->t i v w->Kept (λb=>b∉m j) w w'->t i v w') (F:AE l.toArray ks=true)
  (h:YG P l.toArray (Zq w D) (λI=>Yc P (Zq w D) w m t (ZT (Region.before l.toArray)) (λu w''=>wpList P l.toArray (Exit.then (λa w=>Q .normal a w) (λ_ _ _=>False)) (Qd ks l) u w'') ks l 0 I (λ_=>True) (λ_ _=>True)) ks l a):
  Go.wpAny P .any l.toArray Q l.toArray.size (Array.replicate l.toArray.size false) a { w with drawn:=w.drawn+1 } :=by
 obtain ⟨Vq,J,G⟩:=Kz (l:=l) (ks:=ks) l ks 0 a rfl rfl h;have B:=λV=>TB (l:=l) (ks:=ks) l ks 0 _ _ _ rfl rfl G V
 refine KC ks D (λS V w'=>(∀i,¬S i->Kept (λb=>b∈m i) w w')/\∀j,S j->t j (V j) w') (Bool.and_eq_true_iff.1 F).1 (λS V w1 w2 _ d g=>⟨λi f=>(d.1 i f).on g,λj c=>E j (j+1) _ _ _ (by omega) (d.2 j c) (Kept.of_below g)⟩) (λV=>⟨λ_ _=>Kept.refl _ _,λ_ c=>c.elim⟩) Vq J (λV=>⟨λi o z q S w' r K C d=>.inl ⟨by simp [Region.wanted,TD F i o z q],?_⟩,λw' r d=>(B V).2 w' r trivial λi _ f q=>d.2 i ⟨by simpa using f,q⟩⟩)
 have hlt:=(Array.getElem?_eq_some_iff.1 z).1;refine ((B V).1 i o (pC _) z q w' r (d.1 i C) trivial λj _ c x y=>d.2 j (K j c x y)).one.mono λv w'' s=>⟨GX ((Qb r).trans (s.1.mono λb g f=>g (H i b f))),λk p=>(d.1 k λL=>p (.inr L)).trans (s.1.mono λb g f=>A k i b (λe=>p (.inl e)) g f),λj c=>?_⟩
 rcases c with rfl|c
 ·rw [Yu];exact s.2
 ·have n:j≠i:=λe=>C (e▸c)
  rw [XE n];exact E j i _ _ _ n (d.2 j c) s.1
theorem Qk {Q:Exit->Act->World->Prop}{w:World}{l:List Oper}(ks:List Nat)(b:Nat->XO)(e:P.follows .mixedOrders=true)(k:AE l.toArray ks=true)(g:∀i v w w',b i v w->Below w.heap.size w w'->b i v w')
  (h:YG P l.toArray (Zq w []) (λf=>Yc P (Zq w []) w (λ_=>[]) b (ZT (Region.before l.toArray)) (λc w''=>wpList P l.toArray (Exit.then (λa w=>Q .normal a w) (λ_ _ _=>False)) (Qd ks l) c w'') ks l 0 f (λ_=>True) (λ_ _=>True)) ks l a):(Code.region id l.toArray true).wp P Q a w:=
 wp_region_any e (EF ks [] (λ_=>[]) b (λ_ _ h=>h) (λ_ _ _ _ h=>by cases h) (λi _ v w w' _ j d=>g i v w w' j d.none) k h)
theorem Dz {k n:Nat}{Q:Exit->Act->World->Prop}{w:World}{l:List Oper}(ks:List Nat)(b:Nat->XO)(g:P.follows .mixedOrders=true)(p:AE l.toArray ks=true)(m:∀i v w w',b i v w->Below w.heap.size w w'->b i v w')(d:IB l.toArray=true)(f:¬LetsOut Q)
  (h:YG P l.toArray (Zq w []) (λj=>Yc P (Zq w []) w (λ_=>[]) b (ZT (Region.before l.toArray)) (λc w''=>wpList P l.toArray (Exit.then (λa w=>Q .normal a w) (λ_ _ _=>False)) (Qd ks l) c w'') ks l 0 j (λ_=>True) (λ_ _=>True)) ks l a):(Code.region id l.toArray true).wpIn (Fence.wide.inRound k) n P Q a w:=
 wpIn_region_any g (iN d f _ _ _ _ (EF ks [] (λ_=>[]) b (λ_ _ h=>h) (λ_ _ _ _ h=>by cases h) (λi _ v w w' _ o e=>m i v w w' o e.none) p h))
theorem Jq {Q:Exit->Act->World->Prop}{w:World}{l:List Oper}(ks:List Nat)(D:List Nat)(c:Nat->List Nat)(d:Nat->XO)(k:P.follows .mixedOrders=true)(o:AE l.toArray ks=true)(g:∀i b,b∈c i->b∈D)(f:∀i j b,i≠j->b∈c i->b∉c j)
  (n:∀i j v w w',i≠j->d i v w->Kept (λb=>b∉c j) w w'->d i v w')
  (h:YG P l.toArray (Zq w D) (λm=>Yc P (Zq w D) w c d (ZT (Region.before l.toArray)) (λe w''=>wpList P l.toArray (Exit.then (λa w=>Q .normal a w) (λ_ _ _=>False)) (Qd ks l) e w'') ks l 0 m (λ_=>True) (λ_ _=>True)) ks l a):(Code.region id l.toArray true).wp P Q a w:=
 wp_region_any k (EF ks D c d g f n o h)
def Vx (i1 b1 i2 b2 i:Nat):List Nat:=if i=i1 then [b1] else if i=i2 then [b2] else []
def cu (i1 b1:Nat)(t1:TypeId)(c1:Array Value)(i2 b2:Nat)(t2:TypeId)(c2:Array Value)(i:Nat):XO:=λ_ w=>(i=i1->Q0 w b1 t1 c1)/\(i=i2->Q0 w b2 t2 c2)
theorem BH {Q:Exit->Act->World->Prop}{w:World}{l:List Oper}(ks:List Nat)(i1 k:Nat)(t:TypeId)(y:Array Value)(i2 m:Nat)(s:TypeId)(c2:Array Value)(p:k≠m)(z:P.follows .mixedOrders=true)(B:AE l.toArray ks=true)
  (h:YG P l.toArray (Zq w [k,m]) (λA=>Yc P (Zq w [k,m]) w (Vx i1 k i2 m) (cu i1 k t y i2 m s c2) (ZT (Region.before l.toArray)) (λq w''=>wpList P l.toArray (Exit.then (λa w=>Q .normal a w) (λ_ _ _=>False)) (Qd ks l) q w'') ks l 0 A (λ_=>True) (λ_ _=>True)) ks l a):(Code.region id l.toArray true).wp P Q a w:=by
 refine Jq ks [k,m] (Vx i1 k i2 m) (cu i1 k t y i2 m s c2) z B (λi b d=>?_) (λi j b g n f=>?_) (λi j v w w' g u x=>?_) h
 ·unfold Vx at d;split at d
  ·simp at d;simp [d]
  ·split at d
   ·simp at d;simp [d]
   ·cases d
 ·unfold Vx at n f;split at n
  ·rename_i r;simp at n;subst n;split at f
   ·rename_i o;exact g (r.trans o.symm)
   ·split at f
    ·simp at f;exact p f
    ·cases f
  ·split at n
   ·rename_i r;simp at n;subst n;split at f
    ·simp at f;exact p f.symm
    ·split at f
     ·rename_i o;exact g (r.trans o.symm)
     ·cases f
   ·cases n
 ·refine ⟨λe=>x.blk ?_ (u.1 e),λe=>x.blk ?_ (u.2 e)⟩
  ·unfold Vx;intro c;split at c
   ·rename_i o;exact g (e.trans o.symm)
   ·split at c
    ·simp at c;exact p c
    ·cases c
  ·unfold Vx;intro c;split at c
   ·simp at c;exact p c.symm
   ·split at c
    ·rename_i o;exact g (e.trans o.symm)
    ·cases c
theorem Aj {i1 a i2 d:Nat}{c g:TypeId}{f c2:Array Value}{w w':World}(k:i1≠i2)(j:Kept (λb=>b≠a) w w')(i:Q0 w' a c f):Kept (λb=>¬b∈Vx i1 a i2 d i1) w w'/\cu i1 a c f i2 d g c2 i1 u w':=
 ⟨j.mono λb h e=>h (by simp [Vx,e]),λ_=>i,λe=>absurd e k⟩
theorem Ak {i1 d i2 a:Nat}{g c:TypeId}{k c2:Array Value}{w w':World}(f:i1≠i2)(j:Kept (λb=>b≠a) w w')(i:Q0 w' a c c2):Kept (λb=>¬b∈Vx i1 d i2 a i2) w w'/\cu i1 d g k i2 a c c2 i2 u w':=
 ⟨j.mono λb h e=>h (by simp [Vx,Ne.symm f,e]),λe=>absurd e.symm f,λ_=>i⟩
theorem UR {w:World}{x y z:Value} :Kept (λc=>c≠b) w (((w.setCell ⟨b,0,none⟩ x).setCell ⟨b,1,none⟩ y).setCell ⟨b,2,none⟩ z):=
 (((Kept.refl _ w).setCell (p:=⟨b,0,none⟩) (λh=>h rfl) _).setCell (p:=⟨b,1,none⟩) (λh=>h rfl) _).setCell (p:=⟨b,2,none⟩) (λh=>h rfl) _
theorem US {w:World}{x y z p q r:Value} :Kept (λc=>c≠b) w ((((((w.setCell ⟨b,0,none⟩ x).setCell ⟨b,1,none⟩ y).setCell ⟨b,2,none⟩ z).setCell ⟨b,3,none⟩ p).setCell ⟨b,4,none⟩ q).setCell ⟨b,5,none⟩ r):=
 ((UR.setCell (p:=⟨b,3,none⟩) (λh=>h rfl) _).setCell (p:=⟨b,4,none⟩) (λh=>h rfl) _).setCell (p:=⟨b,5,none⟩) (λh=>h rfl) _
theorem GY {Q:Exit->Act->World->Prop}{w:World}{l:List Oper}(ks:List Nat)(D:List Nat)(I:UP)(g:P.follows .mixedOrders=true)(k:Ag l.toArray ks=true)
  (j:∀S V c e,Kept (λb=>b∉D) w c->I S V c->Below c.heap.size c e->I S V e) (f:∀V,I (λ_=>False) V w)
  (h:YG P l.toArray (Zq w D) (λi=>Yq P l.toArray (Zq w D) I (ZT (Region.before l.toArray)) ks (λd w''=>wpList P l.toArray (Exit.then (λa w=>Q .normal a w) (λ_ _ _=>False)) (Qd ks l) d w'') ks l 0 i (λ_=>undef)) ks l a):(Code.region id l.toArray true).wp P Q a w:=
 wp_region_any g (dB ks D I k j f h)
end
attribute [go_sem] VV N7 R4 Zp Ah
end
section
open Go.RowKit
section
variable {P:Program}
def BJ (i0:Nat)(r:Option Nat)(i:Nat):List Nat:=if i=i0 then r.toList else []
theorem VI {Q:Exit->Act->World->Prop}{w:World}{l:List Oper}(ks:List Nat)(g:Nat)(r:Option Nat)(k:Nat->XO)(u:P.follows .mixedOrders=true)(A:AE l.toArray ks=true)
  (z:∀i v w w',k i v w->(if i=g then Below w.heap.size w w' else Kept (λb=>r≠some b) w w')->k i v w')
  (h:YG P l.toArray (Zq w r.toList) (λy=>Yc P (Zq w r.toList) w (BJ g r) k (ZT (Region.before l.toArray)) (λm w''=>wpList P l.toArray (Exit.then (λa w=>Q .normal a w) (λ_ _ _=>False)) (Qd ks l) m w'') ks l 0 y (λ_=>True) (λ_ _=>True)) ks l a):(Code.region id l.toArray true).wp P Q a w:=by
 refine Jq ks r.toList (BJ g r) k u A (λi b f=>?_) (λi j b c p n=>?_) (λi j v w w' c s d=>z i v w w' s ?_) h
 ·unfold BJ at f;split at f
  ·exact f
  ·cases f
 ·unfold BJ at p n;split at p
  ·rename_i x;split at n
   ·rename_i t;exact c (x.trans t.symm)
   ·cases n
  ·cases p
 ·unfold BJ at d;by_cases o:i=g
  ·rw [if_pos o];rw [if_neg (λe=>c (o.trans e.symm))] at d
   exact d.none
  ·rw [if_neg o];by_cases q:j=g
   ·rw [if_pos q] at d;exact d.mono λb f=>by
     intro h;rw [Option.mem_toList] at h;exact f h
   ·rw [if_neg q] at d;exact d.mono λb _=>by simp
theorem QR {r:Option Nat}(h:r≠some b):b∉r.toList:=by
 rw [Option.mem_toList];exact h
theorem Y9 {w w':World}{c:Nat}{r:Option Nat}(h:Zq w r.toList w')(f:Kept (λb=>b∈BJ c r c) w w'):Below w.heap.size w w':=by
 have a:=Qb h;refine ⟨a.os,a.tape,a.output,a.size,λb e=>?_⟩
 by_cases d:b∈r.toList
 ·exact f.block b e (by unfold BJ;rw [if_pos rfl];exact d)
 ·exact a.block b e d
end
structure BoxCfg where
 a:Nat
 s:Nat
 t:TypeId
 z:Array Value
 c:Array Value
structure StepTs (n:Nat)(ts:List TypeId)(w w':World):Prop where
 size:w.heap.size<=w'.heap.size
 keep:∀b,b<w.heap.size->(b<n∨∀t∈ts,∀cs,¬Q0 w b t cs)->w'.heap[b]?=w.heap[b]?
section
variable {n N:Nat}{ts:List TypeId}{w w':World}{B:List BoxCfg}{U:Nat->XO}{S:Nat->Prop}{V:Nat->Value}
theorem StepTs.of_below (h:Below w.heap.size w w'):StepTs n ts w w':=⟨h.size,λb a _=>h.block b a⟩
def nW (N:Nat)(x:BoxCfg):UP:=λS V w=>(S x.s->S x.a)/\(S x.a->∃b,V x.a=.pointer (some ⟨b,0,none⟩)/\N<=b/\(¬S x.s->Q0 w b x.t x.z)/\(S x.s->Q0 w b x.t x.c))
def Z3 (N:Nat)(B:List BoxCfg)(U:Nat->XO):UP:=λS V w=>
 (∀i,S i->U i (V i) w)/\(∀x∈B,nW N x S V w)/\(∀x∈B,∀y∈B,x.a≠y.a->S x.a->S y.a->V x.a≠V y.a)
def R8 (B:List BoxCfg):Prop:=B.Pairwise (λx y=>x.a≠y.a/\x.s≠y.s/\x.a≠y.s/\x.s≠y.a)/\∀x∈B,x.a≠x.s
theorem iO {α:Type}{R:α->α->Prop} :∀{l:List α},l.Pairwise R->∀x∈l,∀y∈l,x=y∨R x y∨R y x:=by
 intro l;induction l with
 | nil=>intro _ x d;cases d
 | cons a l g=>
  intro h x d y i;rw [List.pairwise_cons] at h;rcases List.mem_cons.1 d with e|b<;>rcases List.mem_cons.1 i with f|c
  ·exact .inl (e.trans f.symm)
  ·exact .inr (.inl (e▸h.1 y c))
  ·exact .inr (.inr (f▸h.1 x b))
  ·exact g h.2 x b y c
theorem R8.of (h:R8 B){x y:BoxCfg}(c:x∈B)(b:y∈B):x=y∨(x.a≠y.a/\x.s≠y.s/\x.a≠y.s/\x.s≠y.a):=by
 rcases iO h.1 x c y b with e|e|e
 ·exact .inl e
 ·exact .inr e
 ·exact .inr ⟨e.1.symm,e.2.1.symm,e.2.2.2.symm,e.2.2.1.symm⟩
def UT (N:Nat)(B:List BoxCfg)(U:Nat->XO):Prop:=∀i v w w',U i v w->StepTs N (B.map (·.t)) w w'->U i v w'
theorem OL:Z3 N B U (λ_=>False) V w:=⟨λ_ h=>h.elim,λ_ _=>⟨λh=>h.elim,λh=>h.elim⟩,λ_ _ _ _ _ h=>h.elim⟩
theorem Z3.below (l:UT N B U)(h:Z3 N B U S V w)(a:Below w.heap.size w w'):Z3 N B U S V w':=
 ⟨λi m=>l i _ _ _ (h.1 i m) (StepTs.of_below a),λx d=>⟨(h.2.1 x d).1,λe=>by
  obtain ⟨b,j,f,k,g⟩:=(h.2.1 x d).2 e;exact ⟨b,j,f,λc=>(k c).on a,λc=>(g c).on a⟩⟩,h.2.2⟩
theorem Z3.l (d:∀x∈B,x.a≠i/\x.s≠i)(A:UT N B U)(h:Z3 N B U S V w)(r:pM w w')(p:U i v w'):Z3 N B U (Zg S i) (upd V i v) w':=by
 have h:=h.below A r;refine ⟨λj t=>?_,λx c=>⟨λf=>?_,λu=>?_⟩,λx c y n g o m=>?_⟩
 ·by_cases e:j=i
  ·subst e;rw [Yu];exact p
  ·rw [XE e];exact h.1 j (t.resolve_left e)
 ·exact .inr ((h.2.1 x c).1 (f.resolve_left (d x c).2))
 ·obtain ⟨b,o,m,q,z⟩:=(h.2.1 x c).2 (u.resolve_left (d x c).1);rw [XE (d x c).1];exact ⟨b,o,m,λf=>q λk=>f (.inr k),λf=>z (f.resolve_left (d x c).2)⟩
 ·rw [XE (d x c).1,XE (d y n).1];exact h.2.2 x c y n g (o.resolve_left (d x c).1) (m.resolve_left (d y n).1)
theorem Z3.new {x:BoxCfg}(u:x∈B)(C:R8 B)(J:UT N B U)(I:∀v w,U x.a v w)(F:N<=w.heap.size)(G:¬S x.a)(h:Z3 N B U S V w):Z3 N B U (Zg S x.a) (upd V x.a (.pointer (some ⟨w.heap.size,0,none⟩))) (w.alloc (.cells x.z x.t)):=by
 have E:pM w (w.alloc (.cells x.z x.t)):=(pI _ _).alloc (pA _) _;have p:¬S x.s:=λc=>G ((h.2.1 x u).1 c)
 have m:∀y∈B,S y.a->V y.a≠.pointer (some ⟨w.heap.size,0,none⟩):=λy f q e=>by
  obtain ⟨b,l,n,o,r⟩:=(h.2.1 y f).2 q;have:b<w.heap.size:=by
   by_cases c:S y.s
   ·exact (r c).lt
   ·exact (o c).lt
  rw [l] at e;injection e with e;injection e with e;injection e with e
  omega
 have k:=h.below J E;refine ⟨λj H=>?_,λy f=>?_,λy f z D d l n=>?_⟩
 ·by_cases e:j=x.a
  ·subst e;exact I _ _
  ·rw [XE e];exact k.1 j (H.resolve_left e)
 ·rcases C.of f u with rfl|⟨g,i,e3,A⟩
  ·have d:=C.2 y f;refine ⟨λ_=>.inl rfl,λ_=>⟨w.heap.size,Yu _ _ _,F,λ_=>Q0.new w _ _,λc=>absurd (c.resolve_left d.symm) p⟩⟩
  ·refine ⟨λc=>.inr ((k.2.1 y f).1 (c.resolve_left A)),λq=>?_⟩
   obtain ⟨b,l,n,o,r⟩:=(k.2.1 y f).2 (q.resolve_left g);rw [XE g];exact ⟨b,l,n,λc=>o λk=>c (.inr k),λc=>r (c.resolve_left A)⟩
 ·by_cases g:y.a=x.a
  ·have i:z.a≠x.a:=λe=>d (g.trans e.symm)
   rw [g,Yu,XE i];exact λe=>m z D (n.resolve_left i) e.symm
  ·by_cases i:z.a=x.a
   ·rw [i,Yu,XE g];exact m y f (l.resolve_left g)
   ·rw [XE g,XE i];exact k.2.2 y f z D d (l.resolve_left g) (n.resolve_left i)
theorem Z3.set {x:BoxCfg}(i:x∈B)(u:R8 B)(Q:UT N B U)(P:∀v w,U x.s v w)(W:¬S x.s)(h:Z3 N B U S V w)(E:S x.a)(F:V x.a=.pointer (some ⟨b,0,none⟩))(r:Kept (λc=>c≠b) w w')(M:Q0 w' b x.t x.c):Z3 N B U (Zg S x.s) (upd V x.s v) w':=by
 have d:=u.2 x i;obtain ⟨b',H,L,T,h4⟩:=(h.2.1 x i).2 E;obtain rfl:b=b':=by rw [F] at H;injection H with e;injection e with e;injection e
 have R:=T W;have A:StepTs N (B.map (·.t)) w w':=⟨r.size,λc hc C=>r.block c hc λe=>by
  subst e;rcases C with I|I
  ·omega
  ·exact I x.t (List.mem_map.2 ⟨x,i,rfl⟩) _ R⟩
 refine ⟨λj Y=>?_,λy f=>?_,λy f z o p q D=>?_⟩
 ·by_cases e:j=x.s
  ·subst e;exact P _ _
  ·rw [XE e];exact Q _ _ _ _ (h.1 j (Y.resolve_left e)) A
 ·rcases u.of f i with rfl|⟨X,J,l,e4⟩
  ·refine ⟨λ_=>.inr E,λ_=>⟨b,by rw [XE d];exact F,L,λg=>absurd (.inl rfl) g,λ_=>M⟩⟩
  ·refine ⟨λg=>.inr ((h.2.1 y f).1 (g.resolve_left J)),λn=>?_⟩
   obtain ⟨c,q,D,O,Z⟩:=(h.2.1 y f).2 (n.resolve_left l);have m:c≠b:=λe=>h.2.2 y f x i X (n.resolve_left l) E (by rw [q,F,e])
   rw [XE l];exact ⟨c,q,D,λg=>r.blk m (O λk=>g (.inr k)),λg=>r.blk m (Z (g.resolve_left J))⟩
 ·have G:y.a≠x.s:=by rcases u.of f i with rfl|⟨_,_,l,_⟩;exact d;exact l
  have K:z.a≠x.s:=by rcases u.of o i with rfl|⟨_,_,l,_⟩;exact d;exact l
  rw [XE G,XE K];exact h.2.2 y f z o p (q.resolve_left G) (D.resolve_left K)
theorem Z3.of (h:Z3 N B U S V w)(a:S j)(b:V j=v):U j v w:=b▸h.1 j a
theorem Z3.slot {x:BoxCfg}(g:x∈B)(h:Z3 N B U S V w)(c:S x.a)(i:¬S x.s):∃b,V x.a=.pointer (some ⟨b,0,none⟩)/\N<=b/\Q0 w b x.t x.z:=by
 obtain ⟨b,e,d,f,_⟩:=(h.2.1 x g).2 c;exact ⟨b,e,d,f i⟩
theorem Z3.done {x:BoxCfg}(j:x∈B)(h:Z3 N B U S V w)(d:S x.a)(i:S x.s):∃b,V x.a=.pointer (some ⟨b,0,none⟩)/\N<=b/\Q0 w b x.t x.c:=by
 obtain ⟨b,g,e,_,f⟩:=(h.2.1 x j).2 d;exact ⟨b,g,e,f i⟩
theorem ZN.new_set {w0:World}{D:List Nat}(h:ZN D w0 w)(hb:w0.heap.size<=b)(a:Kept (λc=>c≠b) w w'):ZN D w0 w':=
 ⟨a.os.trans h.os,a.tape.trans h.tape,a.output.trans h.output,pB h.size a.size,λc d e=>(a.block c (pD d h.size) (by omega)).trans (h.block c d e)⟩
end
def Cp:List (Nat×XO)->Nat->XO
 | [],_=>λ_ _=>True
 | (k,R)::l,i=>if i=k then R else Cp l i
section
variable {N:Nat}{B:List BoxCfg}{l:List (Nat×XO)}{k:Nat}
theorem R9:UT N B (Cp []):=λ_ _ _ _ h _=>h
theorem OM {R:XO}(c:∀v w w',R v w->StepTs N (B.map (·.t)) w w'->R v w')(h:UT N B (Cp l)):UT N B (Cp ((k,R)::l)):=λi v w w' a b=>by
 unfold Cp at *;by_cases e:i=k
 ·rw [if_pos e] at *;exact c v w w' a b
 ·rw [if_neg e] at *;exact h i v w w' a b
theorem Cq {x:Value}(h:UT N B (Cp l)):UT N B (Cp ((k,λv _=>v=x)::l)):=OM (λ_ _ _ a _=>a) h
end
theorem dC {P:Program}{Q:Exit->Act->World->Prop}{w:World}{l:List Oper}(ks:List Nat)(B:List BoxCfg)(U:Nat->XO)(c:P.follows .mixedOrders=true)(g:Ag l.toArray ks=true)(i:UT w.heap.size B U)
  (h:YG P l.toArray (Zq w []) (λe=>Yq P l.toArray (Zq w []) (Z3 w.heap.size B U) (ZT (Region.before l.toArray)) ks (λb w''=>wpList P l.toArray (Exit.then (λa w=>Q .normal a w) (λ_ _ _=>False)) (Qd ks l) b w'') ks l 0 e (λ_=>undef)) ks l a):(Code.region id l.toArray true).wp P Q a w:=
 GY ks [] _ c g (λ_ _ _ _ _ f d=>f.below i d) (λ_=>OL) h
structure StCfg where
 s:Nat
 p:Nat
 b:Nat
 t:TypeId
 o:Array Value
 n:Array Value
section
variable {x y:StCfg}{val:Nat->Value}{S:Nat->Prop}{V:Nat->Value}{w w':World}
end
theorem Jr {D:List Nat}{w0 w w':World}(h:ZN D w0 w)(a:b∈D)(k:Kept (λc=>c≠b) w w'):ZN D w0 w':=Kept.trans h (k.mono λ_ d e=>d (e▸a))
end
end Go.Proofs.YtmbccnioijokfaaGreatDoor