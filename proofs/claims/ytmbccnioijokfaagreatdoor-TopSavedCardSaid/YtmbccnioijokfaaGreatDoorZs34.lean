/- A part of the proof. -/
import Derived.Test.YtmbccnioijokfaaGreatDoorZs33
import Derived.Laws.EntriesVeiled
import Derived.Test.YtmbccnioijokfaaGreatDoorZs32
namespace Go.Proofs.YtmbccnioijokfaaGreatDoor
set_option maxRecDepth 100000
set_option maxHeartbeats 32000000
open Go.Value (int)
open Go.IntKind (i64 u8)
open Go.Proofs.Tryz
variable {v v8 occ':Value}{ds:List Cl}{Mw Mq M':Nat -> Prop}{N k g:Nat}{W:World}{y x z:Int}{f:Cl -> Int}
section
open Go.RowKit Go.Maps
attribute [local go_sem] Oper.semAt_some
theorem As (s wd t q:Nat)(occ:Value)(S:SS)(w:World)(M:Nat->Prop)(h:QQ s wd t q occ S w M):Calls prog 27 #[s] w λr w'=>r=.returned (.pointer (some ⟨wd,0,none⟩))/\w=w':=by
 obtain ⟨v,ds,Mw,Mq,h,-⟩:=h;have c1:=h.blk.cell 1;clear h;go_enter func27,ntmps27;go_wp2_with fail;go_returns;exact ⟨rfl,rfl⟩
theorem SC (s wd t q:Nat)(occ:Value)(S:SS)(w:World)(M:Nat->Prop)(h:QQ s wd t q occ S w M):Calls prog 35 #[s] w λr w'=>r=.returned (int i64 S.now)/\w=w':=by
 obtain ⟨v,ds,Mw,Mq,h,-⟩:=h;have c1:=h.blk.cell 3;clear h;go_enter func35,ntmps35;go_wp2_with fail;go_returns;exact ⟨rfl,rfl⟩
theorem JL (s wd t q:Nat)(occ:Value)(F:Fn)(bd cp:Array Value)(S:SS)(w:World)(M:Nat->Prop)(h:QQ s wd t q occ S w M):Calls prog 152 #[s,.func F bd cp] w λr w'=>r=.returned (.tuple #[])/\Q6 (QQ s wd t q (.func F bd cp) S) w M w':=by
 obtain ⟨v,ds,Mw,Mq,h,a⟩:=h;have c1:w.cell? ⟨s,4,none⟩=some occ:=h.blk.cell 4;have f1:=h.blk.frz 4;have d:Kept (λb=>b≠s) w (w.setCell ⟨s,4,none⟩ (.func F bd cp)):=(Kept.refl _ _).setCell (by simp) _
 have f:=pp (show Q6 (QQ s wd t q (.func F bd cp) S) w M (w.setCell ⟨s,4,none⟩ (.func F bd cp)) from ⟨M,⟨v,ds,Mw,Mq,h.self d (h.blk.set_ 4 _) rfl rfl rfl rfl,a⟩,λb c=>.inl c,d.mono λb c e=>c ((a b).2 (.inl e))⟩)
 clear h a d;go_enter func152,ntmps152;go_wp2_with fail;go_returns;exact ⟨rfl,f.o⟩
def Xb:Value:=.func (.func 112) #[] #[]
def AC (T:TS)(k:Nat)(budget:Int):SS:=⟨T,k,E3 4096,Xj (Xv budget 1) 64,0,0⟩
def mX (wd t:Nat)(S:SS)(w:World)(M:Nat->Prop)(r:Ending)(w':World):Prop:=∃s q,r=.returned (.pointer (some ⟨s,0,none⟩))/\Q6 (QQ s wd t q Xb S) w M w'/\Below w.heap.size w w'
theorem O0 (wd t k:Nat)(T:TS)(a:Int)(w:World)(M:Nat->Prop)(h:Bb wd t T k w M):Calls prog 71 #[wd,int i64 a] w λr w'=>mX wd t (AC T k a) w M r w':=by
 have m:=pp (Sp 4096 w);have hmn:=@YY prog;have hmx:=@ZC prog;have j:=pp h;clear h;go_enter func71,ntmps71;go_wp2_with (go_at_call 111;refine m.o.mono ?_;rintro e_ f ⟨q,Mq,rfl,p,l,i⟩);go_returns;obtain ⟨n,e⟩:=pt (f.alloc (.cells #[q,wd,int i64 (Xj (Xv a 1) 64),int i64 0,Xb,.slice none 0 0] 111));have C:=Q0.fresh e;have g:pM f n:=by rw [e];exact Q3 _ _
 have d:=after i g;unfold Xb at e;rw [<-e];refine ⟨_,q,rfl,⟨Vi f.heap.size (.slice none 0 0) M Mq,⟨.slice none 0 0,[],M,Mq,⟨C,Q5.nil,pA _,(XR wd t T k).on j.o d,(Zs q _).on p g,λb c hb'=>?_⟩,λ_=>Iff.rfl⟩,λb c=>?_,(Kept.of_below d).mono λ_ _=>trivial⟩,d⟩
 ·have:=(j.o.type c).1;have:=l b hb';omega
 ·rcases c with rfl|c|c|c
  ·exact .inr i.size
  ·cases c
  ·exact .inl c
  ·exact .inr (l b c)
def TS.cell (T:TS)(c:Cl):Int:=T.at c.1 c.2.1 c.2.2
theorem SimAt.tells {w:World}{s wd t q:Nat}{occ:Value}{S:SS}(h:SimAt w s wd t q occ S v ds Mw Mq)(b:S.T.l.length<=1000):Yy prog 67 (.pointer (some ⟨t,0,none⟩)) S.T.cell w:=by
 obtain ⟨v,xs,Mt,h1,h2,h3,a,hM⟩:=h.wd;exact Ia a b
theorem SD (n:Int):0<=YR n/\YR n<=5:=by
 unfold YR;split
 ·omega
 ·split<;>omega
structure CanSet (T:TS)(c:Cl)(n:Nat)(i:TI)(b:Int):Prop where
 find:T.find (Xa c.1 c.2.2)=n
 get:T.l[n]?=some i
 is:i.is (Xa c.1 c.2.2)=true
 y:Yp c.2.1=true
 may:Zi b=true
def TS.put (T:TS)(c:Cl)(n:Nat)(i:TI)(b:Int):TS:= { T with l:=T.l.eraseIdx n++[i.set c.1 c.2.1 c.2.2 b] }
theorem J2 {T:TS}{c:Cl}{n:Nat}{i:TI}{b:Int}(h:T.l[n]?=some i):(T.put c n i b).l.length=T.l.length:=by
 have a:n<T.l.length:=(List.getElem?_eq_some_iff.1 h).1;unfold TS.put;simp [List.length_eraseIdx,a];omega
theorem Q6.under {P:QK}{w w':World}{M:Nat->Prop}(h:Q6 P w M' w')(c:∀b,M b↔M' b):Q6 P w M w':=by
 obtain ⟨g,f,d,e⟩:=h;exact ⟨g,f,λb a=>(d b a).imp_left (c b).2,e.mono λb a h=>a ((c b).2 h)⟩
theorem fQ (s wd t q n:Nat)(occ:Value)(S S':SS)(i:TI)(c:Cl)(b:Int)(P:UD c)(hn:S.T.l.length<=1000)(j:CanSet S.T c n i b)(V:S.k<=1000000)(w:World)(M:Nat->Prop)(h:QQ s wd t q occ S w M)
  (X:∀F O,QQ s wd t q occ { S with T:=S.T.put c n i b,k:=S.k+1 } F O->Calls prog 192 #[s,XF c] F λr w'=>r=.returned (.tuple #[])/\Q6 (QQ s wd t q occ S') F O w'):
  Calls prog 146 #[s,XF c,b] w λr w'=>r=.returned (int i64 0)/\Q6 (QQ s wd t q occ S') w M w':=by
 obtain ⟨v,ds,Mw,Mq,h,N⟩:=h;obtain ⟨W,a⟩:=pt (w.alloc (.cells #[int i64 c.1,int i64 c.2.1,int i64 c.2.2] 43));have H:pM w W:=by rw [a];exact Q3 _ _
 have C:Q0 W w.heap.size 43 #[int i64 c.1,int i64 c.2.1,int i64 c.2.2]:=Q0.fresh a;have s1:=λd os=>(((h.on H).blk).re d os).cell 1
 obtain ⟨Q,Z,c2⟩:=C.re3;have f:Qg c.1/\Qg c.2.2:=by
  obtain ⟨h1,h2,h3⟩:=P;unfold Qg;omega
 have p:=pp λu (g:pM w u)=>ka wd t S.k n S.T i c.1 c.2.1 c.2.2 b u Mw ((XR wd t S.T S.k).on h.wd g) f.1 f.2 hn j.find j.get j.is j.y j.may V
 have J:=pp (py h N);have HC:=pp C;have HH:=pp H;have HW:=pp X;clear h H C P hn j V N X f;go_enter func146,ntmps146;go_upto_region 1 with fail
 rw [<-a];clear a;refine Qk [0,0,0,0,0,0,3,3] (λ_ _ _=>True) (by kernel_rfl) (by kernel_rfl) (λ_ _ _ _ h _=>h) ?_
 repeat (first|(refine Qi ?_)|(refine Qf (λK Y=>?_);go_simp;refine Y _ ?_;clear Y K))
 refine Q8 ?_;repeat (refine Q2 ?_)
 refine Qc ?_;simp only [Qd];intro u g2 _;have G:=pp (after HH.o g2);have I:=pp (HC.o.on g2);have E:=pp (p.o u G.o);have D:=pp (J.o.1.on G.o);clear g2 s1 Q Z c2 p;go_upto_region 3 with (go_at_call 191;refine E.o.mono ?_;rintro e_ R ⟨rfl,A⟩;replace A:=pp A)
 obtain ⟨M3,a3,L,x⟩:=D.o.world A.o;have m:Q0 R w.heap.size 43 #[int i64 c.1,int i64 c.2.1,int i64 c.2.2]:=x.blk (λe=>by have:=(J.o.1.type e).1;omega) I.o
 obtain ⟨Q,Z,c2,-,-,-⟩:=m.c3;have z:=pp (HW.o R M3 a3);have U:=pp (py L x);clear m a3 L x HW;go_wp2_with (go_at_call 192;refine z.o.mono ?_;rintro e_ w4 ⟨rfl,B⟩;replace B:=pp B);go_returns;exact ⟨rfl,(Q6.ahead G.o (Q6.bind U.o.1 U.o.2 B.o)).under J.o.2⟩
theorem SE (s wd t q:Nat)(occ:Value)(S S':SS)(c:Cl)(b:Int)(z:UD c)(E:S.T.l.length<=1000)(i:S.T.cell c≠b)(w:World)(M:Nat->Prop)(h:QQ s wd t q occ S w M)
  (D:∀g,QQ s wd t q occ S g M->Calls prog 146 #[s,XF c,b] g λr w'=>r=.returned (int i64 0)/\Q6 (QQ s wd t q occ S') g M w'):
  Calls prog 276 #[s,.agg #[int i64 c.1,int i64 c.2.1,int i64 c.2.2,b]] w λr w'=>r=.returned (.tuple #[])/\Q6 (QQ s wd t q occ S') w M w':=by
 have x:=pp h;obtain ⟨v,ds,Mw,Mq,h,J⟩:=h;obtain ⟨W,e⟩:=pt (w.alloc (.cells #[int i64 c.1,int i64 c.2.1,int i64 c.2.2,b] 307));have H:pM w W:=by rw [e];exact Q3 _ _
 have C:Q0 W w.heap.size 307 #[int i64 c.1,int i64 c.2.1,int i64 c.2.2,b]:=Q0.fresh e;have s1:=λd os=>(((h.on H).blk).re d os).cell 1
 have I:=λd os=>(C.re d os).cell 0
 have A:=λd os=>(C.re d os).cell 1
 have c2:=λd os=>(C.re d os).cell 2
 have c3:=λd os=>(C.re d os).cell 3
 have m:=pp λd os=>UB wd t S.k S.T (Go.Sort.grow (redrawn W d) os) Mw ((XR wd t S.T S.k).on h.wd (after H (pK _ d os)))
 have j:=pp λd os=>h.tells E c (Up z c List.mem_cons_self) (Go.Sort.grow (redrawn W d) os) (after H (pK _ d os))
 have K:=pp C;have N:=pp H;have G:=pp D;generalize S.T.cell c=was at *;have hne1:(was==b)=false:=by simpa using i
 have hne2:(was !=b)=true:=by simpa using i
 clear h H C z E J D;go_enter func276,ntmps276;go_upto_region 1 with fail
 rw [<-e];clear e;refine wp_region_quiet_below (by kernel_rfl) (by kernel_rfl) ?_
 repeat (go_big_quiet_step (first|exact Calls.regrown_of (j.o _ _)|exact Calls.regrown_of ((m.o _ _).mono λ_ _ ⟨O,L⟩=>⟨O,by rw [<-L];exact pI _ _⟩)))
 refine wpQuiet_nil ?_;intro w' n;obtain ⟨B,rfl⟩:=n;obtain ⟨g,f⟩:=pt (Go.Sort.grow (redrawn W B.d) B.os);have u:pM W g:=by rw [f];exact pK _ _ _
 rw [<-f];have F:=pp (after N.o u);have a:=K.o.on u;clear f u s1 I A c2 c3 m j;have I:=a.cell 0;have A:=a.cell 1;have c2:=a.cell 2;have c3:=a.cell 3;have y:=pp (G.o g ((Xs s wd t q occ S).on x.o F.o));clear a G;go_wp2_with (go_at_call 146;refine y.o.mono ?_;rintro e_ w4 ⟨rfl,p⟩;replace p:=pp p);go_returns;exact ⟨rfl,Q6.ahead F.o p.o⟩
abbrev XS (e:Nat):Value:=.func (.func 145) #[e] #[]
abbrev aK (c:Cl)(b:Int):Value:=.agg #[int i64 c.1,int i64 c.2.1,int i64 c.2.2,b]
def nL (N:Nat)(c:Cl)(v:Value)(w:World):Prop:=∃b,v=.slice (some ⟨b,0,none⟩) 1 1/\N<=b/\Q0 w b 43 #[int i64 c.1,int i64 c.2.1,int i64 c.2.2]
def nM (N:Nat)(r:Option Nat)(xs:List Cl)(v':Value)(w:World):Prop:=Q5 w 0 43 3 XG v' xs/\∀b,v'.ownBlock=some b->r=some b∨N<=b
def kC (N:Nat)(r:Option Nat)(xs:List Cl)(c:Cl):Nat->XO:=λi v' w=>match i with|6=>nL N c v' w|7=>nM N r (xs++[c]) v' w|_=>True
theorem kD {r:Option Nat}{xs:List Cl}{c:Cl}(g:∀b,r=some b->b<N):∀i v' (w w':World),kC N r xs c i v' w->(if i=7 then Below w.heap.size w w' else Kept (λb=>r≠some b) w w')->kC N r xs c i v' w'
 | 6,_,_,_,⟨b,f,d,h⟩,a=>⟨b,f,d,(show Kept _ _ _ from a).blk (λe=>by have:=g b e;omega) h⟩
 | 7,_,_,_,⟨f,d⟩,a=>⟨f.on a,d⟩
 | 0,_,_,_,_,_=>trivial
 | 1,_,_,_,_,_=>trivial
 | 2,_,_,_,_,_=>trivial
 | 3,_,_,_,_,_=>trivial
 | 4,_,_,_,_,_=>trivial
 | 5,_,_,_,_,_=>trivial
 | _+8,_,_,_,_,_=>trivial
theorem O7 {xs:List Cl}{c:Cl}(m:Q5 W 0 43 3 XG v xs)(l:nL N c v8 W)(hl:xs.length<=1000000)(n:N<=W.heap.size):
  ∃v' w',(Builtin.append_ #[47,47] 47 #[v,v8]).run prog W=.ok v' w'/\Kept (λb=>b∉v.ownBlock.toList) W w'/\nM N v.ownBlock (xs++[c]) v' w':=by
 obtain ⟨b,rfl,hb,q⟩:=l;obtain ⟨g,cp,o,hrun,i,a,h⟩:=Yr (P:=prog) (w:=W) (base:=0) (e:=43) (size:=3) (enc:=XG) (v:=v) (xs:=xs) (ts:=47) (ty:=47) (bytes:=24) (b:=b) (x:=c) underlying47 Kk rfl (by decide) (by decide) rfl (by intro u d;simp [XG] at d;rcases d with rfl|rfl|rfl<;>rfl) m (λj u d=>by rw [q.cell j];simpa [XG] using d) (by omega) (pC _)
 refine ⟨_,o,hrun,⟨a.os,a.tape,a.output,a.size,λk f p=>a.block k f (λe=>p (by rw [Option.mem_toList];exact e.symm))⟩,i,λk f=>?_⟩
 simp [Value.ownBlock] at f;subst f;exact h.imp_right (pB n)
theorem SimAt.drop {w c:World}{s wd t q:Nat}{occ v9:Value}{S:SS}{x:Cl}(h:SimAt w s wd t q occ S v ds Mw Mq)(p:w.heap.size<=N)(m:Kept (λb=>b∉v.ownBlock.toList) w c)(o:Q5 c 0 43 3 XG v9 (ds++[x]))(l:∀b,v9.ownBlock=some b->v.ownBlock=some b∨N<=b):
  Q6 (QQ s wd t q occ { S with d:=S.d+1 }) w (Vi s v Mw Mq) (c.setCell ⟨s,5,none⟩ v9):=by
 have f:Kept (λb=>b≠s) c (c.setCell ⟨s,5,none⟩ v9):=(Kept.refl _ _).setCell (by simp) _
 have g:s∉v.ownBlock.toList:=QR λe=>(h.r_no e).2.2 rfl
 have j:=m.blk g h.blk;have i:Kept (λb=>v.ownBlock≠some b/\b≠s) w (c.setCell ⟨s,5,none⟩ v9):=(m.mono λb a=>QR a.1).trans (f.mono λb a=>a.2)
 have hsl:=h.blk.lt;have u8:∀b cs,Q0 w b 5 cs->v.ownBlock≠some b/\b≠s:=λb cs a=>⟨λe=>by
  obtain ⟨-,cur,r⟩:=QC h.row e;exact absurd (Q7 a r) (by decide),λe=>by rw [e] at a;exact absurd (Q7 a h.blk) (by decide)⟩
 refine ⟨Vi s v9 Mw Mq,⟨v9,ds++[x],Mw,Mq,⟨j.set_ 5 _,o.keep f λb a e=>?_,by rw [List.length_append,List.length_singleton];have:=h.len;dsimp only;omega,(XR wd t S.T S.k).kept h.wd i (λb a=>⟨λe=>(h.r_no e).1 a,λe=>h.s_no.1 (e▸a)⟩) u8,(Zs q S.Q).kept h.q i (λb a=>⟨λe=>(h.r_no e).2.1 a,λe=>h.s_no.2 (e▸a)⟩) u8,h.apart⟩,λ_=>Iff.rfl⟩,λb a=>?_,i.mono λb a=>⟨λe=>a (.inr (.inl e)),λe=>a (.inl e)⟩⟩
 ·subst e;rcases l _ a with n|n
  ·exact (h.r_no n).2.2 rfl
  ·omega
 ·rcases a with a|a|a|a
  ·exact .inl (.inl a)
  ·exact (l _ a).imp (λh=>.inr (.inl h)) (pB p)
  ·exact .inl (.inr (.inr (.inl a)))
  ·exact .inl (.inr (.inr (.inr a)))
def GI (S:SS):Int:=Xj (S.now+1) 1099511627776
def SS.tick (S:SS):SS:= { S with now:=GI S }
end
section
theorem ZV {p:Int×Int}{i:TI} :i.is p=true↔(i.x,i.z)=p:=by
 unfold TI.is;rw [DX];exact ⟨λh=>Prod.ext h.1 h.2,λh=>by rw [<-h];exact ⟨rfl,rfl⟩⟩
theorem Fx:∀{l:List TI} {i:TI} {p:Int×Int},(l.map λi=>(i.x,i.z)).Nodup->i∈l->i.is p=true->l.find? (TI.is p)=some i
 | [],_,_,_,h,_=>by cases h
 | a::l,i,p,d,b,c=>by
  rw [List.map_cons,List.nodup_cons] at d;cases ha:a.is p
  ·rw [List.find?_cons_of_neg (by rw [ha];decide)]
   rcases List.mem_cons.1 b with rfl|b
   ·rw [ha] at c;cases c
   ·exact Fx d.2 b c
  ·rw [List.find?_cons_of_pos ha];rcases List.mem_cons.1 b with rfl|b
   ·rfl
   ·exact absurd (List.mem_map.2 ⟨i,b,by rw [ZV.1 c,ZV.1 ha]⟩) d.1
theorem Ec {α:Type} :∀{l:List α} {n:Nat} {a:α},l[n]?=some a->(l.eraseIdx n++[a]).Perm l
 | [],_,_,h=>by cases h
 | x::l,0,a,h=>by
  obtain rfl:x=a:=by simpa using h
  exact List.perm_append_comm
 | x::l,n+1,a,h=>by
  have:=Ec (l:=l) (n:=n) (a:=a) (by simpa using h)
  exact this.cons x
theorem JM {α β:Type}(f:α->β):∀(l:List α) (n:Nat),(l.eraseIdx n).map f=(l.map f).eraseIdx n
 | [],_=>rfl
 | _::_,0=>rfl
 | x::l,n+1=>by
  show f x::(l.eraseIdx n).map f=f x::(l.map f).eraseIdx n;rw [JM f l n]
structure GoodT (T:TS):Prop where
 len:∀i∈T.l,i.cs.length=8192
 one:T.here.Nodup
section
variable {T:TS}{c d:Cl}{n:Nat}{i:TI}{b:Int}
theorem LH (h:T.l[n]?=some i):(T.put c n i b).here.Perm T.here:=by
 have a:T.here[n]?=some (i.x,i.z):=by unfold TS.here;rw [List.getElem?_map,h];rfl
 have d:(T.put c n i b).here=T.here.eraseIdx n++[(i.x,i.z)]:=by
  unfold TS.put TS.here TI.set;simp [JM]
 rw [d];exact Ec a
theorem Fy {j:TI}(a:j∈(T.put c n i b).l):j=i.set c.1 c.2.1 c.2.2 b∨j∈T.l:=by
 unfold TS.put at a;rcases List.mem_append.1 a with a|a
 ·exact .inr (List.mem_of_mem_eraseIdx a)
 ·exact .inl (by simpa using a)
theorem GoodT.put (g:GoodT T)(h:T.l[n]?=some i):GoodT (T.put c n i b) where
 len:=λj a=>by
  rcases Fy a with rfl|a
  ·unfold TI.set;rw [List.length_set];exact g.len i (pG h)
  ·exact g.len j a
 one:=(LH h).nodup_iff.2 g.one
theorem aL (h1:0<=c.2.1/\c.2.1<32)(h2:0<=d.2.1/\d.2.1<32)(a:Xa c.1 c.2.2=Xa d.1 d.2.2)(h:(YH c.1 c.2.1 c.2.2).toNat=(YH d.1 d.2.1 d.2.2).toNat):c=d:=by
 obtain ⟨x,y,z⟩:=c;obtain ⟨e,b,f⟩:=d;unfold Xa at a;unfold YH at h;injection a with k1 k2
 dsimp only at *;have:x=e/\y=b/\z=f:=by omega
 obtain ⟨rfl,rfl,rfl⟩:=this;rfl
theorem Ca (h:Yp y=true):0<=y/\y<32:=by unfold Yp at h;simpa using h
theorem kE (l:i.cs.length=8192)(j:Yp c.2.1=true)(k:Xa c.1 c.2.2=Xa d.1 d.2.2):(i.set c.1 c.2.1 c.2.2 b).at d.1 d.2.1 d.2.2=if d=c then b else i.at d.1 d.2.1 d.2.2:=by
 have f:=Ca j;unfold TI.at;by_cases a:d.2.1<0
 ·rw [if_pos a,if_pos a,if_neg (λe=>by rw [e] at a;omega)]
 ·rw [if_neg a,if_neg a];cases hy:Yp d.2.1
  ·simp only [Bool.false_eq_true,if_false];rw [if_neg (λe=>by subst e;rw [j] at hy;cases hy)]
  ·simp only [if_true];have h:=Ca hy;unfold Ud TI.set;dsimp only;have hi:=BA (x:=c.1) (z:=c.2.2) f;rw [List.getElem?_set];by_cases g:(YH c.1 c.2.1 c.2.2).toNat=(YH d.1 d.2.1 d.2.2).toNat
   ·rw [if_pos g,if_pos (by rw [l];omega),if_pos (aL f h k g).symm]
    rfl
   ·rw [if_neg g,if_neg (λe=>g (by rw [e]))]
theorem CanSet.cell (g:GoodT T)(h:CanSet T c n i b)(d:Cl):(T.put c n i b).cell d=if d=c then b else T.cell d:=by
 have s:GoodT (T.put c n i b):=g.put h.get;have r:i∈T.l:=pG h.get;have m:i.set c.1 c.2.1 c.2.2 b∈(T.put c n i b).l:=List.mem_append_right _ (by simp)
 unfold TS.cell TS.at;by_cases o:Xa c.1 c.2.2=Xa d.1 d.2.2
 ·have f:i.is (Xa d.1 d.2.2)=true:=by rw [<-o];exact h.is
  rw [Fx s.one m f,Fx g.one r f];exact kE (g.len i r) h.y o
 ·rw [if_neg (λe=>o (by rw [e]))]
  have k:∀j:TI,(j.x,j.z)=(i.x,i.z)->j.is (Xa d.1 d.2.2)=false:=λj a=>by
   cases hjj:j.is (Xa d.1 d.2.2)
   ·rfl
   ·exact absurd ((ZV.1 h.is).symm.trans (a.symm.trans (ZV.1 hjj))) o
  suffices e:(T.put c n i b).l.find? (TI.is (Xa d.1 d.2.2))=T.l.find? (TI.is (Xa d.1 d.2.2)) by rw [e]
  cases hf:T.l.find? (TI.is (Xa d.1 d.2.2)) with
  | none=>
   rw [List.find?_eq_none] at hf ⊢;intro j a;rcases Fy a with rfl|a
   ·rw [k (i.set c.1 c.2.1 c.2.2 b) rfl];decide
   ·exact hf j a
  | some j=>
   have a:=List.mem_of_find?_eq_some hf;have p:=List.find?_some hf;refine Fx s.one ?_ p;have q:j≠i:=λe=>by rw [e,k i rfl] at p;cases p
   have:=(Ec h.get).mem_iff.2 a;rcases List.mem_append.1 this with f|f
   ·exact List.mem_append_left _ f
   ·exact absurd (by simpa using f) q
end
theorem LI (s a c x y z:Int)(hy:14<=y):(QP s a c).at x y z=0:=by
 unfold TI.at QP;rw [if_neg (by omega)]
 cases h:Yp y
 ·rfl
 ·rw [if_pos rfl];have d:=BA (x:=x) (z:=z) (Ca h);unfold Ud Ye;dsimp only;rw [List.getElem?_map,List.getElem?_range (by omega)]
  show DO s a c _=0;unfold DO BW;have e:=DI s (a * 16+((((YH x y z).toNat%256:Nat)):Int)%16) (c * 16+((((YH x y z).toNat%256:Nat)):Int) / 16%16);generalize VY s _ _=g at e;have b:(((YH x y z).toNat:Nat):Int) / 256=y:=by
   rw [Int.toNat_of_nonneg d.1];unfold YH;omega
  rw [b];unfold BS;have:=Ca h;rw [if_neg (by omega),if_neg (by omega),if_neg (by omega),if_neg (by omega),if_neg (by omega)]
theorem LJ (s a b:Int):(QP s a b).cs.length=8192:=by unfold QP Ye;simp
structure High (T:TS)(f:Cl->Int):Prop where
 good:GoodT T
 len:T.l.length=5
 ring:∀p∈YK 0 0,p∈T.here
 cell:∀c:Cl,Xa c.1 c.2.2∈YK 0 0->16<=c.2.1->T.cell c=f c
def Vj (f:Cl->Int)(c:Cl)(b:Int):Cl->Int:=λd=>if d=c then b else f d
theorem High.ready {T:TS}(h:High T f)(hx:0<=x/\x<16)(hz:0<=z/\z<16):T.ready x z=true:=by
 unfold TS.ready;rw [show x / 16=0 by omega,show z / 16=0 by omega,List.all_eq_true]
 intro p a;exact decide_eq_true (h.ring p a)
end
section
open Go.RowKit Go.Maps
attribute [local go_sem] Oper.semAt_some
abbrev Ua (s:Nat)(p:Option Addr):Array Value:=#[s,.pointer p,.pointer none,.pointer none,.pointer none,.pointer none,.pointer none,.pointer none,.pointer none,.pointer none,.pointer none,.pointer none,.pointer none,.pointer none,.pointer none,.pointer none,.pointer none]
theorem kF (e s:Nat)(p:Option Addr)(w:World)(h:Q0 w e 71 (Ua s p)):Calls prog 28 #[e] w λr w'=>r=.returned (.pointer (some ⟨s,0,none⟩))/\w=w':=by
 have c0:=h.cell 0;clear h;go_enter func28,ntmps28;go_wp2_with fail;go_returns;exact ⟨rfl,rfl⟩
theorem SF (e s:Nat)(p:Option Addr)(w:World)(h:Q0 w e 71 (Ua s p)):Calls prog 31 #[e,int i64 0] w λr w'=>r=.returned (.pointer p)/\w=w':=by
 have c1:=h.cell 1;clear h;go_enter func31,ntmps31;go_wp2_with fail;go_returns;exact ⟨rfl,rfl⟩
structure Lf where
 a:Nat
 b:BD
 x:Int
 z:Int
 j:Bool
abbrev Ed (l:Lf):Array Value:=#[int i64 l.b.1,int i64 l.b.2.1,int i64 l.b.2.2.1,int i64 l.b.2.2.2.1,int i64 l.b.2.2.2.2.1,int i64 l.b.2.2.2.2.2.1,int i64 l.b.2.2.2.2.2.2.1,int i64 l.b.2.2.2.2.2.2.2.1,.bool l.b.2.2.2.2.2.2.2.2,int i64 l.x,int i64 l.z,.bool l.j]
def JN:Option Lf->Option Addr
 | none=>none
 | some l=>some ⟨l.a,0,none⟩
structure EngAt (w:World)(e s wd t q:Nat)(occ:Value)(S:SS)(L:Option Lf)(Ms:Nat->Prop):Prop where
 blk:Q0 w e 71 (Ua s (JN L))
 life:∀l,L=some l->Q0 w l.a 83 (Ed l)
 sim:QQ s wd t q occ S w Ms
def AV (e:Nat)(L:Option Lf)(Ms:Nat->Prop)(b:Nat):Prop:=b=e∨(∃l,L=some l/\b=l.a)∨Ms b
def Qr (e s wd t q:Nat)(occ:Value)(S:SS)(L:Option Lf):QK:=λw M=>∃Ms,EngAt w e s wd t q occ S L Ms/\∀b,M b↔AV e L Ms b
theorem SG:¬Fw 71/\¬Fw 83:=by
 refine ⟨λh=>?_,λh=>?_⟩<;>
 ·rcases h with h|h|h|h
  ·revert h;decide
  ·revert h;decide
  ·rcases h with h|h|h|h|h|h|h|h|h|h<;>revert h<;>decide
  ·rcases h with h|h<;>revert h<;>decide
theorem QQ.type {w:World}{s wd t q:Nat}{occ:Value}{S:SS}{M:Nat->Prop}(h:QQ s wd t q occ S w M){b:Nat}(c:M b):b<w.heap.size/\∀ty cs,Q0 w b ty cs->Fw ty:=by
 obtain ⟨v,ds,Mw,Mq,h,a⟩:=h;exact h.type ((a b).1 c)
section
variable {w w':World}{e s wd t q:Nat}{occ:Value}{S:SS}{L:Option Lf}{Ms M K:Nat->Prop}
theorem EngAt.type (h:EngAt w e s wd t q occ S L Ms){b:Nat}(c:AV e L Ms b):b<w.heap.size/\∀ty cs,Q0 w b ty cs->ty=71∨ty=83∨Fw ty:=by
 rcases c with rfl|⟨l,d,rfl⟩|c
 ·exact ⟨h.blk.lt,λty cs a=>.inl (Q7 a h.blk)⟩
 ·exact ⟨(h.life l d).lt,λty cs a=>.inr (.inl (Q7 a (h.life l d)))⟩
 ·exact ⟨(h.sim.type c).1,λty cs a=>.inr (.inr ((h.sim.type c).2 ty cs a))⟩
theorem EngAt.kept (h:EngAt w e s wd t q occ S L Ms)(c:Kept K w w')(a:∀b,AV e L Ms b->K b)(f:∀b cs,Q0 w b 5 cs->K b):EngAt w' e s wd t q occ S L Ms where
 blk:=c.blk (a _ (.inl rfl)) h.blk
 life:=λl d=>c.blk (a _ (.inr (.inl ⟨l,d,rfl⟩))) (h.life l d)
 sim:=(Xs s wd t q occ S).kept h.sim c (λb g=>a b (.inr (.inr g))) f
theorem YB (e s wd t q:Nat)(occ:Value)(S:SS)(L:Option Lf):QK.Fit 5 (Qr e s wd t q occ S L) where
 lt:=λ⟨Ms,h,a⟩ b c=>(h.type ((a b).1 c)).1
 nob:=λ⟨Ms,h,a⟩ b c cs g=>by
  rcases (h.type ((a b).1 c)).2 _ _ g with f|f|f
  ·revert f;decide
  ·revert f;decide
  ·rcases (a b).1 c with d|⟨l,j,d⟩|d
   ·subst d;exact absurd (Q7 g h.blk) (by decide)
   ·subst d;exact absurd (Q7 g (h.life l j)) (by decide)
   ·exact (Xs s wd t q occ S).nob h.sim b d cs g
 kept:=λ⟨Ms,h,a⟩ k i m=>⟨Ms,h.kept k (λb c=>i b ((a b).2 c)) m,a⟩
theorem EngAt.e_no (h:EngAt w e s wd t q occ S L Ms):¬Ms e:=λa=>SG.1 ((h.sim.type a).2 _ _ h.blk)
theorem EngAt.l_no (h:EngAt w e s wd t q occ S L Ms){l:Lf}(b:L=some l):¬Ms l.a/\l.a≠e:=⟨λc=>SG.2 ((h.sim.type c).2 _ _ (h.life l b)),λd=>by have:=h.life l b;rw [d] at this;exact absurd (Q7 this h.blk) (by decide)⟩
theorem EngAt.turn (h:EngAt w e s wd t q occ S L Ms){S':SS}(k:Q6 (QQ s wd t q occ' S') w Ms w'):Q6 (Qr e s wd t q occ' S' L) w (AV e L Ms) w':=by
 obtain ⟨c,g,i,d⟩:=k;refine ⟨AV e L c,⟨c,⟨d.blk h.e_no h.blk,λl f=>d.blk (h.l_no f).1 (h.life l f),g⟩,λ_=>Iff.rfl⟩,λb a=>?_,d.mono λb a h=>a (.inr (.inr h))⟩
 rcases a with a|a|a
 ·exact .inl (.inl a)
 ·exact .inl (.inr (.inl a))
 ·exact (i b a).imp_left λh=>.inr (.inr h)
end
theorem J3 (e s wd t q:Nat)(occ:Value)(S:SS)(L:Option Lf)(w:World)(Ms:Nat->Prop)(h:EngAt w e s wd t q occ S L Ms):Calls prog 138 #[e] w λr w'=>r=.returned (E0 t)/\w=w':=by
 have c0:=h.blk.cell 0;have a:=pp (As s wd t q occ S w Ms h.sim);obtain ⟨v,ds,Mw,Mq,c,-⟩:=h.sim;have b:=pp (UB wd t S.k S.T w Mw c.wd);clear h c;go_enter func138,ntmps138;go_wp2_with first
  | (go_at_call 27;refine a.o.mono ?_;rintro f d ⟨rfl,rfl⟩)
  | (go_at_call 29;refine b.o.mono ?_;rintro f d ⟨rfl,rfl⟩)
 go_returns;exact ⟨rfl,rfl⟩
def AM (T:TS)(b:BD):Bool:=T.ready (Qm b.1) (Qm b.2.2.1)
theorem GJ (e s wd t q:Nat)(occ:Value)(S:SS)(L:Option Lf)(b:BD)(n: -1000000000000000<=Qm b.1/\Qm b.1<=1000000000000000)(j: -1000000000000000<=Qm b.2.2.1/\Qm b.2.2.1<=1000000000000000)(p:S.T.l.length<=1000)(w:World)(Ms:Nat->Prop)(h:EngAt w e s wd t q occ S L Ms):
  Calls prog 136 #[e,.agg (Z5 b)] w λr w'=>r=.returned (.bool (AM S.T b))/\Below w.heap.size w w':=by
 unfold AM;obtain ⟨W,a⟩:=pt (w.alloc (.cells (Z5 b) 40));have H:pM w W:=by rw [a];exact Q3 _ _
 have C:Q0 W w.heap.size 40 (Z5 b):=Q0.fresh a;have c0:=λd os=>(C.re d os).cell 0
 have c1:=λd os=>(C.re d os).cell 1
 have c2:=λd os=>(C.re d os).cell 2
 have e0:=λd os=>((h.blk.on H).re d os).cell 0
 have i:=pp λd os=>As s wd t q occ S (Go.Sort.grow (redrawn W d) os) Ms ((Xs s wd t q occ S).on h.sim (after H (pK _ d os)))
 obtain ⟨v,ds,Mw,Mq,m,-⟩:=h.sim;have f:=pp λd os=>E2 wd t S.k S.T (Qm b.1) (Qm b.2.1) (Qm b.2.2.1) (Go.Sort.grow (redrawn W d) os) Mw ((XR wd t S.T S.k).on m.wd (after H (pK _ d os))) n j p
 have g:=pp λx=>OO b.1 b.2.1 b.2.2.1 x
 have y:=pp H;generalize S.T.ready (Qm b.1) (Qm b.2.2.1)=rb at *;clear h m H C n j p;go_enter func136,ntmps136;go_upto_region 1 with fail
 rw [<-a];clear a;refine wp_region_quiet_below (by kernel_rfl) (by kernel_rfl) ?_
 repeat (go_big_quiet_step (first|exact Calls.regrown_of ((i.o _ _).mono λ_ _ ⟨z,u⟩=>⟨z,by rw [<-u];exact pI _ _⟩)|exact Calls.regrown_of (g.o _)|exact Calls.regrown_of (f.o _ _)))
 refine wpQuiet_nil ?_;intro w' c;obtain ⟨rg,rfl⟩:=c;go_wp2_with fail;go_returns;exact ⟨rfl,after y.o (pK _ _ _)⟩
def kG (N:Nat)(seed lim R:Int)(v:Value)(w:World):Prop:=∃wd t M,v=.pointer (some ⟨wd,0,none⟩)/\Bb wd t (AU seed lim R) 0 w M/\∀b,M b->N<=b
def pb (N:Nat)(seed lim R bu:Int)(v:Value)(w:World):Prop:=∃s wd t q M,v=.pointer (some ⟨s,0,none⟩)/\QQ s wd t q Xb (AC (AU seed lim R) 0 bu) w M/\∀b,M b->N<=b
def kH (N:Nat)(seed lim R bu:Int):Nat->XO:=λi v w=>match i with|6=>kG N seed lim R v w|9=>pb N seed lim R bu v w|_=>True
theorem kI {N:Nat}{seed lim R bu:Int} :∀i v (w w':World),kH N seed lim R bu i v w->Below w.heap.size w w'->kH N seed lim R bu i v w'
 | 6,_,_,_,⟨wd,t,M,d,a,b⟩,c=>⟨wd,t,M,d,(XR wd t _ _).on a c,b⟩
 | 9,_,_,_,⟨s,wd,t,q,M,d,a,b⟩,c=>⟨s,wd,t,q,M,d,(Xs s wd t q Xb _).on a c,b⟩
 | 0,_,_,_,_,_=>trivial
 | 1,_,_,_,_,_=>trivial
 | 2,_,_,_,_,_=>trivial
 | 3,_,_,_,_,_=>trivial
 | 4,_,_,_,_,_=>trivial
 | 5,_,_,_,_,_=>trivial
 | 7,_,_,_,_,_=>trivial
 | 8,_,_,_,_,_=>trivial
 | _+10,_,_,_,_,_=>trivial
def mY (seed lim R bu:Int)(w:World)(r:Ending)(w':World):Prop:=∃e s wd t q M,r=.returned (.pointer (some ⟨e,0,none⟩))/\Qr e s wd t q Xb (AC (AU seed lim R) 0 bu) none w' M/\(∀b,M b->w.heap.size<=b)/\Below w.heap.size w w'
theorem SH (seed c R m:Int)(w:World):Calls prog 37 #[.agg #[int i64 seed,int i64 c,int i64 R,int i64 m]] w λr w'=>mY seed c R m w r w':=by
 obtain ⟨W,i⟩:=pt (w.alloc (.cells #[int i64 seed,int i64 c,int i64 R,int i64 m] 95));have H:pM w W:=by rw [i];exact Q3 _ _
 have C:Q0 W w.heap.size 95 #[int i64 seed,int i64 c,int i64 R,int i64 m]:=Q0.fresh i;have Q:=λd os=>(C.re d os).cell 0
 have T:=λd os=>(C.re d os).cell 1
 have c2:=λd os=>(C.re d os).cell 2
 have c3:=λd os=>(C.re d os).cell 3
 have u:=pp H;clear H C;go_enter func37,ntmps37;go_upto_region 1 with fail
 rw [<-i];clear i;refine Qk [0,0,0,0,0,0,2,0,0,2,3,3,3] (kH w.heap.size seed c R m) (by kernel_rfl) (by kernel_rfl) (kI) ?_
 repeat (first|(refine Qi ?_)|(refine Qf (λK N=>?_);go_simp;refine N _ ?_;clear N K))
 refine Q8 ?_;refine Q2 ?_;refine Q2 ?_;refine Q2 ?_;refine Q2 ?_;refine Q2 ?_;refine Q2 ?_;refine Qv ?lsA (λP=>?_)
 case lsA=>(intro v h A;(first|(dsimp only at j;obtain ⟨a,t9,p,rfl,f,e⟩:=(show kG _ _ _ _ _ _ from j.2 (by kernel_rfl));go_simp;refine (O0 a t9 0 _ m v p f).mono ?_;rintro F G ⟨E,z,rfl,⟨x,y,I,S⟩,k⟩;exact ⟨_,rfl,Kept.of_below k,E,a,t9,z,x,rfl,y,λb g=>(I b g).elim (e b) (pB (pB u.o.size (Qb h).size))⟩)|(go_simp;refine (So seed c R v).mono ?_;rintro F G ⟨a,t9,p,rfl,f,e,k⟩;exact ⟨_,rfl,Kept.of_below k,a,t9,p,rfl,f,λb g=>pB (pB u.o.size (Qb h).size) (e b g)⟩)))
 refine Q2 ?_;refine Q2 ?_;refine Xz ?lsA (λP=>?_)
 case lsA=>(intro v h A j;(first|(dsimp only at j;obtain ⟨a,t9,p,rfl,f,e⟩:=(show kG _ _ _ _ _ _ from j.2 (by kernel_rfl));go_simp;refine (O0 a t9 0 _ m v p f).mono ?_;rintro F G ⟨E,z,rfl,⟨x,y,I,S⟩,k⟩;exact ⟨_,rfl,Kept.of_below k,E,a,t9,z,x,rfl,y,λb g=>(I b g).elim (e b) (pB (pB u.o.size (Qb h).size))⟩)|(go_simp;refine (So seed c R v).mono ?_;rintro F G ⟨a,t9,p,rfl,f,e,k⟩;exact ⟨_,rfl,Kept.of_below k,a,t9,p,rfl,f,λb g=>pB (pB u.o.size (Qb h).size) (e b g)⟩)))
 refine Q2 ?_;refine Q2 ?_;refine Q2 ?_;refine Qc ?_;simp only [Qd];rintro B L ⟨⟨-,wd8,t8,x,rfl,-⟩,s,wd,t,q,M,rfl,V,O⟩;clear Q T c2 c3;go_wp2_with fail;go_returns;obtain ⟨U,n⟩:=pt (B.alloc (.cells (Ua s none) 71));have J:pM B U:=by rw [n];exact Q3 _ _
 rw [<-n];refine ⟨_,s,wd,t,q,AV B.heap.size none M,rfl,⟨M,⟨Q0.fresh n,λl D=>(by cases D),(Xs s wd t q Xb _).on V J⟩,λ_=>Iff.rfl⟩,λb g=>?_,after (after u.o L) J⟩
 rcases g with rfl|⟨l,D,-⟩|g
 ·exact (after u.o L).size
 ·cases D
 ·exact O b g
theorem fT (e s wd t q:Nat)(occ:Value)(S:SS)(l:Lf)(w:World)(Ms:Nat->Prop)(h:EngAt w e s wd t q occ S (some l) Ms):
  Calls prog 15 #[e,int i64 0] w λr w'=>r=.returned (.tuple #[.agg (Z5 l.b),.bool true])/\Below w.heap.size w w':=by
 obtain ⟨W,d⟩:=pt (w.alloc (.cells #[int i64 0,int i64 0,int i64 0,int i64 0,int i64 0,int i64 0,int i64 0,int i64 0,.bool false] 40));have H:pM w W:=by rw [d];exact Q3 _ _
 have R:Q0 W w.heap.size 40 #[int i64 0,int i64 0,int i64 0,int i64 0,int i64 0,int i64 0,int i64 0,int i64 0,.bool false]:=by rw [d];exact Q0.new' (by simp)
 have c:=(h.life l rfl).on H;have f:=pp (SF e s (some ⟨l.a,0,none⟩) W (h.blk.on H));have i:w.heap.size<=w.heap.size:=pA _;obtain ⟨a,⟨p,j,x,n,y,k,m,u,z⟩,lx,lz,lj⟩:=l;have m0:=c.cell 0;have m1:=c.cell 1;have m2:=c.cell 2;have m3:=c.cell 3;have m4:=c.cell 4;have m5:=c.cell 5;have m6:=c.cell 6;have m7:=c.cell 7;have m8:=c.cell 8;obtain ⟨⟨r0,r1,r2,r3,r4,r5,r6,r7,r8⟩,s0,s1,s2,s3,s4,s5,s6,s7,s8⟩:=R.c9;clear h c;go_enter func15,ntmps15;go_upto_region 1 with fail
 rw [<-d];clear d;go_wp2_with (go_at_call 31;refine f.o.mono ?_;rintro e_ w1 ⟨rfl,rfl⟩);have g:=R.st9 (int i64 p) (int i64 j) (int i64 x) (int i64 n) (int i64 y) (int i64 k) (int i64 m) (int i64 u) (.bool z);obtain ⟨⟨F,C,B,A,J,G,E,D,I⟩,-⟩:=g.c9;exact bodyPost_ret (v:=.tuple #[.agg (Z5 (p,j,x,n,y,k,m,u,z)),.bool true]) (by simp [results,results15,go_sem,F,C,B,A,J,G,E,D,I]) rfl ⟨rfl,Z0 H i _ _ _ _ _ _ _ _ _⟩
def CH (b:BD)(c:Cl):Bool:=OP (Qw b).1 (Qw b).2.1 (Qw b).2.2.1 (Qw b).2.2.2.1 (Qw b).2.2.2.2.1 (Qw b).2.2.2.2.2 (Xu c.1) (Xu c.2.1) (Xu c.2.2) (Q9 (Xu c.1) 65536) (Q9 (Xu c.2.1) 65536) (Q9 (Xu c.2.2) 65536)
def VA (L:Option Lf)(c:Cl):Bool:=match L with
 | none=>false
 | some l=>CH l.b c
abbrev aM (c:Cl):Array Value:=#[int i64 (Xu c.1),int i64 (Xu c.2.1),int i64 (Xu c.2.2),int i64 (Q9 (Xu c.1) 65536),int i64 (Q9 (Xu c.2.1) 65536),int i64 (Q9 (Xu c.2.2) 65536)]
theorem O9 (g:Nat)(w:World):
  Calls prog 189 #[.pointer none,g] w λr w'=>r=.returned (.bool false)/\Below w.heap.size w w':=by
 go_enter func189,ntmps189;go_upto_region 1 with fail
 refine wp_region_quiet_below (by kernel_rfl) (by kernel_rfl) ?_
 repeat (go_big_quiet_step (fail))
 refine wpQuiet_nil ?_;intro w' a;obtain ⟨rg,rfl⟩:=a;go_wp2_with fail;go_returns;exact ⟨rfl,pK w _ _⟩
theorem fU (l:Lf)(g:Nat)(c:Cl)(k:l.b.2.2.2.2.2.2.1<=9223372036854775807)(w:World)(e:Q0 w l.a 83 (Ed l))(f:Q0 w g 210 (aM c)):
  Calls prog 189 #[l.a,g] w λr w'=>r=.returned (.bool (CH l.b c))/\Below w.heap.size w w':=by
 have l0:=λd os=>(e.re d os).cell 0
 have l1:=λd os=>(e.re d os).cell 1
 have l2:=λd os=>(e.re d os).cell 2
 have l3:=λd os=>(e.re d os).cell 3
 have l4:=λd os=>(e.re d os).cell 4
 have l5:=λd os=>(e.re d os).cell 5
 have l6:=λd os=>(e.re d os).cell 6
 have l7:=λd os=>(e.re d os).cell 7
 have l8:=λd os=>(e.re d os).cell 8
 have g0:=λd os=>(f.re d os).cell 0
 have g1:=λd os=>(f.re d os).cell 1
 have g2:=λd os=>(f.re d os).cell 2
 have g3:=λd os=>(f.re d os).cell 3
 have g4:=λd os=>(f.re d os).cell 4
 have g5:=λd os=>(f.re d os).cell 5
 have j:=pp λW=>I7 l.b k W
 have i:=pp λW=>iZ (Qw l.b).1 (Qw l.b).2.1 (Qw l.b).2.2.1 (Qw l.b).2.2.2.1 (Qw l.b).2.2.2.2.1 (Qw l.b).2.2.2.2.2 (Xu c.1) (Xu c.2.1) (Xu c.2.2) (Q9 (Xu c.1) 65536) (Q9 (Xu c.2.1) 65536) (Q9 (Xu c.2.2) 65536) W
 unfold CH;clear e f k;generalize Qw l.b=bx at *;go_enter func189,ntmps189;go_upto_region 1 with fail
 refine wp_region_quiet_below (by kernel_rfl) (by kernel_rfl) ?_
 repeat (go_big_quiet_step (first|exact Calls.regrown_of (j.o _)|exact Calls.regrown_of (i.o _)))
 refine wpQuiet_nil ?_;intro w' h;obtain ⟨rg,rfl⟩:=h;go_wp2_with fail;go_returns;exact ⟨rfl,pK w _ _⟩
theorem aN (q:Option Addr)(cp:Nat)(a:List Value)(f:a.length<=1000000)(G:FuncId)(b:Array Value)(p:Nat->Bool)(w:World)(g:Rd w q 1 EK a)(c:∀args w,(callFunc G args).run prog w=.ok (.enter G args) w)(e:Ki prog G b a p w):
  Calls prog 188 #[.slice q a.length cp,.func (.func G) #[] b] w λr w'=>∃k:Int,r=.returned (.bool (decide (0<=k)))/\Aq p a.length k/\Below w.heap.size w w':=by
 have h:=pp (ew q cp a f G b p w g c e);clear f g c e;go_enter func188,ntmps188;go_wp2_with (go_at_call 245;refine h.o.mono ?_;rintro e_ w1 ⟨k,rfl,i,d⟩;have j:=pp i;have l:=pp d;clear i d);go_returns;exact ⟨k,rfl,j.o,l.o⟩
def Cb (L:Option Lf):List Value:=[.pointer (JN L),.pointer none,.pointer none,.pointer none,.pointer none,.pointer none,.pointer none,.pointer none,.pointer none,.pointer none,.pointer none,.pointer none,.pointer none,.pointer none,.pointer none,.pointer none]
theorem Bu (L:Option Lf):(Cb L).length=16:=rfl
theorem SI {L:Option Lf}(h:(Cb L)[k]?=some v):(k=0/\v=.pointer (JN L))∨(1<=k/\k<16/\v=.pointer none):=by
 have a:k<16:=(List.getElem?_eq_some_iff.1 h).1;rcases k with _|k
 ·left;exact ⟨rfl,by injection h with h;exact h.symm⟩
 ·right;refine ⟨by omega,a,?_⟩
  have:∀j:Nat,j<15->(Cb L)[j+1]?=some (.pointer none):=by
   intro j hj;rcases (show j=0∨j=1∨j=2∨j=3∨j=4∨j=5∨j=6∨j=7∨j=8∨j=9∨j=10∨j=11∨j=12∨j=13∨j=14 by omega) with rfl|rfl|rfl|rfl|rfl|rfl|rfl|rfl|rfl|rfl|rfl|rfl|rfl|rfl|rfl<;>rfl
  rw [this k (by omega)] at h
  injection h with h
  exact h.symm
theorem Oa {w:World}{e s:Nat}{L:Option Lf}(h:Q0 w e 71 (Ua s (JN L))):Rd w (some ⟨e,1,none⟩) 1 EK (Cb L):=λ_=>by
 refine ⟨e,1,rfl,λi v a j u b=>?_⟩
 obtain rfl:j=0:=by
  have:=(List.getElem?_eq_some_iff.1 b).1;simp at this;exact this
 obtain rfl:v=u:=by injection b
 have hi:i<16:=(List.getElem?_eq_some_iff.1 a).1;rw [h.cell];show (Ua s (JN L))[1+i * 1+0]?=some v;rw [<-a];rcases (show i=0∨i=1∨i=2∨i=3∨i=4∨i=5∨i=6∨i=7∨i=8∨i=9∨i=10∨i=11∨i=12∨i=13∨i=14∨i=15 by omega) with rfl|rfl|rfl|rfl|rfl|rfl|rfl|rfl|rfl|rfl|rfl|rfl|rfl|rfl|rfl|rfl<;>rfl
theorem Po {L:Option Lf}{c:Cl}{k:Int}(h:Aq (λj=>decide (j=0)&&VA L c) 16 k):decide (0<=k)=VA L c:=by
 rcases h with ⟨rfl,h⟩|⟨m,-,rfl,h,-⟩
 ·have:=h 0 (by omega)
  simp at this;rw [this];rfl
 ·simp at h;rw [h.2];simp
theorem EngAt.on {w w':World}{e s wd t q:Nat}{occ:Value}{S:SS}{L:Option Lf}{Ms:Nat->Prop}(h:EngAt w e s wd t q occ S L Ms)(a:Below w.heap.size w w'):EngAt w' e s wd t q occ S L Ms:=h.kept ((Kept.of_below a).mono (K':=λ_=>True) λ_ _=>trivial) (λ_ _=>trivial) (λ_ _ _=>trivial)
theorem SJ {L:Option Lf}{c:Cl}{w:World}(d:∀l,L=some l->l.b.2.2.2.2.2.2.1<=9223372036854775807)(f:∀l,L=some l->Q0 w l.a 83 (Ed l))(i:Q0 w g 210 (aM c)):
  Ki prog 189 #[g] (Cb L) (λj=>decide (j=0)&&VA L c) w:=by
 intro k v e W h;rcases SI e with ⟨rfl,rfl⟩|⟨h1,h2,rfl⟩
 ·cases L with
  | none=>exact O9 g W
  | some l=>exact fU l g c (d l rfl) W ((f l rfl).on h) (i.on h)
 ·have:(decide (k=0)&&VA L c)=false:=by rw [decide_eq_false (by omega)];rfl
  show Calls _ _ #[_,_] _ λr W'=>r=.returned (.bool (decide (k=0)&&VA L c))/\_
  rw [this];exact O9 g W
theorem Ob (e s:Nat)(L:Option Lf)(c:Cl)(q:∀l,L=some l->l.b.2.2.2.2.2.2.1<=9223372036854775807)(w:World)(t:Q0 w e 71 (Ua s (JN L)))(n:∀l,L=some l->Q0 w l.a 83 (Ed l)):
  Calls prog 145 #[e,XF c] w λr w'=>r=.returned (.bool (VA L c))/\Below w.heap.size w w':=by
 have hmf:∀(u:Fn) (first cap:Array Value) (w:World),(Instr.makeFunc u first cap).run prog w=.ok (.func u first cap) w:=λ_ _ _ _=>rfl
 obtain ⟨W,d⟩:=pt (w.alloc (.cells #[int i64 c.1,int i64 c.2.1,int i64 c.2.2] 43));have H:pM w W:=by rw [d];exact Q3 _ _
 obtain ⟨E,y,c2,-,-,-⟩:=(Q0.fresh d).c3;have g:=pp λB=>jm c.1 c.2.1 c.2.2 B
 have i:=pp (py t (py n q));have D:=pp H;clear t n q H;go_enter func145,ntmps145;go_upto_region 1 with fail
 rw [<-d];clear d;go_upto_region 2 with (go_at_call 187;refine (g.o _).mono ?_;rintro C x ⟨rfl,g2⟩;have A:=pp (after D.o g2);clear g2)
 obtain ⟨p,f⟩:=pt (x.alloc (.cells (aM c) 210));have h:=pp (show pM w p from after A.o (by rw [f];exact Q3 _ _))
 have m:=pp (aN (some ⟨e,1,none⟩) 16 (Cb L) (by rw [Bu];decide) 189 #[x.heap.size] (λj=>decide (j=0)&&VA L c) p (Oa (i.o.1.on h.o)) (enters_of func189 (by kernel_rfl) rfl) (SJ i.o.2.2 (λl z=>(i.o.2.1 l z).on h.o) (Q0.fresh f)))
 rw [<-f];rw [Bu] at m;clear f E y c2;go_wp2_with (go_at_call 188;refine m.o.mono ?_;rintro C w5 ⟨k,rfl,(v:Hid _)⟩);go_returns;exact ⟨by rw [Po v.o.1];rfl,after h.o v.o.2⟩
theorem fV (e s wd t q:Nat)(occ:Value)(S S':SS)(L:Option Lf)(c:Cl)(b:Int)(P:∀l,L=some l->l.b.2.2.2.2.2.2.1<=9223372036854775807)(hh:Zh b=true->VA L c=false)(w:World)(M:Nat->Prop)(h:Qr e s wd t q occ S L w M)
  (Q:∀G N,QQ s wd t q occ S G N->Calls prog 146 #[s,XF c,b] G λr w'=>r=.returned (int i64 0)/\Q6 (QQ s wd t q occ S') G N w'):
  Calls prog 99 #[e,XF c,b] w λr w'=>r=.returned (int i64 0)/\Q6 (Qr e s wd t q occ S' L) w M w':=by
 obtain ⟨Ms,h,J⟩:=h;obtain ⟨W,a⟩:=pt (w.alloc (.cells #[int i64 c.1,int i64 c.2.1,int i64 c.2.2] 43));have H:pM w W:=by rw [a];exact Q3 _ _
 have C:Q0 W w.heap.size 43 #[int i64 c.1,int i64 c.2.1,int i64 c.2.2]:=Q0.fresh a;have f:=λW=>Nk b W
 have j:=λv (g:pM w v)=>Ob e s L c P v (h.blk.on g) (λl T=>(h.life l T).on g)
 have k:=pp (py h J);have O:=pp C;have B:=pp H;have y:=pp Q;obtain ⟨x,u,c2,-,-,-⟩:=C.c3;clear h H C J Q P;cases hs:Zh b
 ·rw [hs] at f;have i:=pp f;clear f hs hh j;go_enter func99,ntmps99;go_upto_region 1 with fail
  rw [<-a];clear a;go_upto_region 3 with (go_at_call 144;refine (i.o _).mono ?_;rintro E I ⟨rfl,rfl⟩)
  clear x u c2;obtain ⟨x,u,c2⟩:=O.o.re3;have F:=λd os=>((k.o.1.blk.on B.o).re d os).cell 0
  refine Qk [0,0,0,0,0,0,3,3] (λ_ _ _=>True) (by kernel_rfl) (by kernel_rfl) (λ_ _ _ _ h _=>h) ?_
  repeat (first|(refine Qi ?_)|(refine Qf (λK z=>?_);go_simp;refine z _ ?_;clear z K))
  refine Q8 ?_;repeat (refine Q2 ?_)
  refine Qc ?_;simp only [Qd];intro v g2 _;have p:=pp (after B.o g2);have n:=pp (y.o v Ms (k.o.1.on p.o).sim);clear g2 F x u c2;go_wp2_with (go_at_call 146;refine n.o.mono ?_;rintro E R ⟨rfl,m⟩;replace m:=pp m);go_returns;exact ⟨rfl,(Q6.ahead p.o ((k.o.1.on p.o).turn m.o)).under k.o.2⟩
 ·rw [hs] at f;rw [hh hs] at j;have i:=pp f;have A:=pp (j W B.o);clear f hs hh j;go_enter func99,ntmps99;go_upto_region 1 with fail
  rw [<-a];clear a;go_upto_region 3 with first
   | (go_at_call 144;refine (i.o _).mono ?_;rintro E I ⟨rfl,rfl⟩)
   | (go_at_call 145;refine A.o.mono ?_;rintro E I ⟨rfl,D⟩;replace D:=pp D)
  clear x u c2;obtain ⟨x,u,c2⟩:=(O.o.on D.o).re3;have F:=λd os=>((k.o.1.blk.on (after B.o D.o)).re d os).cell 0
  refine Qk [0,0,0,0,0,0,3,3] (λ_ _ _=>True) (by kernel_rfl) (by kernel_rfl) (λ_ _ _ _ h _=>h) ?_
  repeat (first|(refine Qi ?_)|(refine Qf (λK z=>?_);go_simp;refine z _ ?_;clear z K))
  refine Q8 ?_;repeat (refine Q2 ?_)
  refine Qc ?_;simp only [Qd];intro v g2 _;have p:=pp (after (after B.o D.o) g2);have n:=pp (y.o v Ms (k.o.1.on p.o).sim);clear g2 F x u c2;go_wp2_with (go_at_call 146;refine n.o.mono ?_;rintro E R ⟨rfl,m⟩;replace m:=pp m);go_returns;exact ⟨rfl,(Q6.ahead p.o ((k.o.1.on p.o).turn m.o)).under k.o.2⟩
theorem fX (q:Option Addr)(cp:Nat)(a:List Value)(d:a.length<=1000000)(b:a[0]?=some (.pointer none))(w:World)(c:Rd w q 1 EK a):
  Calls prog 134 #[.slice q a.length cp,.pointer none] w λr w'=>r=.returned (int i64 0)/\w=w':=by
 have e:0<a.length:=(List.getElem?_eq_some_iff.1 b).1;obtain ⟨g,o,rfl,h⟩:=c e;have c0:w.cell? ⟨g,o,none⟩=some (.pointer none):=h 0 _ b 0 _ rfl;have hl':(0:Int)<(a.length:Int):=by omega
 clear h c b d;go_enter func134,ntmps134;go_upto_region 2 with fail
 refine wp_loop_rounds 1 ?_;rw [rounds_succ];go_wp2_with fail;go_returns;exact ⟨rfl,rfl⟩
theorem EngAt.born {w:World}{e s wd t q:Nat}{occ:Value}{S:SS}{Ms:Nat->Prop}(h:EngAt w e s wd t q occ S none Ms)(l:Lf)(f:Q0 w l.a 83 (Ed l)):EngAt (w.setCell ⟨e,1,none⟩ (.pointer (some ⟨l.a,0,none⟩))) e s wd t q occ S (some l) Ms where
 blk:=h.blk.set_ 1 _
 life:=λi g=>by
  obtain rfl:l=i:=pE g;exact f.far (p:=⟨e,1,none⟩) (λc=>by dsimp only at c;rw [c] at f;exact absurd (Q7 f h.blk) (by decide)) _
 sim:=(Xs s wd t q occ S).kept h.sim ((Kept.refl (λb=>b≠e) w).setCell (by simp) _) (λb d c=>h.e_no (c▸d)) λb cs d c=>by rw [c] at d;exact absurd (Q7 d h.blk) (by decide)
abbrev ZP (x y z wi ht:Int)(st:Bool):BD:=(x,y,z,0,0,0,wi,ht,st)
def pf (N:Nat)(x y z wi ht:Int)(st:Bool)(v:Value)(w:World):Prop:=∃a,v=.pointer (some ⟨a,0,none⟩)/\N<=a/\Q0 w a 83 (Ed ⟨a,ZP x y z wi ht st,0,0,false⟩)
def kJ (N:Nat)(x y z wi ht:Int)(st:Bool):Nat->XO:=λi v w=>match i with|4=>pf N x y z wi ht st v w|_=>True
theorem kK {N:Nat}{x y z wi ht:Int}{st:Bool} :∀i v (w w':World),kJ N x y z wi ht st i v w->Below w.heap.size w w'->kJ N x y z wi ht st i v w'
 | 4,_,_,_,⟨a,c,b,d⟩,e=>⟨a,c,b,d.on e⟩
 | 0,_,_,_,_,_=>trivial
 | 1,_,_,_,_,_=>trivial
 | 2,_,_,_,_,_=>trivial
 | 3,_,_,_,_,_=>trivial
 | _+5,_,_,_,_,_=>trivial
theorem aO (e s wd t q:Nat)(occ:Value)(S:SS)(x y z m ht:Int)(st:Bool)(bx:B6)(ar:Qw (ZP x y z m ht false)=bx)(ae:m<=9223372036854775807)(hm:EW (ZP x y z m ht false)=true)(ha:AM S.T (ZP x y z m ht false)=true)
  (hx: -1000000000000000<=Qm x/\Qm x<=1000000000000000) (hz: -1000000000000000<=Qm z/\Qm z<=1000000000000000) (hn:S.T.l.length<=1000)
  (hB:BoxOk bx.1 bx.2.1 bx.2.2.1 bx.2.2.2.1 bx.2.2.2.2.1 bx.2.2.2.2.2) (hS:BoxOk bx.1 (Qe (bx.2.1 - 1)) bx.2.2.1 bx.2.2.2.1 bx.2.1 bx.2.2.2.2.2) (h1: -140737488355328<=bx.2.1) (h2:bx.2.1<=140737488355328)
  (hf:((Qz bx.1 bx.2.1 bx.2.2.1 bx.2.2.2.1 bx.2.2.2.2.1 bx.2.2.2.2.2).any λc=>Zh (S.T.cell c))=false) (aq:((Qz bx.1 (Qe (bx.2.1 - 1)) bx.2.2.1 bx.2.2.2.1 bx.2.1 bx.2.2.2.2.2).any λc=>Zh (S.T.cell c))=st)
  (w:World) (M:Nat->Prop) (h:Qr e s wd t q occ S none w M):
  Calls prog 92 #[e,.agg #[x,y,z],int i64 m,int i64 ht] w λr w'=>r=.returned (.tuple #[int i64 0,int i64 0])/\(∃a,Q6 (Qr e s wd t q occ S (some ⟨a,ZP x y z m ht st,0,0,false⟩)) w M w')/\Kept (λb=>b≠e) w w':=by
 obtain ⟨Ms,h,hM⟩:=h;obtain ⟨W,u⟩:=pt ((w.alloc (.cells #[x,y,z] 38)).alloc (.cells (Z5 (ZP x y z m ht false)) 40));have H:Below w.heap.size w W:=by rw [u];go_grown
 have B0:Q0 W (w.heap.size+1) 40 (Z5 (ZP x y z m ht false)):=by rw [u];exact Q0.new' (by simp)
 have HE:=pp (py h hM);have aj:=pp (fX (some ⟨e,1,none⟩) 16 (Cb none) (by rw [Bu];decide) rfl W (Oa (h.blk.on H)))
 rw [Bu] at aj;have X:=λi=>Se (ZP x y z m ht false) i
 rw [hm] at X;have ai:=pp X;have aa:=λi (g:Below w.heap.size w i)=>GJ e s wd t q occ S none (ZP x y z m ht false) hx hz hn i Ms (h.on g)
 rw [ha] at aa;have au:=pp aa;have an:=pp λi (g:Below w.heap.size w i)=>J3 e s wd t q occ S none i Ms (h.on g)
 have am:=λb i=>I7 (ZP x y z m ht b) ae i
 have P:∀b,Qw (ZP x y z m ht b)=bx:=λb=>ar
 have p:=am false;rw [P false] at p;have O:=pp p;have V:∀i (g:Below w.heap.size w i),Yy prog 67 (.pointer (some ⟨t,0,none⟩)) S.T.cell i:=λi g=>by
  obtain ⟨v,ds,Mw,Mq,hs,-⟩:=(h.on g).sim;exact hs.tells hn
 have Z:=λi (g:Below w.heap.size w i)=>CT 67 (.pointer (some ⟨t,0,none⟩)) S.T.cell bx.1 bx.2.1 bx.2.2.1 bx.2.2.2.1 bx.2.2.2.2.1 bx.2.2.2.2.2 hB i (enters_of func67 (by kernel_rfl) rfl) (V i g)
 rw [hf] at Z;have ap:=pp Z;have ab:=λi (g:Below w.heap.size w i)=>Bm 67 (.pointer (some ⟨t,0,none⟩)) S.T.cell bx.1 bx.2.1 bx.2.2.1 bx.2.2.2.1 bx.2.2.2.2.1 bx.2.2.2.2.2 h1 h2 hS i (enters_of func67 (by kernel_rfl) rfl) (V i g)
 rw [aq] at ab;have av:=pp ab;have HH:=pp H;have ad:=pp B0;have hN:w.heap.size<=w.heap.size+1:=by omega
 have HN:=pp hN;obtain ⟨⟨C,F,N,B,L,G,I,D,n⟩,-⟩:=B0.c9;clear h hM H B0 X aa am p Z ab ar P ae hm ha hx hz hn hB hS h1 h2 hf aq V hN;go_enter func92,ntmps92;go_upto_region 2 with fail
 rw [<-u];clear u;generalize w.heap.size+1=g at *;go_upto_region 5 with first
  | (go_at_call 134;refine aj.o.mono ?_;rintro e_ w1 ⟨rfl,rfl⟩)
  | (go_at_call 135;refine (ai.o _).mono ?_;rintro e_ w1 ⟨rfl,g1⟩;have G1:=pp (after HH.o g1);have R:=pp (ad.o.on g1);clear g1)
 clear C F N B L G I D n;obtain ⟨⟨C,F,N,B,L,G,I,D,n⟩,-⟩:=R.o.c9;go_upto_region 9 with (go_at_call 136;refine (au.o _ G1.o).mono ?_;rintro e_ w2 ⟨rfl,g2⟩;have G2:=pp (after G1.o g2);have j:=pp (R.o.on g2);clear g2)
 clear C F N B L G I D n ad R;have C:=λd os=>(j.o.re d os).cell 0
 have F:=λd os=>(j.o.re d os).cell 1
 have N:=λd os=>(j.o.re d os).cell 2
 have B:=λd os=>(j.o.re d os).cell 3
 have L:=λd os=>(j.o.re d os).cell 4
 have G:=λd os=>(j.o.re d os).cell 5
 have I:=λd os=>(j.o.re d os).cell 6
 have D:=λd os=>(j.o.re d os).cell 7
 have n:=λd os=>(j.o.re d os).cell 8
 have ak:=pp λd os=>an.o (Go.Sort.grow (redrawn w2 d) os) (after G2.o (pK w2 d os))
 have ah:=pp λd os=>ap.o (Go.Sort.grow (redrawn w2 d) os) (after G2.o (pK w2 d os))
 refine wp_region_quiet_below (by kernel_rfl) (by kernel_rfl) ?_
 repeat (go_big_quiet_step (first|exact Calls.regrown_of ((ak.o _ _).mono λ_ _ ⟨he,hw⟩=>⟨he,by rw [<-hw];exact pI _ _⟩)|exact Calls.regrown_of (O.o _)|exact Calls.regrown_of (ah.o _ _)))
 refine wpQuiet_nil ?_;intro w' ax;obtain ⟨rg,rfl⟩:=ax;obtain ⟨W3,E⟩:=pt (Go.Sort.grow (redrawn w2 rg.d) rg.os);have G3:=pp (show Below w.heap.size w W3 by rw [E];exact after G2.o (pK w2 _ _))
 have f:=pp (show Q0 W3 g 40 (Z5 (ZP x y z m ht false)) by rw [E];exact j.o.re _ _)
 rw [<-E];go_upto_region 11 with fail
 clear C F N B L G I D n ak ah E;have C:=λd os=>(f.o.re d os).cell 0
 have F:=λd os=>(f.o.re d os).cell 1
 have N:=λd os=>(f.o.re d os).cell 2
 have B:=λd os=>(f.o.re d os).cell 3
 have L:=λd os=>(f.o.re d os).cell 4
 have G:=λd os=>(f.o.re d os).cell 5
 have I:=λd os=>(f.o.re d os).cell 6
 have D:=λd os=>(f.o.re d os).cell 7
 have n:=λd os=>(f.o.re d os).cell 8
 have ag:=pp λd os=>an.o (Go.Sort.grow (redrawn W3 d) os) (after G3.o (pK W3 d os))
 refine Qk [0,0,0,0,3,3,3] (λ_ _ _=>True) (by kernel_rfl) (by kernel_rfl) (λ_ _ _ _ h _=>h) ?_
 repeat (first|(refine Qi ?_)|(refine Qf (λK Y=>?_);go_simp;first|(refine Y _ ?_;clear Y K)|(apply Exists.intro;refine ⟨λ_=>?_,Y _ ?_⟩;(first|exact (ag.o _ _).mono λ_ _ ⟨he,hw⟩=>⟨he,by rw [<-hw];exact pI _ _⟩|exact O.o _);clear Y K)))
 refine Q8 ?_;repeat (refine Q2 ?_)
 refine Qc ?_;simp only [Qd];intro W4 g4 _;have G4:=pp (after G3.o g4);have U:=pp (f.o.on g4);clear g4 C F N B L G I D n ag;go_upto_region 12 with fail
 have ac:=pp (av.o W4 G4.o);have f8:=U.o.frz 8;have n:=U.o.cell 8;clear f8 n;go_upto_region 12 with (go_at_call 140;refine ac.o.mono ?_;rintro e_ w5 ⟨rfl,g5⟩;have G5:=pp (after G4.o g5);have J:=pp (U.o.on g5);clear g5;have f8:=J.o.frz 8;have n:=J.o.cell 8)
 obtain ⟨W6,A⟩:=pt (w5.setCell ⟨g,8,none⟩ (.bool st));have G6:=pp (show Below w.heap.size w W6 by rw [A];exact G5.o.setCell HN.o _)
 have k:=pp (show Q0 W6 g 40 (Z5 (ZP x y z m ht st)) by rw [A];exact J.o.set_ 8 _)
 rw [<-A];clear A f8 n J ac;have C:=λd os=>(k.o.re d os).cell 0
 have F:=λd os=>(k.o.re d os).cell 1
 have N:=λd os=>(k.o.re d os).cell 2
 have B:=λd os=>(k.o.re d os).cell 3
 have L:=λd os=>(k.o.re d os).cell 4
 have G:=λd os=>(k.o.re d os).cell 5
 have I:=λd os=>(k.o.re d os).cell 6
 have D:=λd os=>(k.o.re d os).cell 7
 have n:=λd os=>(k.o.re d os).cell 8
 refine Qk [0,0,0,0,2,0,0,0,3] (kJ w.heap.size x y z m ht st) (by kernel_rfl) (by kernel_rfl) (kK) ?_
 repeat (first|(refine Qi ?_)|(refine Qf (λK Y=>?_);go_simp;refine Y _ ?_;clear Y K))
 refine Q8 ?_;repeat (first|(refine Q2 ?_)|(refine Qv ?lsA (λv_=>?_);case lsA=>(intro w_ ay hp_;((go_simp;exact ⟨Kept.of_below (Q3 _ _),_,rfl,pB G6.o.size (Qb ay).size,Q0.new' rfl⟩)))))
 refine Qc ?_;simp only [Qd];rintro W7 g7 ⟨-,a,rfl,ao,af⟩;have G7:=pp (after G6.o g7);have al:=pp (py ao af);have Q:=pp (HE.o.1.on G7.o);have e1:=Q.o.blk.cell 1;have f1:=Q.o.blk.frz 1;clear C F N B L G I D n ao af g7;go_wp2_with fail;go_returns;refine ⟨rfl,⟨a,?_⟩,((Kept.of_below G7.o).mono (K:=λb=>b≠e) λ_ h=>h).setCell (by simp) _⟩
 refine ⟨AV e (some ⟨a,ZP x y z m ht st,0,0,false⟩) Ms,⟨Ms,Q.o.born ⟨a,ZP x y z m ht st,0,0,false⟩ al.o.2,λ_=>Iff.rfl⟩,λb hb=>?_,((Kept.of_below G7.o).mono (K:=λb=>¬M b) λ_ h=>h).setCell (λaw=>aw ((HE.o.2 e).2 (.inl rfl))) _⟩
 rcases hb with rfl|⟨l,hl,rfl⟩|hb
 ·exact .inl ((HE.o.2 _).2 (.inl rfl))
 ·obtain rfl:=pE hl;exact .inr al.o.1
 ·exact .inl ((HE.o.2 b).2 (.inr (.inr hb)))
theorem SK (g:Value)(q:Option Addr)(c:Nat)(b:BD)(e:1<=c)(w:World)(h:Rd w q 9 VO [b]):
  Calls prog 151 #[g,.slice q 1 c] w λr w'=>∃v,r=.returned v/\IT w' w.heap.size 40 v [b]/\Below w.heap.size w w':=by
 have f:=pp (WY q 1 c [b] rfl e (by omega) w h)
 clear e h;go_enter func151,ntmps151;go_upto_region 2 with (go_at_call 199;refine f.o.mono ?_;rintro e_ w1 ⟨v,rfl,a,d⟩)
 have j:=pp (IT.of a);obtain ⟨q1,c1,rfl,-,-,-⟩:=IT.of a;have i:=pp d;clear a d f;go_upto_region 3 with fail
 refine wp_loop_rounds 2 ?_;rw [rounds_succ];go_upto_region 6 with fail
 refine wp_loop_rounds 1 ?_;rw [rounds_succ];go_wp2_with fail;rw [rounds_succ];go_wp2_with fail;go_returns;exact ⟨_,rfl,j.o,i.o⟩
def YM (val:Cl->Int)(now:Int)(ds:List Cl)(l:List QI):List QI:=ds.foldl (λl d=>YS l d (now+YR (val d))) l
theorem SM (val:Cl->Int)(now:Int)(ds:List Cl)(d:Cl)(l:List QI):YM val now (ds++[d]) l=YS (YM val now ds l) d (now+YR (val d)):=by
 unfold YM;rw [List.foldl_append];rfl
theorem AD (val:Cl->Int)(now:Int):∀(ds:List Cl) {l:List QI},Xh l->Xh (YM val now ds l)
 | [],_,h=>h
 | d::ds,_,h=>AD val now ds (If h d _)
theorem CI (val:Cl->Int)(now:Int):∀(ds:List Cl) {l:List QI},QH l->QH (YM val now ds l)
 | [],_,h=>h
 | d::ds,_,h=>CI val now ds (LD h d _)
theorem GK (val:Cl->Int)(now:Int):∀(ds:List Cl) (l:List QI),(YM val now ds l).length<=l.length+ds.length
 | [],_=>pA _
 | d::ds,l=>by
  have h1:=GK val now ds (YS l d (now+YR (val d)));have h2:=NY l d (now+YR (val d));rw [List.length_cons];unfold YM at *;rw [List.foldl_cons];omega
theorem LK (val:Cl->Int)(c:Cl):(U0 val c).length<=7:=pB (List.length_filter_le _ _) (by simp [YL])
theorem aP {c:Cl}(h:UD c):∀d∈c::YL c,UC d:=λd a=>by
 obtain ⟨h1,h2,h3⟩:=h;simp [YL] at a;unfold UC Qg;rcases a with rfl|rfl|rfl|rfl|rfl|rfl|rfl<;>(try dsimp only)<;>omega
theorem fY (s wd t q:Nat)(occ:Value)(S:SS)(c:Cl)(hc:UD c)(hn:S.T.l.length<=1000)(hl:S.Q.l.length<=4000)(hr:4090<=S.Q.room)(hs:Xh S.Q.l)(m:QH S.Q.l)(ht:0<=S.now/\S.now<=1099511627776)(w:World)(M:Nat->Prop)(h:QQ s wd t q occ S w M):
  Calls prog 192 #[s,XF c] w λr w'=>r=.returned (.tuple #[])/\Q6 (QQ s wd t q occ { S with Q:= { S.Q with l:=YM S.T.cell S.now (U0 S.T.cell c) S.Q.l } }) w M w':=by
 have R:=pp h;obtain ⟨v,ds,Mw,Mq,h,hM⟩:=h;obtain ⟨W,hW⟩:=pt (w.alloc (.cells #[int i64 c.1,int i64 c.2.1,int i64 c.2.2] 43));have H:pM w W:=by rw [hW];exact Q3 _ _
 have C:Q0 W w.heap.size 43 #[int i64 c.1,int i64 c.2.1,int i64 c.2.2]:=Q0.fresh hW;have hS:=h.on H;have s1:=hS.blk.cell 1;have ah:=pp (UB wd t S.k S.T W Mw hS.wd);have am:=pp (fq t S.T.cell c hc W (hS.tells hn));have j:=Up hc;have f:=aP hc;have ak:=LK S.T.cell c;have b:∀d∈U0 S.T.cell c,d∈c::YL c:=λd m=>(List.mem_filter.1 m).1
 have HH:=pp H;generalize U0 S.T.cell c=L at *;obtain ⟨n,p⟩:=pt L.length;rw [<-p] at ak;have HX:=pp (py hn (py hl (py hr (py hs (py m (py ht (py j (py f (py b p)))))))));obtain ⟨c0,c1,c2,-,-,-⟩:=C.c3;clear h hS H C hc hn hM hl hr hs m ht j f b p;go_enter func192,ntmps192;go_upto_region 1 with fail
 rw [<-hW];clear hW;go_upto_region 3 with first
  | (go_at_call 29;refine ah.o.mono ?_;rintro e_ w1 ⟨rfl,rfl⟩)
  | (go_at_call 250;refine am.o.mono ?_;rintro e_ w2 ⟨v2,rfl,o2,g2⟩;have G2:=pp (after HH.o g2);obtain ⟨q2,cp2,rfl,-,-,U,-,ab⟩:=o2.form E4;have F:=pp (py U (py ab o2));rw [<-HX.o.2.2.2.2.2.2.2.2.2];clear o2 g2 U ab)
 clear c0 c1 c2 s1;go_loopw [6,16] (λpv iv wr=>∃i:Nat,iv=.int .i64 i/\Hid (i<=n)/\Hid (Q6 (QQ s wd t q occ { S with Q:= { S.Q with l:=YM S.T.cell S.now (L.take i) S.Q.l } }) w2 M wr)) (λ_ iv _=>n - (intOf iv).toNat)
 case atStart=>exact ⟨0,rfl,pC _,Q6.same ((Xs s wd t q occ S).on R.o G2.o)⟩
 case round=>
  obtain ⟨i,rfl,hi,HI⟩:=hrel;by_cases aj:i<n
  ·have hin:(i:Int)<(n:Int):=by omega
   have hi0:(0:Int)<=(i:Int):=by omega
   have YV:IntKind.i64.wrap ((i:Int)+1)=(i:Int)+1:=pJ _ (by omega)
   obtain ⟨M1,a1,m1,X⟩:=HI.out;obtain ⟨d,m⟩:∃d,L[i]?=some d:=⟨_,pH (by have:=HX.o.2.2.2.2.2.2.2.2.2;omega)⟩
   obtain ⟨Y,al,ac,I,P,af,j,f,b,p⟩:=HX.o;obtain ⟨g,rfl⟩:=F.o.2.1 (by omega)
   obtain ⟨g',o',e,h5⟩:=F.o.1 (by omega)
   obtain ⟨rfl,rfl⟩:g=g'/\0=o':=by simpa using e
   have V:=F.o.2.2.block g rfl;have N:¬M g:=λhb=>by
    have:=(Xs s wd t q occ S).lt R.o _ hb;have:=HH.o.size;omega
   have a:∀(k:Nat) (u:Value),w2.cell? ⟨g,k,none⟩=some u->wr.cell? ⟨g,k,none⟩=some u:=λk u hu=>by
    rw [World.cell?_of_block (X.block g V.2 N)];exact hu
   have r0:wr.cell? ⟨g,i * 3,none⟩=some (int i64 d.1):=a _ _ (by simpa using h5 i d m 0 _ rfl)
   have r1:wr.cell? ⟨g,i * 3+1,none⟩=some (int i64 d.2.1):=a _ _ (by simpa using h5 i d m 1 _ rfl)
   have r2:wr.cell? ⟨g,i * 3+2,none⟩=some (int i64 d.2.2):=a _ _ (by simpa using h5 i d m 2 _ rfl)
   have A:=b d (pG m);have an:=SD (S.T.cell d);obtain ⟨v1,ds1,Mw1,ag,G,x⟩:=a1;have D:=pp λz (g:pM wr z)=>G.tells Y d (j d A) z g
   have aa:=pp λz=>NO (S.T.cell d) z
   have ai:(YM S.T.cell S.now (L.take i) S.Q.l).length<=4007:=by
    have:=GK S.T.cell S.now (L.take i) S.Q.l;rw [List.length_take] at this;omega
   have E:=pp λz (g:pM wr z)=>NZ q { S.Q with l:=YM S.T.cell S.now (L.take i) S.Q.l } d (S.now+YR (S.T.cell d)) (f d A) (by unfold Qg;omega) (by show (YM S.T.cell S.now (L.take i) S.Q.l).length<=4095;omega) (AD _ _ _ I) (CI _ _ _ P) (by show ((YM S.T.cell S.now (L.take i) S.Q.l).length:Int)<S.Q.room;omega) z ag ((Zs q _).on G.q g)
   have e9:YS (YM S.T.cell S.now (L.take i) S.Q.l) d (S.now+YR (S.T.cell d))=YM S.T.cell S.now (L.take (i+1)) S.Q.l:=by
    rw [List.take_add_one,m];exact (SM _ _ _ _ _).symm
   have Z:=pp e9;obtain ⟨W3,y⟩:=pt (wr.alloc (.cells #[int i64 d.1,int i64 d.2.1,int i64 d.2.2] 43));have g3:pM wr W3:=by rw [y];exact Q3 _ _
   have ad:=pp (Q0.fresh y);have G3:=pp g3;have O:=pp (py G (py x (py m1 X)));dsimp only at E D;generalize E9 (YM S.T.cell S.now (L.take i) S.Q.l) d (S.now+YR (S.T.cell d))=bb at *;generalize YR (S.T.cell d)=dl at *;generalize S.T.cell d=bd at *;have hw:IntKind.i64.wrap (S.now+dl)=S.now+dl:=pJ _ (by omega)
   clear m1 X m Y al ac I P af j f b p e h5 V N a A G x ai e9 g3 an HI;go_upto_region 5 with fail
   rw [<-y];clear y r0 r1 r2;have B:=O.o.1.on G3.o;have s0:=λd os=>(B.blk.re d os).cell 0
   have s3:=λd os=>(B.blk.re d os).cell 3
   obtain ⟨x0,x1,x2⟩:=ad.o.re3;have J:=pp λd os=>D.o (Go.Sort.grow (redrawn W3 d) os) (after G3.o (pK _ _ _))
   clear B;refine Qk [0,0,0,0,0,0,0,0,0,0,0,0,0,0,3] (λ_ _ _=>True) (by kernel_rfl) (by kernel_rfl) (λ_ _ _ _ h _=>h) ?_
   repeat (first|(refine Qi ?_)|(refine Qf (λK hK=>?_);go_simp;first|(refine hK _ ?_;clear hK K)|(apply Exists.intro;refine ⟨λ_=>?_,hK _ ?_⟩;(first|exact J.o _ _|exact (aa.o _).mono λ_ _ ⟨he,hw⟩=>⟨he,by rw [<-hw];exact pI _ _⟩);clear hK K)))
   refine Q8 ?_;repeat (refine Q2 ?_)
   refine Qc ?_;simp only [Qd];intro z h4 _;have G4:=pp (after G3.o h4);have ae:=pp (E.o z G4.o);clear h4 s0 s3 x0 x1 x2 E J D aa;go_upto_region 6 with (go_at_call 234;refine ae.o.mono ?_;rintro e_ w5 ⟨rfl,K5⟩;replace K5:=pp K5)
   go_wp2_with fail;go_roundw
   case rel=>
    refine ⟨i+1,by go_num,pp aj,pp ?_⟩
    obtain ⟨G,x,m1,X⟩:=O.o;have hq:=(G.on G4.o).queue K5.o;rw [Z.o] at hq;exact Q6.bind m1 X ((Q6.ahead G4.o hq).under x)
   case measure=>simp [intOf];omega
  ·obtain rfl:i=n:=by have:=hi.out;omega
   have hii:¬(i:Int)<(i:Int):=by omega
   go_wp2_with fail;go_returns;have h:=HI.out;rw [List.take_of_length_le (by have:=HX.o.2.2.2.2.2.2.2.2.2;omega)] at h
   exact ⟨rfl,Q6.ahead G2.o h⟩
structure SS.Ok (S:SS)(N:Nat):Prop where
 tl:S.T.l.length<=1000
 k:S.k+N<=1000000
 ql:S.Q.l.length+7 * N<=4000
 room:4090<=S.Q.room
 sort:Xh S.Q.l
 dist:QH S.Q.l
 now:0<=S.now/\S.now<=1099511627776
 d:S.d+N<=1000000
def SS.edit (S:SS)(c:Cl)(n:Nat)(i:TI)(b:Int):SS:= { S with T:=S.T.put c n i b,k:=S.k+1,Q:= { S.Q with l:=YM (S.T.put c n i b).cell S.now (U0 (S.T.put c n i b).cell c) S.Q.l } }
theorem SS.Ok.edit {S:SS}{n:Nat}{c:Cl}{i:TI}{b:Int}(h:S.Ok (N+1))(a:S.T.l[n]?=some i):(S.edit c n i b).Ok N where
 tl:=by show (S.T.put c n i b).l.length<=1000;rw [J2 a];exact h.tl
 k:=by have:=h.k;show S.k+1+N<=1000000;omega
 ql:=by
  have:=h.ql;have h1:=GK (S.T.put c n i b).cell S.now (U0 (S.T.put c n i b).cell c) S.Q.l;have h2:=LK (S.T.put c n i b).cell c;show (YM _ _ _ _).length+7 * N<=4000;omega
 room:=h.room
 sort:=AD _ _ _ h.sort
 dist:=CI _ _ _ h.dist
 now:=h.now
 d:=by have:=h.d;show S.d+N<=1000000;omega
theorem LL (s wd t q n N:Nat)(occ:Value)(S:SS)(i:TI)(c:Cl)(b:Int)(e:UD c)(a:S.Ok (N+1))(d:CanSet S.T c n i b)(w:World)(M:Nat->Prop)(h:QQ s wd t q occ S w M):
  Calls prog 146 #[s,XF c,b] w λr w'=>r=.returned (int i64 0)/\Q6 (QQ s wd t q occ (S.edit c n i b)) w M w':=by
 refine fQ s wd t q n occ S (S.edit c n i b) i c b e a.tl d (by have:=a.k;omega) w M h λj f g=>?_
 exact fY s wd t q occ { S with T:=S.T.put c n i b,k:=S.k+1 } c e (by show (S.T.put c n i b).l.length<=1000;rw [J2 d.get];exact a.tl) (by have:=a.ql;show S.Q.l.length<=4000;omega) a.room a.sort a.dist a.now j f g
theorem Ee (s wd t q n N:Nat)(occ:Value)(S:SS)(i:TI)(c:Cl)(b:Int)(e:UD c)(d:S.Ok (N+1))(f:CanSet S.T c n i b)(a:S.T.cell c≠b)(w:World)(M:Nat->Prop)(h:QQ s wd t q occ S w M):
  Calls prog 276 #[s,.agg #[int i64 c.1,int i64 c.2.1,int i64 c.2.2,b]] w λr w'=>r=.returned (.tuple #[])/\Q6 (QQ s wd t q occ (S.edit c n i b)) w M w':=
 SE s wd t q occ S (S.edit c n i b) c b e d.tl a w M h λj g=>LL s wd t q n N occ S i c b e d f j M g
theorem fZ (s wd t q e:Nat)(S S1 S2:SS)(c:Cl)(hc:UD c)(hn:S.T.l.length<=1000)(hr:S.T.ready c.1 c.2.2=true)(h3:S.T.cell c=3)(U:Int)(h0:S.T.cell (Qx c)=U)(hy:Zz U=true)(w:World)(M:Nat->Prop)(h:QQ s wd t q (XS e) S w M)
  (hO:∀b,Below w.heap.size w b->Calls prog 145 #[e,XF (Qx c)] b λr w'=>r=.returned (.bool false)/\Below b.heap.size b w')
  (hA:∀b X,QQ s wd t q (XS e) S b X->Calls prog 276 #[s,aK c U] b λr w'=>r=.returned (.tuple #[])/\Q6 (QQ s wd t q (XS e) S1) b X w')
  (hB:∀b X,QQ s wd t q (XS e) S1 b X->Calls prog 276 #[s,aK (Qx c) 3] b λr w'=>r=.returned (.tuple #[])/\Q6 (QQ s wd t q (XS e) S2) b X w'):
  Calls prog 203 #[s,XF c] w λr w'=>r=.returned (.tuple #[])/\Q6 (QQ s wd t q (XS e) S2) w M w':=by
 have Z:=pp h;obtain ⟨v,ds,Mw,Mq,h,hM⟩:=h;obtain ⟨W,j⟩:=pt (w.alloc (.cells #[int i64 c.1,int i64 c.2.1,int i64 c.2.2] 43));have H:pM w W:=by rw [j];exact Q3 _ _
 have C:Q0 W w.heap.size 43 #[int i64 c.1,int i64 c.2.1,int i64 c.2.2]:=Q0.fresh j;have s1:=λd os=>(((h.on H).blk).re d os).cell 1
 obtain ⟨Q,K,c2⟩:=C.re3;have B:(-1000000000000000<=c.1/\c.1<=1000000000000000)/\(-1000000000000000<=c.2.2/\c.2.2<=1000000000000000):=by
  obtain ⟨h1,h2,h3⟩:=hc;omega
 have I:=pp λd os=>E2 wd t S.k S.T c.1 c.2.1 c.2.2 (Go.Sort.grow (redrawn W d) os) Mw ((XR wd t S.T S.k).on h.wd (after H (pK _ d os))) B.1 B.2 hn
 rw [hr] at I;have ab:=pp λi (g:pM w i)=>UB wd t S.k S.T i Mw ((XR wd t S.T S.k).on h.wd g)
 have ak:Bq S.T.cell c=[(c.1,c.2.1,c.2.2,U),(c.1,c.2.1 - 1,c.2.2,3)]:=by
  unfold Bq Eb;rw [h3,h0,if_pos (by decide),if_pos hy]
 have P:=pp λi (g:pM w i)=>LG t S.T.cell c hc (by rw [h3];decide) i λd hd A V=>h.tells hn d hd A (after g V)
 rw [ak] at P;have F:=pp λi (g:pM w i)=>h.tells hn c (Up hc c List.mem_cons_self) i g
 rw [h3] at F;have af:=pp λi=>Dj c hc i
 have L:=pp λi=>De 3 i
 rw [show Uh 3=true from rfl] at L;have ac:=pp hO;have HA:=pp hA;have HB:=pp hB;have HS:=pp (py h hM);have HC:=pp C;have HH:=pp H;have hat:=Kl;clear h H C hc hn hM hr h3 h0 hy hO hA hB ak B;go_enter func203,ntmps203;go_upto_region 1 with fail
 rw [<-j];clear j;refine wp_region_quiet_below (by kernel_rfl) (by kernel_rfl) ?_
 repeat (go_big_quiet_step (exact Calls.regrown_of (I.o _ _)))
 refine wpQuiet_nil ?_;intro w' D;obtain ⟨rg,rfl⟩:=D;obtain ⟨b,O⟩:=pt (Go.Sort.grow (redrawn W rg.d) rg.os);have g1:pM W b:=by rw [O];exact pK _ _ _
 rw [<-O];have G1:=pp (after HH.o g1);have G:=pp (HC.o.on g1);clear O g1 s1 Q K c2 I;have s1:=(HS.o.1.on G1.o).blk.cell 1;obtain ⟨Q,K,c2,-,-,-⟩:=G.o.c3;have ap:=pp (ab.o b G1.o);have an:=pp (P.o b G1.o);clear ab P;go_upto_region 5 with first
  | (go_at_call 29;refine ap.o.mono ?_;rintro e_ w1 ⟨rfl,rfl⟩)
  | (go_at_call 274;refine an.o.mono ?_;rintro e_ w2 ⟨v2,rfl,o2,g2⟩;have G2:=pp (after G1.o g2);have O2:=pp (o2.lowB G1.o.size);have N:=pp (G.o.on g2);obtain ⟨q2,cp2,rfl,-⟩:=o2.form Fv;clear o2 g2)
 clear Q K c2 s1;obtain ⟨Q,K,c2,-,-,-⟩:=N.o.c3;go_upto_region 6 with (go_at_call 186;refine (af.o _).mono ?_;rintro e_ w3 ⟨rfl,V⟩;have G3:=pp (after G2.o V);have ad:=pp (N.o.on V);have O3:=pp (O2.o.on V);unfold Vf;clear V)
 clear Q K c2;obtain ⟨A,x⟩:=pt (w3.alloc (.cells #[int i64 c.1,int i64 (c.2.1 - 1),int i64 c.2.2] 43));have g4:pM w3 A:=by rw [x];exact Q3 _ _
 have ai:=pp (Q0.fresh x);rw [<-x];have G4:=pp (after G3.o g4);have O4:=pp (O3.o.on g4);have aa:=pp (ad.o.on g4);clear x g4 O2 O3 G N ad af;obtain ⟨Q,K,c2⟩:=aa.o.re3;obtain ⟨x0,x1,x2⟩:=ai.o.re3;have s4:=λd os=>(((HS.o.1.on G4.o).blk).re d os).cell 4
 have z:=pp λd os=>F.o (Go.Sort.grow (redrawn A d) os) (after G4.o (pK _ d os))
 have y:=pp λd os=>ac.o (Go.Sort.grow (redrawn A d) os) (after G4.o (pK _ d os))
 clear F ac;refine wp_region_quiet_below (by kernel_rfl) (by kernel_rfl) ?_
 repeat (go_big_quiet_step (first|exact Calls.regrown_of (z.o _ _)|exact Calls.regrown_of ((L.o _).mono λ_ _ ⟨he,hw⟩=>⟨he,by rw [<-hw];exact pI _ _⟩)|exact Calls.regrown_of (y.o _ _)))
 refine wpQuiet_nil ?_;intro w' D;obtain ⟨rg,rfl⟩:=D;obtain ⟨f,J⟩:=pt (Go.Sort.grow (redrawn A rg.d) rg.os);have g5:pM A f:=by rw [J];exact pK _ _ _
 rw [<-J];have G5:=pp (after G4.o g5);have O5:=pp (O4.o.on g5);clear J g5 Q K c2 x0 x1 x2 s4 z y L O4 aa ai;obtain ⟨q',cap',R,-,-,ah,-,-⟩:=O5.o.form Fv;have ao:q2=q':=by simp at R;exact R.1
 subst ao;obtain ⟨g,o,rfl,m⟩:=ah (by simp)
 have r0:f.cell? ⟨g,o,none⟩=some (int i64 c.1):=m 0 _ rfl 0 _ rfl;have r1:f.cell? ⟨g,o+1,none⟩=some (int i64 c.2.1):=m 0 _ rfl 1 _ rfl;have r2:f.cell? ⟨g,o+2,none⟩=some (int i64 c.2.2):=m 0 _ rfl 2 _ rfl;have r3:f.cell? ⟨g,o+3,none⟩=some (int i64 U):=m 0 _ rfl 3 _ rfl;have z0:f.cell? ⟨g,o+4,none⟩=some (int i64 c.1):=m 1 _ rfl 0 _ rfl;have z1:f.cell? ⟨g,o+5,none⟩=some (int i64 (c.2.1 - 1)):=m 1 _ rfl 1 _ rfl;have z2:f.cell? ⟨g,o+6,none⟩=some (int i64 c.2.2):=m 1 _ rfl 2 _ rfl;have z3:f.cell? ⟨g,o+7,none⟩=some (int i64 3):=m 1 _ rfl 3 _ rfl;have al:=(O5.o.block g rfl).1;have HZ:=pp (py z0 (py z1 (py z2 (py z3 al))));clear m ah R z0 z1 z2 z3 al;go_upto_region 10 with fail
 refine wp_loop_rounds 3 ?_;rw [rounds_succ];obtain ⟨W5,p⟩:=pt (f.alloc (.cells #[int i64 c.1,int i64 c.2.1,int i64 c.2.2,U] 307));have g6:pM f W5:=by rw [p];exact Q3 _ _
 have X5:=Q0.fresh p;have x0:=X5.cell 0;have x1:=X5.cell 1;have x2:=X5.cell 2;have x3:=X5.cell 3;have G6:=pp (after G5.o g6);have ae:=pp g6;have am:=pp (HA.o W5 M ((Xs s wd t q (XS e) S).on Z.o G6.o));clear g6 X5 HA;go_upto_region 12 with fail
 rw [<-p];clear p r0 r1 r2 r3;go_wp2_with (go_at_call 276;refine am.o.mono ?_;rintro e_ w6 ⟨rfl,K6⟩;replace K6:=pp K6);obtain ⟨M6,a6,m6,k6⟩:=K6.o;have Y:¬M g:=λhb=>by
  have:=(Xs s wd t q (XS e) S).lt Z.o _ hb;have:=HZ.o.2.2.2.2;omega
 have a:∀(k:Nat) (u:Value),f.cell? ⟨g,k,none⟩=some u->w6.cell? ⟨g,k,none⟩=some u:=λk u hu=>by
  have E:=QN hu;dsimp only at E;rw [World.cell?_of_block (k6.block g (pD E ae.o.size) Y),Yt ae.o E];exact hu
 have r0:=a _ _ HZ.o.1;have r1:=a _ _ HZ.o.2.1;have r2:=a _ _ HZ.o.2.2.1;have r3:=a _ _ HZ.o.2.2.2.1;clear x0 x1 x2 x3 a Y;rw [rounds_succ];obtain ⟨W7,n⟩:=pt (w6.alloc (.cells #[int i64 c.1,int i64 (c.2.1 - 1),int i64 c.2.2,int i64 3] 307));have g7:pM w6 W7:=by rw [n];exact Q3 _ _
 have X7:=Q0.fresh n;have x0:=X7.cell 0;have x1:=X7.cell 1;have x2:=X7.cell 2;have x3:=X7.cell 3;have G7:=pp g7;have ag:=pp (HB.o W7 M6 ((Xs s wd t q (XS e) S1).on a6 g7));have aj:=pp (py m6 k6);clear g7 X7 HB a6 m6 k6;unfold Qx at ag;go_upto_region 12 with fail
 rw [<-n];clear n r0 r1 r2 r3;go_wp2_with (go_at_call 276;refine ag.o.mono ?_;rintro e_ w8 ⟨rfl,K8⟩;replace K8:=pp K8);rw [rounds_succ];go_wp2_with fail;go_returns;exact ⟨rfl,Q6.ahead G6.o (Q6.bind aj.o.1 aj.o.2 (Q6.ahead G7.o K8.o))⟩
end
end Go.Proofs.YtmbccnioijokfaaGreatDoor