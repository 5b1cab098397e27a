/- A part of the proof. -/
import Derived.Test.YtmbccnioijokfaaGreatDoorZs16
import Derived.Shelf.RegionOpen
import Derived.OwnWalkIn
import Derived.LoopNIn
import Derived.LoopIn
namespace Go.Proofs.YtmbccnioijokfaaGreatDoor
set_option maxRecDepth 100000
set_option maxHeartbeats 32000000
open Go.Value (int)
open Go.IntKind (i64 u8)
open Go.Proofs.Tryz
variable {i:Nat}
section
open Go.RowKit Go.Shelf
attribute [local go_sem] Oper.semAt_some
def Qz (a b c d e f:Int):List Cl:=if BN a b c d e f then Ku (Qm a) (X9 a d) (Qm b) (X9 b e) (Qm c) (X9 c f) else []
abbrev oc (c:Cl):Array Value:=#[.agg #[int i64 c.1,int i64 c.2.1,int i64 c.2.2]]
theorem Db {n m:Int} : -2147483649<=X9 n m/\X9 n m<=2147483648:=by
 have:=Bx m;unfold X9;split<;>omega
theorem ez (B:Nat)(a b c d e f:Int)(hB:BoxOk a b c d e f)(w:World)(R:Q0 w B 210 #[int i64 a,int i64 b,int i64 c,int i64 d,int i64 e,int i64 f]):
  OI prog 337 #[B] oc (Qz a b c d e f) (· =B) w:=by
 intro m l J Jx W T hJ hJx hY S;have A:=T.blk rfl R;refine callsIn_of_wp func337 rfl trivial ?_ rfl;simp only [ntmps337,List.size_toArray,List.length_cons,List.length_nil,Nat.reduceAdd,Nat.reduceSub,Array.replicate_succ,Array.replicate_zero,List.push_toArray,List.append_toArray,List.nil_append,List.cons_append];refine wpIn_wide.2 ?_;obtain ⟨a0,a1,a2,a3,a4,a5⟩:=A.c6.1;have r:=pp hB;clear hB R T;go_upto_region 1 with (go_at_call 338;refine (jl a b c d e f r.o _).mono ?_;rintro e_ H ⟨rfl,O⟩)
 have s:=O.size;generalize G:World.alloc (World.alloc H _) _=W2;have X:Q0 W2 H.heap.size _ _:=Q0.eqw G ((Q0.new' rfl).alloc _);have Y:Q0 W2 (H.heap.size+1) _ _:=Q0.eqw G (Q0.new' (by simp))
 have L:W2.heap.size=H.heap.size+2:=by rw [<-G];simp
 have U:Below W.heap.size W W2:=by rw [<-G];exact (O.alloc s _).alloc (by simp;omega) _
 have u:∀Z,J Z 0 W2:=λZ=>hJ Z 0 W W2 (S Z) (Kept.of_below U)
 clear G U S A a0 a1 a2 a3 a4 a5 O;generalize H.heap.size=g at X Y s L ⊢;cases his:BN a b c d e f
 ·have F:Qz a b c d e f=[]:=by unfold Qz;rw [his];rfl
  have Q:=pp F;obtain ⟨x0,x1,x2,-,-,-⟩:=X.c3;clear F X Y;go_upto_region 2 with fail
  refine (wpIn_wide (n:=m+1)).1 ?_
  gi_loopw [6] (λ_ wr=>J W2.heap.size 0 wr) (λ_ _=>0)
  case atStart=>exact u _
  case round=>
   gi_wp2
   go_end0;exact ⟨⟨_,rfl⟩,W2.heap.size,by omega,.inl (by rw [Q.o];exact hrel)⟩
 ·rw [his] at X Y;have F:Qz a b c d e f=UL (Qm a) (X9 a d) (X9 b e) (Qm c) (X9 c f) (Qm b):=by unfold Qz;rw [his,if_pos rfl];rfl
  have Q:=pp F;have HIS:=pp his;have HZ:=pp L;clear F his L;simp only [zI,if_true] at X Y;obtain ⟨x0,x1,x2,-,-,-⟩:=X.c3;obtain ⟨C,y1,D,-,-,-⟩:=Y.c3;go_upto_region 2 with fail
  refine (wpIn_wide (n:=m+1)).1 ?_;have lb:=Bx b;have lc:=Bx c;have la:=Bx a;have tb:=Db (n:=b) (m:=e);have tc:=Db (n:=c) (m:=f);have ta:=Db (n:=a) (m:=d);have q1:=Gf r.o.b1 r.o.e2 r.o.be;have q2:=Gf r.o.c1 r.o.f2 r.o.cf;have q3:=Gf r.o.a1 r.o.d2 r.o.ad
  gi_loopw [6] (λv wr=>∃(y:Int) (i:Nat),v=.int .i64 y/\Qm b<=y/\y<=X9 b e+1/\Hid ((Qz a b c d e f).drop i=UL (Qm a) (X9 a d) (X9 b e) (Qm c) (X9 c f) y)/\Hid (i<=(Qz a b c d e f).length)/\
   Q0 wr g 43 #[int i64 (Qm a),int i64 (Qm b),int i64 (Qm c)]/\Q0 wr (g+1) 43 #[int i64 (X9 a d),int i64 (X9 b e),int i64 (X9 c f)]/\Hid (g+2<=wr.heap.size)/\J (g+2) i wr) (λv _=>(X9 b e+1 - intOf v).toNat)
  case atStart=>exact ⟨_,0,rfl,Int.le_refl _,by omega,by rw [List.drop_zero];exact Q.o,pC _,X,Y,Nat.le_of_eq HZ.o.symm,u _⟩
  case round=>
   clear X Y u x0 x1 x2 C y1 D;obtain ⟨y,i,rfl,RZ,hy2,q,k,X,Y,h,p⟩:=hrel;obtain ⟨x0,x1,x2,-,-,-⟩:=X.c3;obtain ⟨C,y1,D,-,-,-⟩:=Y.c3;by_cases hy:y<=X9 b e
   ·have j:=pp (q.out.trans (OE hy))
    gi_wp2
    obtain ⟨K,rfl⟩:∃K:World,K=wr:=⟨_,rfl⟩
    gi_loopw [7] (λv wr=>∃(z:Int) (i:Nat),v=.int .i64 z/\Qm c<=z/\z<=X9 c f+1/\Hid ((Qz a b c d e f).drop i=Az (Qm a) (X9 a d) (X9 b e) (Qm c) (X9 c f) y z)/\Hid (i<=(Qz a b c d e f).length)/\
     Q0 wr g 43 #[int i64 (Qm a),int i64 (Qm b),int i64 (Qm c)]/\Q0 wr (g+1) 43 #[int i64 (X9 a d),int i64 (X9 b e),int i64 (X9 c f)]/\Hid (g+2<=wr.heap.size)/\J (g+2) i wr) (λv _=>(X9 c f+1 - intOf v).toNat)
    case atStart=>exact ⟨_,i,rfl,Int.le_refl _,by omega,j.o,k.out,X,Y,h.out,p⟩
    case round=>
     clear X Y x0 x1 x2 C y1 D q k h p j;obtain ⟨z,i,rfl,hz1,hz2,q,k,X,Y,h,p⟩:=hrel;obtain ⟨x0,x1,x2,-,-,-⟩:=X.c3;obtain ⟨C,y1,D,-,-,-⟩:=Y.c3;by_cases M:z<=X9 c f
     ·have j:=pp (q.out.trans (OF M))
      gi_wp2
      obtain ⟨wo2,rfl⟩:∃K:World,K=wr:=⟨_,rfl⟩
      gi_loopw [8] (λv wr=>∃(x:Int) (i:Nat),v=.int .i64 x/\Qm a<=x/\x<=X9 a d+1/\Hid ((Qz a b c d e f).drop i=Ck (Qm a) (X9 a d) (X9 b e) (Qm c) (X9 c f) y z x)/\Hid (i<=(Qz a b c d e f).length)/\
       Q0 wr g 43 #[int i64 (Qm a),int i64 (Qm b),int i64 (Qm c)]/\Q0 wr (g+1) 43 #[int i64 (X9 a d),int i64 (X9 b e),int i64 (X9 c f)]/\Hid (g+2<=wr.heap.size)/\J (g+2) i wr) (λv _=>(X9 a d+1 - intOf v).toNat)
      case atStart=>exact ⟨_,i,rfl,Int.le_refl _,by omega,j.o,k.out,X,Y,h.out,p⟩
      case round=>
       clear X Y x0 x1 x2 C y1 D q k h p j;obtain ⟨x,i,rfl,hx1,AY,q,k,X,Y,h,p⟩:=hrel;obtain ⟨x0,x1,x2,-,-,-⟩:=X.c3;obtain ⟨C,y1,D,-,-,-⟩:=Y.c3;by_cases N:x<=X9 a d
       ·obtain ⟨c1,c2,c3⟩:=PS (q.out.trans (OG N));obtain ⟨fn,tmps,assign,body,hy',hR⟩:=hY (g+2) i (x,y,z) wr (by omega) h.out c1 p
        have C2:=pp c2;have V:=pp c3;clear c1 c2 c3
        gi_wp2
        refine hR.mono ?_;rintro e_ W3 (⟨rfl,P,t⟩|⟨rfl,I⟩)
        ·replace X:=t.blk (.inl ⟨s,by omega⟩) X
         replace Y:=t.blk (.inl ⟨by omega,by omega⟩) Y
         have E:=pp (pB h.out t.size)
         gi_wp2
         go_roundw
         case rel=>exact ⟨x+1,i+1,rfl,by omega,by omega,C2.o,V.o,X,Y,E.o,P⟩
         case measure=>simp [intOf];omega
        ·gi_wp2
         refine bodyPost_ret (results_none rfl _ _ _) rfl ?_;exact ⟨⟨_,rfl⟩,g+2,by omega,.inr ⟨i,V.o,I⟩⟩
       ·have j:=pp (q.out.trans (PR (by omega)))
        gi_wp2
        go_roundw
        case rel=>exact ⟨z+1,i,rfl,by omega,by omega,j.o,k.out,X,Y,h.out,p⟩
        case measure=>simp [intOf];omega
     ·have j:=pp (q.out.trans (PQ (by omega)))
      gi_wp2
      go_roundw
      case rel=>exact ⟨y+1,i,rfl,by omega,by omega,j.o,k.out,X,Y,h.out,p⟩
      case measure=>simp [intOf];omega
   ·gi_wp2
    go_end0;exact ⟨⟨_,rfl⟩,g+2,by omega,.inl (by rw [<-drop_nil (q.out.trans (PP (by omega))) k.out];exact p)⟩
theorem eA (a b c d e f:Int)(w:World):Calls prog 301 #[.agg #[int i64 a,int i64 b,int i64 c,int i64 d,int i64 e,int i64 f]] w λr w'=>
  r=.returned (.func (.func 337) #[] #[w.heap.size])/\w'=w.alloc (.cells #[int i64 a,int i64 b,int i64 c,int i64 d,int i64 e,int i64 f] 210):=by
 have hmf:∀(g:Fn) (first cap:Array Value) (w:World),(Instr.makeFunc g first cap).run prog w=.ok (.func g first cap) w:=λ_ _ _ _=>rfl
 go_enter func301,ntmps301;go_wp2_with fail;go_returns;exact ⟨rfl,rfl⟩
theorem Nw {α:Type}{l:List α}{q:α->Bool}(h:∀j x,j<l.length->l[j]?=some x->q x=false):l.find? q=none:=by
 rw [List.find?_eq_none];intro x b;obtain ⟨j,a,e⟩:=List.mem_iff_getElem.1 b;rw [h j x a (by rw [pH a,e])];decide
theorem Nx {α:Type}{q:α->Bool}{x:α} :∀{l:List α} {i:Nat},l[i]?=some x->q x=true->(∀j y,j<i->l[j]?=some y->q y=false)->l.find? q=some x:=by
 intro l;induction l with
 | nil=>intro i h;cases h
 | cons a l e=>
  intro i h b c;cases i with
  | zero=>
   obtain rfl:a=x:=by simpa using h
   rw [List.find?_cons_of_pos b]
  | succ i=>
   have d:=c 0 a (by omega) rfl
   rw [List.find?_cons_of_neg (by rw [d];decide)]
   exact e (by simpa using h) b (λj y hj f=>c (j+1) y (by omega) (by simpa using f))
def DN (o:Option Cl):Value:=match o with
 | some c=>.tuple #[.agg #[int i64 c.1,int i64 c.2.1,int i64 c.2.2],.bool true]
 | none=>.tuple #[.agg #[int i64 0,int i64 0,int i64 0],.bool false]
def Gn (c:Cl):Prop:=Qg c.1/\Qg c.2.2
theorem RV {a b c d e f:Int}{x:Cl}(h:(Qz a b c d e f)[i]?=some x):Gn x:=by
 have g:=pG h;unfold Qz at g;split at g
 ·have h1:=Ty.1 g;have h2:=Bx a;have h3:=Bx c;have h4:=Db (n:=a) (m:=d);have h5:=Db (n:=c) (m:=f);unfold Gn Qg;omega
 ·cases g
def Yy (P:Program)(V:FuncId)(lb:Value)(val:Cl->Int)(w:World):Prop:=
 ∀c,Gn c->∀W,Below w.heap.size w W->Calls P V (#[lb,.agg #[int i64 c.1,int i64 c.2.1,int i64 c.2.2]]) W λr W'=>r=.returned (int i64 (val c))/\Below W.heap.size W W'
def IK (P:Program)(G:FuncId)(lb:Array Value)(p:Int->Bool)(w:World):Prop:=
 ∀n W,Below w.heap.size w W->Calls P G (#[int i64 n]++lb) W λr W'=>r=.returned (.bool (p n))/\Below W.heap.size W W'
theorem jy (V G:FuncId)(lv:Value)(U:Array Value)(val:Cl->Int)(p:Int->Bool)(a b c d e f:Int)(hB:BoxOk a b c d e f)(w:World)
  (eV:∀args w,(callFunc V args).run prog w=.ok (.enter V args) w) (eG:∀args w,(callFunc G args).run prog w=.ok (.enter G args) w) (L:Yy prog V lv val w) (hG:IK prog G U p w):
  Calls prog 238 #[.func (.func V) #[lv] #[],.agg #[int i64 a,int i64 b,int i64 c,int i64 d,int i64 e,int i64 f],.func (.func G) #[] U] w λr w'=>
   r=.returned (DN ((Qz a b c d e f).find? λx=>p (val x)))/\Below w.heap.size w w':=by
 have HV:=pp L;have HG:=pp hG;clear L hG;obtain ⟨W,R⟩:=pt (((((w.alloc (.cells #[.func (.func V) #[lv] #[]] 74)).alloc (.cells #[int i64 a,int i64 b,int i64 c,int i64 d,int i64 e,int i64 f] 210)).alloc (.cells #[.func (.func G) #[] U] 188)).alloc (.cells #[int i64 0,int i64 0,int i64 0] 43)).alloc (.cells #[.bool false] 4));have H:Below w.heap.size w W:=by rw [R];go_grown
 have b0:Q0 W w.heap.size 74 #[.func (.func V) #[lv] #[]]:=by rw [R];exact ((((Q0.new' rfl).alloc _).alloc _).alloc _).alloc _
 have b1:Q0 W (w.heap.size+1) 210 #[int i64 a,int i64 b,int i64 c,int i64 d,int i64 e,int i64 f]:=by rw [R];exact (((Q0.new' (by simp)).alloc _).alloc _).alloc _
 have b2:Q0 W (w.heap.size+1+1) 188 #[.func (.func G) #[] U]:=by rw [R];exact ((Q0.new' (by simp)).alloc _).alloc _
 have b3:Q0 W (w.heap.size+1+1+1) 43 #[int i64 0,int i64 0,int i64 0]:=by rw [R];exact (Q0.new' (by simp)).alloc _
 have b4:Q0 W (w.heap.size+1+1+1+1) 4 #[.bool false]:=by rw [R];exact Q0.new' (by simp)
 have hs:W.heap.size=w.heap.size+5:=by rw [R];simp
 obtain ⟨N,hN⟩:=pt w.heap.size;rw [<-hN] at b0 b1 b2 b3 b4 hs;refine (callsIn_wide (n:=5)).1 (callsIn_of_wp_marks func238 rfl trivial ?_ rfl);refine wpIn_wide.2 ?_;simp only [ntmps238,List.size_toArray,List.length_cons,List.length_nil,Nat.reduceAdd,Nat.reduceSub,Array.replicate_succ,Array.replicate_zero,List.push_toArray,List.append_toArray,List.nil_append,List.cons_append];go_upto_region 1 with fail
 rw [<-R,<-hN];have HN:=pp hN;have aa:=pp hs;clear R hN hs;obtain ⟨a0,a1,a2,a3,a4,a5⟩:=b1.c6.1;go_wp2_with (go_at_call 301;refine (eA _ _ _ _ _ _ _).mono ?_;rintro e_ w1 ⟨rfl,rfl⟩);generalize L:World.alloc W _=W1;have bE:Q0 W1 W.heap.size 210 #[int i64 a,int i64 b,int i64 c,int i64 d,int i64 e,int i64 f]:=Q0.eqw L (Q0.new' rfl);replace b0:=Q0.eqw L (b0.alloc _);replace b1:=Q0.eqw L (b1.alloc _);replace b2:=Q0.eqw L (b2.alloc _);replace b3:=Q0.eqw L (b3.alloc _);replace b4:=Q0.eqw L (b4.alloc _);replace H:Below w.heap.size w W1:=by rw [<-L];exact H.alloc H.size _
 have z:W1.heap.size=N+6:=by rw [<-L];simp [aa.o]
 rw [aa.o] at bE ⊢;clear L a0 a1 a2 a3 a4 a5;have Y:=pp z;clear z aa;refine Gd (m:=3) (gf:=337) (lb:=#[.pointer (some ⟨N+5,0,none⟩)]) rfl (enters_of func337 (by kernel_rfl) rfl) (ez (N+5) a b c d e f hB W1 bE) (λb hb=>by rw [hb];exact bE.lt) (λ_=>rfl)
  (λZ i A=>Hid (∀j x,j<i->(Qz a b c d e f)[j]?=some x->p (val x)=false)/\Q0 A N 74 #[.func (.func V) #[lv] #[]]/\Q0 A (N+1+1) 188 #[.func (.func G) #[] U]/\Q0 A (N+1+1+1) 43 #[int i64 0,int i64 0,int i64 0]/\Q0 A (N+1+1+1+1) 4 #[.bool false]/\Below w.heap.size w A)
  (λZ k i A=>k=.ret/\Hid (∀j x,j<i->(Qz a b c d e f)[j]?=some x->p (val x)=false)/\∃x,Hid ((Qz a b c d e f)[i]?=some x/\p (val x)=true)/\Q0 A (N+1+1+1) 43 #[int i64 x.1,int i64 x.2.1,int i64 x.2.2]/\Q0 A (N+1+1+1+1) 4 #[.bool true]/\Below w.heap.size w A)
  ?_ ?_ (λZ=>⟨λj x h=>by omega,b0,b2,b3,b4,H⟩) ?round ?done ?stop
 ·rintro Z i A B ⟨O,S,T,s,E,g⟩ Q;have lt:∀n,n<6->¬U8 W1.heap.size Z (N+n):=λn hn h=>by have:=h.1;rw [Y.o] at this;omega
  exact ⟨O,Q.blk (lt 0 (by omega)) S,Q.blk (lt 2 (by omega)) T,Q.blk (lt 3 (by omega)) s,Q.blk (lt 4 (by omega)) E,g.trans (Q.below g.size (λb hb h=>by have:=h.1;rw [Y.o] at this;rw [<-HN.o] at hb;omega))⟩
 ·rintro Z k i A B ⟨O,S,x,T,s,E,g⟩ Q;have lt:∀n,n<6->¬U8 W1.heap.size Z (N+n):=λn hn h=>by have:=h.1;rw [Y.o] at this;omega
  exact ⟨O,S,x,T,Q.blk (lt 3 (by omega)) s,Q.blk (lt 4 (by omega)) E,g.trans (Q.below g.size (λb hb h=>by have:=h.1;rw [Y.o] at this;rw [<-HN.o] at hb;omega))⟩
 case round=>
  rintro Z l i x A rfl ad ab hx ⟨O,S,T,s,E,g⟩;clear b0 b1 b2 b3 b4 H bE
  gi_wp2
  refine ⟨(Kept.refl _ _).alloc _,λq P ac=>?_⟩
  have ae:q.heap.size=A.heap.size+1:=by rw [ac];simp
  have z:=Y.o;have C:∀n t cs,n<6->Q0 A (N+n) t cs->Q0 q (N+n) t cs:=λn t cs hn h=>P.blk (show N+n≠W1.heap.size+1 by omega) (h.alloc _)
  replace S:Q0 q N 74 #[.func (.func V) #[lv] #[]]:=C 0 _ _ (by omega) S
  replace T:Q0 q (N+1+1) 188 #[.func (.func G) #[] U]:=C 2 _ _ (by omega) T
  replace s:Q0 q (N+1+1+1) 43 #[int i64 0,int i64 0,int i64 0]:=C 3 _ _ (by omega) s
  replace E:Q0 q (N+1+1+1+1) 4 #[.bool false]:=C 4 _ _ (by omega) E
  have X:Q0 q A.heap.size 43 #[int i64 x.1,int i64 x.2.1,int i64 x.2.2]:=P.blk (show A.heap.size≠W1.heap.size+1 by omega) (Q0.new' rfl)
  have af:w.heap.size<=W1.heap.size:=by rw [z,<-HN.o];omega
  replace g:Below w.heap.size w q:=(g.alloc g.size _).trans (P.below (by simp;omega) (λb hb=>by omega))
  have HX:=pp hx;have H1:=pp O;have HZ:=pp (py ad ab);have ah:=pp ae;clear P ac C hx O ad ab ae z af;have k0:=λd os=>(S.re d os).cell 0
  have k2:=λd os=>(T.re d os).cell 0
  obtain ⟨x0,x1,x2⟩:=X.re3;generalize A.heap.size=gx at X ah HZ x0 x1 x2 ⊢;cases hp:p (val x)
  ·have J:∀d os,Calls prog G (#[int i64 (val x)]++U) (Go.Sort.grow (redrawn q d) os) λr W'=>r=.returned (.bool false)/\Below (Go.Sort.grow (redrawn q d) os).heap.size (Go.Sort.grow (redrawn q d) os) W':=λd os=>by
    have:=HG.o (val x) (Go.Sort.grow (redrawn q d) os) (g.trans ((pK q d os).mono g.size));rwa [hp] at this
   have F:∀d os,Calls prog V (#[lv,.agg #[int i64 x.1,int i64 x.2.1,int i64 x.2.2]]) (Go.Sort.grow (redrawn q d) os) λr W'=>r=.returned (int i64 (val x))/\Below (Go.Sort.grow (redrawn q d) os).heap.size (Go.Sort.grow (redrawn q d) os) W':=λd os=>
    HV.o x (RV HX.o) (Go.Sort.grow (redrawn q d) os) (g.trans ((pK q d os).mono g.size))
   have HP:=pp hp;replace J:=pp J;replace F:=pp F;clear hp
   gi_wp2
   refine Dz [0,0,0,0,0] (λ_ _ _=>True) (by kernel_rfl) (by kernel_rfl) (λ_ _ _ _ h _=>h) (by kernel_rfl) (λ⟨_,_,h⟩=>h) ?_
   repeat (first|(refine Qi ?_)|(refine Qf (λK I=>?_);go_simp;first|(refine I _ ?_;clear I K)|(apply Exists.intro;refine ⟨λ_=>?_,I _ ?_⟩;(first|exact F.o _ _|exact J.o _ _);clear I K)))
   refine Q8 ?_;repeat (refine Q2 ?_)
   refine Qc ?_;simp only [Qd];intro w3 M _;simp only [wpList,Exit.then];go_at_K
   gi_wp2
   exact ⟨Kept.of_below M,λj y hj hy=>(by
    rcases Nat.lt_or_eq_of_le (Nat.le_of_lt_succ hj) with e|e
    ·exact H1.o j y e hy
    ·subst e;rw [HX.o] at hy;obtain rfl:=pE hy;exact HP.o),S.on M,T.on M,s.on M,E.on M,after g M⟩
  ·have J:∀d os,Calls prog G (#[int i64 (val x)]++U) (Go.Sort.grow (redrawn q d) os) λr W'=>r=.returned (.bool true)/\Below (Go.Sort.grow (redrawn q d) os).heap.size (Go.Sort.grow (redrawn q d) os) W':=λd os=>by
    have:=HG.o (val x) (Go.Sort.grow (redrawn q d) os) (g.trans ((pK q d os).mono g.size));rwa [hp] at this
   have F:∀d os,Calls prog V (#[lv,.agg #[int i64 x.1,int i64 x.2.1,int i64 x.2.2]]) (Go.Sort.grow (redrawn q d) os) λr W'=>r=.returned (int i64 (val x))/\Below (Go.Sort.grow (redrawn q d) os).heap.size (Go.Sort.grow (redrawn q d) os) W':=λd os=>
    HV.o x (RV HX.o) (Go.Sort.grow (redrawn q d) os) (g.trans ((pK q d os).mono g.size))
   have HP:=pp hp;replace J:=pp J;replace F:=pp F;clear hp
   gi_wp2
   refine Dz [0,0,0,0,0] (λ_ _ _=>True) (by kernel_rfl) (by kernel_rfl) (λ_ _ _ _ h _=>h) (by kernel_rfl) (λ⟨_,_,h⟩=>h) ?_
   repeat (first|(refine Qi ?_)|(refine Qf (λK I=>?_);go_simp;first|(refine I _ ?_;clear I K)|(apply Exists.intro;refine ⟨λ_=>?_,I _ ?_⟩;(first|exact F.o _ _|exact J.o _ _);clear I K)))
   refine Q8 ?_;repeat (refine Q2 ?_)
   refine Qc ?_;simp only [Qd];intro w3 M _;replace X:=X.on M;replace s:=s.on M;replace E:=E.on M;clear x0 x1 x2;obtain ⟨x0,x1,x2,-,-,-⟩:=X.c3;obtain ⟨r0,r1,r2,f0,f1,f2⟩:=s.c3;obtain ⟨s0,g0⟩:=E.c1;simp only [wpList,Exit.then];go_at_K
   gi_wp2
   have z:=Y.o;have n3:¬Cm W1.heap.size Z (· =N+5) (N+1+1+1):=λh=>by rcases h with h|h;exact absurd h.1 (by omega);exact absurd (show N+1+1+1=N+5 from h) (by omega)
   have n4:¬Cm W1.heap.size Z (· =N+5) (N+1+1+1+1):=λh=>by rcases h with h|h;exact absurd h.1 (by omega);exact absurd (show N+1+1+1+1=N+5 from h) (by omega)
   refine ⟨((((Kept.of_below M).setCell (p:=⟨N+1+1+1,0,none⟩) n3 _).setCell (p:=⟨N+1+1+1,1,none⟩) n3 _).setCell (p:=⟨N+1+1+1,2,none⟩) n3 _).setCell (p:=⟨N+1+1+1+1,0,none⟩) n4 _,rfl,H1.o,x,⟨HX.o,HP.o⟩,
    (s.st3 _ _ _).far (by dsimp only;omega) _,(((E.far (p:=⟨N+1+1+1,0,none⟩) (by dsimp only;omega) _).far (p:=⟨N+1+1+1,1,none⟩) (by dsimp only;omega) _).far (p:=⟨N+1+1+1,2,none⟩) (by dsimp only;omega) _).set_ 0 _,?_⟩
   replace g:=after g M;rw [<-HN.o] at g ⊢;exact (((g.setCell (p:=⟨N+1+1+1,0,none⟩) (by dsimp only;omega) _).setCell (p:=⟨N+1+1+1,1,none⟩) (by dsimp only;omega) _).setCell (p:=⟨N+1+1+1,2,none⟩) (by dsimp only;omega) _).setCell (p:=⟨N+1+1+1+1,0,none⟩) (by dsimp only;omega) _
 case done=>
  rintro Z A ⟨O,-,-,s,E,g⟩ I;clear b0 b1 b2 b3 b4 H bE;obtain ⟨r0,r1,r2,f0,f1,f2⟩:=s.c3;obtain ⟨s0,g0⟩:=E.c1;have HK:=pp I;clear I;go_wp2_with fail;have z:=Y.o;have hf:(Qz a b c d e f).find? (λx=>p (val x))=none:=Nw O.out
  have e4:=((s.st3 (int i64 0) (int i64 0) (int i64 0)).far (p:=⟨N+1+1+1+1,0,none⟩) (by dsimp only;omega) (.bool false)).putObj (D:=W1.heap.size) (by omega) (.deferred none)
  have e5:=(((E.far (p:=⟨N+1+1+1,0,none⟩) (by dsimp only;omega) (int i64 0)).far (p:=⟨N+1+1+1,1,none⟩) (by dsimp only;omega) (int i64 0)).far (p:=⟨N+1+1+1,2,none⟩) (by dsimp only;omega) (int i64 0)).set_ 0 (.bool false)
  obtain ⟨d0,d1,d2,-,-,-⟩:=e4.c3;obtain ⟨d3,-⟩:=(e5.putObj (D:=W1.heap.size) (by omega) (.deferred none)).c1
  have ag:=Bw (p:=⟨N+1+1+1+1,0,none⟩) (u:=.bool false) (Bw (p:=⟨N+1+1+1,2,none⟩) (u:=.int .i64 0) (Bw (p:=⟨N+1+1+1,1,none⟩) (u:=.int .i64 0) (Bw (p:=⟨N+1+1+1,0,none⟩) (u:=.int .i64 0) HK.o (by dsimp only;omega)) (by dsimp only;omega)) (by dsimp only;omega)) (by dsimp only;omega)
  refine UM ag (v:=DN none) (by simp [results,Tryz.f238,go_sem,DN,d0,d1,d2,d3]) ⟨by rw [hf],?_⟩
  rw [<-HN.o] at g ⊢;exact VD ((((g.setCell (p:=⟨N+1+1+1,0,none⟩) (by dsimp only;omega) _).setCell (p:=⟨N+1+1+1,1,none⟩) (by dsimp only;omega) _).setCell (p:=⟨N+1+1+1,2,none⟩) (by dsimp only;omega) _).setCell (p:=⟨N+1+1+1+1,0,none⟩) (by dsimp only;omega) _) (by omega) _
 case stop=>
  rintro Z k i A hi ⟨rfl,O,x,hx,s,E,g⟩ I;clear b0 b1 b2 b3 b4 H bE;obtain ⟨r0,r1,r2,-,-,-⟩:=s.c3;obtain ⟨s0,g0⟩:=E.c1;have HK:=pp I;clear I;go_wp2_with fail;have z:=Y.o;have hf:(Qz a b c d e f).find? (λx=>p (val x))=some x:=Nx hx.out.1 hx.out.2 O.out
  obtain ⟨d0,d1,d2,-,-,-⟩:=(s.putObj (D:=W1.heap.size) (by omega) (.deferred none)).c3
  obtain ⟨d3,-⟩:=(E.putObj (D:=W1.heap.size) (by omega) (.deferred none)).c1
  refine UM HK.o (v:=DN (some x)) (by simp [results,Tryz.f238,go_sem,DN,d0,d1,d2,d3]) ⟨by rw [hf],?_⟩
  rw [<-HN.o] at g ⊢;exact VD g (by omega) _
end
end Go.Proofs.YtmbccnioijokfaaGreatDoor