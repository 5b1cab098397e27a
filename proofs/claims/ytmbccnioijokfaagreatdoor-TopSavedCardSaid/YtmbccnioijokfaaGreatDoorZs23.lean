/- A part of the proof. -/
import Derived.Test.YtmbccnioijokfaaGreatDoorZs18
import Derived.Test.YtmbccnioijokfaaGreatDoorZs22
namespace Go.Proofs.YtmbccnioijokfaaGreatDoor
set_option maxRecDepth 100000
set_option maxHeartbeats 32000000
open Go.Value (int)
open Go.IntKind (i64 u8)
open Go.Proofs.Tryz
variable {j k i base size:Nat}{P:Program}{w W w':World}{axis low top:Int}
section
open Go.RowKit
attribute [local go_sem] Oper.semAt_some
abbrev mr (n:Int):Array Value:=#[n]
def BW (s px pz:Int)(j:Nat):Int:=VY s (px * 16+(j:Int)%16) (pz * 16+(j:Int) / 16%16)
def DO (s px pz:Int)(i:Nat):Int:=BS ((i:Int) / 256) (BW s px pz (i%256))
def Ye (s px pz:Int):List Int:=(List.range 8192).map (DO s px pz)
def AR (s px pz:Int)(k:Nat):Array Value:=((List.range 256).map λj=>Value.int .i64 (if j<k then BW s px pz j else 0)).toArray
theorem Fq (s b a:Int)(k:Nat)(c:j<256):(AR s b a k)[j]?=some (int i64 (if j<k then BW s b a j else 0)):=by simp [AR,c]
theorem WD (s a b:Int)(hk:k<256):(AR s a b k).setIfInBounds k (int i64 (BW s a b k))=AR s a b (k+1):=by
 apply Array.ext_getElem?;intro i;have hs:(AR s a b k).size=256:=by simp [AR]
 by_cases d:i<256
 ·rw [Fq _ _ _ _ d];by_cases h:i=k
  ·subst h;rw [Array.getElem?_setIfInBounds_self_of_lt (by omega),if_pos (by omega)]
  ·rw [Array.getElem?_setIfInBounds_ne (λe=>h e.symm),Fq _ _ _ _ d]
   by_cases c:i<k
   ·rw [if_pos c,if_pos (by omega)]
   ·rw [if_neg c,if_neg (by omega)]
 ·rw [Array.getElem?_eq_none (by rw [Array.size_setIfInBounds];omega),Array.getElem?_eq_none (by simp [AR];omega)]
theorem eB:Tryz.zeroCells285=(List.replicate 256 (Value.int .i64 0)).toArray:=by kernel_rfl
theorem jz (s b a:Int):Tryz.zeroCells285=AR s b a 0:=by
 rw [eB];unfold AR;rw [List.map_congr_left (g:=λ_=>Value.int .i64 0) (λj _=>by simp),List.map_const',List.length_range]
theorem jB (B G:Nat)(s a b:Int)(hx: -1000000000<=a/\a<=1000000000)(hz: -1000000000<=b/\b<=1000000000)(w:World)(hb:Q0 w B 123 #[int i64 a,int i64 b])(D:Q0 w G 3 #[int i64 s]):
  OI prog 217 #[B,G] mr (Ye s a b) (λx=>x=B∨x=G) w:=by
 intro m l J Jx W U hJ hJx hY h0;have A:=U.blk (.inl rfl) hb;have P:=U.blk (.inr rfl) D;clear hb D U;refine callsIn_of_wp func217 rfl trivial ?_ rfl;simp only [ntmps217,List.size_toArray,List.length_cons,List.length_nil,Nat.reduceAdd,Nat.reduceSub,Array.replicate_succ,Array.replicate_zero,List.push_toArray,List.append_toArray,List.nil_append,List.cons_append];refine wpIn_wide.2 ?_;go_upto_region 1 with fail
 obtain ⟨W0,e⟩:=pt (W.alloc (.cells Tryz.zeroCells285 285));rw [<-e];have H0:Below W.heap.size W W0:=by rw [e];exact (pI _ _).alloc (pA _) _
 have X0:Q0 W0 W.heap.size 285 (AR s a b 0):=by rw [e,jz s a b];exact Q0.new' rfl
 have AL:=A.lt;have Q:=P.lt;clear e;go_wp2_with fail;go_loopw [9] (λR wr=>∃k:Nat,k<=256/\R=.int .i64 k/\Q0 wr W.heap.size 285 (AR s a b k)/\Hid (Below W.heap.size W wr)) (λR _=>256 - (intOf R).toNat)
 case atStart=>exact ⟨0,by omega,rfl,X0,H0⟩
 case round=>
  obtain ⟨k,hk,rfl,X,H⟩:=hrel;clear X0 H0;have A':=A.on H.out;have h:=P.on H.out;obtain ⟨p0,p1,-,-⟩:=A'.pair;obtain ⟨s0,-⟩:=h.c1;by_cases c:k<256
  ·have hk1:(k:Int)<256:=by omega
   have hk0:(0:Int)<=k:=by omega
   have e2:(k:Int) / 256=0:=by omega
   have HF:=pp (ei a b k (by omega) (by omega) (by omega) wr)
   have HG:=pp λW=>RJ s (a * 16+(k:Int)%16) (b * 16+(k:Int) / 16%16) (by omega) (by omega) W
   go_upto_region 5 with (go_at_call 218;refine HF.o.mono ?_;rintro e_ O ⟨rfl,M⟩;replace M:=pp M)
   obtain ⟨W2,d⟩:=pt (O.alloc (.cells #[int i64 (a * 16+(k:Int)%16),int i64 0,int i64 (b * 16+(k:Int) / 16%16)] 43));rw [<-d];have g2:Below O.heap.size O W2:=by rw [d];exact (pI _ _).alloc (pA _) _
   have C:=Q0.fresh d;have G2:=pp (after M.o g2);obtain ⟨c0,c1,c2,-,-,-⟩:=C.c3;have Y:=(h.on G2.o).cell 0;have N:=X.on G2.o;have t:W.heap.size<O.heap.size:=pD X.lt M.o.size;have HSZ:=pp t;clear d HF p0 p1 s0 A' h g2 C t;go_upto_region 6 with (go_at_call 219;refine (HG.o _).mono ?_;rintro e_ w3 ⟨rfl,L⟩;have G3:=pp (after G2.o L);have x0:=(N.on L).cell k;rw [Fq s a b k c] at x0;have xf:=(N.on L).frz k;have X3:=pp (N.on L);clear L)
   clear x0 xf c0 c1 c2 Y N;go_wp2_with fail;have h4:=X3.o.set_ k (int i64 (VY s (a * 16+(k:Int)%16) (b * 16+(k:Int) / 16%16)));rw [show VY s (a * 16+(k:Int)%16) (b * 16+(k:Int) / 16%16)=BW s a b k from rfl,WD s a b c] at h4;exact ⟨⟨k+1,by omega,by go_num,h4,pp ((after H.out G3.o).setCell (p:=⟨W.heap.size,k,none⟩) (pA _) _)⟩,by simp [intOf];omega⟩
  ·obtain rfl:k=256:=by omega
   clear A AL P Q;obtain ⟨Z,hZ⟩:=pt wr.heap.size;have y:J Z 0 wr:=hJ Z 0 W wr (h0 Z) ((Kept.of_below H.out).mono λ_ _=>trivial)
   have z:=pp (show W.heap.size<Z/\Z<=wr.heap.size from ⟨by rw [hZ];exact X.lt,by omega⟩)
   have r:=pp y;have f:=pp (show (Ye s a b).length=8192 by simp [Ye])
   clear y hZ H h0;generalize D:AR s a b 256=ga at X;have S:=pp D;clear D;have h256:¬((256:Int)<256):=by omega
   go_wp2_with fail;refine (wpIn_wide (n:=m+1)).1 ?_
   gi_loopw [27] (λv A=>∃i:Nat,v=.int .i64 i/\Hid (i<=8192)/\Q0 A W.heap.size 285 ga/\Hid (Z<=A.heap.size)/\Hid (J Z i A)) (λv _=>8192 - (intOf v).toNat)
   case atStart=>exact ⟨0,rfl,pp (by omega),X,pp z.o.2,r⟩
   case round=>
    clear X r;obtain ⟨i,rfl,hi,X,u,hj⟩:=hrel;by_cases c:i<8192
    ·have hi0:(0:Int)<=i:=by omega
     have YV:(i:Int)<8192:=by omega
     have x0:=X.cell (i%256);rw [<-S.o,Fq s a b 256 (Nat.mod_lt _ (by decide)),if_pos (Nat.mod_lt _ (by decide))] at x0
     have I:=DI s (a * 16+((i%256:Nat):Int)%16) (b * 16+((i%256:Nat):Int) / 16%16);have HO:=pp λW=>mj ((i:Int) / 256) (BW s a b (i%256)) (by omega) I W
     have E:(Ye s a b)[i]?=some (BS ((i:Int) / 256) (BW s a b (i%256))):=by unfold Ye;rw [List.getElem?_map,List.getElem?_range c];rfl
     generalize BW s a b (i%256)=gv at *;have T:=pp E;have j:=pp c;have HX:=pp X;clear E c I
     gi_wp2_with (refine ⟨trivial,?_⟩;gi_at_call 220;refine (callsIn_wide.2 (HO.o _)).mono ?_;rintro e_ w3 ⟨rfl,rfl⟩;obtain ⟨fn,tmps,assign,body,hy',hR⟩:=hY Z i _ wr (by have:=z.o.1;omega) u.out T.o hj.out)
     refine hR.mono ?_;rintro e_ W3 (⟨rfl,K,g⟩|⟨rfl,F⟩)
     ·have X3:=g.blk (.inl ⟨pA _,z.o.1⟩) HX.o;have q:=pp (pB u.out g.size);have V:=pp K;clear K g
      gi_wp2
      go_roundw
      case rel=>exact ⟨i+1,rfl,pp (by have:=j.o;omega),X3,q,V⟩
      case measure=>have:=j.o;simp [intOf];omega
     ·gi_wp2
      refine bodyPost_ret (results_none rfl _ _ _) rfl ?_;exact ⟨⟨_,rfl⟩,Z,by have:=z.o.1;omega,.inr ⟨i,by rw [f.o];exact j.o,F⟩⟩
    ·have aa:i=8192:=Nat.le_antisymm hi.out (Nat.le_of_not_lt c);subst aa;have hlt2:¬((8192:Int)<8192):=by omega
     clear c
     gi_wp2
     go_end0;exact ⟨⟨_,rfl⟩,Z,by have:=z.o.1;omega,.inl (by rw [f.o];exact hj.out)⟩
end
section
open Go.RowKit Go.Shelf
attribute [local go_sem] Oper.semAt_some
theorem Yy.on {V:FuncId}{lb:Value}{val:Cl->Int}(h:Yy P V lb val w)(H:Below w.heap.size w W):Yy P V lb val W:=
 λc b X a=>h c b X (H.trans (a.mono H.size))
theorem IK.on {G:FuncId}{lb:Array Value}{p:Int->Bool}(h:IK P G lb p w)(H:Below w.heap.size w W):IK P G lb p W:=
 λc X a=>h c X (H.trans (a.mono H.size))
theorem WE {α:Type}(l:List α)(q:α->Bool):l.any q=(l.find? q).isSome:=by
 rw [Bool.eq_iff_iff,List.find?_isSome,List.any_eq_true]
theorem OZ (V G:FuncId)(i:Value)(h:Array Value)(val:Cl->Int)(p:Int->Bool)(a b c d e f:Int)(m:BoxOk a b c d e f)(w:World)
  (q:∀args w,(callFunc V args).run prog w=.ok (.enter V args) w) (j:∀args w,(callFunc G args).run prog w=.ok (.enter G args) w) (n:Yy prog V i val w) (k:IK prog G h p w):
  Calls prog 183 #[.func (.func V) #[i] #[],.agg #[int i64 a,int i64 b,int i64 c,int i64 d,int i64 e,int i64 f],.func (.func G) #[] h] w λr w'=>
   r=.returned (.bool ((Qz a b c d e f).any λx=>p (val x)))/\Below w.heap.size w w':=by
 have g:∀W,pM w W->Calls prog 238 #[.func (.func V) #[i] #[],.agg #[int i64 a,int i64 b,int i64 c,int i64 d,int i64 e,int i64 f],.func (.func G) #[] h] W λr w'=>r=.returned (DN ((Qz a b c d e f).find? λx=>p (val x)))/\pM W w':=
  λW H=>jy V G i h val p a b c d e f m W q j (n.on H) (k.on H)
 clear n k q j m;rw [WE];generalize (Qz a b c d e f).find? (λx=>p (val x))=o at g ⊢
 rcases o with - |⟨x,y,z⟩
 all_goals
  simp only [DN,Option.isSome] at g ⊢;replace g:=pp g;go_enter func183,ntmps183;go_wp2_with (go_at_call 238;refine (g.o _ (by go_grown)).mono ?_;rintro e_ w1 ⟨rfl,l⟩)
  go_returns;exact ⟨rfl,(after ((pI _ w).alloc (pA _) _) l).alloc (by have:=l.size;simp at this;omega) _⟩
theorem IL {G:FuncId}{p:Int->Bool}(h:∀n w,Calls prog G #[int i64 n] w λr w'=>r=.returned (.bool (p n))/\w=w')(w:World):IK prog G #[] p w:=
 λn W _=>(h n W).mono λr w' h=>⟨h.1,by rw [<-h.2];exact pI _ _⟩
theorem CT (V:FuncId)(g:Value)(val:Cl->Int)(a b c d e f:Int)(i:BoxOk a b c d e f)(w:World)
  (j:∀args w,(callFunc V args).run prog w=.ok (.enter V args) w) (k:Yy prog V g val w):
  Calls prog 137 #[.func (.func V) #[g] #[],.agg #[int i64 a,int i64 b,int i64 c,int i64 d,int i64 e,int i64 f]] w λr w'=>
   r=.returned (.bool ((Qz a b c d e f).any λx=>Zh (val x)))/\Below w.heap.size w w':=by
 have h:∀W,pM w W->Calls prog 183 #[.func (.func V) #[g] #[],.agg #[int i64 a,int i64 b,int i64 c,int i64 d,int i64 e,int i64 f],.func (.func 144) #[] #[]] W λr w'=>r=.returned (.bool ((Qz a b c d e f).any λx=>Zh (val x)))/\pM W w':=
  λW H=>OZ V 144 g #[] val Zh a b c d e f i W j (enters_of func144 (by kernel_rfl) rfl) (k.on H) (IL Nk _)
 replace h:=pp h;clear k j i;go_enter func137,ntmps137;go_wp2_with (go_at_call 183;refine (h.o _ (by go_grown)).mono ?_;rintro e_ w1 ⟨rfl,h1⟩)
 go_returns;exact ⟨rfl,by (repeat' (first|(with_reducible exact pI _ _)|(with_reducible assumption)|(with_reducible refine Below.alloc ?_ ?_ _)|(with_reducible refine Below.drew ?_)|(with_reducible refine Below.setCell ?_ ?_ _)|(with_reducible refine after ?_ (pK _ _ _))|(refine after ?_ (by with_reducible assumption))|go_size))⟩
theorem eC (V:FuncId)(g:Value)(val:Cl->Int)(a b c d e f:Int)(i:BoxOk a b c d e f)(w:World)
  (j:∀args w,(callFunc V args).run prog w=.ok (.enter V args) w) (k:Yy prog V g val w):
  Calls prog 267 #[.func (.func V) #[g] #[],.agg #[int i64 a,int i64 b,int i64 c,int i64 d,int i64 e,int i64 f]] w λr w'=>
   r=.returned (.bool ((Qz a b c d e f).any λx=>Yv (val x)))/\Below w.heap.size w w':=by
 have h:∀W,pM w W->Calls prog 183 #[.func (.func V) #[g] #[],.agg #[int i64 a,int i64 b,int i64 c,int i64 d,int i64 e,int i64 f],.func (.func 259) #[] #[]] W λr w'=>r=.returned (.bool ((Qz a b c d e f).any λx=>Yv (val x)))/\pM W w':=
  λW H=>OZ V 259 g #[] val Yv a b c d e f i W j (enters_of func259 (by kernel_rfl) rfl) (k.on H) (IL Ke _)
 replace h:=pp h;clear k j i;go_enter func267,ntmps267;go_wp2_with (go_at_call 183;refine (h.o _ (by go_grown)).mono ?_;rintro e_ w1 ⟨rfl,h1⟩)
 go_returns;exact ⟨rfl,by (repeat' (first|(with_reducible exact pI _ _)|(with_reducible assumption)|(with_reducible refine Below.alloc ?_ ?_ _)|(with_reducible refine Below.drew ?_)|(with_reducible refine Below.setCell ?_ ?_ _)|(with_reducible refine after ?_ (pK _ _ _))|(refine after ?_ (by with_reducible assumption))|go_size))⟩
theorem P3 (V:FuncId)(g:Value)(val:Cl->Int)(a b c d e f:Int)(i:BoxOk a b c d e f)(w:World)
  (j:∀args w,(callFunc V args).run prog w=.ok (.enter V args) w) (k:Yy prog V g val w):
  Calls prog 266 #[.func (.func V) #[g] #[],.agg #[int i64 a,int i64 b,int i64 c,int i64 d,int i64 e,int i64 f]] w λr w'=>
   r=.returned (.bool ((Qz a b c d e f).any λx=>EG (val x)))/\Below w.heap.size w w':=by
 have h:∀W,pM w W->Calls prog 183 #[.func (.func V) #[g] #[],.agg #[int i64 a,int i64 b,int i64 c,int i64 d,int i64 e,int i64 f],.func (.func 313) #[] #[]] W λr w'=>r=.returned (.bool ((Qz a b c d e f).any λx=>EG (val x)))/\pM W w':=
  λW H=>OZ V 313 g #[] val EG a b c d e f i W j (enters_of func313 (by kernel_rfl) rfl) (k.on H) (IL TQ _)
 replace h:=pp h;clear k j i;go_enter func266,ntmps266;go_wp2_with (go_at_call 183;refine (h.o _ (by go_grown)).mono ?_;rintro e_ w1 ⟨rfl,h1⟩)
 go_returns;exact ⟨rfl,by (repeat' (first|(with_reducible exact pI _ _)|(with_reducible assumption)|(with_reducible refine Below.alloc ?_ ?_ _)|(with_reducible refine Below.drew ?_)|(with_reducible refine Below.setCell ?_ ?_ _)|(with_reducible refine after ?_ (pK _ _ _))|(refine after ?_ (by with_reducible assumption))|go_size))⟩
theorem Bm (V:FuncId)(i:Value)(val:Cl->Int)(a b c d e f:Int)(g: -140737488355328<=b)(h:b<=140737488355328)(l:BoxOk a (Qe (b - 1)) c d b f)(w:World)
  (n:∀args w,(callFunc V args).run prog w=.ok (.enter V args) w) (m:Yy prog V i val w):
  Calls prog 140 #[.func (.func V) #[i] #[],.agg #[int i64 a,int i64 b,int i64 c,int i64 d,int i64 e,int i64 f]] w λr w'=>
   r=.returned (.bool ((Qz a (Qe (b - 1)) c d b f).any λx=>Zh (val x)))/\Below w.heap.size w w':=by
 have k:∀W,pM w W->Calls prog 137 #[.func (.func V) #[i] #[],.agg #[int i64 a,int i64 (Qe (b - 1)),int i64 c,int i64 d,int i64 b,int i64 f]] W λr w'=>r=.returned (.bool ((Qz a (Qe (b - 1)) c d b f).any λx=>Zh (val x)))/\pM W w':=
  λW H=>CT V i val a (Qe (b - 1)) c d b f l W n (m.on H)
 have j:=λW=>dL a b c d e f g h W
 replace k:=pp k;replace j:=pp j;clear m n l g h;generalize Qe (b - 1)=b' at k j ⊢;go_enter func140,ntmps140;go_wp2_with first
  | (go_at_call 185;refine (j.o _).mono ?_;rintro p w1 ⟨rfl,g⟩)
  | (go_at_call 137;refine (k.o _ (after ((pI _ w).alloc (pA _) _) g)).mono ?_;rintro p w2 ⟨rfl,h⟩)
 go_returns;exact ⟨rfl,after (after ((pI _ w).alloc (pA _) _) g) h⟩
theorem L1 {n m:Int}(h:n<=m)(h2:m<=n+1000000):(X9 n m+1 - Qm n).toNat<=18:=by
 unfold X9 Qm Qe;split<;>omega
theorem JA {a b c d e f:Int}(j:a<=d)(h:d<=a+1000000)(l:b<=e)(i:e<=b+1000000)(k:c<=f)(g:f<=c+1000000):(Qz a b c d e f).length<=1000000:=by
 unfold Qz;split
 ·rw [MN];have:=Nat.mul_le_mul (L1 l i) (Nat.mul_le_mul (L1 k g) (L1 j h));omega
 ·simp
end
section
open Go.RowKit
theorem Hv {k:Int}(h1: -2147483648<=k)(h2:k<=2147483648):Xu k=k * 65536:=by unfold Xu;omega
def AS (top d:Int):List (Int×Int):=(List.range ((top+d+65535) / 65536 - (top+65535) / 65536).toNat).map λi:Nat=>((top+65535) / 65536+(i:Int),((top+65535) / 65536+(i:Int)) * 65536 - top)
def AT (low d:Int):List (Int×Int):=(List.range (low / 65536 - (low+d) / 65536).toNat).map λi:Nat=>(low / 65536 - 1 - (i:Int),(low / 65536 - (i:Int)) * 65536 - low)
def BX (low top d:Int):List (Int×Int):=if 0<d then AS top d else AT low d
def Cw (blk:Int->Bool)(low top d:Int):Int×Bool:=match (BX low top d).find? (λkw=>blk kw.1) with
 | some kw=>(kw.2,true)
 | none=>(d,false)
def EM (val:Cl->Int)(a b c d e f axis k:Int):Bool:=
 (Qz (Qy a axis 0 (k * 65536)) (Qy b axis 1 (k * 65536)) (Qy c axis 2 (k * 65536)) (Qy d axis 0 (k * 65536+65536)) (Qy e axis 1 (k * 65536+65536)) (Qy f axis 2 (k * 65536+65536))).any λx=>Zh (val x)
def CV (d:Int):Int:=min (max d (-4194304)) 4194304
def UV (val:Cl->Int)(a b c d e f axis dd:Int):Int×Bool:=
 if axis<0∨3<=axis then (0,false) else Cw (EM val a b c d e f axis) (Xc a b c axis) (Xc d e f axis) (CV dd)
structure Sm (M a b c d e f:Int):Prop where
 a1: -M<=a
 b1: -M<=b
 c1: -M<=c
 a2:a<=M
 b2:b<=M
 c2:c<=M
 ad:a<=d
 be:b<=e
 cf:c<=f
 da:d<=a+1000000
 eb:e<=b+1000000
 fc:f<=c+1000000
theorem Sm.box {M a b c d e f:Int}(h:Sm M a b c d e f)(hM:M<=100000000000000):BoxOk a b c d e f:=by
 obtain ⟨h1,h2,h3,h4,h5,h6,h7,h8,h9,h10,h11,h12⟩:=h;exact ⟨by omega,by omega,by omega,by omega,by omega,by omega,by omega,by omega,by omega⟩
theorem Sm.cells {M a b c d e f:Int}(h:Sm M a b c d e f):(Qz a b c d e f).length<=1000000:=JA h.ad h.da h.be h.eb h.cf h.fc
theorem Gp {x i n:Int}(a: -140737488355328<=n)(b:n<=140737488355328):Qy x axis i n=if i=axis then n else x:=by unfold Qy;rw [Zm a b]
theorem Sm.layer {M a b c d e f k:Int}(h:Sm M a b c d e f)(hM:M<=73000000000000)(h1: -(M+10000000)<=k * 65536)(h2:k * 65536<=M+10000000):
  Sm (M+10000000) (Qy a axis 0 (k * 65536)) (Qy b axis 1 (k * 65536)) (Qy c axis 2 (k * 65536)) (Qy d axis 0 (k * 65536+65536)) (Qy e axis 1 (k * 65536+65536)) (Qy f axis 2 (k * 65536+65536)):=by
 obtain ⟨h3,h4,h5,h6,h7,h8,h9,h10,h11,h12,h13,h14⟩:=h;rw [Gp (by omega) (by omega),Gp (by omega) (by omega),Gp (by omega) (by omega),Gp (by omega) (by omega),Gp (by omega) (by omega),Gp (by omega) (by omega)]
 constructor<;>split<;>omega
theorem RW {M a b c d e f:Int}(h:Sm M a b c d e f)(h0:0<=M): -M<=Xc a b c axis/\Xc a b c axis<=Xc d e f axis/\Xc d e f axis<=M+1000000:=by
 obtain ⟨h3,h4,h5,h6,h7,h8,h9,h10,h11,h12,h13,h14⟩:=h;unfold Xc;refine ⟨?_,?_,?_⟩<;>(split;omega;split;omega;split;omega;omega)
theorem L3 {d k w:Int}(h:(k,w)∈BX low top d):
  (0<d/\w=k * 65536 - top/\0<=w/\w<d)∨(d<0/\w=(k+1) * 65536 - low/\w<=0/\d<w):=by
 unfold BX at h;split at h
 ·left;unfold AS at h;obtain ⟨i,a,e⟩:=List.mem_map.1 h;rw [List.mem_range] at a;injection e with e1 e2
  refine ⟨by assumption,by omega,by omega,by omega⟩
 ·right;unfold AT at h;obtain ⟨i,a,e⟩:=List.mem_map.1 h;rw [List.mem_range] at a;injection e with e1 e2
  refine ⟨by omega,by omega,by omega,by omega⟩
theorem Ny (d:Int): -4194304<=CV d/\CV d<=4194304:=by unfold CV;omega
theorem RX {blk:Int->Bool}{d:Int} :(0<=d->0<=(Cw blk low top d).1/\(Cw blk low top d).1<=d)/\(d<=0->d<=(Cw blk low top d).1/\(Cw blk low top d).1<=0):=by
 unfold Cw;split
 ·rename_i a h;have:=L3 (k:=a.1) (w:=a.2) (List.mem_of_find?_eq_some h);dsimp only;omega
 ·dsimp only;omega
theorem L4 (top d:Int):(AS top d).length=((top+d+65535) / 65536 - (top+65535) / 65536).toNat:=by simp [AS]
theorem L5 (low d:Int):(AT low d).length=(low / 65536 - (low+d) / 65536).toNat:=by simp [AT]
theorem eD {d:Int}(h:i<(AS top d).length):(AS top d)[i]?=some ((top+65535) / 65536+(i:Int),((top+65535) / 65536+(i:Int)) * 65536 - top):=by
 rw [L4] at h;simp [AS,h]
theorem eE {d:Int}(h:i<(AT low d).length):(AT low d)[i]?=some (low / 65536 - 1 - (i:Int),(low / 65536 - (i:Int)) * 65536 - low):=by
 rw [L5] at h;simp [AT,h]
abbrev B6:=Int×Int×Int×Int×Int×Int
abbrev AX (x:B6):Array Value:=#[int i64 x.1,int i64 x.2.1,int i64 x.2.2.1,int i64 x.2.2.2.1,int i64 x.2.2.2.2.1,int i64 x.2.2.2.2.2]
def Yh (M:Int)(x:B6):Prop:=Sm M x.1 x.2.1 x.2.2.1 x.2.2.2.1 x.2.2.2.2.1 x.2.2.2.2.2
def AI (val:Cl->Int)(x:B6)(axis dd:Int):Int×Bool:=UV val x.1 x.2.1 x.2.2.1 x.2.2.2.1 x.2.2.2.2.1 x.2.2.2.2.2 axis dd
def L6 (x:B6)(axis n:Int):B6:=
 (Q9 x.1 (Qy 0 axis 0 n),Q9 x.2.1 (Qy 0 axis 1 n),Q9 x.2.2.1 (Qy 0 axis 2 n),Q9 x.2.2.2.1 (Qy 0 axis 0 n),Q9 x.2.2.2.2.1 (Qy 0 axis 1 n),Q9 x.2.2.2.2.2 (Qy 0 axis 2 n))
def ZM (val:Cl->Int)(x:B6)(axis dd:Int):B6×Bool:=(L6 x axis (AI val x axis dd).1,(AI val x axis dd).2)
theorem RY (val:Cl->Int)(a b c d e f axis g:Int): -4194304<=(UV val a b c d e f axis g).1/\(UV val a b c d e f axis g).1<=4194304:=by
 unfold UV;split
 ·simp
 ·obtain ⟨h1,h2⟩:=Ny g;obtain ⟨h3,h4⟩:=RX (blk:=EM val a b c d e f axis) (low:=Xc a b c axis) (top:=Xc d e f axis) (d:=CV g);omega
theorem Xg {a b:Int}(h1: -100000000000000<=a)(h2:a<=100000000000000)(h3: -10000000<=b)(h4:b<=10000000):Q9 a b=a+b:=by
 unfold Q9 Qe;omega
theorem Nz {i n:Int}(h1: -10000000<=n)(h2:n<=10000000):Qy 0 axis i n=if i=axis then n else 0:=Gp (by omega) (by omega)
theorem jC {M:Int}{x:B6}(h:Yh M x)(hM0:0<=M)(hM:M<=74000000000000){n:Int}(d: -10000000<=n)(c:n<=10000000):Yh (M+10000000) (L6 x axis n):=by
 obtain ⟨h3,h4,h5,h6,h7,h8,h9,h10,h11,h12,h13,h14⟩:=h;unfold Yh L6;rw [Nz d c,Nz d c,Nz d c];dsimp only;have q:∀i:Int,-10000000<=(if i=axis then n else 0)/\(if i=axis then n else 0)<=10000000:=λi=>by split<;>omega
 have a:=q 0;have b:=q 1;have q2:=q 2;generalize (if (0:Int)=axis then n else 0)=n0 at a ⊢;generalize (if (1:Int)=axis then n else 0)=n1 at b ⊢;generalize (if (2:Int)=axis then n else 0)=n2 at q2 ⊢;rw [Xg (by omega) (by omega) a.1 a.2,Xg (by omega) (by omega) b.1 b.2,Xg (by omega) (by omega) q2.1 q2.2,Xg (by omega) (by omega) a.1 a.2,Xg (by omega) (by omega) b.1 b.2,Xg (by omega) (by omega) q2.1 q2.2]
 constructor<;>omega
theorem UW {M:Int}{x:B6}(h:Yh M x)(a:0<=M)(c:M<=74000000000000)(val:Cl->Int)(axis b:Int):Yh (M+10000000) (ZM val x axis b).1:=by
 obtain ⟨h1,h2⟩:=RY val x.1 x.2.1 x.2.2.1 x.2.2.2.1 x.2.2.2.2.1 x.2.2.2.2.2 axis b;exact jC h a c (n:=(AI val x axis b).1) (by unfold AI;omega) (by unfold AI;omega)
def Cx (val:Cl->Int)(x:B6)(dy:Int):B6:=(ZM val x 1 dy).1
def Dc (val:Cl->Int)(x:B6)(dx dy:Int):B6:=(ZM val (Cx val x dy) 0 dx).1
def st3 (val:Cl->Int)(x:B6)(dx dy dz:Int):B6:=(ZM val (Dc val x dx dy) 2 dz).1
def RZ (val:Cl->Int)(x:B6)(dy:Int):Bool:=(ZM val x 1 dy).2
def AY (val:Cl->Int)(x:B6)(dx dy:Int):Bool:=(ZM val (Cx val x dy) 0 dx).2
def Eo (val:Cl->Int)(x:B6)(dx dy dz:Int):Bool:=(ZM val (Dc val x dx dy) 2 dz).2
def P4 (val:Cl->Int)(x:B6)(dx dy dz:Int):Value:=.tuple #[.agg (AX (st3 val x dx dy dz)),.agg #[.bool (AY val x dx dy),.bool (RZ val x dy),.bool (Eo val x dx dy dz)]]
theorem jD {d:Int}(h1: -4194304<=d)(h2:d<=4194304):CV d=d:=by unfold CV;omega
end
section
def Ep (val:Cl->Int)(x:B6):Bool:=(Qz x.1 (Qe (x.2.1 - 1)) x.2.2.1 x.2.2.2.1 x.2.1 x.2.2.2.2.2).any λc=>Zh (val c)
def Fr (x y:B6):Int:=Xv (y.1 - x.1) (x.1 - y.1)+Xv (y.2.2.1 - x.2.2.1) (x.2.2.1 - y.2.2.1)
section
variable (val:Cl->Int)(x:B6)(dx dy dz up:Int)
def YV:B6×Bool:=ZM val x 1 (Xj up 65536)
def rise:Int:=(YV val x up).1.2.1 - x.2.1
def oA:B6×Bool:=ZM val (YV val x up).1 0 dx
def oB:B6×Bool:=ZM val (oA val x dx up).1 2 dz
def oC:B6×Bool:=ZM val (oB val x dx dz up).1 1 (-rise val x up)
abbrev jE (h:Bool×Bool×Bool):Array Value:=#[.bool h.1,.bool h.2.1,.bool h.2.2]
abbrev jF (p:B6×Bool×Bool×Bool):Value:=.tuple #[.agg (AX p.1),.agg (jE p.2)]
def AJ (y c:B6)(u0 u1 u2 sa sb st:Bool)(up n1 n2:Int):B6×Bool×Bool×Bool:=
 if ((u0||u2)&&decide (0<up)&&st&&decide (n2<n1))=true then (c,sa,true,sb) else (y,u0,u1,u2)
def Bn:B6×Bool×Bool×Bool:=
 AJ (st3 val x dx dy dz) (oC val x dx dz up).1 (AY val x dx dy) (RZ val x dy) (Eo val x dx dy dz) (oA val x dx up).2 (oB val x dx dz up).2 (Ep val x) up (Fr x (oC val x dx dz up).1) (Fr x (st3 val x dx dy dz))
variable {val x dx dy dz up}
theorem Cy {y c:B6}{a f u2 j k st:Bool}{up b d:Int}(h:(a=false/\u2=false)∨up<=0∨st=false∨b<=d):AJ y c a f u2 j k st up b d=(y,a,f,u2):=by
 unfold AJ;refine if_neg λe=>?_
 simp only [Bool.and_eq_true,Bool.or_eq_true,decide_eq_true_eq] at e;obtain ⟨⟨⟨g,e2⟩,i⟩,e4⟩:=e;rcases h with ⟨rfl,rfl⟩|h|rfl|h
 ·simp at g
 ·omega
 ·cases i
 ·omega
theorem Hw {y c:B6}{d j u2 a e:Bool}{up b f:Int}(h:d=true∨u2=true)(i:0<up)(g:f<b):AJ y c d j u2 a e true up b f=(c,a,true,e):=by
 unfold AJ;refine if_pos ?_;simp only [Bool.and_eq_true,Bool.or_eq_true,decide_eq_true_eq];exact ⟨⟨⟨h,i⟩,trivial⟩,g⟩
theorem L7 {M:Int}(h:Yh M x)(a:0<=M)(hM:M<=73000000000000):Yh (M+10000000) (YV val x up).1:=UW h a (by omega) val 1 _
theorem cH {M:Int}(h:Yh M x)(a:0<=M)(b:M<=73000000000000):Yh (M+20000000) (oA val x dx up).1:=by
 have:=UW (L7 (val:=val) (up:=up) h a b) (by omega) (by omega) val 0 dx
 rwa [show M+10000000+10000000=M+20000000 by omega] at this
theorem cI {M:Int}(h:Yh M x)(a:0<=M)(b:M<=73000000000000):Yh (M+30000000) (oB val x dx dz up).1:=by
 have:=UW (cH (val:=val) (up:=up) (dx:=dx) h a b) (by omega) (by omega) val 2 dz
 rwa [show M+20000000+10000000=M+30000000 by omega] at this
theorem cJ {M:Int}(h:Yh M x)(a:0<=M)(b:M<=73000000000000):Yh (M+40000000) (oC val x dx dz up).1:=by
 have:=UW (cI (val:=val) (up:=up) (dx:=dx) (dz:=dz) h a b) (by omega) (by omega) val 1 (-rise val x up)
 rwa [show M+30000000+10000000=M+40000000 by omega] at this
theorem S0 {M:Int}(h:Yh M x)(a:0<=M)(hM:M<=73000000000000):Yh (M+30000000) (st3 val x dx dy dz):=by
 have s1:=UW h a (by omega) val 1 dy
 have s2:=UW (x:=Cx val x dy) s1 (by omega) (by omega) val 0 dx
 have s3:=UW (x:=Dc val x dx dy) s2 (by omega) (by omega) val 2 dz
 rwa [show M+10000000+10000000+10000000=M+30000000 by omega] at s3
theorem Yh.bd {M:Int}(h:Yh M x):(-M<=x.1/\x.1<=M)/\(-M<=x.2.1/\x.2.1<=M)/\(-M<=x.2.2.1/\x.2.2.1<=M):=⟨⟨h.a1,h.a2⟩,⟨h.b1,h.b2⟩,⟨h.c1,h.c2⟩⟩
theorem Yh.under {M:Int}(h:Yh M x)(hM0:0<=M)(hM:M<=73000000000000):BoxOk x.1 (Qe (x.2.1 - 1)) x.2.2.1 x.2.2.2.1 x.2.1 x.2.2.2.2.2/\(Qz x.1 (Qe (x.2.1 - 1)) x.2.2.1 x.2.2.2.1 x.2.1 x.2.2.2.2.2).length<=1000000:=by
 obtain ⟨h1,h2,h3,h4,h5,h6,h7,h8,h9,h10,h11,h12⟩:=h;rw [Zm (by omega) (by omega)]
 exact ⟨⟨by omega,by omega,by omega,by omega,by omega,by omega,by omega,by omega,by omega⟩,JA (by omega) (by omega) (by omega) (by omega) (by omega) (by omega)⟩
end
theorem Yh.mono {M M':Int}{x:B6}(h:Yh M x)(hm:M<=M'):Yh M' x:=by
 obtain ⟨h1,h2,h3,h4,h5,h6,f,e,d,a,c,b⟩:=h;exact ⟨by omega,by omega,by omega,by omega,by omega,by omega,f,e,d,a,c,b⟩
section
variable {val:Cl->Int}{x:B6}{dx dy dz up M:Int}
theorem WF (h:Yh M x)(a:0<=M)(b:M<=73000000000000):Yh (M+40000000) (Bn val x dx dy dz up).1:=by
 unfold Bn AJ;split
 ·exact cJ h a b
 ·exact (S0 h a b).mono (by omega)
theorem Yh.box (h:Yh M x)(hM0:0<=M)(hM:M<=73000000000000):BoxOk x.1 x.2.1 x.2.2.1 x.2.2.2.1 x.2.2.2.2.1 x.2.2.2.2.2/\(Qz x.1 x.2.1 x.2.2.1 x.2.2.2.1 x.2.2.2.2.1 x.2.2.2.2.2).length<=1000000:=⟨Sm.box h (by omega),Sm.cells h⟩
end
theorem WG {blk:Int->Bool}{d:Int}(h:(Cw blk low top d).2=false):(Cw blk low top d).1=d:=by
 unfold Cw at *;split at h
 ·cases h
 ·rfl
theorem eH (val:Cl->Int)(x:B6){i m:Int}(hi:0<=i/\i<3)(c: -4194304<=m)(a:m<=4194304):
  (((0<=m/\0<=(AI val x i m).1/\(AI val x i m).1<=m)∨(m<=0/\m<=(AI val x i m).1/\(AI val x i m).1<=0)))/\((AI val x i m).2=false->(AI val x i m).1=m):=by
 unfold AI UV;rw [if_neg (by omega),jD c a]
 obtain ⟨e,b⟩:=RX (blk:=EM val x.1 x.2.1 x.2.2.1 x.2.2.2.1 x.2.2.2.2.1 x.2.2.2.2.2 i) (low:=Xc x.1 x.2.1 x.2.2.1 i) (top:=Xc x.2.2.2.1 x.2.2.2.2.1 x.2.2.2.2.2 i) (d:=m);refine ⟨?_,WG⟩;rcases (show 0<=m∨m<=0 by omega) with h|h
 ·exact .inl ⟨h,e h⟩
 ·exact .inr ⟨h,b h⟩
end
section
open Go.RowKit Go.Shelf
attribute [local go_sem] Oper.semAt_some
theorem WH (a b c d e f axis h:Int)(w:World):Calls prog 355 #[.agg #[int i64 a,int i64 b,int i64 c,int i64 d,int i64 e,int i64 f],int i64 axis,int i64 h] w λr w'=>
  r=.returned (.func (.func 362) #[] #[w.heap.size,.pointer (some ⟨w.heap.size+1,0,none⟩),.pointer (some ⟨w.heap.size+1+1,0,none⟩)])/\
  w'=((w.alloc (.cells #[int i64 a,int i64 b,int i64 c,int i64 d,int i64 e,int i64 f] 210)).alloc (.cells #[int i64 axis] 3)).alloc (.cells #[int i64 h] 3):=by
 have hmf:∀(g:Fn) (first cap:Array Value) (w:World),(Instr.makeFunc g first cap).run prog w=.ok (.func g first cap) w:=λ_ _ _ _=>rfl
 go_enter func355,ntmps355;go_wp2_with fail;go_returns;exact ⟨rfl,rfl⟩
abbrev od (c:Int×Int):Array Value:=#[int i64 c.1,int i64 c.2]
theorem EN (n v:Int)(h:Xu n=v)(w:World):Calls prog 244 #[n] w λe w'=>e=.returned (int i64 v)/\Below w.heap.size w w':=Ym (nX n v h w)
theorem NA (n v:Int)(h:Qe n / 65536=v)(w:World):Calls prog 237 #[n] w λe w'=>e=.returned (int i64 v)/\w=w':=by subst h;exact Nd n w
theorem jG (B G D:Nat)(a b c d e f axis j M:Int)(hM:M<=73000000000000)(ai:0<=M)(hB:Sm M a b c d e f)(h1: -4194304<=j)(h2:j<=4194304)(w:World)(hb:Q0 w B 210 #[a,b,c,d,e,f])(hg:Q0 w G 3 #[axis])(hd:Q0 w D 3 #[j]):
  OI prog 362 #[B,G,D] od (BX (Xc a b c axis) (Xc d e f axis) j) (λx=>x=B∨x=G∨x=D) w:=by
 intro m l J Jx W hW hJ hJx hY h0;have A:=hW.blk (.inl rfl) hb;have A1:=hW.blk (.inr (.inl rfl)) hg;have A2:=hW.blk (.inr (.inr rfl)) hd;obtain ⟨l1,l2,l3⟩:=RW (axis:=axis) hB ai;clear hb hg hd hW hB;refine callsIn_of_wp func362 rfl trivial ?_ rfl;simp only [ntmps362,List.size_toArray,List.length_cons,List.length_nil,Nat.reduceAdd,Nat.reduceSub,Array.replicate_succ,Array.replicate_zero,List.push_toArray,List.append_toArray,List.nil_append,List.cons_append];refine wpIn_wide.2 ?_;obtain ⟨a0,a1,a2,a3,a4,a5⟩:=A.re6;have g0:=λx y=>(A1.re x y).cell 0
 clear A;go_upto_region 0 with fail
 refine Qk [0,0,0,0,0,0,0,0,0,0] (λ_ _ _=>True) (by kernel_rfl) (by kernel_rfl) (λ_ _ _ _ h _=>h) ?_
 repeat (first|(refine Qi ?_)|(refine Qf (λK q=>?_);go_simp;first|(refine q _ ?_;clear q K)|(apply Exists.intro;refine ⟨λ_=>?_,q _ ?_⟩;(exact BL _ _ _ _ _);clear q K)))
 refine Q8 ?_;repeat (refine Q2 ?_)
 refine Qc ?_;simp only [Qd];clear a0 a1 a2 a3 a4 a5 g0;generalize ah:Xc a b c axis=low at l1 l2 hY ⊢;generalize ag:Xc d e f axis=top at l2 l3 hY ⊢;intro N k1 _;have aa:=pp ah;have ab:=pp ag;clear ah ag;have s:=A2.on k1;have d0:=s.cell 0;have Y:∀Z,J Z 0 N:=λZ=>hJ Z 0 W N (h0 Z) (Kept.of_below k1)
 have I:=k1.size;have hDl:=A2.lt;clear k1 h0 A1 A2;by_cases ac:0<j
 ·have F:BX low top j=AS top j:=by unfold BX;rw [if_pos ac]
  rw [F] at hY;have V:=pp F;have t:=L4 top j;have k:=pp t;clear F t;go_upto_region 3 with (go_at_call 237;refine (NA _ ((top+65535) / 65536) (by unfold Qe;omega) _).mono ?_;rintro e_ w2 ⟨rfl,rfl⟩)
  refine (wpIn_wide (n:=m+1)).1 ?_
  gi_loopw [7] (λv wr=>∃(g:Int) (i:Nat),v=.int .i64 g/\Hid (g=(top+65535) / 65536+(i:Int))/\Hid (i<=(AS top j).length)/\Q0 wr D 3 #[j]/\Hid (N.heap.size<=wr.heap.size)/\J N.heap.size i wr) (λv _=>((top+j+65535) / 65536+1 - intOf v).toNat)
  case atStart=>exact ⟨_,0,rfl,pp (by omega),pC _,s,pA _,Y _⟩
  case round=>
   clear s Y d0;obtain ⟨g,i,rfl,r,hi,s,U,L⟩:=hrel;have d0:=λx y=>(s.re x y).cell 0
   have u:=r.out;have z:=hi.out;rw [k.o] at z;have b1: -9223372036854775808<=g - 1:=by omega
   have b2:g+1<=9223372036854775807:=by omega
   have b3: -9223372036854775808<=g+1:=by omega
   have b4:g - 1<=9223372036854775807:=by omega
   have b5: -9223372036854775808<=g * 65536 - top:=by omega
   have b6:g * 65536 - top<=9223372036854775807:=by omega
   have E:Xu (g)=(g) * 65536:=Hv (by omega) (by omega)
   have C:=pp E;by_cases p:i<(AS top j).length
   ·have c1:(AS top j)[i]?=some (g,g * 65536 - top):=by rw [eD p,u]
    have C1:=pp c1;have X:=pp p;rw [k.o] at p;have T:g * 65536<top+j:=by omega
    clear p c1 z E u;have hw:IntKind.i64.wrap (top+j)=top+j:=pJ _ (by omega)
    gi_wp2
    refine wpIn_wide.2 ?_;refine Qk [0,0,0,0,0,0] (λ_ _ _=>True) (by kernel_rfl) (by kernel_rfl) (λ_ _ _ _ h _=>h) ?_
    repeat (first|(refine Qi ?_)|(refine Qf (λK q=>?_);go_simp;first|(refine q _ ?_;clear q K)|(apply Exists.intro;refine ⟨λ_=>?_,q _ ?_⟩;(exact EN _ _ C.o _);clear q K)))
    refine Q8 ?_;repeat (refine Q2 ?_)
    refine Qc ?_;simp only [Qd];intro W2 R _;have HJ:=pp (py (hJ _ _ _ _ L (Kept.of_below R)) (pB U.out R.size));clear d0 L;simp only [wpList,Exit.then];go_at_K
    gi_wp2_with (refine ⟨trivial,?_⟩;gi_at_call 244;refine (callsIn_wide.2 (EN _ _ C.o _)).mono ?_;rintro e_ w3 ⟨rfl,k3⟩;obtain ⟨L,ad⟩:=HJ.o;have O:=pB ad k3.size;replace s:=(s.on R).on k3;obtain ⟨fn,tmps,assign,body,aj,hR⟩:=hY N.heap.size i _ w3 I O C1.o (hJ _ _ _ _ L (Kept.of_below k3)))
    refine hR.mono ?_;rintro e_ W3 (⟨rfl,ae,Q⟩|⟨rfl,S⟩)
    ·replace s:=Q.blk (.inr (.inr (.inr rfl))) s;have P:=pp (pB O Q.size)
     gi_wp2
     go_roundw
     case rel=>exact ⟨g+1,i+1,rfl,pp (by have:=r.out;omega),X.o,s,P.o,ae⟩
     case measure=>have:=r.out;have:=X.o;rw [k.o] at this;simp [intOf];omega
    ·gi_wp2
     refine bodyPost_ret (results_none rfl _ _ _) rfl ?_;exact ⟨⟨_,rfl⟩,N.heap.size,I,.inr ⟨i,by rw [aa.o,ab.o,V.o];exact X.o,S⟩⟩
   ·have H:i=(AS top j).length:=Nat.le_antisymm hi.out (Nat.le_of_not_lt p);have T:¬g * 65536<top+j:=by rw [k.o] at H;omega
    have hw:IntKind.i64.wrap (top+j)=top+j:=pJ _ (by omega)
    have af:True:=trivial;have X:=pp H;clear p z E u H
    gi_wp2
    refine wpIn_wide.2 ?_;refine Qk [0,0,0,0,0,0] (λ_ _ _=>True) (by kernel_rfl) (by kernel_rfl) (λ_ _ _ _ h _=>h) ?_
    repeat (first|(refine Qi ?_)|(refine Qf (λK q=>?_);go_simp;first|(refine q _ ?_;clear q K)|(apply Exists.intro;refine ⟨λ_=>?_,q _ ?_⟩;(exact EN _ _ C.o _);clear q K)))
    refine Q8 ?_;repeat (refine Q2 ?_)
    refine Qc ?_;simp only [Qd];intro W2 R _;have HJ:=pp (hJ _ _ _ _ L (Kept.of_below R));clear d0 L;simp only [wpList,Exit.then];go_at_K
    gi_wp2
    go_wp2_with fail;refine bodyPost_ret (results_none rfl _ _ _) rfl ?_;exact ⟨⟨_,rfl⟩,N.heap.size,I,.inl (by rw [aa.o,ab.o,V.o,<-X.o];exact HJ.o)⟩
 ·have F:BX low top j=AT low j:=by unfold BX;rw [if_neg ac]
  rw [F] at hY;have V:=pp F;have t:=L5 low j;have k:=pp t;clear F t;go_upto_region 7 with (go_at_call 237;refine (NA _ (low / 65536) (by unfold Qe;omega) _).mono ?_;rintro e_ w2 ⟨rfl,rfl⟩)
  refine (wpIn_wide (n:=m+1)).1 ?_
  gi_loopw [8] (λv wr=>∃(g:Int) (i:Nat),v=.int .i64 g/\Hid (g=low / 65536 - 1 - (i:Int))/\Hid (i<=(AT low j).length)/\Q0 wr D 3 #[j]/\Hid (N.heap.size<=wr.heap.size)/\J N.heap.size i wr) (λv _=>(intOf v - (low+j) / 65536+1).toNat)
  case atStart=>exact ⟨_,0,rfl,pp (by omega),pC _,s,pA _,Y _⟩
  case round=>
   clear s Y d0;obtain ⟨g,i,rfl,r,hi,s,U,L⟩:=hrel;have d0:=λx y=>(s.re x y).cell 0
   have u:=r.out;have z:=hi.out;rw [k.o] at z;have b1: -9223372036854775808<=g - 1:=by omega
   have b2:g+1<=9223372036854775807:=by omega
   have b3: -9223372036854775808<=g+1:=by omega
   have b4:g - 1<=9223372036854775807:=by omega
   have b5: -9223372036854775808<=(g+1) * 65536 - low:=by omega
   have b6:(g+1) * 65536 - low<=9223372036854775807:=by omega
   have E:Xu (g+1)=(g+1) * 65536:=Hv (by omega) (by omega)
   have C:=pp E;by_cases p:i<(AT low j).length
   ·have c1:(AT low j)[i]?=some (g,(g+1) * 65536 - low):=by rw [eE p,u];congr 2;omega
    have C1:=pp c1;have X:=pp p;rw [k.o] at p;have T:(g+1) * 65536>low+j:=by omega
    clear p c1 z E u;have hw:IntKind.i64.wrap (low+j)=low+j:=pJ _ (by omega)
    have af:IntKind.i64.wrap (g+1)=g+1:=pJ _ (by omega)
    gi_wp2
    refine wpIn_wide.2 ?_;refine Qk [0,0,0,0,0,0,0] (λ_ _ _=>True) (by kernel_rfl) (by kernel_rfl) (λ_ _ _ _ h _=>h) ?_
    repeat (first|(refine Qi ?_)|(refine Qf (λK q=>?_);go_simp;first|(refine q _ ?_;clear q K)|(apply Exists.intro;refine ⟨λ_=>?_,q _ ?_⟩;(exact EN _ _ C.o _);clear q K)))
    refine Q8 ?_;repeat (refine Q2 ?_)
    refine Qc ?_;simp only [Qd];intro W2 R _;have HJ:=pp (py (hJ _ _ _ _ L (Kept.of_below R)) (pB U.out R.size));clear d0 L;simp only [wpList,Exit.then];go_at_K
    gi_wp2_with (refine ⟨trivial,?_⟩;gi_at_call 244;refine (callsIn_wide.2 (EN _ _ C.o _)).mono ?_;rintro e_ w3 ⟨rfl,k3⟩;obtain ⟨L,ad⟩:=HJ.o;have O:=pB ad k3.size;replace s:=(s.on R).on k3;obtain ⟨fn,tmps,assign,body,aj,hR⟩:=hY N.heap.size i _ w3 I O C1.o (hJ _ _ _ _ L (Kept.of_below k3)))
    refine hR.mono ?_;rintro e_ W3 (⟨rfl,ae,Q⟩|⟨rfl,S⟩)
    ·replace s:=Q.blk (.inr (.inr (.inr rfl))) s;have P:=pp (pB O Q.size)
     gi_wp2
     go_roundw
     case rel=>exact ⟨g - 1,i+1,rfl,pp (by have:=r.out;omega),X.o,s,P.o,ae⟩
     case measure=>have:=r.out;have:=X.o;rw [k.o] at this;simp [intOf];omega
    ·gi_wp2
     refine bodyPost_ret (results_none rfl _ _ _) rfl ?_;exact ⟨⟨_,rfl⟩,N.heap.size,I,.inr ⟨i,by rw [aa.o,ab.o,V.o];exact X.o,S⟩⟩
   ·have H:i=(AT low j).length:=Nat.le_antisymm hi.out (Nat.le_of_not_lt p);have T:¬(g+1) * 65536>low+j:=by rw [k.o] at H;omega
    have hw:IntKind.i64.wrap (low+j)=low+j:=pJ _ (by omega)
    have af:IntKind.i64.wrap (g+1)=g+1:=pJ _ (by omega)
    have X:=pp H;clear p z E u H
    gi_wp2
    refine wpIn_wide.2 ?_;refine Qk [0,0,0,0,0,0,0] (λ_ _ _=>True) (by kernel_rfl) (by kernel_rfl) (λ_ _ _ _ h _=>h) ?_
    repeat (first|(refine Qi ?_)|(refine Qf (λK q=>?_);go_simp;first|(refine q _ ?_;clear q K)|(apply Exists.intro;refine ⟨λ_=>?_,q _ ?_⟩;(exact EN _ _ C.o _);clear q K)))
    refine Q8 ?_;repeat (refine Q2 ?_)
    refine Qc ?_;simp only [Qd];intro W2 R _;have HJ:=pp (hJ _ _ _ _ L (Kept.of_below R));clear d0 L;simp only [wpList,Exit.then];go_at_K
    gi_wp2
    go_end0;exact ⟨⟨_,rfl⟩,N.heap.size,I,.inl (by rw [aa.o,ab.o,V.o,<-X.o];exact HJ.o)⟩
end
section
open Go.RowKit
attribute [local go_sem] Oper.semAt_some
theorem Rd.below {q:Option Addr}{α:Type}{enc:α->List Value}{xs:List α}(h:Rd w q size enc xs)(e:Below base w w')(l:∀a,q=some a->a.block<base):Rd w' q size enc xs:=λk=>by
 obtain ⟨g,o,b,m⟩:=h k;have c:=l _ b;exact ⟨g,o,b,λi x f j u d=>by rw [Yt (p:=⟨g,o+i * size+j,none⟩) e c];exact m i x f j u d⟩
end
section
open Go.RowKit Go.Shelf
attribute [local go_sem] Oper.semAt_some
theorem NB (x y:B6)(h: -100000000000000<=x.1/\x.1<=100000000000000)(v: -100000000000000<=x.2.2.1/\x.2.2.1<=100000000000000)(k: -100000000000000<=y.1/\y.1<=100000000000000)(H: -100000000000000<=y.2.2.1/\y.2.2.1<=100000000000000)(w:World):
  Calls prog 315 #[.agg (AX x),.agg (AX y)] w λr w'=>r=.returned (int i64 (Fr x y))/\Below w.heap.size w w':=by
 obtain ⟨a,b,c,d,e,f⟩:=x;obtain ⟨i,b',g,n,m,o⟩:=y;dsimp only at h v k H;simp only [AX,Fr];have hmx:=@ZC prog;have U:Q0 ((w.alloc (.cells #[int i64 a,int i64 b,int i64 c,int i64 d,int i64 e,int i64 f] 210)).alloc (.cells #[int i64 i,int i64 b',int i64 g,int i64 n,int i64 m,int i64 o] 210)) w.heap.size 210 #[int i64 a,int i64 b,int i64 c,int i64 d,int i64 e,int i64 f]:=(Q0.new' rfl).alloc _;have D:Q0 ((w.alloc (.cells #[int i64 a,int i64 b,int i64 c,int i64 d,int i64 e,int i64 f] 210)).alloc (.cells #[int i64 i,int i64 b',int i64 g,int i64 n,int i64 m,int i64 o] 210)) (w.heap.size+1) 210 #[int i64 i,int i64 b',int i64 g,int i64 n,int i64 m,int i64 o]:=Q0.new' (by simp)
 obtain ⟨A,C,u2,u3,u4,B⟩:=U.re6;obtain ⟨E,z,t,u,G,F⟩:=D.re6;have l: -9223372036854775808<=i - a/\i - a<=9223372036854775807:=by omega
 have p: -9223372036854775808<=g - c/\g - c<=9223372036854775807:=by omega
 obtain ⟨l,s1⟩:=l;obtain ⟨p,s2⟩:=p;have e1:IntKind.i64.wrap (i - a)=i - a:=pJ _ ⟨l,s1⟩;have e2:IntKind.i64.wrap (g - c)=g - c:=pJ _ ⟨p,s2⟩;have m1: -(i - a)=a - i:=by omega
 have m2: -(g - c)=c - g:=by omega
 have q: -200000000000000<=Xv (i - a) (a - i)/\Xv (i - a) (a - i)<=200000000000000:=by unfold Xv;omega
 have s: -200000000000000<=Xv (g - c) (c - g)/\Xv (g - c) (c - g)<=200000000000000:=by unfold Xv;omega
 obtain ⟨q,b3⟩:=q;obtain ⟨s,b4⟩:=s;go_enter func315,ntmps315;go_wp2_with fail;refine wp_region_quiet_below (by kernel_rfl) (by kernel_rfl) ?_
 repeat (go_big_quiet_step (fail))
 refine wpQuiet_nil ?_;intro w' j;obtain ⟨rg,rfl⟩:=j;clear A C u2 u3 u4 B E z t u G F;go_wp2_with fail;go_returns;refine ⟨rfl,?_⟩
 (repeat' (first|(with_reducible exact pI _ _)|(with_reducible assumption)|(with_reducible refine Below.alloc ?_ ?_ _)|(with_reducible refine Below.drew ?_)|(with_reducible refine Below.setCell ?_ ?_ _)|(with_reducible refine after ?_ (pK _ _ _))|(refine after ?_ (by with_reducible assumption))|go_size))
end
end Go.Proofs.YtmbccnioijokfaaGreatDoor