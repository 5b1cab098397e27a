/- A part of the proof. -/
import Derived.Test.YtmbccnioijokfaaGreatDoorZs35
namespace Go.Proofs.YtmbccnioijokfaaGreatDoor
set_option maxRecDepth 100000
set_option maxHeartbeats 32000000
open Go.Value (int)
open Go.IntKind (i64 u8)
open Go.Proofs.Tryz
variable {ws:List ByteArray}{n k:Nat}{A:List UInt8}
section
open Go.RowKit Go.Lib
def Mn (n:Nat):List UInt8:=if n<10 then [UInt8.ofNat (48+n)] else if n<100 then [UInt8.ofNat (48+n / 10),UInt8.ofNat (48+n%10)] else [UInt8.ofNat (48+n / 100),UInt8.ofNat (48+n / 10%10),UInt8.ofNat (48+n%10)]
theorem gO (n:Nat)(h:n<1000):Lib.decDigits n=Mn n:=by
 unfold Mn;by_cases a:n<10
 ·rw [if_pos a];exact Lib.decDigits_one a
 ·rw [if_neg a];by_cases b:n<100
  ·rw [if_pos b];exact Lib.decDigits_two a b
  ·rw [if_neg b];have e:Lib.decDigits n=Lib.decDigits (n / 10)++[UInt8.ofNat (48+n%10)]:=by
    conv=>lhs;rw [Lib.decDigits,dif_neg a]
   rw [e,Lib.decDigits_two (i:=n / 10) (by omega) (by omega)]
   have:n / 10 / 10=n / 100:=by omega
   rw [this];rfl
theorem JP:∀{l m:List ByteArray},l.map (·.data.toList)=m.map (·.data.toList)->l=m
 | [],[],_=>rfl
 | [],_::_,h=>by cases h
 | _::_,[],h=>by cases h
 | a::l,b::m,h=>by
  injection h with h1 h2
  have e:a=b:=by
   apply ByteArray.ext;exact Array.toList_inj.1 h1
  rw [e,JP h2]
def Ol (s:ByteArray)(ws:List ByteArray):Bool:=decide ((QD s).map (·.data.toList)=ws.map (·.data.toList))
theorem Xo {s:ByteArray}(h:Ol s ws=true):QD s=ws:=JP (of_decide_eq_true h)
def Pu (l:List UInt8)(n:Int):Bool:=!(Lib.hasPrefix l [45])&&(decide (DigOk l)&&decide (Ve l=n))
theorem A5 {l:List UInt8}{n:Int}(h:Pu l n=true):NW (Q4 l) n:=by
 unfold Pu at h;simp only [Bool.and_eq_true,Bool.not_eq_true',decide_eq_true_eq] at h;have e:(Q4 l).data.toList=l:=by simp
 refine ⟨false,l,⟨?_,?_,h.2.1⟩,by unfold L9;exact h.2.2⟩
 ·rw [e];exact h.1
 ·rw [e];unfold Lib.trimPrefix;rw [h.1];rfl
theorem T8 {p:Nat->Bool}(h:(List.range n).all p=true)(a:k<n):p k=true:=List.all_eq_true.1 h k (List.mem_range.2 a)
abbrev AN:ByteArray:=⟨#[119,111,114,108,100,32]⟩
abbrev Ij:ByteArray:=⟨#[32,57,32,56]⟩
theorem T9:(List.range 1000).all (λn=>Ol ((AN++Q4 (Mn n))++Ij) [⟨#[119,111,114,108,100]⟩,Q4 (Mn n),⟨#[57]⟩,⟨#[56]⟩]&&Pu (Mn n) n)=true:=by kernel_rfl
theorem MW (h:n<1000):QD ((AN++Q4 (Lib.decDigits n))++Ij)=[⟨#[119,111,114,108,100]⟩,Q4 (Lib.decDigits n),⟨#[57]⟩,⟨#[56]⟩]/\NW (Q4 (Lib.decDigits n)) n:=by
 have a:=T8 T9 h;rw [gO n h];simp only [Bool.and_eq_true] at a;exact ⟨Xo a.1,A5 a.2⟩
def A8 (w:List UInt8):Prop:=w≠[]/\∀c∈w,c.toNat≠32/\c.toNat<128
def Xt:List (List UInt8)->List UInt8
 | []=>[]
 | [w]=>w
 | w::ws=>w++32::Xt ws
theorem FA {B:List UInt8}{c:UInt8}(h:A.length<(Q4 (A++c::B)).size):(Q4 (A++c::B))[A.length]'h=c:=by
 show (A++c::B).toArray[A.length]'_=c;simp
theorem Zn (l:List UInt8):(Q4 l).size=l.length:=by simp [ByteArray.size]
theorem Om {B:List UInt8}{c:UInt8}(e:c.toNat≠32/\c.toNat<128)(f:Nat)(st:Option Nat)(b:List (Nat×Nat)):
  spansFromP ZA (Q4 (A++c::B)) (f+1) A.length st b=spansFromP ZA (Q4 (A++c::B)) f (A.length+1) (some (st.getD A.length)) b:=by
 have a:A.length<(Q4 (A++c::B)).size:=by rw [Zn];simp
 have d:=decode_ascii (Q4 (A++c::B)) A.length a (by rw [FA];exact e.2)
 rw [FA] at d;have g:ZA c.toNat=false:=by unfold ZA;simp [e.1]
 conv=>lhs;unfold spansFromP
 rw [if_pos a,d];dsimp only;rw [g];cases st<;>rfl
theorem bq {B:List UInt8}(f a:Nat)(c:List (Nat×Nat)):
  spansFromP ZA (Q4 (A++32::B)) (f+1) A.length (some a) c=spansFromP ZA (Q4 (A++32::B)) f (A.length+1) none (c++[(a,A.length)]):=by
 have b:A.length<(Q4 (A++32::B)).size:=by rw [Zn];simp
 have d:=decode_ascii (Q4 (A++32::B)) A.length b (by rw [FA];decide)
 rw [FA] at d
 conv=>lhs;unfold spansFromP
 rw [if_pos b,d];rfl
theorem Ta:∀(W A B:List UInt8) (f a:Nat) (b:List (Nat×Nat)),(∀c∈W,c.toNat≠32/\c.toNat<128)->
  spansFromP ZA (Q4 (A++(W++B))) (W.length+f) A.length (some a) b=spansFromP ZA (Q4 (A++(W++B))) f (A.length+W.length) (some a) b
 | [],A,B,f,a,b,_=>by simp
 | c::W,A,B,f,a,b,h=>by
  have g:=Om (A:=A) (B:=W++B) (h c (.head _)) (W.length+f) (some a) b;have d:=Ta W (A++[c]) B f a b λx e=>h x (.tail _ e)
  rw [List.append_assoc,List.length_append] at d;rw [show (c::W).length+f=(W.length+f)+1 by simp;omega,List.cons_append,g]
  show spansFromP ZA (Q4 (A++c::(W++B))) (W.length+f) (A.length+1) (some a) b=_;refine Eq.trans d ?_;show spansFromP ZA (Q4 (A++c::(W++B))) f (A.length+1+W.length) (some a) b=_;rw [show A.length+1+W.length=A.length+(c::W).length by simp;omega]
theorem On {W B:List UInt8}(f:Nat)(a:List (Nat×Nat))(h:A8 W):
  spansFromP ZA (Q4 (A++(W++B))) (W.length+f) A.length none a=spansFromP ZA (Q4 (A++(W++B))) f (A.length+W.length) (some A.length) a:=by
 obtain ⟨b,h⟩:=h;cases W with
 | nil=>exact absurd rfl b
 | cons c W=>
  have e:=Om (A:=A) (B:=W++B) (h c (.head _)) (W.length+f) none a;have d:=Ta W (A++[c]) B f A.length a λx g=>h x (.tail _ g)
  rw [List.append_assoc,List.length_append] at d;rw [show (c::W).length+f=(W.length+f)+1 by simp;omega,List.cons_append,e]
  show spansFromP ZA (Q4 (A++c::(W++B))) (W.length+f) (A.length+1) (some A.length) a=_;refine Eq.trans d ?_;show spansFromP ZA (Q4 (A++c::(W++B))) f (A.length+1+W.length) (some A.length) a=_;rw [show A.length+1+W.length=A.length+(c::W).length by simp;omega]
theorem Mo (A W B:List UInt8):(Q4 (A++(W++B))).extract A.length (A.length+W.length)=Q4 W:=by
 apply ByteArray.ext;simp
theorem Mp:∀(b:List (List UInt8)) (A:List UInt8) (a:List (Nat×Nat)),b≠[]->(∀w∈b,A8 w)->
  (closeSpans (Q4 (A++Xt b)) (spansFromP ZA (Q4 (A++Xt b)) (Xt b).length A.length none a)).map (λx=>(Q4 (A++Xt b)).extract x.1 x.2)=a.map (λx=>(Q4 (A++Xt b)).extract x.1 x.2)++b.map Q4
 | [],_,_,g,_=>absurd rfl g
 | [w],A,a,_,h=>by
  have c:=On (W:=w) (A:=A) (B:=[]) 0 a (h w (.head _));have d:=Mo A w [];rw [List.append_nil] at c d;rw [Nat.add_zero] at c;show (closeSpans (Q4 (A++w)) (spansFromP ZA (Q4 (A++w)) w.length A.length none a)).map _=_;rw [c];show (closeSpans (Q4 (A++w)) (a,some A.length)).map _=_;unfold closeSpans;dsimp only;rw [List.map_append];have e:(Q4 (A++w)).size=A.length+w.length:=by rw [Zn,List.length_append]
  simp only [List.map_cons,List.map_nil,e];have f:(Q4 (A++Xt [w])).extract A.length (A.length+w.length)=Q4 w:=d;rw [f]
 | w::v::b,A,a,_,h=>by
  have j:Xt (w::v::b)=w++32::Xt (v::b):=rfl;rw [j];have c:=On (W:=w) (A:=A) (B:=32::Xt (v::b)) ((Xt (v::b)).length+1) a (h w (.head _));have d:=Mo A w (32::Xt (v::b));have e:=bq (A:=A++w) (B:=Xt (v::b)) (Xt (v::b)).length A.length a;have f:=Mp (v::b) (A++(w++[32])) (a++[(A.length,A.length+w.length)]) (by simp) λx i=>h x (.tail _ i)
  rw [List.append_assoc,List.length_append] at e;rw [List.append_assoc,List.append_assoc,List.length_append,List.length_append] at f;rw [show (w++32::Xt (v::b)).length=w.length+((Xt (v::b)).length+1) by simp,c,e]
  refine Eq.trans f ?_;rw [List.map_append];simp only [List.map_cons,List.map_nil];have k:(Q4 (A++(w++([32]++Xt (v::b))))).extract A.length (A.length+w.length)=Q4 w:=d;rw [k];simp
theorem Ei {a:List (List UInt8)}(b:a≠[])(h:∀w∈a,A8 w):QD (Q4 (Xt a))=a.map Q4:=by
 have:=Mp a [] [] b h;simp only [List.nil_append,List.length_nil,List.map_nil] at this;rw [<-this];show goFieldsP ZA (Q4 (Xt a))=_;unfold goFieldsP spansOfP;rw [Zn]
theorem Jg:∀(k n:Nat),n<k->(∀c∈decDigits n,48<=c.toNat/\c.toNat<=57)/\Ve (decDigits n)=n/\decDigits n≠[]:=by
 intro k;induction k with
 | zero=>intro n h;omega
 | succ k g=>
  intro n h;have b:∀m:Nat,m<10->(UInt8.ofNat (48+m)).toNat=48+m:=λm f=>UInt8.toNat_ofNat_of_lt' (by unfold UInt8.size;omega)
  by_cases d:n<10
  ·rw [decDigits_one d];refine ⟨λc a=>?_,?_,by simp⟩
   ·obtain rfl:=List.mem_singleton.1 a;rw [b n d];omega
   ·show (0:Int) * 10+(((UInt8.ofNat (48+n)).toNat:Int) - 48)=n;rw [b n d];omega
  ·obtain ⟨i1,i2,i3⟩:=g (n / 10) (by omega)
   have e:decDigits n=decDigits (n / 10)++[UInt8.ofNat (48+n%10)]:=by
    conv=>lhs;rw [decDigits,dif_neg d]
   have f:n%10<10:=Nat.mod_lt _ (by decide)
   rw [e];refine ⟨λc a=>?_,?_,by simp⟩
   ·rcases List.mem_append.1 a with a|a
    ·exact i1 c a
    ·obtain rfl:=List.mem_singleton.1 a;rw [b _ f];omega
   ·rw [EO,i2,b _ f];omega
theorem Dl:∀(k n:Nat),n<10 ^ (k+1)->(decDigits n).length<=k+1
 | 0,n,h=>by rw [decDigits_one (by simpa using h)];simp
 | k+1,n,h=>by
  by_cases a:n<10
  ·rw [decDigits_one a];simp
  ·have e:decDigits n=decDigits (n / 10)++[UInt8.ofNat (48+n%10)]:=by
    conv=>lhs;rw [decDigits,dif_neg a]
   have:=Dl k (n / 10) (by rw [Nat.pow_succ] at h;omega)
   rw [e,List.length_append];simp;omega
theorem Tb (h:n<100000000):DigOk (decDigits n):=by
 obtain ⟨a,-,b⟩:=Jg (n+1) n (Nat.lt_succ_self n);have:=Dl 7 n (by simpa using h)
 refine ⟨?_,by omega,a⟩
 cases hd:decDigits n with
 | nil=>exact absurd hd b
 | cons _ _=>simp
theorem FB:itoa (n:Int)=decDigits n:=by unfold itoa;rw [if_neg (by omega)];rfl
theorem Mr (h:0<n):itoa (-(n:Int))=45::decDigits n:=by
 unfold itoa;rw [if_pos (by omega)]
 congr 2;omega
theorem YE {n:Int}(h1: -100000000<n)(h2:n<100000000):NW (Q4 (itoa n)) n/\A8 (itoa n)/\(itoa n).length<=9:=by
 rcases (show 0<=n∨n<0 by omega) with h|h
 ·obtain ⟨m,rfl⟩:=Int.eq_ofNat_of_zero_le h;have f:=Tb (n:=m) (by omega)
  obtain ⟨d,g,a3⟩:=Jg (m+1) m (Nat.lt_succ_self m);have i:=Dl 7 m (by simp;omega)
  rw [FB];have b:hasPrefix (decDigits m) [45]=false:=by
   cases hd:decDigits m with
   | nil=>exact absurd hd a3
   | cons c l=>
    have a:=d c (by rw [hd];exact .head _)
    have:c≠45:=λe=>by rw [e] at a;revert a;decide
    unfold hasPrefix;show ((45:UInt8)==c&&List.isPrefixOf [] l)=false;rw [beq_eq_false_iff_ne.2 (Ne.symm this)];rfl
  refine ⟨⟨false,decDigits m,⟨?_,?_,f⟩,by unfold L9;rw [g];rfl⟩,⟨a3,λc a=>by have:=d c a;omega⟩,by omega⟩
  ·simpa using b
  ·simp [trimPrefix,b]
 ·obtain ⟨m,hm⟩:=Int.eq_ofNat_of_zero_le (show 0<=-n by omega)
  obtain rfl:n= -(m:Int):=by omega
  have f:=Tb (n:=m) (by omega)
  obtain ⟨d,g,a3⟩:=Jg (m+1) m (Nat.lt_succ_self m);have i:=Dl 7 m (by simp;omega)
  rw [Mr (by omega)]
  have b:hasPrefix (45::decDigits m) [45]=true:=by simp [hasPrefix]
  refine ⟨⟨true,decDigits m,⟨?_,?_,f⟩,by unfold L9;rw [g];rfl⟩,⟨by simp,λc a=>?_⟩,by simp;omega⟩
  ·simpa using b
  ·simp [trimPrefix,b]
  ·rcases List.mem_cons.1 a with rfl|a
   ·decide
   ·have:=d c a;omega
end
section
open Go.RowKit
attribute [local go_sem] Oper.semAt_some
theorem ls (n:Nat)(h:n<100000000):(Q4 (45::Lib.decDigits n)).size<=9:=by
 have:=Dl 7 n (by simpa using h)
 rw [Zn];simp;omega
theorem lu:∀(k n:Nat),n<k->0<n->n<100000000->∀w:World,Calls prog 10 #[int i64 (-(n:Int))] w λr w'=>r=.returned (.string (Q4 (45::Lib.decDigits n)))/\Below w.heap.size w w':=by
 intro k;induction k with
 | zero=>intro n t _ _ w;omega
 | succ k u=>
  intro n t z v w;have q:n%10<10:=Nat.mod_lt _ (by decide)
  have c:=Le (n%10) q w
  have ht:Int.tmod (-(n:Int)) 10= -((n%10:Nat):Int):=by rw [Int.neg_tmod,Int.tmod_eq_emod_of_nonneg (by omega)];omega
  have l:Int.tmod (n:Int) 10=((n%10:Nat):Int):=by rw [Int.tmod_eq_emod_of_nonneg (by omega)];omega
  have B:Int.tdiv (-(n:Int)) 10= -((n / 10:Nat):Int):=by rw [Int.neg_tdiv,Int.tdiv_eq_ediv_of_nonneg (by omega)];omega
  by_cases h:n<10
  ·have D: -10< -(n:Int):=by omega
   have A: -(n:Int)<10:=by omega
   have n4: -(n:Int)<0:=by omega
   have p:n%10=n:=by omega
   rw [p] at c ht l;obtain ⟨bd,b⟩:=pt (UInt8.ofNat (48+n));rw [<-b] at c;have E:=pp (show Lib.decDigits n=[bd] by rw [b];exact Lib.decDigits_one h)
   clear u q p h b t v B;go_enter func10,ntmps10;go_wp2_with fail;go_returns;exact ⟨by rw [E.o];rfl,Q3 _ _⟩
  ·have A: -(n:Int)<10:=by omega
   have D:¬-10< -(n:Int):=by omega
   have s:=λW=>u (n / 10) (by omega) (by omega) (by omega) W
   have f:Q4 (45::Lib.decDigits n)=Q4 (45::Lib.decDigits (n / 10))++Q4 [UInt8.ofNat (48+n%10)]:=by
    have e:Lib.decDigits n=Lib.decDigits (n / 10)++[UInt8.ofNat (48+n%10)]:=by
     conv=>lhs;rw [Lib.decDigits,dif_neg h]
    rw [e];generalize Lib.decDigits (n / 10)=a;apply ByteArray.ext;simp
   have j:=ls (n / 10) (by omega)
   generalize Q4 (45::Lib.decDigits (n / 10))=t0 at s f j;generalize Q4 (45::Lib.decDigits n)=t1 at f ⊢;subst f;have hwq:wrap64 (-((n / 10:Nat):Int))= -((n / 10:Nat):Int):=by unfold wrap64;omega
   generalize n / 10=m at *;generalize n%10=d at *;obtain ⟨bd,b⟩:=pt (UInt8.ofNat (48+d));rw [<-b] at c ⊢;have hcat:=IQ t0 (Q4 [bd]) (by have:(Q4 [bd]).size=1:=rfl;omega)
   have hs1:(t0.size:Int)+((Q4 [bd]).size:Int)<=9223372036854775807:=by have:(Q4 [bd]).size=1:=rfl;omega
   have hs2:(t0.size:Int)+1<=9223372036854775807:=by omega
   have x:=pp s;clear s j u t v h b;by_cases i:d=0
   ·subst i;rw [show (48:Int)+((0:Nat):Int)=48 from rfl] at c;rw [show -((0:Nat):Int)=0 from rfl] at ht;clear q l;go_enter func10,ntmps10;go_wp2_with (go_at_call 10;refine (x.o _).mono ?_;rintro C y ⟨rfl,g⟩;replace g:=pp g);go_returns;exact ⟨rfl,after (Q3 _ _) g.o⟩
   ·have k1: -(d:Int)<0:=by omega
    have k2: -10< -(d:Int):=by omega
    have k3:0<d:=by omega
    clear i q z;go_enter func10,ntmps10;go_wp2_with (go_at_call 10;refine (x.o _).mono ?_;rintro C y ⟨rfl,g⟩;replace g:=pp g);go_returns;exact ⟨rfl,after (Q3 _ _) g.o⟩
theorem Tc (n:Int)(h1: -100000000<n)(h2:n<100000000)(w:World):Calls prog 10 #[n] w λr w'=>r=.returned (.string (Q4 (Lib.itoa n)))/\Below w.heap.size w w':=by
 rcases (show 0<=n∨n<0 by omega) with h|h
 ·obtain ⟨m,rfl⟩:=Int.eq_ofNat_of_zero_le h;rw [FB];exact cL (m+1) m (Nat.lt_succ_self m) (by omega) w
 ·obtain ⟨m,hm⟩:=Int.eq_ofNat_of_zero_le (show 0<=-n by omega)
  obtain rfl:n= -(m:Int):=by omega
  rw [Mr (by omega)]
  exact lu (m+1) m (Nat.lt_succ_self m) (by omega) (by omega) w
abbrev XW (l:List Int):List UInt8:=Xt (l.map Lib.itoa)
theorem Ik:∀(a:List (List UInt8)) (w:List UInt8),a≠[]->Xt (a++[w])=Xt a++32::w
 | [],_,h=>absurd rfl h
 | [v],w,_=>rfl
 | v::u::a,w,_=>by
  have b:=Ik (u::a) w (by simp)
  show v++32::Xt (u::a++[w])=(v++32::Xt (u::a))++32::w;rw [b,List.append_assoc];rfl
theorem GO:∀l:List Int,(∀x∈l,-100000000<x/\x<100000000)->(XW l).length<=10 * l.length
 | [],_=>pC _
 | [x],h=>by
  have:=(YE (h x (.head _)).1 (h x (.head _)).2).2.2;show (Lib.itoa x).length<=10;omega
 | x::y::l,h=>by
  have h1:=(YE (h x (.head _)).1 (h x (.head _)).2).2.2;have h2:=GO (y::l) λz a=>h z (.tail _ a)
  show (Lib.itoa x++32::XW (y::l)).length<=10 * (y::l).length.succ;rw [List.length_append,List.length_cons];omega
theorem Z9 (a b:List UInt8):Q4 (a++b)=Q4 a++Q4 b:=by
 apply ByteArray.ext;simp
theorem di (l:List Int)(X:l.length<=3)(W:∀x∈l,-100000000<x/\x<100000000)(b cap:Nat)(w:World)(a:b<w.heap.size)(B:∀i x,l[i]?=some x->w.cell? ⟨b,i,none⟩=some (int i64 x)):
  Calls prog 12 #[.slice (some ⟨b,0,none⟩) l.length cap] w λr w'=>r=.returned (.string (Q4 (XW l)))/\Below w.heap.size w w':=by
 obtain ⟨n,Q⟩:=pt l.length;have F:=pp (py X (py W (py a B)));rw [<-Q];have m:=pp Q;clear X W a B Q;go_enter func12,ntmps12;go_upto_region 3 with fail
 go_loopw [3,4] (λs V wr=>∃i:Nat,i<=n/\V=.int .i64 i/\s=.string (Q4 (XW (l.take i)))/\Hid (pM w wr)) (λ_ V _=>n - (intOf V).toNat)
 case atStart=>exact ⟨0,pC _,rfl,rfl,pp (.refl _ _)⟩
 case round=>
  obtain ⟨i,hi,rfl,rfl,G⟩:=hrel;by_cases a:i<n
  ·obtain ⟨x,H⟩:∃x,l[i]?=some x:=⟨_,pH (by rw [<-m.o];exact a)⟩
   have f:=F.o.2.1 x (pG H);have e:=F.o.2.2.2 i x H;have c:wr.cell? ⟨b,i,none⟩=some (int i64 x):=by rw [<-e];exact Below.cell G.out F.o.2.2.1
   have z:(i:Int)<(n:Int):=by omega
   have C:=GO (l.take i) λy hy=>F.o.2.1 y (List.mem_of_mem_take hy)
   have j:(l.take i).length=i:=by have:=m.o;rw [List.length_take];omega
   have P:=F.o.1;have T:=m.o;have K:=(YE f.1 f.2).2.2;have v:=Tc x f.1 f.2;have g:l.take (i+1)=l.take i++[x]:=by rw [List.take_add_one,H];rfl
   have N:(i:Int)+1<=9223372036854775807:=by omega
   have O: -9223372036854775808<=(i:Int)+1:=by omega
   have I:(0:Int)<=(i:Int):=by omega
   have L:((Q4 (XW (l.take i))).size:Int)+1<=9223372036854775807:=by rw [Zn];omega
   have E:((Q4 (XW (l.take i))).size:Int)+((Q4 (Lib.itoa x)).size:Int)<=9223372036854775807:=by rw [Zn,Zn];omega
   have d:((Q4 (XW (l.take i))).size:Int)+1+((Q4 (Lib.itoa x)).size:Int)<=9223372036854775807:=by rw [Zn,Zn];omega
   have u:((Q4 (XW (l.take i))++⟨#[32]⟩).size:Int)+((Q4 (Lib.itoa x)).size:Int)<=9223372036854775807:=by
    have e1:(Q4 (XW (l.take i))++⟨#[32]⟩).size=(Q4 (XW (l.take i))).size+1:=by rw [ByteArray.size_append];rfl
    rw [e1,Zn,Zn];omega
   have p:(i=0->Q4 (XW (l.take (i+1)))=Q4 (XW (l.take i))++Q4 (Lib.itoa x))/\(0<i->Q4 (XW (l.take (i+1)))=(Q4 (XW (l.take i))++⟨#[32]⟩)++Q4 (Lib.itoa x)):=by
    rw [g];constructor
    ·rintro rfl;show Q4 (Lib.itoa x)=Q4 []++Q4 (Lib.itoa x);rw [<-Z9];rfl
    ·intro t;have J:(l.take i).map Lib.itoa≠[]:=λh=>by
      have:=congrArg List.length h;rw [List.length_map,j] at this;simp at this;omega
     show Q4 (Xt ((l.take i++[x]).map Lib.itoa))=_;rw [List.map_append,List.map_cons,List.map_nil,Ik _ _ J,Z9];show Q4 (XW (l.take i))++Q4 (32::Lib.itoa x)=(Q4 (XW (l.take i))++Q4 [32])++Q4 (Lib.itoa x);rw [<-Z9,<-Z9,<-Z9,List.append_assoc];rfl
   have Y:=pp p;have A:=pp v;have k:=pp a;generalize Q4 (XW (l.take i))=s0 at *;generalize Q4 (Lib.itoa x)=sx at *;have q:=pp (py N (py O (py E (py u c))));clear H f e C j P T K v g p a L E d u N O I c;by_cases t:0<i
   ·have n1:(0:Int)<(i:Int):=by omega
    have R:=pp t;have S:(s0.size:Int)<=9223372036854775806:=by
     have:=q.o.2.2.2.1;rw [ByteArray.size_append,show (⟨#[32]⟩:ByteArray).size=1 from rfl] at this;omega
    clear t;go_upto_region 6 with fail
    clear n1;go_upto_region 7 with fail
    clear S;obtain ⟨s2,d⟩:=pt (s0++⟨#[32]⟩);rw [<-d];have M:=pp d;have Z:=q.o.2.2.2.1;rw [<-d] at Z;have B:=q.o.2.2.2.2;have I:(0:Int)<=(i:Int):=by omega
    clear d;go_upto_region 4 with (go_at_call 10;refine (A.o _).mono ?_;rintro e_ w1 ⟨rfl,D⟩;have U:=pp (after G.out D);clear D)
    clear Z B I;have N:=q.o.1;have O:=q.o.2.1;go_wp2_with fail;go_roundw
    case rel=>exact ⟨i+1,k.o,by go_num,by rw [Y.o.2 R.o,M.o],U⟩
    case measure=>have:=k.o;simp [intOf];omega
   ·obtain rfl:i=0:=by omega
    have h1:=q.o.2.2.1;have B:=q.o.2.2.2.2;go_wp2_with (go_at_call 10;refine (A.o _).mono ?_;rintro e_ w1 ⟨rfl,D⟩;have U:=pp (after G.out D);clear D);go_roundw
    case rel=>exact ⟨0+1,k.o,by go_num,by rw [Y.o.1 trivial],U⟩
    case measure=>have:=k.o;simp [intOf];omega
  ·obtain rfl:i=n:=by omega
   have z:¬(i:Int)<(i:Int):=by omega
   rw [show l.take i=l by rw [m.o,List.take_length]]
   clear a hi;go_wp2_with fail;go_returns;exact ⟨rfl,G.out⟩
end
end Go.Proofs.YtmbccnioijokfaaGreatDoor