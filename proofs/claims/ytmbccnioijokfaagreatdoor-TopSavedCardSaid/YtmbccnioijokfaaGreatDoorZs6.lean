/- A part of the proof. -/
import Derived.Test.YtmbccnioijokfaaGreatDoorZs5
import Derived.Deep.Slices
namespace Go.Proofs.YtmbccnioijokfaaGreatDoor
set_option maxRecDepth 100000
set_option maxHeartbeats 32000000
open Go.Value (int)
open Go.IntKind (i64 u8)
open Go.Proofs.Tryz
variable {p:Addr}{x:Int}{i B:Nat}
section
open Go.ChangeShapes Go.WideShapes Go.ChangeAt Go.RowKit
def Qa (c:Xy):Int:=c.toNat
def n8 (x:B8):Int:=x.toNat
theorem j4 (c:Xy):0<=Qa c/\Qa c<65536:=⟨by unfold Qa;omega,by unfold Qa;have:=c.isLt;omega⟩
theorem ZF (c:B8):0<=n8 c/\n8 c<256:=⟨by unfold n8;omega,by unfold n8;have:=c.isLt;omega⟩
theorem j5 {a b:Xy} :Qa a=Qa b↔a=b:=by
 unfold Qa;constructor
 ·intro h;exact BitVec.eq_of_toNat_eq (by omega)
 ·rintro rfl;rfl
def Vy (w:World)(g o n:Nat)(F:Nat->B8):Prop:=∀i,i<n->w.cell? ⟨g,o+i,none⟩=some (int u8 (n8 (F i)))
def YF (w:World)(q:Option Addr)(n:Nat)(F:Nat->B8):Prop:=0<n->∃g o,q=some ⟨g,o,none⟩/\Vy w g o n F
section
variable {w w':World}{g o n:Nat}{F:Nat->B8}{q:Option Addr}
theorem Vy.on (h:Vy w g o n F)(b:Below w.heap.size w w'):Vy w' g o n F:=λi c=>by
 have a:=h i c;rw [Yt b (QN a)];exact a
theorem Vy.lt (h:Vy w g o n F)(a:0<n):g<w.heap.size:=QN (h 0 a)
theorem Vy.le {m:Nat}(h:Vy w g o n F)(hm:m<=n):Vy w g o m F:=λi hi=>h i (by omega)
theorem Vy.re (h:Vy w g o n F)(d:Nat)(os:Array Obj):Vy (Go.Sort.grow (redrawn w d) os) g o n F:=h.on (pK w d os)
theorem YF.on (h:YF w q n F)(b:Below w.heap.size w w'):YF w' q n F:=λc=>by
 obtain ⟨g,o,e,a⟩:=h c;exact ⟨g,o,e,a.on b⟩
theorem YF.le {m:Nat}(h:YF w q n F)(b:m<=n):YF w q m F:=λh0=>by
 obtain ⟨g,o,e,a⟩:=h (by omega)
 exact ⟨g,o,e,a.le b⟩
theorem YF.zero:YF w q 0 F:=λh=>by omega
theorem YF.of (h:Vy w g o n F):YF w (some ⟨g,o,none⟩) n F:=λ_=>⟨g,o,rfl,h⟩
end
def Hd (w:World)(p:Addr):B8:=match w.cell? p with|some (int u8 x)=>BitVec.ofInt 8 x|_=>0
theorem Rl {w:World}(h:w.cell? p=some (int u8 x)):Hd w p=BitVec.ofInt 8 x:=by unfold Hd;rw [h]
section
variable {H:Type}{enc:TypeId×Value->H}{P:Program}
end
end
section
open Go.RowKit Go.Deep
def bl (F:Nat->B8)(n:Nat):List Value:=(List.range n).map λi=>.int .u8 (n8 (F i))
theorem BM (F:Nat->B8)(n:Nat):(bl F n).length=n:=by simp [bl]
theorem Cs {F:Nat->B8}{n:Nat}(h:i<n):(bl F n)[i]?=some (int u8 (n8 (F i))):=by simp [bl,h]
def XZ (F:Nat->B8)(n:Nat)(G:Nat->B8)(i:Nat):B8:=if i<n then F i else G (i - n)
theorem OQ (F G:Nat->B8):XZ F 0 G=G:=funext λi=>by simp [XZ]
theorem Rm (F:Nat->B8)(n:Nat)(G:Nat->B8)(m:Nat):bl (XZ F n G) (n+m)=bl F n++bl G m:=by
 apply List.ext_getElem?;intro i;by_cases h:i<n
 ·rw [Cs (by omega),List.getElem?_append_left (by rw [BM];exact h),Cs h];simp [XZ,h]
 ·rw [List.getElem?_append_right (by rw [BM];omega),BM]
  by_cases a:i<n+m
  ·rw [Cs a,Cs (by omega)];simp [XZ,h]
  ·rw [List.getElem?_eq_none (by rw [BM];omega),List.getElem?_eq_none (by rw [BM];omega)]
theorem Nh {F G:Nat->B8}{n:Nat}(h:∀i,i<n->F i=G i):bl F n=bl G n:=by
 apply List.ext_getElem?;intro i;by_cases a:i<n
 ·rw [Cs a,Cs a,h i a]
 ·simp [bl,a]
section
variable {P:Program}{w w':World}{base n m c g cap:Nat}{e t:TypeId}{F G:Nat->B8}{v:Value}{q:Option Addr}
theorem Ni:w.ownsRow base e 1 (.slice none 0 0) 0 (bl F 0):=⟨rfl,.inl ⟨rfl,rfl⟩⟩
theorem Gh (h:w.ownsRow base e 1 v n (bl F n))(hn:0<n):∃g cap cur,v=.slice (some ⟨g,0,none⟩) n cap/\base<=g/\Q0 w g e cur/\n<=cap/\cap<=maxLen/\n<=cur.size/\Vy w g 0 n F:=by
 rcases h.2 with ⟨_,h0⟩|⟨g,cap,cur,j,d,b,l,f,hs,ht⟩
 ·omega
 ·refine ⟨g,cap,cur,j,d,b,l,f,by omega,λi c=>?_⟩
  have k:cur[i]?=some (int u8 (n8 (F i))):=by
   have a:=Cs (F:=F) c;rw [<-ht,Nat.mul_one,List.getElem?_take_of_lt c] at a;simpa using a
  rw [Nat.zero_add,Q0.cell b,k]
theorem Vs (h:w.ownsRow base e 1 v n (bl F n)):∃q cap,v=.slice q n cap/\n<=cap/\cap<=maxLen/\YF w q n F:=by
 by_cases f:0<n
 ·obtain ⟨g,cap,_,a,_,_,c,b,_,d⟩:=Gh h f;exact ⟨_,cap,a,c,b,YF.of d⟩
 ·obtain rfl:n=0:=by omega
  rcases h.2 with ⟨a,_⟩|⟨g,cap,cur,a,d,hg,c,b,hs,ht⟩
  ·exact ⟨_,_,a,pA _,by omega,YF.zero⟩
  ·exact ⟨_,_,a,c,b,YF.zero⟩
theorem j6 (h:w.ownsRow base e 1 v n (bl F n))(d:pM w w'):w'.ownsRow base e 1 v n (bl F n):=by
 refine ⟨h.1,?_⟩;rcases h.2 with c|⟨g,cap,cur,b,a,f,r⟩
 ·exact .inl c
 ·exact .inr ⟨g,cap,cur,b,a,Q0.on f d,r⟩
theorem Fl {ts ty:TypeId}(ht:P.underlying ts=some (.slice e))(s:(P.info? e).map (λi=>(i.zero,i.size,i.bytes))=some (some (int u8 0),1,1))
  (b:w.ownsRow base e 1 v n (bl F n)) (hmc:m<=c) (I:YF w q m G) (h47:n+m<=140737488355328) (d:base<=w.heap.size):
  ∃v' w',(Builtin.append_ #[ts,ts] ty #[v,.slice q m c]).run P w=.ok v' w'/\w'.ownsRow base e 1 v' (n+m) (bl (XZ F n G) (n+m))/\Below base w w':=by
 obtain ⟨i,s,D,H,y⟩:=info_parts s;by_cases J:0<m
 ·obtain ⟨g,o,rfl,K⟩:=I J;obtain ⟨v',w',C,B,E,_⟩:=run_append_own (P:=P) w base ts ty e i (int u8 0) 1 1 ht s D H y rfl (by decide) v n (bl F n) b ⟨g,o,none⟩ m c (bl G m) (by rw [BM];omega) (λj u t=>by
    have l:j<m:=by
     rcases Nat.lt_or_ge j m with h|h
     ·exact h
     ·rw [List.getElem?_eq_none (by rw [BM];exact h)] at t;cases t
    rw [Cs l] at t;obtain rfl:=pE t;have:=K j l;unfold Addr.add;by_cases r:j=0<;>simp [r] at this ⊢ <;>exact this) (λu A=>by
    simp [bl] at A;obtain ⟨k,_,rfl⟩:=A;rfl) (by simp only [maxLen];omega) (by omega) d
  refine ⟨v',w',C,by rw [Rm];exact B,(pI _ _).grown E d λk r=>?_⟩
  rcases b.2 with ⟨z,_⟩|⟨g',f,cur,z,hb,_⟩
  ·subst z;simp [Value.ownBlock] at r
  ·subst z;simp [Value.ownBlock] at r;omega
 ·obtain rfl:m=0:=by omega
  have p:Src P i.size ts (.slice q 0 c) 0 [] w:=by
   cases q with
   | none=>exact Src.ofNil w ht c
   | some a=>exact Src.ofSlice w ht a 0 c [] (by simp) (by simp) (by simp)
  obtain ⟨L,f,rfl,x,_,_⟩:=Vs b;refine ⟨_,w,run_append_nothing w ts ts ty e i ht s L n f x _ p,?_,pI _ _⟩;rw [Rm];simpa [bl] using b
end
section
variable {P:Program}{w w':World}{base n m c g cap:Nat}{e t:TypeId}{F G:Nat->B8}{v:Value}{q:Option Addr}
theorem Ro {ts j ty:TypeId}(ht:P.underlying ts=some (.slice e))(k:P.underlying j=some (.int .i64))(f:(P.info? e).map (λi=>(i.zero,i.size,i.bytes))=some (some (int u8 0),1,1))
  (l:0<n) (h47:n<=140737488355328) (a:base<=w.heap.size):
  ∃g cap w',(Builtin.append_ #[ts,j] ty #[.slice none 0 0,int i64 n]).run P w=.ok (.slice (some ⟨g,0,none⟩) n cap) w'/\n<=cap/\cap<=maxLen/\w'.ownsRow base e 1 (.slice (some ⟨g,0,none⟩) 0 cap) 0 (bl F 0)/\Below base w w':=by
 obtain ⟨i,f,m,hs,d⟩:=info_parts f;have h:=Lib.run_append_nil_zeros (P:=P) w ts j ty e i (int u8 0) .i64 .i64 ht k f m n l (by omega) (by omega) (by rw [d];omega)
 have c:=grownCap_ge w n 0 e;have b:=grownCap_le_maxLen w n 0 e (by simp only [maxLen];omega)
 refine ⟨_,_,_,h,c,b,⟨rfl,.inr ⟨w.heap.size,_,_,rfl,a,heap_alloc_new w.drew _,pC _,b,?_,rfl⟩⟩,(pI _ _).drew.alloc a _⟩;simp only [Array.size_append,size_zeroCells];show n * 1+(grownCap w n 0 e - n) * 1=_;omega
theorem IE (h:w.ownsRow base e 1 v n (bl F n))(d:B<=base):w.ownsRow B e 1 v n (bl F n):=by
 refine ⟨h.1,?_⟩;rcases h.2 with c|⟨g,cap,cur,b,a,r⟩
 ·exact .inl c
 ·exact .inr ⟨g,cap,cur,b,pB d a,r⟩
end
end
end Go.Proofs.YtmbccnioijokfaaGreatDoor