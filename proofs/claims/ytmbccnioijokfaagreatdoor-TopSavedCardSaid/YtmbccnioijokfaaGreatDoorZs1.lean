/- A part of the proof. -/
import Derived.Laws.BitsAllLaws
import Derived.RowKit
namespace Go.Proofs.YtmbccnioijokfaaGreatDoor
set_option maxRecDepth 100000
set_option maxHeartbeats 32000000
section
open Go.RowKit
abbrev Xy:=BitVec 16
abbrev B8:=BitVec 8
def st (c:Xy):Xy:=(c <<< 1) ^^^ (if c.msb then 0x1021#16 else 0#16)
theorem iJ (a b:Xy):st (a ^^^ b)=st a ^^^ st b:=by
 unfold st;rw [BitVec.msb_xor,BitVec.shiftLeft_xor_distrib];cases a.msb<;>cases b.msb<;>simp
 ·ac_rfl
 ·ac_rfl
 ·rw [show a <<< 1 ^^^ 0x1021#16 ^^^ (b <<< 1 ^^^ 0x1021#16)=a <<< 1 ^^^ b <<< 1 ^^^ (0x1021#16 ^^^ 0x1021#16) by ac_rfl];simp
def Za:Nat->Xy->Xy
 | 0,c=>c
 | n+1,c=>Za n (st c)
theorem Uq:∀n (a b:Xy),Za n (a ^^^ b)=Za n a ^^^ Za n b
 | 0,_,_=>rfl
 | n+1,a,b=>by show Za n (st (a ^^^ b))=_;rw [iJ,Uq n];rfl
theorem Iw:∀m n (c:Xy),Za n (Za m c)=Za (m+n) c
 | 0,n,c=>by simp [Za]
 | m+1,n,c=>by show Za n (Za m (st c))=_;rw [Iw m n,show m+1+n=(m+n)+1 by omega];rfl
theorem Tr (n:Nat)(c:Xy):st (Za n c)=Za (n+1) c:=(Iw n 1 c)
theorem N2 (f g:Xy->Xy)(m:∀a b,f (a ^^^ b)=f a ^^^ f b)(n:∀a b,g (a ^^^ b)=g a ^^^ g b)(h:∀i,i<16->f (BitVec.twoPow 16 i)=g (BitVec.twoPow 16 i))(c:Xy):f c=g c:=by
 have p:∀F:Xy->Xy,(∀a b,F (a ^^^ b)=F a ^^^ F b)->F 0#16=0#16:=λF q=>by
  have:=q 0#16 0#16;simpa using this
 have key:∀k,k<=16->∀c:Xy,(∀i,k<=i->c.getLsbD i=false)->f c=g c:=by
  intro k;induction k with
  | zero=>
   intro _ c j;have:c=0#16:=BitVec.eq_of_getLsbD_eq λi _=>by simp [j i (by omega)]
   rw [this,p f m,p g n]
  | succ k o=>
   intro hk c j;cases hb:c.getLsbD k with
   | false=>
    refine o (by omega) c λi l=>?_
    by_cases d:i=k
    ·rw [d];exact hb
    ·exact j i (by omega)
   | true=>
    have e:c=(c ^^^ BitVec.twoPow 16 k) ^^^ BitVec.twoPow 16 k:=by rw [BitVec.xor_assoc];simp
    rw [e,m,n,h k (by omega),o (by omega) (c ^^^ BitVec.twoPow 16 k) λi l=>?_]
    rw [BitVec.getLsbD_xor,BitVec.getLsbD_twoPow];by_cases d:i=k
    ·subst d;rw [hb];simp;omega
    ·rw [j i (by omega)];simp;omega
 exact key 16 (by omega) c λi l=>BitVec.getLsbD_of_ge c i l
def tb (i:Xy):Xy:=Za 4 (i <<< 12)
theorem PF (a b:Xy):tb (a ^^^ b)=tb a ^^^ tb b:=by unfold tb;rw [BitVec.shiftLeft_xor_distrib,Uq]
theorem nS (c:Xy):(c <<< 4) ^^^ tb (c >>> 12)=Za 4 c:=by
 refine N2 (λc=>(c <<< 4) ^^^ tb (c >>> 12)) (Za 4) (λa b=>?_) (Uq 4) (by decide) c
 rw [BitVec.shiftLeft_xor_distrib,BitVec.ushiftRight_xor_distrib,PF]
 ac_rfl
def FO (c y:Xy):Xy:=(c <<< 4) ^^^ tb ((c >>> 12) ^^^ y)
theorem PG (c y:Xy):FO c y=Za 4 (c ^^^ (y <<< 12)):=by
 unfold FO;rw [PF,Uq,<-nS c];unfold tb
 ac_rfl
def Aw (c:Xy)(x:B8):Xy:=Za 8 (c ^^^ (x.setWidth 16 <<< 8))
theorem nT:∀x:B8,Za 4 ((x.setWidth 16&&&15#16) <<< 8)=(x.setWidth 16&&&15#16) <<< 12:=by decide +kernel
theorem iK:∀x:B8,(x.setWidth 16:Xy) <<< 8=((x.setWidth 16 >>> 4) <<< 12) ^^^ ((x.setWidth 16&&&15#16) <<< 8):=by decide +kernel
theorem dp (c:Xy)(x:B8):FO (FO c (x.setWidth 16 >>> 4)) (x.setWidth 16&&&15#16)=Aw c x:=by
 rw [PG,PG,<-nT,<-Uq,Iw];unfold Aw;rw [iK,BitVec.xor_assoc]
def BC (c:Xy)(F:Nat->B8):Nat->Xy
 | 0=>c
 | k+1=>Aw (BC c F k) (F k)
theorem EA (a:Xy)(F G:Nat->B8):∀n,(∀i,i<n->F i=G i)->BC a F n=BC a G n
 | 0,_=>rfl
 | n+1,h=>by show Aw _ _=Aw _ _;rw [EA a F G n λi hi=>h i (by omega),h n (by omega)]
theorem PH (c:Xy):Aw (Aw c ((c >>> 8).setWidth 8)) (c.setWidth 8)=0#16:=by
 have e:∀c:Xy,Za 8 c ^^^ (c.setWidth 8).setWidth 16 <<< 8=Za 8 (((c >>> 8).setWidth 8:B8).setWidth 16 <<< 8):=λc=>by
  refine N2 (λc=>Za 8 c ^^^ (c.setWidth 8).setWidth 16 <<< 8) (λc=>Za 8 (((c >>> 8).setWidth 8:B8).setWidth 16 <<< 8)) (λa b=>?_) (λa b=>?_) (by decide) c
  ·rw [Uq,BitVec.setWidth_xor,BitVec.setWidth_xor,BitVec.shiftLeft_xor_distrib]
   ac_rfl
  ·rw [BitVec.ushiftRight_xor_distrib,BitVec.setWidth_xor,BitVec.setWidth_xor,BitVec.shiftLeft_xor_distrib,Uq]
 show Za 8 (Za 8 (c ^^^ ((c >>> 8).setWidth 8:B8).setWidth 16 <<< 8) ^^^ (c.setWidth 8).setWidth 16 <<< 8)=0#16;rw [Uq 8 c,<-e c];rw [show Za 8 c ^^^ (Za 8 c ^^^ (c.setWidth 8).setWidth 16 <<< 8) ^^^ (c.setWidth 8).setWidth 16 <<< 8=(Za 8 c ^^^ Za 8 c) ^^^ ((c.setWidth 8).setWidth 16 <<< 8 ^^^ (c.setWidth 8).setWidth 16 <<< 8) by ac_rfl]
 simp;decide
end
end Go.Proofs.YtmbccnioijokfaaGreatDoor