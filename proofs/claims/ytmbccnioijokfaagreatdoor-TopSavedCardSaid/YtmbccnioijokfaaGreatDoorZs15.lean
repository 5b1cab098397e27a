/- A part of the proof. -/
import Derived.Lib.SlBytesConst
import Derived.Test.YtmbccnioijokfaaGreatDoorZs9
namespace Go.Proofs.YtmbccnioijokfaaGreatDoor
set_option maxRecDepth 100000
set_option maxHeartbeats 32000000
open Go.Value (int)
open Go.IntKind (i64 u8)
open Go.Proofs.Tryz
variable {w:World}{g:Nat}{cs:Array Value}
section
open Go.RowKit
theorem OW (c:Xy)(k m:Nat)(a:2 ^ k=m):IntKind.u16.wrap (Qa c * (m:Int))=Qa (c <<< k):=by
 rw [IntKind.wrap_u16];unfold Qa;rw [BitVec.toNat_shiftLeft,Nat.shiftLeft_eq,a];omega
theorem cE (c:Xy)(k m:Nat)(a:2 ^ k=m):Qa c / (m:Int)=Qa (c >>> k):=by
 unfold Qa;rw [BitVec.toNat_ushiftRight,Nat.shiftRight_eq_div_pow,a];omega
theorem Hn (a b:Xy):bits .xor .u16 (Qa a) (Qa b)=Qa (a ^^^ b):=by
 unfold Qa;rw [u16_xor_nat _ _ (by have:=a.isLt;omega) (by have:=b.isLt;omega),BitVec.toNat_xor]
theorem mg (a b:Xy):bits .and .u16 (Qa a) (Qa b)=Qa (a&&&b):=by
 unfold Qa;rw [u16_and_nat _ _ (by have:=a.isLt;omega) (by have:=b.isLt;omega),BitVec.toNat_and]
theorem jd:(4129:Int)=Qa 0x1021#16:=by decide
theorem mh (c:Xy):(bits .and .u16 (Qa c) 32768 !=0)=c.msb:=by
 rw [show (32768:Int)=Qa (BitVec.twoPow 16 15) by decide,mg,show (0:Int)=Qa 0#16 by decide,BitVec.and_twoPow,BitVec.msb_eq_getLsbD_last]
 cases c.getLsbD 15<;>decide
theorem cF (x:B8):IntKind.u16.wrap (n8 x / 16)=Qa (x.setWidth 16 >>> 4):=by
 rw [IntKind.wrap_u16];unfold Qa n8;rw [BitVec.toNat_ushiftRight,Nat.shiftRight_eq_div_pow,BitVec.toNat_setWidth];have:=x.isLt;omega
theorem mi (x:B8):IntKind.u16.wrap (bits .and .u8 (n8 x) 15)=Qa (x.setWidth 16&&&15#16):=by
 rw [IntKind.wrap_u16];unfold Qa n8;rw [show (15:Int)=((15:Nat):Int) from rfl,u8_and_nat _ _ (by have:=x.isLt;omega) (by omega),BitVec.toNat_and,BitVec.toNat_setWidth]
 have h1:=x.isLt;have h2:x.toNat&&&15<=15:=Nat.and_le_right;rw [show x.toNat%2 ^ 16=x.toNat by omega,show (15#16).toNat=15 by decide]
 omega
theorem je (c:Xy)(w:World):Calls prog 357 #[.int .u16 (Qa c)] w λr w'=>r=.returned (.int .u16 (Qa (st c)))/\w=w':=by
 have ht:=mh c;have hl:IntKind.u16.wrap (Qa c * 2)=Qa (c <<< 1):=OW c 1 2 rfl;have hx:bits .xor .u16 (Qa (c <<< 1)) 4129=Qa (c <<< 1 ^^^ 0x1021#16):=by rw [jd,Hn]
 cases a:c.msb with
 | true=>
  rw [a] at ht;go_enter func357,ntmps357;go_wp2_with fail;go_returns;exact ⟨Xp (by unfold st;rw [a];rfl),rfl⟩
 | false=>
  rw [a] at ht;go_enter func357,ntmps357;go_wp2_with fail;go_returns;exact ⟨Xp (by unfold st;rw [a];simp),rfl⟩
def tc (k i:Nat):Value:=if i<k then .int .u16 (Qa (tb (BitVec.ofNat 16 i))) else .int .u16 0
def Ul (k:Nat):Array Value:=#[tc k 0,tc k 1,tc k 2,tc k 3,tc k 4,tc k 5,tc k 6,tc k 7,tc k 8,tc k 9,tc k 10,tc k 11,tc k 12,tc k 13,tc k 14,tc k 15]
theorem jf:Ul 0=#[.int .u16 0,.int .u16 0,.int .u16 0,.int .u16 0,.int .u16 0,.int .u16 0,.int .u16 0,.int .u16 0,.int .u16 0,.int .u16 0,.int .u16 0,.int .u16 0,.int .u16 0,.int .u16 0,.int .u16 0,.int .u16 0]:=rfl
theorem RA:∀k,k<16->(Ul k).setIfInBounds k (.int .u16 (Qa (tb (BitVec.ofNat 16 k))))=Ul (k+1)
 | 0,_=>rfl
 | 1,_=>rfl
 | 2,_=>rfl
 | 3,_=>rfl
 | 4,_=>rfl
 | 5,_=>rfl
 | 6,_=>rfl
 | 7,_=>rfl
 | 8,_=>rfl
 | 9,_=>rfl
 | 10,_=>rfl
 | 11,_=>rfl
 | 12,_=>rfl
 | 13,_=>rfl
 | 14,_=>rfl
 | 15,_=>rfl
 | k+16,h=>by omega
theorem dX (k:Nat):k<16->(Ul 16)[k]?=some (.int .u16 (Qa (tb (BitVec.ofNat 16 k)))):=by
 intro h
 match k,h with
 | 0,_=>rfl
 | 1,_=>rfl
 | 2,_=>rfl
 | 3,_=>rfl
 | 4,_=>rfl
 | 5,_=>rfl
 | 6,_=>rfl
 | 7,_=>rfl
 | 8,_=>rfl
 | 9,_=>rfl
 | 10,_=>rfl
 | 11,_=>rfl
 | 12,_=>rfl
 | 13,_=>rfl
 | 14,_=>rfl
 | 15,_=>rfl
 | k+16,h=>omega
theorem RB (k:Nat):k<16->(Ul k)[k]?=some (tc k k):=by
 intro h
 match k,h with
 | 0,_=>rfl
 | 1,_=>rfl
 | 2,_=>rfl
 | 3,_=>rfl
 | 4,_=>rfl
 | 5,_=>rfl
 | 6,_=>rfl
 | 7,_=>rfl
 | 8,_=>rfl
 | 9,_=>rfl
 | 10,_=>rfl
 | 11,_=>rfl
 | 12,_=>rfl
 | 13,_=>rfl
 | 14,_=>rfl
 | 15,_=>rfl
 | k+16,h=>omega
theorem Q0.cells16 {t:TypeId}{m n c2 c3 c4 c5 l k i j b e a c d f:Value}(h:Q0 w g t #[m,n,c2,c3,c4,c5,l,k,i,j,b,e,a,c,d,f]):w.cell? ⟨g,0,none⟩=some m/\w.cell? ⟨g,1,none⟩=some n/\w.cell? ⟨g,2,none⟩=some c2/\w.cell? ⟨g,3,none⟩=some c3/\w.cell? ⟨g,4,none⟩=some c4/\w.cell? ⟨g,5,none⟩=some c5/\w.cell? ⟨g,6,none⟩=some l/\w.cell? ⟨g,7,none⟩=some k/\w.cell? ⟨g,8,none⟩=some i/\w.cell? ⟨g,9,none⟩=some j/\w.cell? ⟨g,10,none⟩=some b/\w.cell? ⟨g,11,none⟩=some e/\w.cell? ⟨g,12,none⟩=some a/\w.cell? ⟨g,13,none⟩=some c/\w.cell? ⟨g,14,none⟩=some d/\w.cell? ⟨g,15,none⟩=some f:=
 ⟨h.cell 0,h.cell 1,h.cell 2,h.cell 3,h.cell 4,h.cell 5,h.cell 6,h.cell 7,h.cell 8,h.cell 9,h.cell 10,h.cell 11,h.cell 12,h.cell 13,h.cell 14,h.cell 15⟩
theorem Q0.frz16 {t:TypeId}(h:Q0 w g t cs):w.frozen? ⟨g,0,none⟩=false/\w.frozen? ⟨g,1,none⟩=false/\w.frozen? ⟨g,2,none⟩=false/\w.frozen? ⟨g,3,none⟩=false/\w.frozen? ⟨g,4,none⟩=false/\w.frozen? ⟨g,5,none⟩=false/\w.frozen? ⟨g,6,none⟩=false/\w.frozen? ⟨g,7,none⟩=false/\w.frozen? ⟨g,8,none⟩=false/\w.frozen? ⟨g,9,none⟩=false/\w.frozen? ⟨g,10,none⟩=false/\w.frozen? ⟨g,11,none⟩=false/\w.frozen? ⟨g,12,none⟩=false/\w.frozen? ⟨g,13,none⟩=false/\w.frozen? ⟨g,14,none⟩=false/\w.frozen? ⟨g,15,none⟩=false:=
 ⟨h.frz 0,h.frz 1,h.frz 2,h.frz 3,h.frz 4,h.frz 5,h.frz 6,h.frz 7,h.frz 8,h.frz 9,h.frz 10,h.frz 11,h.frz 12,h.frz 13,h.frz 14,h.frz 15⟩
theorem Q0.st16 {t:TypeId}{V K c2 c3 c4 c5 D C B A r n k j e c:Value}(a b d i m o q s v x f l p u y z:Value)(h:Q0 w g t #[V,K,c2,c3,c4,c5,D,C,B,A,r,n,k,j,e,c]):Q0 ((((((((((((((((w.setCell ⟨g,0,none⟩ a).setCell ⟨g,1,none⟩ b).setCell ⟨g,2,none⟩ d).setCell ⟨g,3,none⟩ i).setCell ⟨g,4,none⟩ m).setCell ⟨g,5,none⟩ o).setCell ⟨g,6,none⟩ q).setCell ⟨g,7,none⟩ s).setCell ⟨g,8,none⟩ v).setCell ⟨g,9,none⟩ x).setCell ⟨g,10,none⟩ f).setCell ⟨g,11,none⟩ l).setCell ⟨g,12,none⟩ p).setCell ⟨g,13,none⟩ u).setCell ⟨g,14,none⟩ y).setCell ⟨g,15,none⟩ z) g t #[a,b,d,i,m,o,q,s,v,x,f,l,p,u,y,z]:=by
 have M:Q0 (w.setCell ⟨g,0,none⟩ a) g t #[a,K,c2,c3,c4,c5,D,C,B,A,r,n,k,j,e,c]:=h.set_ 0 a;have O:Q0 ((w.setCell ⟨g,0,none⟩ a).setCell ⟨g,1,none⟩ b) g t #[a,b,c2,c3,c4,c5,D,C,B,A,r,n,k,j,e,c]:=M.set_ 1 b;have L:Q0 (((w.setCell ⟨g,0,none⟩ a).setCell ⟨g,1,none⟩ b).setCell ⟨g,2,none⟩ d) g t #[a,b,d,c3,c4,c5,D,C,B,A,r,n,k,j,e,c]:=O.set_ 2 d;have S:Q0 ((((w.setCell ⟨g,0,none⟩ a).setCell ⟨g,1,none⟩ b).setCell ⟨g,2,none⟩ d).setCell ⟨g,3,none⟩ i) g t #[a,b,d,i,c4,c5,D,C,B,A,r,n,k,j,e,c]:=L.set_ 3 i;have N:Q0 (((((w.setCell ⟨g,0,none⟩ a).setCell ⟨g,1,none⟩ b).setCell ⟨g,2,none⟩ d).setCell ⟨g,3,none⟩ i).setCell ⟨g,4,none⟩ m) g t #[a,b,d,i,m,c5,D,C,B,A,r,n,k,j,e,c]:=S.set_ 4 m;have Q:Q0 ((((((w.setCell ⟨g,0,none⟩ a).setCell ⟨g,1,none⟩ b).setCell ⟨g,2,none⟩ d).setCell ⟨g,3,none⟩ i).setCell ⟨g,4,none⟩ m).setCell ⟨g,5,none⟩ o) g t #[a,b,d,i,m,o,D,C,B,A,r,n,k,j,e,c]:=N.set_ 5 o;have T:Q0 (((((((w.setCell ⟨g,0,none⟩ a).setCell ⟨g,1,none⟩ b).setCell ⟨g,2,none⟩ d).setCell ⟨g,3,none⟩ i).setCell ⟨g,4,none⟩ m).setCell ⟨g,5,none⟩ o).setCell ⟨g,6,none⟩ q) g t #[a,b,d,i,m,o,q,C,B,A,r,n,k,j,e,c]:=Q.set_ 6 q;have P:Q0 ((((((((w.setCell ⟨g,0,none⟩ a).setCell ⟨g,1,none⟩ b).setCell ⟨g,2,none⟩ d).setCell ⟨g,3,none⟩ i).setCell ⟨g,4,none⟩ m).setCell ⟨g,5,none⟩ o).setCell ⟨g,6,none⟩ q).setCell ⟨g,7,none⟩ s) g t #[a,b,d,i,m,o,q,s,B,A,r,n,k,j,e,c]:=T.set_ 7 s;have R:Q0 (((((((((w.setCell ⟨g,0,none⟩ a).setCell ⟨g,1,none⟩ b).setCell ⟨g,2,none⟩ d).setCell ⟨g,3,none⟩ i).setCell ⟨g,4,none⟩ m).setCell ⟨g,5,none⟩ o).setCell ⟨g,6,none⟩ q).setCell ⟨g,7,none⟩ s).setCell ⟨g,8,none⟩ v) g t #[a,b,d,i,m,o,q,s,v,A,r,n,k,j,e,c]:=P.set_ 8 v;have U:Q0 ((((((((((w.setCell ⟨g,0,none⟩ a).setCell ⟨g,1,none⟩ b).setCell ⟨g,2,none⟩ d).setCell ⟨g,3,none⟩ i).setCell ⟨g,4,none⟩ m).setCell ⟨g,5,none⟩ o).setCell ⟨g,6,none⟩ q).setCell ⟨g,7,none⟩ s).setCell ⟨g,8,none⟩ v).setCell ⟨g,9,none⟩ x) g t #[a,b,d,i,m,o,q,s,v,x,r,n,k,j,e,c]:=R.set_ 9 x;have G:Q0 (((((((((((w.setCell ⟨g,0,none⟩ a).setCell ⟨g,1,none⟩ b).setCell ⟨g,2,none⟩ d).setCell ⟨g,3,none⟩ i).setCell ⟨g,4,none⟩ m).setCell ⟨g,5,none⟩ o).setCell ⟨g,6,none⟩ q).setCell ⟨g,7,none⟩ s).setCell ⟨g,8,none⟩ v).setCell ⟨g,9,none⟩ x).setCell ⟨g,10,none⟩ f) g t #[a,b,d,i,m,o,q,s,v,x,f,n,k,j,e,c]:=U.set_ 10 f;have J:Q0 ((((((((((((w.setCell ⟨g,0,none⟩ a).setCell ⟨g,1,none⟩ b).setCell ⟨g,2,none⟩ d).setCell ⟨g,3,none⟩ i).setCell ⟨g,4,none⟩ m).setCell ⟨g,5,none⟩ o).setCell ⟨g,6,none⟩ q).setCell ⟨g,7,none⟩ s).setCell ⟨g,8,none⟩ v).setCell ⟨g,9,none⟩ x).setCell ⟨g,10,none⟩ f).setCell ⟨g,11,none⟩ l) g t #[a,b,d,i,m,o,q,s,v,x,f,l,k,j,e,c]:=G.set_ 11 l;have H:Q0 (((((((((((((w.setCell ⟨g,0,none⟩ a).setCell ⟨g,1,none⟩ b).setCell ⟨g,2,none⟩ d).setCell ⟨g,3,none⟩ i).setCell ⟨g,4,none⟩ m).setCell ⟨g,5,none⟩ o).setCell ⟨g,6,none⟩ q).setCell ⟨g,7,none⟩ s).setCell ⟨g,8,none⟩ v).setCell ⟨g,9,none⟩ x).setCell ⟨g,10,none⟩ f).setCell ⟨g,11,none⟩ l).setCell ⟨g,12,none⟩ p) g t #[a,b,d,i,m,o,q,s,v,x,f,l,p,j,e,c]:=J.set_ 12 p;have E:Q0 ((((((((((((((w.setCell ⟨g,0,none⟩ a).setCell ⟨g,1,none⟩ b).setCell ⟨g,2,none⟩ d).setCell ⟨g,3,none⟩ i).setCell ⟨g,4,none⟩ m).setCell ⟨g,5,none⟩ o).setCell ⟨g,6,none⟩ q).setCell ⟨g,7,none⟩ s).setCell ⟨g,8,none⟩ v).setCell ⟨g,9,none⟩ x).setCell ⟨g,10,none⟩ f).setCell ⟨g,11,none⟩ l).setCell ⟨g,12,none⟩ p).setCell ⟨g,13,none⟩ u) g t #[a,b,d,i,m,o,q,s,v,x,f,l,p,u,e,c]:=H.set_ 13 u;have F:Q0 (((((((((((((((w.setCell ⟨g,0,none⟩ a).setCell ⟨g,1,none⟩ b).setCell ⟨g,2,none⟩ d).setCell ⟨g,3,none⟩ i).setCell ⟨g,4,none⟩ m).setCell ⟨g,5,none⟩ o).setCell ⟨g,6,none⟩ q).setCell ⟨g,7,none⟩ s).setCell ⟨g,8,none⟩ v).setCell ⟨g,9,none⟩ x).setCell ⟨g,10,none⟩ f).setCell ⟨g,11,none⟩ l).setCell ⟨g,12,none⟩ p).setCell ⟨g,13,none⟩ u).setCell ⟨g,14,none⟩ y) g t #[a,b,d,i,m,o,q,s,v,x,f,l,p,u,y,c]:=E.set_ 14 y;have I:Q0 ((((((((((((((((w.setCell ⟨g,0,none⟩ a).setCell ⟨g,1,none⟩ b).setCell ⟨g,2,none⟩ d).setCell ⟨g,3,none⟩ i).setCell ⟨g,4,none⟩ m).setCell ⟨g,5,none⟩ o).setCell ⟨g,6,none⟩ q).setCell ⟨g,7,none⟩ s).setCell ⟨g,8,none⟩ v).setCell ⟨g,9,none⟩ x).setCell ⟨g,10,none⟩ f).setCell ⟨g,11,none⟩ l).setCell ⟨g,12,none⟩ p).setCell ⟨g,13,none⟩ u).setCell ⟨g,14,none⟩ y).setCell ⟨g,15,none⟩ z) g t #[a,b,d,i,m,o,q,s,v,x,f,l,p,u,y,z]:=F.set_ 15 z;exact I
theorem dY (w:World):Calls prog 348 #[] w λr w'=>r=.returned (.agg (Ul 16))/\Below w.heap.size w w':=by
 go_enter func348,ntmps348;go_upto_region 4 with fail
 obtain ⟨o,d⟩:=pt ((w.alloc (.cells (Ul 0) 392)).alloc (.cells (Ul 0) 392));have R:Q0 o w.heap.size 392 (Ul 0):=by rw [d];exact (Q0.new' rfl).alloc _
 have C:Q0 o (w.heap.size+1) 392 (Ul 0):=by rw [d];exact Q0.new' (by simp)
 have H:Below w.heap.size w o:=by rw [d];go_grown
 rw [jf] at d;rw [<-d];clear d;generalize hv:w.heap.size=nr at R C ⊢;go_loopw [5] (λi wr=>∃k:Nat,k<=16/\i=.int .i64 k/\Q0 wr nr 392 (Ul 0)/\Q0 wr (nr+1) 392 (Ul k)/\Below w.heap.size w wr) (λi _=>16 - (intOf i).toNat)
 case atStart=>exact ⟨0,by omega,rfl,R,C,H⟩
 case round=>
  clear R C H;obtain ⟨k,hk,rfl,R,C,H⟩:=hrel;by_cases b:k<16
  ·go_upto_region 8 with fail
   have g:((k:Int) * (4096:Int):Int)=Qa (Za 0 (BitVec.ofNat 16 k <<< 12)):=by
    unfold Qa Za;rw [BitVec.toNat_shiftLeft,Nat.shiftLeft_eq,BitVec.toNat_ofNat];omega
   have s:decide ((k:Int)<16)=true:=by simp;omega
   rw [g,s];clear g s;go_loopw [4,11] (λc i wq=>∃j:Nat,j<=4/\c=.int .u16 (Qa (Za j (BitVec.ofNat 16 k <<< 12)))/\i=.int .i64 j/\wq=wr) (λ_ i _=>4 - (intOf i).toNat)
   case atStart=>exact ⟨0,by omega,rfl,rfl,rfl⟩
   case round=>
    obtain ⟨j,hj,rfl,rfl,rfl⟩:=hrel;by_cases hlj:j<4
    ·go_wp2_with fail;refine (je _ _).mono ?_;rintro e w1 ⟨rfl,rfl⟩;rw [Tr];go_wp2_with fail;go_roundw
     case rel=>exact ⟨j+1,by omega,rfl,by go_num,trivial⟩
     case measure=>simp [intOf];omega
    ·obtain rfl:j=4:=by omega
     have f:=C.frz k;have c0:wr.cell? ⟨nr+1,k,none⟩=some (tc k k):=by rw [C.cell];exact RB k b
     go_wp2_with fail;rw [show Za 4 (BitVec.ofNat 16 k <<< 12)=tb (BitVec.ofNat 16 k) from rfl];refine ⟨⟨k+1,b,by go_num,R.far (by simp) _,?_,H.setCell (by simp;omega) _⟩,by simp [intOf];omega⟩
     rw [<-RA k b];exact C.set_ k _
  ·obtain rfl:k=16:=by omega
   replace C:Q0 wr (nr+1) 392 #[.int .u16 (Qa (tb (BitVec.ofNat 16 0))),.int .u16 (Qa (tb (BitVec.ofNat 16 1))),.int .u16 (Qa (tb (BitVec.ofNat 16 2))),.int .u16 (Qa (tb (BitVec.ofNat 16 3))),.int .u16 (Qa (tb (BitVec.ofNat 16 4))),.int .u16 (Qa (tb (BitVec.ofNat 16 5))),.int .u16 (Qa (tb (BitVec.ofNat 16 6))),.int .u16 (Qa (tb (BitVec.ofNat 16 7))),.int .u16 (Qa (tb (BitVec.ofNat 16 8))),.int .u16 (Qa (tb (BitVec.ofNat 16 9))),.int .u16 (Qa (tb (BitVec.ofNat 16 10))),.int .u16 (Qa (tb (BitVec.ofNat 16 11))),.int .u16 (Qa (tb (BitVec.ofNat 16 12))),.int .u16 (Qa (tb (BitVec.ofNat 16 13))),.int .u16 (Qa (tb (BitVec.ofNat 16 14))),.int .u16 (Qa (tb (BitVec.ofNat 16 15)))]:=C;have a:=C.cells16;obtain ⟨k0,k1,k2,k3,k4,k5,k6,k7,k8,k9,k10,k11,k12,k13,k14,k15⟩:=a;replace R:Q0 wr nr 392 #[.int .u16 0,.int .u16 0,.int .u16 0,.int .u16 0,.int .u16 0,.int .u16 0,.int .u16 0,.int .u16 0,.int .u16 0,.int .u16 0,.int .u16 0,.int .u16 0,.int .u16 0,.int .u16 0,.int .u16 0,.int .u16 0]:=R;have a:=R.cells16;obtain ⟨r0,r1,r2,r3,r4,r5,r6,r7,r8,r9,r10,r11,r12,r13,r14,r15⟩:=a;have a:=R.frz16;obtain ⟨f0,f1,f2,f3,f4,f5,f6,f7,f8,f9,f10,f11,f12,f13,f14,f15⟩:=a;go_wp2_with fail;have u:=R.st16 (.int .u16 (Qa (tb (BitVec.ofNat 16 0)))) (.int .u16 (Qa (tb (BitVec.ofNat 16 1)))) (.int .u16 (Qa (tb (BitVec.ofNat 16 2)))) (.int .u16 (Qa (tb (BitVec.ofNat 16 3)))) (.int .u16 (Qa (tb (BitVec.ofNat 16 4)))) (.int .u16 (Qa (tb (BitVec.ofNat 16 5)))) (.int .u16 (Qa (tb (BitVec.ofNat 16 6)))) (.int .u16 (Qa (tb (BitVec.ofNat 16 7)))) (.int .u16 (Qa (tb (BitVec.ofNat 16 8)))) (.int .u16 (Qa (tb (BitVec.ofNat 16 9)))) (.int .u16 (Qa (tb (BitVec.ofNat 16 10)))) (.int .u16 (Qa (tb (BitVec.ofNat 16 11)))) (.int .u16 (Qa (tb (BitVec.ofNat 16 12)))) (.int .u16 (Qa (tb (BitVec.ofNat 16 13)))) (.int .u16 (Qa (tb (BitVec.ofNat 16 14)))) (.int .u16 (Qa (tb (BitVec.ofNat 16 15))));have a:=u.cells16;obtain ⟨z,D,t,B,F,A,y,x,E,G,p,m,n,l,h,q⟩:=a;exact bodyPost_ret (v:=.agg #[.int .u16 (Qa (tb (BitVec.ofNat 16 0))),.int .u16 (Qa (tb (BitVec.ofNat 16 1))),.int .u16 (Qa (tb (BitVec.ofNat 16 2))),.int .u16 (Qa (tb (BitVec.ofNat 16 3))),.int .u16 (Qa (tb (BitVec.ofNat 16 4))),.int .u16 (Qa (tb (BitVec.ofNat 16 5))),.int .u16 (Qa (tb (BitVec.ofNat 16 6))),.int .u16 (Qa (tb (BitVec.ofNat 16 7))),.int .u16 (Qa (tb (BitVec.ofNat 16 8))),.int .u16 (Qa (tb (BitVec.ofNat 16 9))),.int .u16 (Qa (tb (BitVec.ofNat 16 10))),.int .u16 (Qa (tb (BitVec.ofNat 16 11))),.int .u16 (Qa (tb (BitVec.ofNat 16 12))),.int .u16 (Qa (tb (BitVec.ofNat 16 13))),.int .u16 (Qa (tb (BitVec.ofNat 16 14))),.int .u16 (Qa (tb (BitVec.ofNat 16 15)))]) (by simp [results,results348,go_sem,z,D,t,B,F,A,y,x,E,G,p,m,n,l,h,q]) rfl ⟨rfl,by (repeat' (first|(with_reducible exact pI _ _)|(with_reducible assumption)|(with_reducible refine Below.alloc ?_ ?_ _)|(with_reducible refine Below.drew ?_)|(with_reducible refine Below.setCell ?_ ?_ _)|(with_reducible refine after ?_ (pK _ _ _))|(refine after ?_ (by with_reducible assumption))|go_size))⟩
theorem RC (c y:Xy)(a:Qa y<16):0<=Qa ((c >>> 12) ^^^ y)/\Qa ((c >>> 12) ^^^ y)<16/\((c >>> 12) ^^^ y).toNat<16:=by
 have h1:((c >>> 12) ^^^ y).toNat<2 ^ 4:=by
  rw [BitVec.toNat_xor];refine Nat.xor_lt_two_pow ?_ ?_
  ·rw [BitVec.toNat_ushiftRight,Nat.shiftRight_eq_div_pow];have:=c.isLt;omega
  ·unfold Qa at a;omega
 unfold Qa;omega
theorem dZ (x:B8):Qa (x.setWidth 16 >>> 4)<16:=by
 rw [<-cF,IntKind.wrap_u16];have:=ZF x;omega
theorem ea (x:B8):Qa (x.setWidth 16&&&15#16)<16:=by
 unfold Qa;rw [BitVec.toNat_and,show (15#16).toNat=15 by decide]
 have:(x.setWidth 16).toNat&&&15<=15:=Nat.and_le_right;omega
theorem KS {t:TypeId}(h:Q0 w g t (Ul 16))(i:Xy)(a:i.toNat<16):w.cell? ⟨g,(Qa i).toNat,none⟩=some (.int .u16 (Qa (tb i))):=by
 rw [h.cell,show (Qa i).toNat=i.toNat from rfl,dX _ a];simp
theorem RD (c:Xy)(q:Option Addr)(n cap:Nat)(F:Nat->B8)(Q:n<=cap)(O:cap<=maxLen)(w:World)(A:YF w q n F):
  Calls prog 329 #[.int .u16 (Qa c),.slice q n cap] w λr w'=>r=.returned (.int .u16 (Qa (BC c F n)))/\Below w.heap.size w w':=by
 go_enter func329,ntmps329;go_wp2_with fail;refine (dY _).mono ?_;rintro e u ⟨rfl,H⟩;rw [show Ul 16=#[.int .u16 (Qa (tb (BitVec.ofNat 16 0))),.int .u16 (Qa (tb (BitVec.ofNat 16 1))),.int .u16 (Qa (tb (BitVec.ofNat 16 2))),.int .u16 (Qa (tb (BitVec.ofNat 16 3))),.int .u16 (Qa (tb (BitVec.ofNat 16 4))),.int .u16 (Qa (tb (BitVec.ofNat 16 5))),.int .u16 (Qa (tb (BitVec.ofNat 16 6))),.int .u16 (Qa (tb (BitVec.ofNat 16 7))),.int .u16 (Qa (tb (BitVec.ofNat 16 8))),.int .u16 (Qa (tb (BitVec.ofNat 16 9))),.int .u16 (Qa (tb (BitVec.ofNat 16 10))),.int .u16 (Qa (tb (BitVec.ofNat 16 11))),.int .u16 (Qa (tb (BitVec.ofNat 16 12))),.int .u16 (Qa (tb (BitVec.ofNat 16 13))),.int .u16 (Qa (tb (BitVec.ofNat 16 14))),.int .u16 (Qa (tb (BitVec.ofNat 16 15)))] from rfl];go_upto_region 3 with fail
 obtain ⟨G,E⟩:=pt (u.alloc (.cells #[.int .u16 (Qa (tb (BitVec.ofNat 16 0))),.int .u16 (Qa (tb (BitVec.ofNat 16 1))),.int .u16 (Qa (tb (BitVec.ofNat 16 2))),.int .u16 (Qa (tb (BitVec.ofNat 16 3))),.int .u16 (Qa (tb (BitVec.ofNat 16 4))),.int .u16 (Qa (tb (BitVec.ofNat 16 5))),.int .u16 (Qa (tb (BitVec.ofNat 16 6))),.int .u16 (Qa (tb (BitVec.ofNat 16 7))),.int .u16 (Qa (tb (BitVec.ofNat 16 8))),.int .u16 (Qa (tb (BitVec.ofNat 16 9))),.int .u16 (Qa (tb (BitVec.ofNat 16 10))),.int .u16 (Qa (tb (BitVec.ofNat 16 11))),.int .u16 (Qa (tb (BitVec.ofNat 16 12))),.int .u16 (Qa (tb (BitVec.ofNat 16 13))),.int .u16 (Qa (tb (BitVec.ofNat 16 14))),.int .u16 (Qa (tb (BitVec.ofNat 16 15)))] 392));rw [<-E];have C:Q0 G u.heap.size 392 (Ul 16):=Q0.fresh E;replace A:=A.on H;have p:Below u.heap.size u G:=by rw [E];exact (pI _ _).alloc (pA _) _
 replace A:=A.on p;replace H:=after H p;clear E p;generalize u.heap.size=nc at *;generalize Value.agg #[.int .u16 (Qa (tb (BitVec.ofNat 16 0))),.int .u16 (Qa (tb (BitVec.ofNat 16 1))),.int .u16 (Qa (tb (BitVec.ofNat 16 2))),.int .u16 (Qa (tb (BitVec.ofNat 16 3))),.int .u16 (Qa (tb (BitVec.ofNat 16 4))),.int .u16 (Qa (tb (BitVec.ofNat 16 5))),.int .u16 (Qa (tb (BitVec.ofNat 16 6))),.int .u16 (Qa (tb (BitVec.ofNat 16 7))),.int .u16 (Qa (tb (BitVec.ofNat 16 8))),.int .u16 (Qa (tb (BitVec.ofNat 16 9))),.int .u16 (Qa (tb (BitVec.ofNat 16 10))),.int .u16 (Qa (tb (BitVec.ofNat 16 11))),.int .u16 (Qa (tb (BitVec.ofNat 16 12))),.int .u16 (Qa (tb (BitVec.ofNat 16 13))),.int .u16 (Qa (tb (BitVec.ofNat 16 14))),.int .u16 (Qa (tb (BitVec.ofNat 16 15)))]=tab;go_loopw [0,11] (λc' i wq=>∃k:Nat,k<=n/\c'=.int .u16 (Qa (BC c F k))/\i=.int .i64 k/\wq=G) (λ_ i _=>n - (intOf i).toNat)
 case atStart=>exact ⟨0,by omega,rfl,rfl,rfl⟩
 case round=>
  obtain ⟨k,hk,rfl,rfl,rfl⟩:=hrel;by_cases d:k<n
  ·obtain ⟨g,o,rfl,B⟩:=A (by omega)
   have M:=B k d;generalize L:F k=x at M;generalize z:BC c F k=cc;go_upto_region 5 with fail
   obtain ⟨xh,h⟩:=pt ((x.setWidth 16:Xy) >>> 4);obtain ⟨t,a⟩:=pt ((cc >>> 12) ^^^ xh);obtain ⟨K,i1,i2⟩:0<=Qa t/\Qa t<16/\t.toNat<16:=by rw [a,h];exact RC cc _ (dZ x)
   have J:=KS C t i2;have D:bits .xor .u16 (Qa cc / 4096) (IntKind.u16.wrap (n8 x / 16))=Qa t:=by rw [a,h,<-Hn,<-cF];exact congrArg (λv=>bits .xor .u16 v _) (cE cc 12 4096 rfl)
   have m:bits .xor .u16 (IntKind.u16.wrap (Qa cc * 16)) (Qa (tb t))=Qa (FO cc xh):=by
    unfold FO;rw [<-a,<-Hn,show IntKind.u16.wrap (Qa cc * 16)=Qa (cc <<< 4) from OW cc 4 16 rfl]
   have R:Hid (F k=x):=L;have N:Hid (BC c F k=cc):=z;have P:Hid (xh=(x.setWidth 16:Xy) >>> 4):=h;clear a L z i2 h;go_upto_region 6 with fail
   obtain ⟨c2,l⟩:=pt (FO cc xh);rw [<-l];clear D m J K i1;obtain ⟨I,b⟩:=pt ((x.setWidth 16:Xy)&&&15#16);obtain ⟨s,f⟩:=pt ((c2 >>> 12) ^^^ I);obtain ⟨K,i1,i2⟩:0<=Qa s/\Qa s<16/\s.toNat<16:=by rw [f,b];exact RC c2 _ (ea x)
   have J:=KS C s i2;have D:bits .xor .u16 (Qa c2 / 4096) (IntKind.u16.wrap (bits .and .u8 (n8 x) 15))=Qa s:=by rw [f,b,<-Hn,<-mi];exact congrArg (λv=>bits .xor .u16 v _) (cE c2 12 4096 rfl)
   have m:bits .xor .u16 (IntKind.u16.wrap (Qa c2 * 16)) (Qa (tb s))=Qa (FO c2 I):=by
    unfold FO;rw [<-f,<-Hn,show IntKind.u16.wrap (Qa c2 * 16)=Qa (c2 <<< 4) from OW c2 4 16 rfl]
   have j:FO c2 I=BC c F (k+1):=by
    show _=Aw (BC c F k) (F k);rw [l,b,P.out,dp,R.out,N.out]
   rw [j] at m;clear l b f i2 j;go_wp2_with fail;have y:=PK Q O d;go_roundw
   case rel=>exact ⟨k+1,d,rfl,Ts y,trivial⟩
   case measure=>exact PL d y
  ·obtain rfl:k=n:=by omega
   go_wp2_with fail;go_returns;exact ⟨rfl,by (repeat' (first|(with_reducible exact pI _ _)|(with_reducible assumption)|(with_reducible refine Below.alloc ?_ ?_ _)|(with_reducible refine Below.drew ?_)|(with_reducible refine Below.setCell ?_ ?_ _)|(with_reducible refine after ?_ (pK _ _ _))|(refine after ?_ (by with_reducible assumption))|go_size))⟩
theorem ec:(65535:Int)=Qa 0xFFFF#16:=by decide
theorem ed (w:World):Calls prog 328 #[] w λr w'=>r=.returned (.int .u16 (Qa 0xFFFF#16))/\w=w':=by
 go_enter func328,ntmps328;go_wp2_with fail;go_returns;exact ⟨Xp ec,rfl⟩
def Um (F:Nat->B8)(n:Nat):Xy:=BC 0xFFFF#16 F n
theorem Nq (q:Option Addr)(n cap:Nat)(F:Nat->B8)(d:n<=cap)(b:cap<=maxLen)(w:World)(c:YF w q n F):
  Calls prog 293 #[.slice q n cap] w λr w'=>r=.returned (.int .u16 (Qa (Um F n)))/\Below w.heap.size w w':=by
 go_enter func293,ntmps293;go_wp2_with fail;refine (ed _).mono ?_;rintro e a ⟨rfl,rfl⟩;go_wp2_with fail;refine (RD _ q n cap F d b _ c).mono ?_;rintro e a ⟨rfl,hb⟩;go_wp2_with fail;go_returns;exact ⟨rfl,by (repeat' (first|(with_reducible exact pI _ _)|(with_reducible assumption)|(with_reducible refine Below.alloc ?_ ?_ _)|(with_reducible refine Below.drew ?_)|(with_reducible refine Below.setCell ?_ ?_ _)|(with_reducible refine after ?_ (pK _ _ _))|(refine after ?_ (by with_reducible assumption))|go_size))⟩
theorem oW (c:Xy):n8 ((c >>> 8).setWidth 8)=Qa c / 256:=by
 unfold Qa n8;rw [BitVec.toNat_setWidth,BitVec.toNat_ushiftRight,Nat.shiftRight_eq_div_pow];have:=c.isLt;omega
theorem oX (c:Xy):n8 (c.setWidth 8)=IntKind.u8.wrap (Qa c):=by
 rw [IntKind.wrap_u8'];unfold Qa n8;rw [BitVec.toNat_setWidth];omega
theorem RE (c:Xy)(w:World):Calls prog 294 #[.int .u16 (Qa c)] w λr w'=>r=.returned (.agg #[int u8 (n8 ((c >>> 8).setWidth 8)),int u8 (n8 (c.setWidth 8))])/\Below w.heap.size w w':=by
 have R:Q0 (w.alloc (.cells #[int u8 0,int u8 0] 339)) w.heap.size 339 #[int u8 0,int u8 0]:=Q0.new' rfl;have r0:=R.cell 0;have r1:=R.cell 1;have f0:=R.frz 0;have f1:=R.frz 1;obtain ⟨j0,j1⟩:=j4 c;have e1:Qa c / (256:Int)=n8 ((c >>> 8).setWidth 8):=(oW c).symm;have e2:IntKind.u8.wrap (Qa c)=n8 (c.setWidth 8):=(oX c).symm;obtain ⟨l0,l1⟩:=ZF ((c >>> 8).setWidth 8);go_enter func294,ntmps294;go_wp2_with fail;exact bodyPost_ret (v:=.agg #[int u8 (n8 ((c >>> 8).setWidth 8)),int u8 (n8 (c.setWidth 8))]) (by simp [results,results294,go_sem]) rfl ⟨rfl,by (repeat' (first|(with_reducible exact pI _ _)|(with_reducible assumption)|(with_reducible refine Below.alloc ?_ ?_ _)|(with_reducible refine Below.drew ?_)|(with_reducible refine Below.setCell ?_ ?_ _)|(with_reducible refine after ?_ (pK _ _ _))|(refine after ?_ (by with_reducible assumption))|go_size))⟩
def IG (c:Xy)(i:Nat):B8:=if i=0 then (c >>> 8).setWidth 8 else c.setWidth 8
def VM (F:Nat->B8)(n:Nat):Nat->B8:=XZ F n (IG (Um F n))
theorem ee (q:Option Addr)(n c:Nat)(F:Nat->B8)(p:n<=c)(s:c<=maxLen)(h47:n<=1000000)(w:World)(f:YF w q n F):
  Calls prog 223 #[.slice q n c] w λr w'=>∃v,r=.returned v/\w'.ownsRow w.heap.size 5 1 v (n+2) (bl (VM F n) (n+2))/\Below w.heap.size w w':=by
 have m:VM F n=XZ F n (IG (Um F n)):=rfl;rw [m];clear m;go_enter func223,ntmps223;go_wp2_with fail;refine (Nq q n c F p s _ f).mono ?_;rintro e h ⟨rfl,H⟩;replace f:=f.on H;generalize l:Um F n=d at *;replace l:Hid (d=Um F n):=l.symm;go_wp2_with fail;refine (RE d _).mono ?_;rintro e h ⟨rfl,j⟩;replace f:=f.on j;replace H:=after H j;clear j;go_upto_region 2 with fail
 obtain ⟨k,g⟩:=pt (h.alloc (.cells #[int u8 (n8 ((d >>> 8).setWidth 8)),int u8 (n8 (d.setWidth 8))] 339));rw [<-g];have C:=Q0.fresh g;have a:Below h.heap.size h k:=by rw [g];exact (pI _ _).alloc (pA _) _
 replace f:=f.on a;replace H:=after H a;clear g a;generalize h.heap.size=nt at *;go_wp2_with fail;obtain ⟨o,g⟩:=pt (k.alloc (.cells #[.slice q n c,.slice (some ⟨nt,0,none⟩) 2 2] 51));rw [<-g];have L:=Q0.fresh g;have a:Below k.heap.size k o:=by rw [g];exact (pI _ _).alloc (pA _) _
 replace f:=f.on a;replace C:=C.on a;replace H:=after H a;clear g a;generalize k.heap.size=nl at *;have D:Vy o nt 0 2 (IG d):=λi hi=>by
  rw [Nat.zero_add,C.cell]
  match i,hi with
  | 0,_=>rfl
  | 1,_=>rfl
 refine (Jt q n c F p (some ⟨nt,0,none⟩) 2 2 (IG d) (pA _) (by omega) (by omega) nl _ L f (YF.of D)).mono ?_
 rintro e w4 ⟨v,rfl,b,j⟩;replace b:=IE b H.size;replace H:=after H j;go_wp2_with fail;go_returns;exact ⟨_,rfl,by rw [<-l.out];exact b,H⟩
theorem RG (q:Option Addr)(n c:Nat)(F:Nat->B8)(j:n<=c)(g:c<=maxLen)(w:World)(i:YF w q n F)(b:Bool)(a:(decide (2<=n)&&(Um F n==0#16))=b):
  Calls prog 290 #[.slice q n c] w λr w'=>r=.returned (.bool b)/\Below w.heap.size w w':=by
 by_cases f:2<=n
 ·have d:(2:Int)<=n:=by omega
  have e:(Qa (Um F n)==0)=b:=by
   rw [<-a,Bool.eq_iff_iff];simp only [beq_iff_eq,Bool.and_eq_true,decide_eq_true_eq];rw [show (0:Int)=Qa 0#16 by decide,j5]
   exact ⟨λh=>⟨f,h⟩,λh=>h.2⟩
  go_enter func290,ntmps290;go_wp2_with fail;refine (Nq q n c F j g _ i).mono ?_;rintro e w1 ⟨rfl,a⟩;generalize Qa (Um F n)=z at *;go_wp2_with fail;go_returns;exact ⟨rfl,a⟩
 ·have d:¬(2:Int)<=n:=by omega
  obtain rfl:b=false:=by rw [<-a];simp;omega
  go_enter func290,ntmps290;go_wp2_with fail;go_returns;exact ⟨rfl,pI _ _⟩
def Ac (F:Nat->B8)(n:Nat):Prop:=2<=n/\Um F n=0#16
theorem jg (q:Option Addr)(n c:Nat)(F:Nat->B8)(d:n<=c)(a:c<=maxLen)(w:World)(b:YF w q n F)(h:Ac F n):
  Calls prog 290 #[.slice q n c] w λr w'=>r=.returned (.bool true)/\Below w.heap.size w w':=
 RG q n c F d a w b true (by simp [h.1,h.2])
theorem jh (q:Option Addr)(n c:Nat)(F:Nat->B8)(d:n<=c)(a:c<=maxLen)(w:World)(b:YF w q n F)(h:¬Ac F n):
  Calls prog 290 #[.slice q n c] w λr w'=>r=.returned (.bool false)/\Below w.heap.size w w':=
 RG q n c F d a w b false (by
  unfold Ac at h;rw [Bool.eq_false_iff];simpa using h)
theorem ef (q:Option Addr)(n c:Nat)(F:Nat->B8)(k:n<=c)(i:c<=maxLen)(h47:n<=1000000)(w:World)(b:YF w q n F)(h:Ac F n):
  Calls prog 215 #[.slice q n c] w λr w'=>∃v,r=.returned (.tuple #[v,int i64 0])/\w'.ownsRow w.heap.size 5 1 v (n - 2) (bl F (n - 2))/\Below w.heap.size w w':=by
 have h2:2<=n:=h.1;have h2':¬(n:Int)<2:=by omega
 have h3:((n:Int) - 2)=((n - 2:Nat):Int):=by omega
 have j:n - 2<=c:=by omega
 have h5:(n:Int)<=1000000:=by omega
 have g:=λw b=>jg q n c F k i w b h
 have d:=λw b=>Nl q (n - 2) c F j (by omega) w b
 clear h;go_enter func215,ntmps215;go_wp2_with fail;refine (g _ b).mono ?_;rintro e w1 ⟨rfl,H⟩;replace b:=(b.on H).le (Nat.sub_le n 2);go_wp2_with fail;refine (d _ b).mono ?_;rintro e w2 ⟨v,rfl,a,f⟩;replace a:=IE a H.size;replace H:=after H f;go_wp2_with fail;go_returns;exact ⟨v,rfl,a,H⟩
theorem eh (q:Option Addr)(n c:Nat)(F:Nat->B8)(j:n<=c)(g:c<=maxLen)(w:World)(b:YF w q n F)(h:¬Ac F n)(e:Int)(i:e=if n<2 then 3 else 4):
  Calls prog 215 #[.slice q n c] w λr w'=>r=.returned (.tuple #[.slice none 0 0,int i64 e])/\Below w.heap.size w w':=by
 subst i;by_cases d:n<2
 ·have a:(n:Int)<2:=by omega
  rw [if_pos d];go_enter func215,ntmps215;go_wp2_with fail;go_returns;exact ⟨rfl,pI _ _⟩
 ·have a:¬(n:Int)<2:=by omega
  rw [if_neg d];have f:=λw b=>jh q n c F j g w b h
  clear h;go_enter func215,ntmps215;go_wp2_with fail;refine (f _ b).mono ?_;rintro e w1 ⟨rfl,H⟩;go_wp2_with fail;go_returns;exact ⟨rfl,H⟩
theorem Wg (F:Nat->B8)(n:Nat):Um (VM F n) (n+2)=0#16:=by
 show Aw (Aw (BC _ (VM F n) n) (VM F n n)) (VM F n (n+1))=_;rw [EA _ (VM F n) F n (λi c=>by simp [VM,XZ,c])]
 have b:VM F n n=((Um F n) >>> 8).setWidth 8:=by simp [VM,XZ,IG]
 have a:VM F n (n+1)=(Um F n).setWidth 8:=by
  simp [VM,XZ,IG];omega
 rw [b,a];exact PH (Um F n)
theorem ji (F:Nat->B8)(n:Nat):Ac (VM F n) (n+2):=⟨by omega,Wg F n⟩
end
end Go.Proofs.YtmbccnioijokfaaGreatDoor