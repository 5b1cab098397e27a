/- A part of the proof. -/
import Derived.Test.YtmbccnioijokfaaGreatDoorZs19
import Derived.Test.YtmbccnioijokfaaGreatDoorZs25
import Derived.Test.YtmbccnioijokfaaGreatDoorZs21
import Derived.Lib.ItoaLen
namespace Go.Proofs.YtmbccnioijokfaaGreatDoor
set_option maxRecDepth 100000
set_option maxHeartbeats 32000000
open Go.Value (int)
open Go.IntKind (i64 u8)
open Go.Proofs.Tryz
variable {w w' W:World}{base B size N b:Nat}{v:Value}{frm x y z:Int}
section
open Go.RowKit
attribute [local go_sem] Oper.semAt_some
abbrev CX:=Option Addr×Nat×List Rn
abbrev jI (r:CX):Value:=.slice r.1 r.2.2.length r.2.1
def ZJ (l:List CX):List Rn:=l.foldl (λo r=>Xk o r.2.2) []
theorem P5 (l:List CX)(r:CX):ZJ (l++[r])=Xk (ZJ l) r.2.2:=by simp [ZJ]
structure JoinOk (w:World)(rs:List CX):Prop where
 rd:∀r∈rs,Rd w r.1 2 Xd r.2.2
 pos:∀r∈rs,∀x∈r.2.2,1<=x.1
 len:Qh (ZJ rs)<=1000000
theorem S4 (rs:List CX):∀x∈ZJ rs,1<=x.1:=by
 have key:∀(l:List CX) (o:List Rn),(∀x∈o,1<=x.1)->∀x∈l.foldl (λo r=>Xk o r.2.2) o,1<=x.1:=by
  intro l;induction l with
  | nil=>exact λo h=>h
  | cons r l a=>exact λo h=>a _ (Dp h _)
 exact key rs [] D5
theorem S6 {l m:List Rn}(h:∀x∈m,1<=x.1):Qh l<=Qh (Xk l m):=by
 rw [Ax m λr a=>by have:=h r a;omega]
 have:=XD h;omega
theorem WM {rs:List CX}(h:∀r∈rs,∀x∈r.2.2,1<=x.1)(k:Nat):Qh (ZJ (rs.take k))<=Qh (ZJ rs):=by
 have key:∀(l:List CX) (o:List Rn),(∀r∈l,∀x∈r.2.2,1<=x.1)->Qh o<=Qh (l.foldl (λo r=>Xk o r.2.2) o):=by
  intro l;induction l with
  | nil=>exact λo _=>Int.le_refl _
  | cons r l a=>exact λo h=>Int.le_trans (S6 (h r List.mem_cons_self)) (a _ λs c=>h s (List.mem_cons_of_mem _ c))
 have e:ZJ rs=(rs.drop k).foldl (λo r=>Xk o r.2.2) (ZJ (rs.take k)):=by
  unfold ZJ;rw [<-List.foldl_append,List.take_append_drop]
 rw [e];exact key _ _ λr b=>h r (List.mem_of_mem_drop b)
theorem S7 (w:World)(g o c:Nat)(rs:List CX)(h:JoinOk w rs)(hc:∀i r,rs[i]?=some r->w.cell? ⟨g,o+i,none⟩=some (jI r))(hg:g<w.heap.size)(hl:rs.length<=1000):
  Calls prog 359 #[.slice (some ⟨g,o,none⟩) rs.length c] w λr w'=>DK w (ZJ rs) r w':=by
 have L:=pp h;have HC:=pp hc;have HM:=pp (show rs.length<=maxLen by unfold maxLen;omega)
 clear h hc hl;go_enter func359,ntmps359;go_upto_region 3 with fail
 go_loopw [3,10] (λv i wr=>∃(k:Nat),k<=rs.length/\i=.int .i64 k/\Hid (Q5 wr w.heap.size 235 2 Xd v (ZJ (rs.take k)))/\Hid (pM w wr)) (λ_ i _=>rs.length - (intOf i).toNat)
 case atStart=>exact ⟨0,pC _,rfl,Q5.nil,pI _ _⟩
 case round=>
  obtain ⟨k,hk,rfl,P,N⟩:=hrel;by_cases y:k<rs.length
  ·obtain ⟨p,d⟩:=V9 y;have U:=(N.out.cell (p:=⟨g,o+k,none⟩) hg).trans (HC.o k p d);have b:=S4 (rs.take k);have n:=WM L.o.pos (k+1);have z:ZJ (rs.take (k+1))=Xk (ZJ (rs.take k)) p.2.2:=by rw [Uv d,P5]
   have Y:=L.o.len;have u:=L.o.rd p (pG d);have e:=L.o.pos p (pG d);rw [z] at n;have H:=pp z;obtain ⟨n2,n3,n5,n6⟩:=Uf y HM.o;obtain ⟨wo,W⟩:∃wo:World,wo=wr:=⟨_,rfl⟩;subst W;obtain ⟨q,cp,R⟩:=p;dsimp only [jI] at U n u e H;have J:Qh (ZJ (rs.take k))+Qh R<=1000000:=by
    rw [Ax R λr B=>by have:=e r B;omega] at n
    omega
   have ab:=pp u;have m:=pp e;have E:=pp b;have S:=XD e;have Q:=pp (show R.length<=maxLen by have:=XD b;unfold maxLen;omega)
   clear d z n Y u e b S;generalize ZJ (rs.take k)=xs at *;go_upto_region 6 with fail
   go_loopw [3,16] (λv i wr=>∃(j:Nat),j<=R.length/\i=.int .i64 j/\Hid (Q5 wr w.heap.size 235 2 Xd v (Xk xs (R.take j)))/\Hid (pM w wr)) (λ_ i _=>R.length - (intOf i).toNat)
   case atStart=>exact ⟨0,pC _,rfl,P,N⟩
   case round=>
    obtain ⟨j,hj,rfl,t,C⟩:=hrel;by_cases D:j<R.length
    ·obtain ⟨p,d⟩:=V9 D;obtain ⟨g2,o2,rfl,h1⟩:=(ab.o.on C.out) (by omega)
     have r0:wr.cell? ⟨g2,o2+j * 2,none⟩=some (int i64 p.1):=h1 j p d 0 _ rfl;have r1:wr.cell? ⟨g2,o2+j * 2+1,none⟩=some (int i64 p.2):=h1 j p d 1 _ rfl;have ad:=m.o p (pG d);have G:=ZG (l:=R) (λr B=>by have:=m.o r B;omega) (j+1)
     rw [ZH d] at G;have O:Qh (Xk xs (R.take j))=Qh xs+Qh (R.take j):=Ax _ λr B=>by have:=m.o r (List.mem_of_mem_take B);omega
     have ac:=(ZG (l:=R) (λr B=>by have:=m.o r B;omega) j).1
     have b:∀x∈Xk xs (R.take j),1<=x.1:=Dp E.o _;have T:=XD b;have aa:0<=Qh xs:=by have:=XD E.o;omega
     have I:Xk xs (R.take (j+1))=XP (Xk xs (R.take j)) p:=by rw [Uv d,FQ]
     obtain ⟨m2,m3,m5,m6⟩:=Uf D Q.o;obtain ⟨W1,f⟩:=pt (wr.alloc (.cells #[int i64 p.1,int i64 p.2] 235));have K:pM wr W1:=by rw [f];exact Q3 _ _
     have X:Q0 W1 wr.heap.size 235 #[int i64 p.1,int i64 p.2]:=by rw [f];exact Q0.new' rfl
     have s:=after C.out K;have HP:=pp (Fo W1 w.heap.size _ _ p (t.out.on K) b (by omega) (by omega) s.size (by omega))
     have M:=pp I;have V:=pp (t.out.on K);have F:=pp s;clear d h1 ad G O ac b T aa I K s J;go_upto_region 8 with fail
     rw [<-f];clear f r0 r1;obtain ⟨y0,y1,-,-⟩:=X.pair;go_wp2_with (go_at_call 221;refine HP.o.mono ?_;intro r w1 h;obtain ⟨v',rfl,h2,h3⟩:=h.below V.o F.o F.o.size;have H2:=pp h2;have H3:=pp h3;clear h2 h3 h);exact ⟨⟨j+1,D,by go_num,by rw [M.o];exact H2,H3⟩,by simp [intOf];omega⟩
    ·obtain rfl:j=R.length:=by omega
     have a:=t.out;rw [List.take_length,<-H.o] at a;have A:=pp a;have Z:¬((R.length:Int)<(R.length:Int)):=by omega
     clear a;go_wp2_with fail;exact ⟨⟨k+1,y,by go_num,A,C⟩,by simp [intOf];omega⟩
  ·obtain rfl:k=rs.length:=by omega
   have a:=P.out;rw [List.take_length] at a;have A:=pp a;have Z:¬((rs.length:Int)<(rs.length:Int)):=by omega
   clear a P;go_wp2_with fail;go_returns;exact ⟨_,rfl,A.o,N.out⟩
theorem Q5.low {e:TypeId}{α:Type}{enc:α->List Value}{xs:List α}(h:Q5 w base e size enc v xs)(d:B<=base):Q5 w B e size enc v xs:=by
 refine ⟨h.1,?_⟩;rcases h.2 with c|⟨g,cap,cur,b,a,r⟩
 ·exact .inl c
 ·exact .inr ⟨g,cap,cur,b,pB d a,r⟩
theorem DK.row {xs:List Rn}{r:Ending}(h:DK w xs r w'):∃q c,r=.returned (.slice q xs.length c)/\Rd w' q 2 Xd xs/\Below w.heap.size w w':=by
 obtain ⟨v,rfl,a,d⟩:=h;obtain ⟨q,c,rfl,-,-,b,-⟩:=a.form Bj;exact ⟨q,c,rfl,b,d⟩
theorem S8 (R:List Rn){a b:Int}(d:∀r∈R,1<=r.1)(h0:0<=frm)(h1:frm<=a)(e:a<=Qh R)(f:Xl R):Qh (Vw R frm a b)=Qh R:=by
 rw [Ze (λr c=>by have:=(Jk R frm a b).pos r c;omega),FP f,Ze (λr c=>by have:=d r c;omega)]
 rw [Ze (λr c=>by have:=d r c;omega)] at e
 simp;omega
theorem S9 (w:World)(q:Option Addr)(c:Nat)(R:List Rn)(d a b:Int)(H:Rd w q 2 Xd R)(F:Xl R)(hm:Qh R<=100000)(hf:0<=d)(hft:d<a)(ht:a<=Qh R)(K:Zi b=true):
  Calls prog 354 #[.slice q R.length c,int i64 d,int i64 a,int i64 b] w λr w'=>DK w (Vw R d a b) r w':=by
 have e:=F.pos;have hln:=XD e;have Q:=pp (KP w q c R H (λr l=>by have:=e r l;omega) (by omega) (by unfold maxLen;omega))
 have HC:=pp λ(W:World) (h:pM w W) d a=>Wm W q c R d a (H.on h) e (by omega)
 have u:=pp λ(W:World) n b (h:0<=n/\n<=1000000)=>RM n b h W
 have k:=pp λ(W:World)=>Dd b W
 rw [K] at k;have HF:=pp (S8 R (b:=b) e hf (by omega) ht F)
 have E:=@YY prog;have v:=@ZC prog;generalize hN:Qh R=N at *;have e1:Xj (Xv d 0) N=d:=by unfold Xj Xv;omega
 have e2:Xj (Xv a 0) N=a:=by unfold Xj Xv;omega
 clear H F e K;go_enter func354,ntmps354;go_wp2_with fail;refine Q.o.mono ?_;rintro p w1 ⟨rfl,g1⟩;have U:=pp g1;have j:=k.o w1;have g:=pp j;clear Q g1 j k;go_wp2_with fail;refine g.o.mono ?_;rintro p w2 ⟨rfl,g2⟩;have D:=pp (after U.o g2);have O:=pp hN;clear g U g2 hN;go_wp2_with fail;clear E v e1 e2;refine (HC.o w2 D.o 0 d (by omega) (by omega)).mono ?_;intro p w3 h
 obtain ⟨B,C,rfl,Z,g3⟩:=h.row;have s:=pp Z;have L:=pp (after D.o g3);clear D g3 h Z;go_wp2_with fail;refine (u.o w3 (a - d) b (by omega)).mono ?_;intro p w4 h
 obtain ⟨q2,c2,rfl,J,y⟩:=h.row;have m:=pp (s.o.on y);have S:=pp J;have A:=pp (after L.o y);clear L y h J s;go_wp2_with fail;refine (HC.o w4 A.o a N (by omega) (by omega)).mono ?_;intro p I h
 obtain ⟨x,c3,rfl,P,t⟩:=h.row;have s:=pp (m.o.on t);have z:=pp (S.o.on t);have H3:=pp P;have M:=pp (after A.o t);clear A t h P m S;go_wp2_with fail;have X:JoinOk (I.alloc (.cells #[.slice B (Zf R 0 d 0 []).length C,.slice q2 (XP [] (a - d,b)).length c2,.slice x (Zf R a N 0 []).length c3] 184)) [(B,C,Zf R 0 d 0 []),(q2,c2,XP [] (a - d,b)),(x,c3,Zf R a N 0 [])]:=by
  refine ⟨?_,?_,?_⟩
  ·intro r l;simp only [List.mem_cons,List.mem_nil_iff,or_false] at l;rcases l with rfl|rfl|rfl
   ·exact s.o.on (Q3 _ _)
   ·exact z.o.on (Q3 _ _)
   ·exact H3.o.on (Q3 _ _)
  ·intro r l;simp only [List.mem_cons,List.mem_nil_iff,or_false] at l;rcases l with rfl|rfl|rfl
   ·exact (Ko Zo).pos
   ·exact EB D5 _
   ·exact (Ko Zo).pos
  ·show Qh (Xk (Xk (Xk [] (Zf R 0 d 0 [])) (XP [] (a - d,b))) (Zf R a N 0 []))<=_;have:=HF.o;unfold Vw at this;rw [O.o] at this;omega
 have T:=S7 _ I.heap.size 0 3 _ X (λi r f=>by
  rw [Nat.zero_add,(Q0.new I 184 _).cell i]
  match i,f with
  | 0,f=>obtain rfl:=pE f;rfl
  | 1,f=>obtain rfl:=pE f;rfl
  | 2,f=>obtain rfl:=pE f;rfl
  | i+3,f=>cases f) (by simp) (by simp)
 refine T.mono ?_;rintro p Y ⟨v6,rfl,G,V⟩;have h7:pM w Y:=after (after M.o (Q3 _ _)) V;have H7:=pp h7;have H6:=pp (show Q5 Y w.heap.size 235 2 Xd v6 (Vw R d a b) from by
  have h8:ZJ [(B,C,Zf R 0 d 0 []),(q2,c2,XP [] (a - d,b)),(x,c3,Zf R a N 0 [])]=Vw R d a b:=by
   unfold Vw;rw [O.o];rfl
  rw [h8] at G;exact G.low (after M.o (Q3 _ _)).size)
 clear G V h7 X T;go_wp2_with fail;go_returns;exact ⟨_,rfl,H6.o,H7.o⟩
theorem WN (w:World)(q:Option Addr)(c:Nat)(R:List Rn)(i:Nat)(b:Int)(j:Rd w q 2 Xd R)(g:Xl R)(y:Qh R<=100000)(hi:(i:Int)<Qh R)(m:Zi b=true):
  Calls prog 339 #[.slice q R.length c,int i64 i,b] w λr w'=>DK w (Vw R i (i+1) b) r w':=by
 have a:=g.pos;have hln:=XD a;have l:=pp (KP w q c R j (λr u=>by have:=a r u;omega) (by omega) (by unfold maxLen;omega))
 have p:=pp λ(W:World) (h:pM w W)=>S9 W q c R i (i+1) b (j.on h) g y (by omega) (by omega) (by omega) m
 have hi0:(0:Int)<=i:=by omega
 have YV: -9223372036854775808<=(i:Int)+1/\(i:Int)+1<=9223372036854775807:=by omega
 generalize Qh R=N at *;clear j g a m;go_enter func339,ntmps339;go_wp2_with fail;refine l.o.mono ?_;rintro z s ⟨rfl,e⟩;have d:=p.o s e;have f:=pp d;have n:=pp e;clear l e p d;go_wp2_with fail;refine f.o.mono ?_;rintro z w2 ⟨v,rfl,k,g2⟩;have x:=pp (k.low n.o.size);have t:=pp (after n.o g2);clear k g2;go_wp2_with fail;go_returns;exact ⟨_,rfl,x.o,t.o⟩
def Ve (l:List UInt8):Int:=l.foldl (λn c=>n * 10+((c.toNat:Int) - 48)) 0
structure DigOk (l:List UInt8):Prop where
 pos:1<=l.length
 len:l.length<=15
 all:∀c∈l,48<=c.toNat/\c.toNat<=57
instance (l:List UInt8):Decidable (DigOk l):=decidable_of_iff (1<=l.length/\l.length<=15/\∀c∈l,48<=c.toNat/\c.toNat<=57) ⟨λh=>⟨h.1,h.2.1,h.2.2⟩,λh=>⟨h.1,h.2,h.3⟩⟩
theorem EO (l:List UInt8)(c:UInt8):Ve (l++[c])=Ve l * 10+((c.toNat:Int) - 48):=by simp [Ve]
theorem NE:∀(n:Nat) (l:List UInt8),l.length=n->(∀c∈l,48<=c.toNat/\c.toNat<=57)->0<=Ve l/\Ve l<10 ^ n
 | 0,l,b,_=>by
  obtain rfl:=List.length_eq_zero_iff.1 b;decide
 | n+1,l,b,h=>by
  have a:l≠[]:=by rintro rfl;simp at b
  have e:=List.dropLast_concat_getLast a;have ih:=NE n l.dropLast (by simp [b]) λc d=>h c ((List.dropLast_sublist l).subset d)
  have d:=h _ (List.getLast_mem a);rw [<-e,EO];generalize l.getLast a=c at *;generalize Ve l.dropLast=m at *;have:(10:Int) ^ (n+1)=10 ^ n * 10:=Int.pow_succ 10 n;omega
theorem EP {l:List UInt8}(h:DigOk l)(i:Nat):0<=Ve (l.take i)/\Ve (l.take i)<1000000000000000:=by
 have h1:=NE _ (l.take i) rfl λc b=>h.all c (List.mem_of_mem_take b)
 have a:(l.take i).length<=15:=by rw [List.length_take];have:=h.len;omega
 have h3:(10:Int) ^ (l.take i).length<=10 ^ 15:=by have:=Nat.pow_le_pow_right (show 0<10 by decide) a;exact_mod_cast this
 have h4:(10:Int) ^ 15=1000000000000000:=by decide
 omega
abbrev Q4 (l:List UInt8):ByteArray:=⟨l.toArray⟩
structure NumW (s:ByteArray)(below:Bool)(d:List UInt8):Prop where
 sign:Lib.hasPrefix s.data.toList [45]=below
 rest:Lib.trimPrefix s.data.toList [45]=d
 ok:DigOk d
def L9 (below:Bool)(d:List UInt8):Int:=if below then -Ve d else Ve d
theorem Hy (w:World)(s:ByteArray)(p:Nat):(w.iter s p).iterPos w.heap.size=p:=by simp [World.iterPos,World.iter_heap]
theorem WO (s:ByteArray)(a:Bool)(d:List UInt8)(h:NumW s a d)(w:World):
  Calls prog 114 #[.string s] w λr w'=>r=.returned (.tuple #[int i64 (L9 a d),.bool true])/\Below w.heap.size w w':=by
 have p:=Tryz.strings_CutPrefix s ⟨#[45]⟩ w;rw [show ((⟨#[45]⟩:ByteArray).data.toList)=[45] from rfl,h.sign,h.rest] at p;have y:Calls prog 162 #[.string s,.string ⟨#[45]⟩] w λe w'=>e=.returned (.tuple #[.string (Q4 d),.bool a])/\w=w':=p.mono λ_ _ h=>⟨h.1,h.2.symm⟩
 have x:=pp y;have k:(Q4 d).size=d.length:=by simp [ByteArray.size]
 have t:∀(i:Nat) (hi:i<(Q4 d).size) (c:UInt8),d[i]?=some c->(Q4 d)[i]'hi=c:=λi hi c q=>by
  have:(Q4 d)[i]'hi=d.toArray[i]'(by rw [k] at hi;simpa using hi):=rfl
  rw [this];simp only [List.getElem_toArray];exact pE (by rw [<-q];exact (pH _).symm)
 have j:=pp (py h.ok (py k t));have u:∀i,pM w (w.iter (Q4 d) i):=λi=>by unfold World.iter;exact (pI _ _).alloc (pA _) _
 have z:=pp u;have hne:d.isEmpty=false:=by
  have F:=h.ok.pos;cases d with
  | nil=>simp at F
  | cons _ _=>rfl
 have hle:¬(15:Int)<(d.length:Int):=by have:=h.ok.len;omega
 clear p y h k t u;go_enter func114,ntmps114;go_upto_region 4 with (go_at_call 162;refine x.o.mono ?_;rintro e_ w1 ⟨rfl,rfl⟩)
 go_loopw [6,8] (λn _ wr=>∃i:Nat,i<=d.length/\n=.int .i64 (Ve (d.take i))/\wr=w.iter (Q4 d) i) (λ_ _ wr=>d.length - wr.iterPos w.heap.size)
 case atStart=>exact ⟨0,pC _,rfl,rfl⟩
 case round=>
  obtain ⟨i,hi,rfl,rfl⟩:=hrel;by_cases g:i<d.length
  ·obtain ⟨c,q⟩:∃c,d[i]?=some c:=⟨_,pH g⟩;have f:i<(Q4 d).size:=by rw [j.o.2.1];exact g
   have D:=j.o.1.all c (pG q);have l:=λty=>run_next_ascii (P:=prog) w (Q4 d) i ty f (by rw [j.o.2.2 i f c q];omega)
   rw [j.o.2.2 i f c q] at l;have b:Ve (d.take (i+1))=Ve (d.take i) * 10+((c.toNat:Int) - 48):=by rw [List.take_add_one,q];exact EO _ _
   have hb1:=EP j.o.1 i;have A:=EP j.o.1 (i+1);rw [b] at A;have G:=pp b;generalize Ve (d.take i)=m at *;have B:∃v:Int,v=(c.toNat:Int):=⟨_,rfl⟩;obtain ⟨v,B⟩:=B;rw [<-B] at l A;have hv1:48<=v:=by omega
   have hv2:v<=57:=by omega
   have n1:¬v<48:=by omega
   have n2:¬57<v:=by omega
   have H:=pp B;clear B D q b;go_wp2_with fail;refine ⟨⟨i+1,g,by rw [G.o,H.o],rfl⟩,?_⟩
   rw [Hy,Hy];omega
  ·obtain rfl:i=d.length:=by omega
   have l:=λty=>run_next_end (P:=prog) w (Q4 d) d.length ty (by rw [j.o.2.1];omega)
   rw [List.take_length];clear g hi;have C:wrap64 (-Ve d)= -Ve d:=by
    have E:=EP j.o.1 d.length;rw [List.take_length] at E;unfold wrap64;omega
   cases a
   ·go_wp2_with fail;go_returns;exact ⟨rfl,z.o _⟩
   ·go_wp2_with fail;go_returns;refine ⟨?_,z.o _⟩;show Ending.returned (.tuple #[int i64 (wrap64 (-Ve d)),.bool true])=_;rw [C];rfl
end
section
open Go.RowKit Go.Maps
attribute [local go_sem] Oper.semAt_some
def Vz (w : World) : Prop := Lib.TabIs prog w "internal/strconv.uint64pow10" .u64 Lib.pow10Tab
theorem Vz.on (h:Vz w)(d:pM w w'):Vz w':=by
 unfold Vz Lib.TabIs World.var? at *;obtain ⟨g,e,a⟩:=Option.bind_eq_some_iff.1 h;rw [e];show (match w'.heap[g]? with|some (.cells cs _ _)=>some cs|_=>none)=_
 have b:g<w.heap.size:=by
  rcases Nat.lt_or_ge g w.heap.size with c|c
  ·exact c
  ·rw [Array.getElem?_eq_none c] at a;cases a
 rw [d.block g b];exact a
theorem jJ (n:Int)(a: -9223372036854775808<=n/\n<=9223372036854775807)(w:World)(h:(0<=n/\n<100)∨Vz w):Calls prog 115 #[n] w λr w'=>r=.returned (.string (Q4 (Lib.itoa n)))/\Below w.heap.size w w':=by
 rcases h with ⟨b,h1⟩|h
 ·obtain ⟨i,rfl⟩:=Int.eq_ofNat_of_zero_le b;have:=Tryz.strconv_Itoa_small i (by omega) w
  refine this.mono ?_;rintro r w' ⟨rfl,rfl⟩;refine ⟨?_,.refl _ _⟩;unfold Lib.itoa;rw [if_neg (by omega)]
  rfl
 ·refine (Tryz.strconv_Itoa n a.1 a.2 w h).mono ?_
  rintro r w' ⟨rfl,k,os,rfl⟩;exact ⟨rfl,pK w _ os⟩
inductive TV
 | int (n:Int)
 | str (s:ByteArray)
 | ok
 | vec (x y z:Int)
 | bool (b:Bool)
def TV.val:TV->Value
 | .int n=>.iface 3 (.int .i64 n)
 | .str s=>.iface 9 (.string s)
 | .ok=>.iface 121 (.int .i64 0)
 | .vec x y z=>.iface 38 (.agg #[.int .i64 x,.int .i64 y,.int .i64 z])
 | .bool b=>.iface 4 (.bool b)
abbrev Z4 (l:List ByteArray):ByteArray:=Q4 (Lib.join (l.map (·.data.toList)) [32])
def TV.str_:TV->ByteArray
 | .int n=>Q4 (Lib.itoa n)
 | .str s=>s
 | .ok=>Q4 [111,107]
 | .vec x y z=>Z4 [Q4 (Lib.itoa x),Q4 (Lib.itoa y),Q4 (Lib.itoa z)]
 | .bool b=>Z4 [Q4 (Lib.itoa (if b then 1 else 0))]
def Zc (n:Int):Prop:= -9223372036854775808<=n/\n<=9223372036854775807
def YP (w:World)(n:Int):Prop:=Zc n/\((0<=n/\n<100)∨Vz w)
theorem YP.on {n:Int}(h:YP w n)(a:Below w.heap.size w w'):YP w' n:=⟨h.1,h.2.imp_right λh=>h.on a⟩
def TV.may (w:World):TV->Prop
 | .int n=>YP w n
 | .str _=>True
 | .ok=>True
 | .vec x y z=>YP w x/\YP w y/\YP w z/\∀W b,Below w.heap.size w W->Q0 W b 20 #[.iface 3 (.int .i64 x),.iface 3 (.int .i64 y),.iface 3 (.int .i64 z)]->Calls prog 75 #[.slice (some ⟨b,0,none⟩) 3 3] W λr w'=>r=.returned (.string (TV.vec x y z).str_)/\Below W.heap.size W w'
 | .bool v=>∀W b,Below w.heap.size w W->Q0 W b 20 #[.iface 3 (.int .i64 (if v then 1 else 0))]->Calls prog 75 #[.slice (some ⟨b,0,none⟩) 1 1] W λr w'=>r=.returned (.string (TV.bool v).str_)/\Below W.heap.size W w'
theorem WP:(prog.info? 9).map (λi=>(i.zero,i.size,i.bytes))=some (some (.string ⟨#[]⟩),1,16):=by kernel_rfl
theorem EQ {xs:List ByteArray}{s:ByteArray}(e:Q5 W N 9 1 YJ v xs)(d:Q0 W b 9 #[.string s])(hl:xs.length<=1000000)(g:N<=W.heap.size):
  ∃v' w',(Builtin.append_ #[48,48] 48 #[v,.slice (some ⟨b,0,none⟩) 1 1]).run prog W=.ok v' w'/\Q5 w' N 9 1 YJ v' (xs++[s])/\Below N W w':=by
 obtain ⟨v',w',hrun,f,-,c,-⟩:=V0 (P:=prog) (ts:=48) (ty:=48) (enc:=YJ) (x:=s) (b:=b) (w:=W) (base:=N) (xs:=xs) (v:=v) underlying48 WP rfl (by decide) (by decide) rfl (by intro u a;simp [YJ] at a;rcases a with rfl;rfl) e (λj u a=>by rw [d.cell j];simpa [YJ] using a) (by omega) g
 exact ⟨v',w',hrun,f,c⟩
theorem P6 (v:Value)(w:World):(Instr.typeAssert (.iface 3 v) 20 3 true).run prog w=.ok (.tuple #[v,.bool true]) w:=by kernel_rfl
theorem JV (v:Value)(w:World):(Instr.typeAssert (.iface 9 v) 20 3 true).run prog w=.ok (.tuple #[int i64 0,.bool false]) w:=by kernel_rfl
theorem Gq (v:Value)(w:World):(Instr.typeAssert (.iface 9 v) 20 9 true).run prog w=.ok (.tuple #[v,.bool true]) w:=by kernel_rfl
theorem La (v:Value)(w:World):(Instr.typeAssert (.iface 121 v) 20 3 true).run prog w=.ok (.tuple #[int i64 0,.bool false]) w:=by kernel_rfl
theorem Hz (v:Value)(w:World):(Instr.typeAssert (.iface 121 v) 20 9 true).run prog w=.ok (.tuple #[.string ⟨#[]⟩,.bool false]) w:=by kernel_rfl
theorem IM (v:Value)(w:World):(Instr.typeAssert (.iface 121 v) 20 121 true).run prog w=.ok (.tuple #[v,.bool true]) w:=by kernel_rfl
theorem P7 (v:Value)(w:World):(Instr.typeAssert (.iface 38 v) 20 3 true).run prog w=.ok (.tuple #[int i64 0,.bool false]) w:=by kernel_rfl
theorem JW (v:Value)(w:World):(Instr.typeAssert (.iface 38 v) 20 9 true).run prog w=.ok (.tuple #[.string ⟨#[]⟩,.bool false]) w:=by kernel_rfl
theorem Lb (v:Value)(w:World):(Instr.typeAssert (.iface 38 v) 20 121 true).run prog w=.ok (.tuple #[int i64 0,.bool false]) w:=by kernel_rfl
theorem P8 (v:Value)(w:World):(Instr.typeAssert (.iface 38 v) 20 38 true).run prog w=.ok (.tuple #[v,.bool true]) w:=by kernel_rfl
theorem MR (v:Value)(w:World):(Instr.typeAssert (.iface 4 v) 20 3 true).run prog w=.ok (.tuple #[int i64 0,.bool false]) w:=by kernel_rfl
theorem IN (v:Value)(w:World):(Instr.typeAssert (.iface 4 v) 20 9 true).run prog w=.ok (.tuple #[.string ⟨#[]⟩,.bool false]) w:=by kernel_rfl
theorem JX (v:Value)(w:World):(Instr.typeAssert (.iface 4 v) 20 121 true).run prog w=.ok (.tuple #[int i64 0,.bool false]) w:=by kernel_rfl
theorem MS (v:Value)(w:World):(Instr.typeAssert (.iface 4 v) 20 38 true).run prog w=.ok (.tuple #[.agg #[int i64 0,int i64 0,int i64 0],.bool false]) w:=by kernel_rfl
theorem Lc (v:Value)(w:World):(Instr.typeAssert (.iface 4 v) 20 4 true).run prog w=.ok (.tuple #[v,.bool true]) w:=by kernel_rfl
def oY (w wr:World)(ss:List ByteArray)(v:Value):Prop:=Q5 wr w.heap.size 9 1 YJ v ss/\Below w.heap.size w wr
theorem jK (b:Nat)(xs:List TV)(h0:1<=xs.length)(hl:xs.length<=1000)(w:World)(hB:∀(k:Nat) (x:TV),xs[k]?=some x->∀W,Below w.heap.size w W->W.cell? ⟨b,k,none⟩=some x.val)(hm:∀x∈xs,x.may w)
  (N:(Lib.join ((xs.map TV.str_).map (·.data.toList)) [32]).length<=140737488355328):
  Calls prog 75 #[.slice (some ⟨b,0,none⟩) xs.length xs.length] w λr w'=>r=.returned (.string (Z4 (xs.map TV.str_)))/\Below w.heap.size w w':=by
 have hmm:=@run_makeMap prog;have HB:=pp hB;have HM:=pp hm;have D:=pp (py h0 (py hl N));clear hB hm N h0 hl;go_enter func75,ntmps75;go_upto_region 3 with fail
 go_loopw [3,5,6,7,8,9,10,13] (λv _ _ _ _ _ _ i wr=>∃(k:Nat),k<=xs.length/\i=.int .i64 k/\Hid (oY w wr ((xs.map TV.str_).take k) v)) (λ_ _ _ _ _ _ _ i _=>xs.length - (intOf i).toNat)
 case atStart=>exact ⟨0,pC _,rfl,⟨Q5.nil,pI _ _⟩⟩
 case round=>
  obtain ⟨k,hk,rfl,d⟩:=hrel;by_cases h:k<xs.length
  ·obtain ⟨x,M⟩:∃x,xs[k]?=some x:=⟨_,pH h⟩;have c0:=HB.o k x M wr d.out.2;have hk0:(0:Int)<=k:=by omega
   have hk1:(k:Int)<(xs.length:Int):=by omega
   have hw:IntKind.i64.wrap ((k:Int)+1)=(k:Int)+1:=pJ _ (by have:=D.o.2.1;omega)
   have R:=pp (HM.o x (pG M));have I:(xs.map TV.str_).take (k+1)=(xs.map TV.str_).take k++[x.str_]:=by
    rw [List.take_add_one,List.getElem?_map,M];rfl
   have F:((xs.map TV.str_).take k).length<=1000000:=by rw [List.length_take,List.length_map];have:=D.o.2.1;omega
   have c:=pp (py I F);clear I F M;go_upto_region 5 with fail
   cases x with
   | int n=>
    dsimp only [TV.val] at *;have L:=P6;have X:=pp (jJ n R.o.1 wr (YP.on R.o d.out.2).2);go_wp2_with first
     | (go_at_call 115;refine X.o.mono ?_;rintro e_ w1 ⟨rfl,l⟩;replace l:=pp l)
     | (at_builtin;obtain ⟨v2,Q,hrun,f,a⟩:=EQ (W:=World.alloc w1 (.cells #[.string (Q4 (Lib.itoa n))] 9)) (s:=Q4 (Lib.itoa n)) (Q5.on (d.out.1.on l.o) (Q3 _ _)) (Q0.new' rfl) c.o.2 (pB (after d.out.2 l.o).size (Q3 _ _).size);have e:=pp (py f (BE (after d.out.2 l.o) (pA _) (Q3 _ _) |>.trans (a.mono (by simp))));clear f a;refine Lib.wpList_append_run _ rfl _ _ _ _ rfl _ _ rfl rfl _ _ hrun ?_)
    exact ⟨⟨k+1,h,by go_num,pp (by rw [c.o.1];exact e.o)⟩,by simp [intOf];omega⟩
   | str s=>
    dsimp only [TV.val] at *;have L:=JV;have T:=Gq;go_wp2_with (at_builtin;obtain ⟨v2,Q,hrun,f,a⟩:=EQ (W:=World.alloc wr (.cells #[.string (s)] 9)) (s:=s) (Q5.on d.out.1 (Q3 _ _)) (Q0.new' rfl) c.o.2 (pB (d.out.2).size (Q3 _ _).size);have e:=pp (py f (BE (d.out.2) (pA _) (Q3 _ _) |>.trans (a.mono (by simp))));clear f a;refine Lib.wpList_append_run _ rfl _ _ _ _ rfl _ _ rfl rfl _ _ hrun ?_)
    exact ⟨⟨k+1,h,by go_num,pp (by rw [c.o.1];exact e.o)⟩,by simp [intOf];omega⟩
   | ok=>
    dsimp only [TV.val] at *;have L:=La;have T:=Hz;have t3:=IM;go_wp2_with (at_builtin;obtain ⟨v2,Q,hrun,f,a⟩:=EQ (W:=World.alloc wr (.cells #[.string (⟨#[111,107]⟩)] 9)) (s:=⟨#[111,107]⟩) (Q5.on d.out.1 (Q3 _ _)) (Q0.new' rfl) c.o.2 (pB (d.out.2).size (Q3 _ _).size);have e:=pp (py f (BE (d.out.2) (pA _) (Q3 _ _) |>.trans (a.mono (by simp))));clear f a;refine Lib.wpList_append_run _ rfl _ _ _ _ rfl _ _ rfl rfl _ _ hrun ?_)
    exact ⟨⟨k+1,h,by go_num,pp (by rw [c.o.1];exact e.o)⟩,by simp [intOf];omega⟩
   | vec x y z=>
    dsimp only [TV.val] at *;have L:=P7;have T:=JW;have t3:=Lb;have t4:=P8;go_upto_region 19 with fail
    obtain ⟨V,p⟩:=pt (wr.alloc (.cells #[int i64 x,int i64 y,int i64 z] 38));obtain ⟨v0,v1,v2_,-,-,-⟩:=(Q0.fresh p).c3;have l:=pp (show pM wr V by rw [p];exact Q3 _ _)
    rw [<-p];clear p;have Y:=pp (R.o.2.2.2 (V.alloc (.cells #[.iface 3 (int i64 x),.iface 3 (int i64 y),.iface 3 (int i64 z)] 20)) V.heap.size (after (after d.out.2 l.o) (Q3 _ _)) (Q0.new' rfl));go_wp2_with first
     | (go_at_call 75;refine Y.o.mono ?_;rintro e_ U ⟨rfl,E⟩;have u:=pp (after (after l.o (Q3 _ _)) E);clear E)
     | (at_builtin;obtain ⟨v2,Q,hrun,f,a⟩:=EQ (W:=World.alloc U (.cells #[.string ((TV.vec x y z).str_)] 9)) (s:=(TV.vec x y z).str_) (Q5.on (d.out.1.on u.o) (Q3 _ _)) (Q0.new' rfl) c.o.2 (pB (after d.out.2 u.o).size (Q3 _ _).size);have e:=pp (py f (BE (after d.out.2 u.o) (pA _) (Q3 _ _) |>.trans (a.mono (by simp))));clear f a;refine Lib.wpList_append_run _ rfl _ _ _ _ rfl _ _ rfl rfl _ _ hrun ?_)
    exact ⟨⟨k+1,h,by go_num,pp (by rw [c.o.1];exact e.o)⟩,by simp [intOf];omega⟩
   | bool v=>
    dsimp only [TV.val] at *;have L:=MR;have T:=IN;have t3:=JX;have t4:=MS;have t5:=Lc;cases v
    all_goals
     go_wp2_with first
      | (refine JU rfl _ _ _ 179 rfl 4 3 .bool underlying179 underlying4 wr.heap.size [] rfl (KN wr) (.bool true) (int i64 1) rfl rfl trivial rfl ?_;intro w5 C J;have G5:=pp (show pM wr w5 from (Q3 wr (.map #[] 0)).trans (J.below (by simp) (λb hb=>by omega)));have hlk:=KM (P:=prog) (mty:=179) (k:=.bool true) (v:=.int .i64 1) (i:=0) underlying179 underlying4 trivial C rfl;have hlk0:=Rw (P:=prog) (mty:=179) (k:=.bool false) (z:=.int .i64 0) underlying179 underlying4 trivial C rfl rfl;clear C J)
      | (go_at_call 75;refine (R.o _ w5.heap.size (after (after d.out.2 G5.o) (Q3 _ _)) (Q0.new' rfl)).mono ?_;rintro e_ U ⟨rfl,E⟩;have u:=pp (after (after G5.o (Q3 _ _)) E);clear E)
      | (at_builtin;obtain ⟨v2,Q,hrun,f,a⟩:=EQ (W:=World.alloc U (.cells #[.string (TV.str_ _)] 9)) (s:=TV.str_ _) (Q5.on (d.out.1.on u.o) (Q3 _ _)) (Q0.new' rfl) c.o.2 (pB (after d.out.2 u.o).size (Q3 _ _).size);have e:=pp (py f (BE (after d.out.2 u.o) (pA _) (Q3 _ _) |>.trans (a.mono (by simp))));clear f a;refine Lib.wpList_append_run _ rfl _ _ _ _ rfl _ _ rfl rfl _ _ hrun ?_)
     exact ⟨⟨k+1,h,by go_num,pp (by rw [c.o.1];exact e.o)⟩,by simp [intOf];omega⟩
  ·obtain rfl:k=xs.length:=by omega
   have hlt':¬(xs.length:Int)<(xs.length:Int):=by omega
   have m:(xs.map TV.str_).take xs.length=xs.map TV.str_:=List.take_of_length_le (by simp)
   have O:=d.out;rw [m] at O;obtain ⟨q,cap,hv,K,-,H,t,hg⟩:=O.1.form jw;obtain ⟨g,hq⟩:=hg (by have:=D.o.1;simp;omega)
   subst hq;have B:(xs.map TV.str_).length=xs.length:=by simp
   rw [B] at hv K;have A:=Tryz.strings_Join g 0 cap (xs.map TV.str_) ⟨#[32]⟩ wr (λj x N=>by
    obtain ⟨g',o',S,h5⟩:=H (by have:=D.o.1;simp;omega)
    injection S with e1
    injection e1 with e2 e3
    have:=h5 j x N 0 _ rfl;rw [<-e2,<-e3] at this;simpa using this) (t _ rfl).2 (by have:=D.o.2.1;simp;omega) (by rw [B];exact K) D.o.2.2
   rw [B] at A;have G:=pp A;have Z:=pp O.2;subst hv;clear A m O H t hg;go_wp2_with (go_at_call 117;refine G.o.mono ?_;rintro e_ w1 ⟨rfl,l⟩;replace l:=pp l);go_returns;refine ⟨?_,after Z.o l.o⟩;show Ending.returned (.string ⟨(Lib.join (List.map ((λx=>x.data.toList) ∘ TV.str_) xs) [32]).toArray⟩)=_
   rw [<-List.map_map]
end
section
open Go.RowKit Go.Lib
attribute [local go_sem] Oper.semAt_some
abbrev WQ (B b:Nat)(bs:List Value)(w:World):Prop:=Lib.IsBuilderF 102 5 B b bs w
abbrev IOq (B b:Nat)(p:Value)(bs:List Value)(w:World):Prop:=Lib.BuilderAtF 102 5 B b p bs w
theorem eI (b:Nat)(w:World)(h0:w.cell? ⟨b,0,none⟩=some (.pointer (some ⟨b,0,none⟩))):
  Calls prog 107 #[b] w λe w'=>e=.returned (.tuple #[])/\w'=w:=by
 obtain ⟨j,a,_⟩:=Option.map_eq_some_iff.1 (show (prog.info? 102).map (·.size)=some 2 by kernel_rfl)
 go_enter func107,ntmps107;go_wp2;rw [Lib.run_neq_ptr_same w _ underlying100 a];go_wp2;go_end0;exact ⟨rfl,rfl⟩
theorem WR (b:Nat)(w:World)(h0:w.cell? ⟨b,0,none⟩=some (.pointer none))(a:w.shape? b=some (102,2))(hfz:w.frozen? ⟨b,0,none⟩=false):
  Calls prog 107 #[b] w λe w'=>e=.returned (.tuple #[])/\w'=w.setCell ⟨b,0,none⟩ (.pointer (some ⟨b,0,none⟩)):=by
 obtain ⟨j,d,c⟩:=Option.map_eq_some_iff.1 (show (prog.info? 102).map (·.size)=some 2 by kernel_rfl)
 go_enter func107,ntmps107;go_wp2;rw [Lib.run_to_unsafe w ⟨b,0,none⟩ underlying100 underlying224 d (by rw [c];decide) a (Nat.zero_lt_succ 1)]
 simp only [Result.andThen];rw [Oper.upon_value];go_wp2;rw [run_callFunc_extern func157 (by kernel_rfl) (by kernel_rfl) (by kernel_rfl) (e:=Extern.AbiNoEscape.same) (by kernel_rfl)]
 rw [Lib.run_noEscape];simp only [Result.andThen];rw [Oper.upon_value];go_wp2;rw [Lib.run_from_unsafe w ⟨b,0,none⟩ underlying224 underlying100 d a (by kernel_rfl)]
 simp only [Result.andThen];rw [Oper.upon_value];go_wp2;go_end0;exact ⟨rfl,rfl⟩
theorem WS (B b:Nat)(bs:List Value)(w:World)(h:WQ B b bs w):
  Calls prog 107 #[b] w λe w'=>e=.returned (.tuple #[])/\(IOq B b (.pointer (some ⟨b,0,none⟩)) bs w'/\Below B w w'/\Kept (λg=>g≠b) w w'/\w'.cell? ⟨b,1,none⟩=w.cell? ⟨b,1,none⟩):=by
 rcases h with h|h
 ·refine (WR b w h.cell0 h.shape h.frozen0).mono ?_;rintro e w' ⟨rfl,rfl⟩;exact ⟨rfl,h.used _,(pI B w).setCell (p:=⟨b,0,none⟩) h.1 _,(Kept.refl _ _).setCell (by simp) _,World.cell?_setCell_other _ _ _ _ (by simp)⟩
 ·refine (eI b w h.cell0).mono ?_;rintro e w' ⟨rfl,rfl⟩;exact ⟨rfl,h,pI B _,Kept.refl _ _,rfl⟩
theorem Ld (B b:Nat)(bs:List Value)(s:ByteArray)(w:World)(h:WQ B b bs w)(hlen:bs.length+s.size<=140737488355328)(hBw:B<=w.heap.size):
  Calls prog 65 #[b,.string s] w λe w'=>e=.returned (.tuple #[int i64 s.size,.nilIface])/\(IOq B b (.pointer (some ⟨b,0,none⟩)) (bs++Lib.strCells s) w'/\Below B w w'/\∀v,w.cell? ⟨b,1,none⟩=some v->Kept (λg=>g≠b/\v.ownBlock≠some g) w w'):=by
 obtain ⟨L,M,y,C,D⟩:=info_parts (show (prog.info? 5).map (λi=>(i.zero,i.size,i.bytes))=some (some (int u8 0),1,1) by kernel_rfl)
 go_enter func65,ntmps65;go_wp2_with (go_at_call 107;refine (WS B b bs _ h).mono ?_);rintro e r ⟨rfl,J,l,q,m⟩;have I:=pp (py m q);clear m q;obtain ⟨H,v,d,j,x⟩:=J;have c0:r.cell? ⟨b,0,none⟩=some (.pointer (some ⟨b,0,none⟩)):=by rw [Lib.cell_of_heap d];rfl
 have K:r.cell? ⟨b,1,none⟩=some v:=by rw [Lib.cell_of_heap d];rfl
 go_wp2_with (at_builtin;refine Lib.wpList_append_own_stringF _ rfl _ _ 51 9 rfl B 5 L underlying51 underlying9 M y C D _ _ _ rfl j s rfl ?c3 ?c4 ?c5 ?_)
 case c3=>unfold maxLen;omega
 case c4=>omega
 case c5=>have:=l.size;omega
 intro v' t c a _;have u:b<r.heap.size:=by
  rcases Nat.lt_or_ge b r.heap.size with A|A
  ·exact A
  ·simp [Array.getElem?_eq_none A] at d
 have f:t.heap[b]?=some (.cells #[b,v] 102 (0,0)):=by
  rw [a.block b u (λe=>x e.symm)]
  exact d
 have d0:t.cell? ⟨b,0,none⟩=some (.pointer (some ⟨b,0,none⟩)):=by rw [Lib.cell_of_heap f];rfl
 have d1:t.cell? ⟨b,1,none⟩=some v:=by rw [Lib.cell_of_heap f];rfl
 have f1:t.frozen? ⟨b,1,none⟩=false:=Lib.frozen_of_heap f 1;obtain ⟨G,F,cap,rfl⟩:∃G F cap,v'=.slice G F cap:=by
  rcases c.2 with ⟨E,_⟩|⟨g,cap,cur,fz,E,_⟩
  ·exact ⟨_,_,_,E⟩
  ·exact ⟨_,_,_,E⟩
 go_wp2;go_ret2;refine ⟨rfl,?_,?_,?_⟩
 ·exact Lib.BuilderAtF.put (T:=102) (e:=5) H f (bs':=bs++Lib.strCells s) (by simpa [Lib.strCells_length] using c) (by decide)
 ·exact (l.grown a (by have:=l.size;omega) (λk z=>(j.lt k z).1)).setCell (p:=⟨b,1,none⟩) H _
 ·intro v0 n;rw [<-I.o.1,K] at n;obtain rfl:=pE n;exact ((I.o.2.mono (K':=λg=>g≠b/\v.ownBlock≠some g) λg h=>h.1).grown a (λk z h=>h.2 z)).setCell (λh=>h.1 rfl) _
end
section
open Go.RowKit Go.Maps
abbrev sL (s:ByteArray):Nat:=s.data.toList.length
theorem Sa (s:ByteArray):Z4 [s]=s:=by
 unfold Z4;rw [List.map_cons,List.map_nil,Lib.join_one]
theorem Gr:∀(l:List (List UInt8)) (m:Nat),(∀x∈l,x.length<=m)->(Lib.join l [32]).length<=l.length * (m+1)
 | [],_,_=>by simp [Lib.join_nil]
 | [x],m,h=>by
  rw [Lib.join_one];have:=h x (by simp)
  simp;omega
 | x::y::l,m,h=>by
  have ih:=Gr (y::l) m λz a=>h z (List.mem_cons_of_mem _ a)
  have hx:=h x (by simp)
  have e:Lib.join (x::y::l) [32]=x++[32]++Lib.join (y::l) [32]:=by simp [Lib.join,List.intercalate,List.intersperse]
  rw [e];simp only [List.length_append,List.length_cons,List.length_nil] at *;have:(l.length+1+1) * (m+1)=(l.length+1) * (m+1)+(m+1):=Nat.succ_mul _ _;omega
theorem ER (b:Nat)(xs:List TV)(e:1<=xs.length)(c:xs.length<=1000)(w:World)(i:Q0 w b 20 (xs.map TV.val).toArray)(g:∀x∈xs,x.may w)(f:∀x∈xs,sL x.str_<=1000000):
  Calls prog 75 #[.slice (some ⟨b,0,none⟩) xs.length xs.length] w λr w'=>r=.returned (.string (Z4 (xs.map TV.str_)))/\Below w.heap.size w w':=by
 refine jK b xs e c w (λk x a W h=>?_) g ?_
 ·rw [(i.on h).cell];simp [a]
 ·have:=Gr ((xs.map TV.str_).map (·.data.toList)) 1000000 λy d=>by
   obtain ⟨z,j,rfl⟩:=List.mem_map.1 d;obtain ⟨x,a,rfl⟩:=List.mem_map.1 j;exact f x a
  rw [List.length_map,List.length_map] at this;have h2:xs.length * (1000000+1)<=1000 * (1000000+1):=Nat.mul_le_mul_right _ c;omega
theorem YC {n:Int}(h:Zc n):sL (Q4 (Lib.itoa n))<=21:=by
 have:=Lib.itoa_length_le n h.1 h.2;simpa [sL,Q4] using this
theorem Vt (b:Nat)(x:TV)(w:World)(c:Q0 w b 20 #[x.val])(a:x.may w)(d:sL x.str_<=1000000):
  Calls prog 75 #[.slice (some ⟨b,0,none⟩) 1 1] w λr w'=>r=.returned (.string x.str_)/\Below w.heap.size w w':=by
 have:=ER b [x] (by simp) (by simp) w c (by simpa using a) (by simpa using d)
 rw [show List.map TV.str_ [x]=[x.str_] from rfl,Sa] at this;exact this
theorem eJ (b:Nat)(m n:Int)(w:World)(e:Q0 w b 20 #[.iface 3 (int i64 m),.iface 3 (int i64 n)])(d:YP w m)(c:YP w n):
  Calls prog 75 #[.slice (some ⟨b,0,none⟩) 2 2] w λr w'=>r=.returned (.string (Z4 [Q4 (Lib.itoa m),Q4 (Lib.itoa n)]))/\Below w.heap.size w w':=
 ER b [.int m,.int n] (by simp) (by simp) w e (λx a=>by
  simp at a;rcases a with rfl|rfl
  ·exact d
  ·exact c) (λx a=>by
  simp at a;rcases a with rfl|rfl
  ·exact pB (YC d.1) (by decide)
  ·exact pB (YC c.1) (by decide))
theorem WT (v:Bool)(w:World):(TV.bool v).may w:=λW b _ a=>Vt b (.int (if v then 1 else 0)) W a ⟨by unfold Zc;split<;>omega,.inl (by split<;>omega)⟩ (pB (YC (by unfold Zc;split<;>omega)) (by decide)) |>.mono λr w' h=>⟨by rw [h.1];show _=Ending.returned (.string (Z4 [Q4 (Lib.itoa (if v then 1 else 0))]));rw [Sa];rfl,h.2⟩
theorem NF (d:YP w x)(c:YP w y)(e:YP w z):(TV.vec x y z).may w:=⟨d,c,e,λW b f g=>
 ER b [.int x,.int y,.int z] (by simp) (by simp) W g (λu a=>by
  simp at a;rcases a with rfl|rfl|rfl
  ·exact YP.on d f
  ·exact YP.on c f
  ·exact YP.on e f) (λu a=>by
  simp at a;rcases a with rfl|rfl|rfl
  ·exact pB (YC d.1) (by decide)
  ·exact pB (YC c.1) (by decide)
  ·exact pB (YC e.1) (by decide))⟩
theorem IP (l:List ByteArray)(m:Nat)(h:∀x∈l,sL x<=m):sL (Z4 l)<=l.length * (m+1):=by
 have:=Gr (l.map (·.data.toList)) m λy a=>by
  obtain ⟨z,b,rfl⟩:=List.mem_map.1 a;exact h z b
 rw [List.length_map] at this;simpa [sL,Z4,Q4] using this
def Fs (x y z sx sy sz:Int)(st:Bool):ByteArray:=Z4 [(TV.vec x y z).str_,(TV.vec sx sy sz).str_,(TV.bool st).str_]
theorem eK (b:Nat)(x y z e sy d:Int)(st:Bool)(w:World)(l:Q0 w b 20 #[(TV.vec x y z).val,(TV.vec e sy d).val,(TV.bool st).val])(j:YP w x)(f:YP w y)(g:YP w z)(i:YP w e)(k:YP w sy)(h:YP w d):
  Calls prog 75 #[.slice (some ⟨b,0,none⟩) 3 3] w λr w'=>r=.returned (.string (Fs x y z e sy d st))/\Below w.heap.size w w':=
 ER b [.vec x y z,.vec e sy d,.bool st] (by simp) (by simp) w l (λu c=>by
  simp at c;rcases c with rfl|rfl|rfl
  ·exact NF j f g
  ·exact NF i k h
  ·exact WT st w) (λu c=>by
  simp at c;rcases c with rfl|rfl|rfl
  ·refine pB (IP _ 21 λv a=>?_) (by simp)
   simp at a;rcases a with rfl|rfl|rfl
   ·exact YC j.1
   ·exact YC f.1
   ·exact YC g.1
  ·refine pB (IP _ 21 λv a=>?_) (by simp)
   simp at a;rcases a with rfl|rfl|rfl
   ·exact YC i.1
   ·exact YC k.1
   ·exact YC h.1
  ·refine pB (IP _ 21 λv a=>?_) (by simp)
   simp at a;rcases a with rfl
   exact YC (by unfold Zc;split<;>omega))
end
section
open Go.RowKit
attribute [local go_sem] Oper.semAt_some
theorem eL (n:Nat)(h:¬n<10):Q4 (Lib.decDigits n)=Q4 (Lib.decDigits (n / 10))++Q4 [UInt8.ofNat (48+n%10)]:=by
 have e:Lib.decDigits n=Lib.decDigits (n / 10)++[UInt8.ofNat (48+n%10)]:=by
  conv=>lhs;rw [Lib.decDigits,dif_neg h]
 rw [e];generalize Lib.decDigits (n / 10)=a;apply ByteArray.ext;simp
theorem Le (d:Nat)(hd:d<10)(w:World):(convert 51 9 (.slice (some ⟨w.heap.size,0,none⟩) 1 1)).run prog (w.alloc (.cells #[int u8 (48+(d:Int))] 5))=.ok (.string (Q4 [UInt8.ofNat (48+d)])) (w.alloc (.cells #[int u8 (48+(d:Int))] 5)):=
 run_convert_bytes_back (P:=prog) (w.alloc (.cells #[int u8 (48+(d:Int))] 5)) 51 9 5 ⟨w.heap.size,0,none⟩ 1 [UInt8.ofNat (48+d)] underlying51 underlying5 underlying9 λj hj=>by
  obtain rfl:j=0:=by simpa using hj
  have a:Q0 (w.alloc (.cells #[int u8 (48+(d:Int))] 5)) w.heap.size 5 #[int u8 (48+(d:Int))]:=Q0.new' rfl;have e:(([UInt8.ofNat (48+d)][0]'hj).toNat:Int)=48+(d:Int):=by
   simp only [List.getElem_cons_zero];rw [UInt8.toNat_ofNat_of_lt' (by unfold UInt8.size;omega)]
   omega
  rw [e];exact a.cell 0
theorem IQ (x y:ByteArray)(h:x.size+y.size<=1000000)(w:World):(binOp .add 9 (.string x) (.string y)).run prog w=.ok (.string (x++y)) w:=by
 simp [binOp,Op.stringOp];omega
theorem I0 (n:Nat)(h:n<100000000):(Q4 (Lib.decDigits n)).size<=21:=by
 have a:=Lib.itoa_length_le (n:Int) (by omega) (by omega)
 rw [show Lib.itoa (n:Int)=Lib.decDigits n by unfold Lib.itoa;rw [if_neg (by omega)];rfl] at a
 simpa [ByteArray.size] using a
theorem cL:∀(k n:Nat),n<k->n<100000000->∀w:World,Calls prog 10 #[int i64 n] w λr w'=>r=.returned (.string (Q4 (Lib.decDigits n)))/\Below w.heap.size w w':=by
 intro k;induction k with
 | zero=>intro n j _ w;omega
 | succ k m=>
  intro n j q w;have i:n%10<10:=Nat.mod_lt _ (by decide)
  have d:=Le (n%10) i w
  have a:((n%10:Nat):Int)=(n:Int)%10:=by omega
  rw [a] at d;have n1:¬(n:Int)%10<0:=by omega
  have n2: -10<(n:Int):=by omega
  by_cases h:n<10
  ·have s:(n:Int)<10:=by omega
   have n4:¬(n:Int)<0:=by omega
   have f:n%10=n:=by omega
   obtain ⟨bd,b⟩:=pt (UInt8.ofNat (48+n%10));rw [<-b] at d;have u:=pp (show Lib.decDigits n=[bd] by rw [b,f];exact Lib.decDigits_one h)
   clear m a i f h b j q;go_enter func10,ntmps10;go_wp2_with fail;go_returns;exact ⟨by rw [u.o];rfl,Q3 _ _⟩
  ·have s:¬(n:Int)<10:=by omega
   have g:=λW=>m (n / 10) (by omega) (by omega) W
   obtain ⟨bd,b⟩:=pt (UInt8.ofNat (48+n%10));have c:=eL n h;rw [<-b] at d c;have e:=I0 (n / 10) (by omega)
   generalize Q4 (Lib.decDigits (n / 10))=t0 at g c e;have hcat:=IQ t0 (Q4 [bd]) (by have:(Q4 [bd]).size=1:=rfl;omega)
   have hs1:(t0.size:Int)+((Q4 [bd]).size:Int)<=9223372036854775807:=by have:(Q4 [bd]).size=1:=rfl;omega
   have hs2:(t0.size:Int)+1<=9223372036854775807:=by omega
   clear e;have p:((n / 10:Nat):Int)=(n:Int) / 10:=by omega
   have hwq:wrap64 ((n:Int) / 10)=(n:Int) / 10:=by unfold wrap64;omega
   rw [p] at g;have t:=pp g;generalize Q4 (Lib.decDigits n)=t1 at c ⊢;subst c;clear g;clear m a i h p b j q;go_enter func10,ntmps10;go_wp2_with (go_at_call 10;refine (t.o _).mono ?_;rintro e_ w1 ⟨rfl,l⟩;replace l:=pp l);go_returns;exact ⟨rfl,after (Q3 _ _) l.o⟩
end
end Go.Proofs.YtmbccnioijokfaaGreatDoor