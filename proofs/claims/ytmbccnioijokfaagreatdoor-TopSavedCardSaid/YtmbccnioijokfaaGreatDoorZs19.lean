/- A part of the proof. -/
import Derived.Test.YtmbccnioijokfaaGreatDoorZs12
import Derived.Test.YtmbccnioijokfaaGreatDoorZs15
namespace Go.Proofs.YtmbccnioijokfaaGreatDoor
set_option maxRecDepth 100000
set_option maxHeartbeats 32000000
open Go.Value (int)
open Go.IntKind (i64 u8)
open Go.Proofs.Tryz
variable {M:Nat -> Prop}{d k i m j B s N r t:Nat}{S S':DS}{w0 wr w1 W:World}{R:List Rn}{frm tu lo hi x:Int}{F G:Nat -> B8}{cs:Array Value}
section
open Go.RowKit
attribute [local go_sem] Oper.semAt_some
section
variable {w w':World}{base g n cap size:Nat}{e:TypeId}{α:Type}{enc:α->List Value}{v:Value}{xs xs':List α}
theorem Q5.store (h:Q5 w base e size enc v xs)(d:v=.slice (some ⟨g,0,none⟩) n cap)(k:Nat)(u:Value)(q:k<xs.length * size)(b:xs'.length=xs.length)(c:xs'.flatMap enc=(xs.flatMap enc).set k u):
  Q5 (w.setCell ⟨g,k,none⟩ u) base e size enc v xs':=by
 have s:=h.1;refine ⟨by rw [c,List.length_set,s,b],?_⟩
 rcases h.2 with ⟨a,i⟩|⟨x,cap',cur,a,l,o,hc,p,m,ht⟩
 ·rw [i] at q;omega
 ·rw [d] at a;obtain ⟨f,j,r⟩:=Value.slice.inj a;obtain rfl:g=x:=by simpa using f
  subst r;refine .inr ⟨g,cap,cur.setIfInBounds k u,by rw [d,j,b],l,?_,by omega,p,by rw [Array.size_setIfInBounds];exact m,?_⟩
  ·have t:Q0 w g e cur:=o;exact t.set_ k u
  ·rw [b,c,<-ht];rw [Array.toList_setIfInBounds,List.take_set]
theorem XQ {row:Option Nat}(h:w.grownBy w' row):Kept (λb=>row≠some b) w w':=⟨h.os,h.tape,h.output,h.size,λb c a=>h.block b c (Ne.symm a)⟩
end
theorem DJ:∀l:List Rn,(l.flatMap Xd).length=l.length * 2
 | []=>rfl
 | x::l=>by rw [List.flatMap_cons,List.length_append,DJ l];simp;omega
theorem RK (l:List Rn)(x:Rn)(m:Int):(l++[(m,x.2)]).flatMap Xd=((l++[x]).flatMap Xd).set (l.length * 2) (int i64 m):=by
 rw [List.flatMap_append,List.flatMap_append,List.set_append_right _ _ (by rw [DJ];omega),DJ,Nat.sub_self]
 rfl
def Kh (w:World)(base:Nat)(row:Option Nat)(xs:List Rn)(r:Ending)(w':World):Prop:=
 ∃v',r=.returned v'/\Q5 w' base 235 2 Xd v' xs/\Kept (λb=>row≠some b) w w'
theorem Fo (w:World)(base:Nat)(v:Value)(xs:List Rn)(r:Rn)(U:Q5 w base 235 2 Xd v xs)(T:∀x∈xs,1<=x.1)(hb:Qh xs<=1000000)(hr:0<=r.1/\r.1<=1000000)(c:base<=w.heap.size)(J:xs.length<=1000000):
  Calls prog 221 #[v,.agg #[int i64 r.1,int i64 r.2]] w λe w'=>Kh w base v.ownBlock (XP xs r) e w':=by
 obtain ⟨W,C⟩:=pt (w.alloc (.cells #[int i64 r.1,int i64 r.2] 235));have H:Below w.heap.size w W:=by rw [C];go_grown
 have X:Q0 W w.heap.size 235 #[int i64 r.1,int i64 r.2]:=by rw [C];exact Q0.new' rfl
 have B:=U.on H;have hs:W.heap.size=w.heap.size+1:=by rw [C];simp
 obtain ⟨q,cap,S,ac,ad,s,N,G⟩:=U.form Bj;have HO:=pp B;have HB:=pp (py c hs);have HH:=pp H;have HN:=pp T;obtain ⟨x0,x1,-,-⟩:=X.pair;have I:(xs.length:Int)<=1000000:=by omega
 unfold XP;by_cases V:r.1<1
 ·rw [if_pos V];clear B c hs U X H s N G T hb;subst S;go_enter func221,ntmps221;go_upto_region 1 with fail
  rw [<-C];clear C;go_wp2_with fail;go_returns;exact ⟨_,rfl,HO.o,(Kept.of_below HH.o).mono (λ_ _=>trivial)⟩
 ·rw [if_neg V];have hr1':1<=r.1:=by omega
  have y:∀(W1:World) (b:Nat),Below W.heap.size W W1->(∀j u,(Xd r)[j]?=some u->W1.cell? ⟨b,j,none⟩=some u)->∃v' w',(Builtin.append_ #[184,184] 184 #[v,.slice (some ⟨b,0,none⟩) 1 1]).run prog W1=.ok v' w'/\Kh w base v.ownBlock (xs++[r]) (.returned v') w':=λW1 b O hx=>by
   obtain ⟨v',w',L,h4,h5,h6,-⟩:=V0 (P:=prog) (w:=W1) (base:=base) (e:=235) (size:=2) (enc:=Xd) (v:=v) (xs:=xs) (ts:=184) (ty:=184) (z:=.agg #[int i64 0,int i64 0]) (bytes:=16) (b:=b) (x:=r) underlying184 (by kernel_rfl) rfl (by decide) (by decide) rfl (by intro u R;simp at R;rcases R with rfl|rfl<;>rfl) (HO.o.on O) hx (by omega) (by have:=O.size;have:=HB.o;omega)
   exact ⟨v',w',L,v',rfl,h4,((Kept.of_below (after HH.o O)).mono (λ_ _=>trivial)).trans (XQ h5)⟩
  have aa:=pp y;clear y;cases hl:xs.getLast? with
  | none=>
   obtain rfl:xs=[]:=by simpa using hl
   dsimp only;clear B c hs U H s N G T hb hl ac ad J I;subst S;go_enter func221,ntmps221;go_upto_region 1 with fail
   rw [<-C];clear C;go_upto_region 4 with fail
   refine wp_region_quiet_below (by kernel_rfl) (by kernel_rfl) ?_
   repeat (go_big_quiet_step (fail))
   refine wpQuiet_nil ?_;intro w' A;obtain ⟨E,rfl⟩:=A;go_upto_region 7 with fail
   obtain ⟨l,a⟩:=pt (Go.Sort.grow (redrawn W E.d) E.os);have f:Below W.heap.size W l:=by rw [a];exact pK _ _ _
   rw [<-a];clear a x0 x1;obtain ⟨D,y1,-,-⟩:=(X.on f).pair;obtain ⟨v',w',hrun,Y⟩:=aa.o (l.alloc (.cells #[int i64 r.1,int i64 r.2] 235)) l.heap.size (f.alloc f.size _) (λj u R=>by
    rw [(Q0.new l 235 _).cell j];simpa using R)
   have HP:=pp Y;clear Y f X;go_wp2_with (at_builtin;refine Lib.wpList_append_run _ rfl _ _ _ _ rfl _ _ rfl rfl _ _ hrun ?_);go_returns;exact HP.o
  | some x=>
   dsimp only;obtain ⟨ys,i⟩:∃ys,xs=ys++[x]:=⟨_,Bd hl⟩;obtain ⟨m,hm⟩:=pt ys.length;have Q:xs.length=m+1:=by rw [i,List.length_append,hm];rfl
   have F:xs[m]?=some x:=by rw [i,hm];simp
   obtain ⟨g,hg⟩:=G (by omega)
   subst hg;have D:W.cell? ⟨g,m * 2,none⟩=some (int i64 x.1):=by have:=(s.on H).at F (j:=0) (u:=.int .i64 x.1) rfl;simpa using this
   have y1:W.cell? ⟨g,m * 2+1,none⟩=some (int i64 x.2):=by have:=(s.on H).at F (j:=1) (u:=.int .i64 x.2) rfl;simpa using this
   have af:W.frozen? ⟨g,m * 2,none⟩=false:=by
    rcases B.2 with ⟨O,f⟩|⟨g',cap',cur,O,-,f,-⟩
    ·omega
    ·rw [S] at O;obtain ⟨L,-,-⟩:=Value.slice.inj O;obtain rfl:g=g':=by simpa using L
     exact Q0.frz (w:=W) (t:=235) (cs:=cur) f _
   have ah:=T x (pG F);have M:x.1+Qh ys=Qh xs:=by rw [i];unfold Qh;rw [List.map_append,List.sum_append];simp;omega
   have aj:0<=Qh ys:=by rw [Ze (λr hr=>by have:=T r (by rw [i];exact List.mem_append_left _ hr);omega)];omega
   have AY:x.1<=1000000:=by omega
   have hmm:(0:Int)<=m:=by omega
   have hmc:(m:Int)<=1000000:=by omega
   have ae:xs.dropLast=ys:=by rw [i];simp
   have ab:=pp i;have HM:=pp hm;have ai:=pp Q;rw [ae];have HV:=pp S;rw [Q] at S;have hml:(m:Int)<(m:Int)+1:=by omega
   clear B c hs U s N G T hb hl ac ad J I i hm Q F M aj ae;subst S;by_cases k:x.2=r.2
   ·rw [if_pos k];have M:(x.2==r.2)=true:=by simpa using k
    have HXR:=pp k;clear k;have z0:=λd os=>cell_regrown D d os
    have z1:=λd os=>cell_regrown y1 d os
    obtain ⟨w0,Z⟩:=X.rep;go_enter func221,ntmps221;go_upto_region 1 with fail
    rw [<-C];clear C;go_upto_region 4 with fail
    refine wp_region_quiet_below (by kernel_rfl) (by kernel_rfl) ?_
    repeat (go_big_quiet_step (fail))
    refine wpQuiet_nil ?_;intro w' A;obtain ⟨E,rfl⟩:=A;go_upto_region 5 with fail
    obtain ⟨l,a⟩:=pt (Go.Sort.grow (redrawn W E.d) E.os);have f:Below W.heap.size W l:=by rw [a];exact pK _ _ _
    rw [<-a];clear a z0 z1 w0 Z E;have z0:=λd os=>cell_regrown ((f.cell (p:=⟨g,m * 2,none⟩) (QN D)).trans D) d os
    obtain ⟨w0,Z⟩:=(X.on f).rep;refine Qk [0,0,0,0,0,0,0,0,3,3,3] (λ_ _ _=>True) (by kernel_rfl) (by kernel_rfl) (λ_ _ _ _ h _=>h) ?_
    repeat (first|(refine Qi ?_)|(refine Qf (λK hK=>?_);go_simp;refine hK _ ?_;clear hK K))
    refine Q8 ?_;repeat (refine Q2 ?_)
    refine Qc ?_;simp only [Qd];intro W3 h4 _;have L:Below W.heap.size W W3:=after f h4;clear z0 w0 Z h4;have u0:=(L.cell (p:=⟨g,m * 2,none⟩) (QN D)).trans D;have uf:=(L.frozen (p:=⟨g,m * 2,none⟩) (QN D)).trans af;have HC:=pp L;clear f L;go_wp2_with fail;go_returns;have ag:=HO.o.on HC.o;refine ⟨_,rfl,ag.store (n:=m+1) (xs':=ys++[(x.1+r.1,x.2)]) rfl (m * 2) _ (by rw [ai.o];omega) (by rw [ab.o];simp) ?_,?_⟩
    ·rw [ab.o,HM.o];exact RK ys x _
    ·refine (((Kept.of_below (after HH.o HC.o)).mono (λ_ _=>trivial)).setCell (p:=⟨g,m * 2,none⟩) ?_ _)
     exact λh=>h rfl
   ·rw [if_neg k];have M:(x.2==r.2)=false:=by simpa using k
    have z0:=λd os=>cell_regrown D d os
    have z1:=λd os=>cell_regrown y1 d os
    obtain ⟨w0,Z⟩:=X.rep;clear k D y1 af ah;go_enter func221,ntmps221;go_upto_region 1 with fail
    rw [<-C];clear C;go_upto_region 4 with fail
    refine wp_region_quiet_below (by kernel_rfl) (by kernel_rfl) ?_
    repeat (go_big_quiet_step (fail))
    refine wpQuiet_nil ?_;intro w' A;obtain ⟨E,rfl⟩:=A;go_upto_region 7 with fail
    obtain ⟨l,a⟩:=pt (Go.Sort.grow (redrawn W E.d) E.os);have f:Below W.heap.size W l:=by rw [a];exact pK _ _ _
    rw [<-a];clear a z0 z1 w0 Z x0 x1;obtain ⟨D,y1,-,-⟩:=(X.on f).pair;obtain ⟨v',w',hrun,Y⟩:=aa.o (l.alloc (.cells #[int i64 r.1,int i64 r.2] 235)) l.heap.size (f.alloc f.size _) (λj u R=>by
     rw [(Q0.new l 235 _).cell j];simpa using R)
    have HP:=pp Y;clear Y f X;go_wp2_with (at_builtin;refine Lib.wpList_append_run _ rfl _ _ _ _ rfl _ _ rfl rfl _ _ hrun ?_);go_returns;exact HP.o
end
section
open Go.RowKit Go.Maps
attribute [local go_sem] Oper.semAt_some
theorem Hp (b:Bs):Zx (λi=>b.getD i 0) b.length=b:=by
 apply List.ext_getElem?;intro i;by_cases h:i<b.length
 ·rw [VW h];simp [h]
 ·rw [List.getElem?_eq_none (by rw [VK];omega),List.getElem?_eq_none (by omega)]
theorem Yw.out {w w':World}{base:Nat}(h:Yw w base M d S' w')(e:Yd w base M d S)(b:base<=w.heap.size):Below base w w'/\base<=w'.heap.size/\∃M',Yd w' base M' d S':=by
 have a:=h.below e b;obtain ⟨M',c,-,-⟩:=h;exact ⟨a,pB b a.size,M',c⟩
theorem Q3 (w:World)(o:Obj):Below w.heap.size w (w.alloc o):=(pI _ _).alloc (pA _) o
theorem Hq {n:Nat}{w:World}(h:n<=w.heap.size)(o:Obj):Below n w (w.alloc o):=(pI _ _).alloc h o
theorem GoodS.drop {w:World}{base g o n c:Nat}(h:GoodS w base (some ⟨g,o,none⟩,n,c))(hk:k<=n)(q:Option Addr)(j:k<n->q=some ⟨g,o+k,none⟩):GoodS w base (q,n - k,c - k)/\QW w (q,n - k,c - k)=(QW w (some ⟨g,o,none⟩,n,c)).drop k:=by
 have hcap:n<=c:=h.cap;have hmost:c<=maxLen:=h.most;by_cases e:k<n
 ·obtain ⟨r,p,F,d,l,m⟩:=h.lies (show 0<n by omega)
  obtain ⟨rfl,rfl⟩:g=r/\o=p:=by simpa using d
  have a:Vy w g (o+k) (n - k) (λi=>F (k+i)):=λi f=>by
   have:=l (k+i) (show k+i<n by omega)
   rwa [<-Nat.add_assoc] at this
  refine ⟨⟨show n - k<=c - k by omega,show c - k<=maxLen by omega,λ_=>⟨g,o+k,_,j e,a,m⟩⟩,?_⟩
  have b:Vy w g o n F:=l;rw [j e,Ub a,Ub b];apply List.ext_getElem?;intro i;rw [List.getElem?_drop];by_cases f:i<n - k
  ·rw [VW f,VW (by omega)]
  ·rw [List.getElem?_eq_none (by rw [VK];omega),List.getElem?_eq_none (by rw [VK];omega)]
 ·obtain rfl:k=n:=by omega
  rw [Nat.sub_self];refine ⟨⟨pC _,show c - k<=maxLen by omega,λh=>absurd h (Nat.lt_irrefl 0)⟩,?_⟩
  rw [VL,List.drop_eq_nil_of_le (by rw [h.len];exact pA _)]
end
section
open Go.RowKit
attribute [local go_sem] Oper.semAt_some
def DK (w:World)(xs:List Rn)(r:Ending)(w':World):Prop:=∃v,r=.returned v/\Q5 w' w.heap.size 235 2 Xd v xs/\Below w.heap.size w w'
theorem Kh.below {w w':World}{base:Nat}{e:TypeId}{v:Value}{xs ys:List Rn}{r:Ending}(h:Kh w base v.ownBlock ys r w')(c:Q5 w base e 2 Xd v xs)(i:Below base w0 w)(f:base<=w.heap.size):∃v',r=.returned v'/\Q5 w' base 235 2 Xd v' ys/\Below base w0 w':=by
 obtain ⟨v',d,a,g⟩:=h;refine ⟨v',d,a,i.trans (g.below f λb hb' e=>?_)⟩
 have:=(c.block b e).1;omega
theorem RM (n b:Int)(f:0<=n/\n<=1000000)(w:World):Calls prog 361 #[n,b] w λr w'=>DK w (XP [] (n,b)) r w':=by
 have d:=pp (Fo w w.heap.size (.slice none 0 0) [] (n,b) Q5.nil D5 (by decide) f (pA _) (by decide))
 go_enter func361,ntmps361;go_wp2_with (go_at_call 221;refine d.o.mono ?_;intro r w1 h;obtain ⟨v',rfl,a,c⟩:=h.below (w0:=w) (e:=235) (xs:=[]) Q5.nil (pI _ _) (pA _));go_returns;exact ⟨_,rfl,a,c⟩
theorem Wj (cs:List Int)(k:Nat)(c:k<=cs.length):Qh (Yn (cs.take k))=k/\∀x∈Yn (cs.take k),1<=x.1:=by
 constructor
 ·unfold Yn;rw [Ax _ (λr e=>by obtain ⟨a,-,rfl⟩:=List.mem_map.1 e;show (0:Int)<=1;decide)]
  have:∀l:List Int,Qh (l.map λb=>((1:Int),b))=l.length:=λl=>by
   induction l with
   | nil=>rfl
   | cons a l d=>unfold Qh at *;rw [List.map_cons,List.map_cons,List.sum_cons,d,List.length_cons];omega
  rw [this,List.length_take,Nat.min_eq_left c];simp [Qh]
 ·exact Dp D5 _
theorem Wk {cs:List Int}{c:Int}(h:cs[k]?=some c):Yn (cs.take (k+1))=XP (Yn (cs.take k)) (1,c):=by
 unfold Yn;rw [Uv h,List.map_append];exact FQ _ _ _
theorem el (w:World)(q:Option Addr)(c:Nat)(cs:List Int)(u:Rd w q 1 OH cs)(v:cs.length<=1000000):
  Calls prog 171 #[.slice q cs.length c] w λr w'=>DK w (Yn cs) r w':=by
 have C:=pp u;have B:=pp (show cs.length<=maxLen by unfold maxLen;omega)
 have G:=pp (Wj cs);have E:=pp v;clear u v;go_enter func171,ntmps171;go_upto_region 3 with fail
 go_loopw [3,8] (λx i wr=>∃k:Nat,k<=cs.length/\i=.int .i64 k/\Hid (Q5 wr w.heap.size 235 2 Xd x (Yn (cs.take k)))/\Hid (pM w wr)) (λ_ i _=>cs.length - (intOf i).toNat)
 case atStart=>exact ⟨0,pC _,rfl,Q5.nil,pI _ _⟩
 case round=>
  obtain ⟨k,A,rfl,e,a⟩:=hrel;by_cases b:k<cs.length
  ·obtain ⟨p,j⟩:=V9 b;obtain ⟨g,o,rfl,s⟩:=C.o.on a.out (by omega)
   have r0:wr.cell? ⟨g,o+k,none⟩=some (int i64 p):=by have:=s k p j 0 _ rfl;simpa using this
   obtain ⟨n2,n3,n5,n6⟩:=Uf b B.o;have l:=G.o k A;have f:=XD l.2;have m:=E.o;have y:=pp (Fo wr w.heap.size _ _ (1,p) e.out l.2 (by omega) (by dsimp only;omega) a.out.size (by omega))
   rw [<-Wk j] at y;clear j s l f m;go_wp2_with (go_at_call 221;refine y.o.mono ?_;intro r w1 h;obtain ⟨v',rfl,n,t⟩:=h.below e.out a.out a.out.size;have F:=pp n;have z:=pp t;clear n t h);exact ⟨⟨k+1,b,by go_num,F,z⟩,by simp [intOf];omega⟩
  ·obtain rfl:k=cs.length:=by omega
   have d:=e.out;rw [List.take_length] at d;have D:=pp d;have hk1:¬((cs.length:Int)<(cs.length:Int)):=by omega
   clear d e;go_wp2_with fail;go_returns;exact ⟨_,rfl,D.o,a.out⟩
structure CutI (w wr:World)(R:List Rn)(frm tu:Int)(k:Nat)(v:Value)(out:List Rn):Prop where
 own:Q5 wr w.heap.size 235 2 Xd v out
 eq:Zf (R.drop k) frm tu (Qh (R.take k)) out=Zf R frm tu 0 []
 pos:∀x∈out,1<=x.1
 len:Qh out<=Qh (R.take k)
 bel:Below w.heap.size w wr
theorem RN (r:Rn)(l:List Rn)(a c at_:Int)(b:List Rn):Zf (r::l) a c at_ b=Zf l a c (at_+r.1) (if max a at_<min c (at_+r.1) then XP b (min c (at_+r.1) - max a at_,r.2) else b):=rfl
theorem Wl {w:World}{v:Value}{b a:List Rn}{p:Rn}(h:CutI w wr R frm tu k v b)(e:R[k]?=some p)(c:lo=Xv frm (Qh (R.take k)))(d:hi=Xj tu (Qh (R.take k)+p.1))(i:a=if lo<hi then XP b (hi - lo,p.2) else b):
  Zf (R.drop (k+1)) frm tu (Qh (R.take (k+1))) a=Zf R frm tu 0 []:=by
 have g:R.drop k=p::R.drop (k+1):=List.drop_eq_getElem?_toList_append .. |>.trans (by rw [e];rfl)
 have f:=h.eq;rw [g,RN] at f;rw [<-f,ZH e,i,c,d];rfl
theorem Wm (w:World)(q:Option Addr)(c:Nat)(R:List Rn)(a j:Int)(hR:Rd w q 2 Xd R)(O:∀r∈R,1<=r.1)(hm:Qh R<=1000000)(hf:0<=a/\a<=1000000)(ht:0<=j/\j<=1000000):
  Calls prog 360 #[.slice q R.length c,a,j] w λr w'=>DK w (Zf R a j 0 []) r w':=by
 have I:∀r∈R,0<=r.1:=λr hr=>by have:=O r hr;omega
 have E:=XD O;have HR:=pp hR;have HC:=pp (show R.length<=maxLen by unfold maxLen;omega)
 have HT:=pp (ZG I);have HN:=pp O;have Y:=@YY prog;have Q:=@ZC prog;clear hR O I E;go_enter func360,ntmps360;go_upto_region 4 with fail
 go_loopw [7,8,15] (λv x i wr=>∃(k:Nat) (out:List Rn),k<=R.length/\i=.int .i64 k/\x=.int .i64 (Qh (R.take k))/\Hid (CutI w wr R a j k v out)) (λ_ _ i _=>R.length - (intOf i).toNat)
 case atStart=>exact ⟨0,[],pC _,rfl,rfl,⟨Q5.nil,rfl,D5,by simp [Qh],pI _ _⟩⟩
 case round=>
  obtain ⟨k,out,hk,rfl,rfl,d⟩:=hrel;by_cases u:k<R.length
  ·obtain ⟨p,C⟩:=V9 u;obtain ⟨g,o,rfl,W⟩:=HR.o.on d.out.bel (by omega)
   have r0:wr.cell? ⟨g,o+k * 2,none⟩=some (int i64 p.1):=W k p C 0 _ rfl;have r1:wr.cell? ⟨g,o+k * 2+1,none⟩=some (int i64 p.2):=W k p C 1 _ rfl;have y:=ZH C;have hp0:=HN.o p (pG C);have Z:=HT.o (k+1);have hb0:=HT.o k;rw [y] at Z;obtain ⟨n2,n3,n5,n6⟩:=Uf u HC.o;have z:=d.out.len;have J:=XD d.out.pos;have G:∀v' f t,Q5 t w.heap.size 235 2 Xd v' f->f=(if Xv a (Qh (R.take k))<Xj j (Qh (R.take k)+p.1) then XP out (Xj j (Qh (R.take k)+p.1) - Xv a (Qh (R.take k)),p.2) else out)->pM w t->CutI w t R a j (k+1) v' f:=λv' f t ho B P=>by
    refine ⟨ho,Wl d.out C rfl rfl B,?_,?_,P⟩
    ·rw [B];split
     ·exact EB d.out.pos _
     ·exact d.out.pos
    ·rw [B,y];split
     ·rw [Jl _ (by dsimp only;omega)]
      dsimp only;unfold Xj Xv;omega
     ·omega
   have HX:=pp G;have L:=pp y;clear G C y W;generalize Qh (R.take k)=s at *;have hlo:0<=Xv a s/\Xv a s<=1000000:=by unfold Xv;omega
   have hhi:0<=Xj j (s+p.1)/\Xj j (s+p.1)<=1000000:=by unfold Xj;omega
   have hdf:Xj j (s+p.1) - Xv a s<=p.1:=by unfold Xj Xv;omega
   have S:IntKind.i64.wrap (s+p.1)=s+p.1:=pJ _ (by omega)
   obtain ⟨W1,n⟩:=pt (wr.alloc (.cells #[int i64 p.1,int i64 p.2] 235));have H1:pM wr W1:=by rw [n];exact Q3 _ _
   have X:Q0 W1 wr.heap.size 235 #[int i64 p.1,int i64 p.2]:=by rw [n];exact Q0.new' rfl
   go_upto_region 6 with fail
   rw [<-n];clear n r0 r1;obtain ⟨y0,y1⟩:=X.rep;refine Qk [0,0,0,0,0,0,0,0,0,0,0] (λ_ _ _=>True) (by kernel_rfl) (by kernel_rfl) (λ_ _ _ _ h _=>h) ?_
   repeat (first|(refine Qi ?_)|(refine Qf (λK hK=>?_);go_simp;refine hK _ ?_;clear hK K))
   refine Q8 ?_;repeat (refine Q2 ?_)
   refine Qc ?_;simp only [Qd];intro W2 A _;have l:=pp (after H1 A);have N:=X.on A;clear y0 y1 X H1 A S;generalize M:Xv a s=lo at *;generalize F:Xj j (s+p.1)=hi at *;clear M F Y Q;have m:=d.out.own.on l.o;obtain ⟨y0,y1,-,-⟩:=N.pair;by_cases H:lo<hi
   ·have HP:=pp (Fo W2 w.heap.size _ out (hi - lo,p.2) m d.out.pos (by omega) (by dsimp only;omega) (pB d.out.bel.size l.o.size) (by omega))
    have V:=pp N;have HON:=pp m;have D:=pp d.out.own.block;clear N m z J;go_upto_region 9 with (go_at_call 221;refine HP.o.mono ?_;intro r w1 h;obtain ⟨v',rfl,A,T⟩:=h;have z0:=(T.blk (λe=>Nat.lt_irrefl _ (D.o _ e).2) V.o).cell 0;have H2:=pp A;have H3:=pp T;clear A T)
    have hB:pM w w1:=(after d.out.bel l.o).trans (H3.o.below (pB d.out.bel.size l.o.size) λb Z e=>by have:=(D.o b e).1;omega)
    have U:=pp (HX.o v' _ w1 H2.o (by rw [if_pos H]) hB)
    clear hB;go_wp2_with fail;exact ⟨⟨k+1,_,u,by go_num,by rw [L.o],U⟩,by simp [intOf];omega⟩
   ·have U:=pp (HX.o _ out W2 m (by rw [if_neg H]) (after d.out.bel l.o))
    clear N m z J;go_wp2_with fail;exact ⟨⟨k+1,_,u,by go_num,by rw [L.o],U⟩,by simp [intOf];omega⟩
  ·obtain rfl:k=R.length:=by omega
   have B:=d.out.eq;rw [List.drop_length] at B;obtain rfl:out=Zf R a j 0 []:=B;have hk1:¬((R.length:Int)<(R.length:Int)):=by omega
   go_wp2_with fail;go_returns;exact ⟨_,rfl,d.out.own,d.out.bel⟩
end
section
open Go.RowKit
theorem QF (x:Int):n8 (BitVec.ofInt 8 x)=x%256:=by
 unfold n8;rw [BitVec.toNat_ofInt];omega
def XH (n:Int)(many:Nat)(i:Nat):B8:=BitVec.ofInt 8 (n / 256 ^ (many - 1 - i))
def Qn (F:Nat->B8)(k:Nat):Nat->Int
 | 0=>0
 | n+1=>Qn F k n * 256+n8 (F (k+n))
theorem Un {F G:Nat->B8}{k j:Nat} :∀{n:Nat},(∀i,i<n->F (k+i)=G (j+i))->Qn F k n=Qn G j n
 | 0,_=>rfl
 | n+1,h=>by
  unfold Qn;rw [Un (λi hi=>h i (by omega)),h n (by omega)]
theorem Hr (F:Nat->B8)(k:Nat):∀n,0<=Qn F k n
 | 0=>Int.le_refl _
 | n+1=>by
  have h1:=Hr F k n;have h2:=ZF (F (k+n));unfold Qn;omega
theorem o8 (F:Nat->B8)(k:Nat):Qn F k 3<16777216:=by
 have h0:=ZF (F (k+0));have h1:=ZF (F (k+1));have h2:=ZF (F (k+2));simp only [Qn];omega
theorem oa (F:Nat->B8)(k:Nat):Qn F k 4<4294967296:=by
 have h0:=ZF (F (k+0));have h1:=ZF (F (k+1));have h2:=ZF (F (k+2));have h3:=ZF (F (k+3));simp only [Qn];omega
theorem Wn {n:Int}(h0:0<=n)(h1:n<4294967296):Qn (XH n 4) 0 4=n:=by
 simp only [Qn,XH,QF,Nat.zero_add,Nat.add_zero,Nat.reduceSub,Int.reducePow];omega
theorem Wo {n:Int}(h0:0<=n)(h1:n<16777216):Qn (XH n 3) 0 3=n:=by
 simp only [Qn,XH,QF,Nat.zero_add,Nat.add_zero,Nat.reduceSub,Int.reducePow];omega
abbrev fb (b:Bs):Nat->B8:=λi=>b.getD i 0
theorem ml (F:Nat->B8){n:Nat}(h:i<n):fb (Zx F n) i=F i:=by
 unfold fb;rw [List.getD_eq_getElem?_getD,VW h];rfl
theorem Wp {n:Nat}(h:∀i,i<n->F i=G i):Um F n=Um G n:=EA _ _ _ n h
theorem Wq {n:Nat}(h:∀i,i<n->F i=G i):Ac F n↔Ac G n:=by
 unfold Ac;rw [Wp h]
def DL (v n:Int):Nat->B8:=XZ (XH v 4) 4 (XH n 3)
def CR (v:Int)(F:Nat->B8)(n:Nat):Nat->B8:=VM (XZ (DL v n) 7 F) (7+n)
def Vc (v:Int)(b:Bs):Bs:=Zx (CR v (fb b) b.length) (7+b.length+2)
theorem KU (v:Int)(b:Bs):(Vc v b).length=b.length+9:=by unfold Vc;rw [VK];omega
open Classical in
noncomputable def Xx (b:Bs):Int×Bs×Int:=
 if b.length<2 then (0,[],3)
 else if ¬Ac (fb b) b.length then (0,[],4)
 else if b.length<9 then (0,[],3)
 else if Qn (fb b) 0 4<1∨1073741824<Qn (fb b) 0 4∨65536<Qn (fb b) 4 3∨Qn (fb b) 4 3≠(b.length:Int) - 9 then (0,[],2)
 else (Qn (fb b) 0 4,(b.take (b.length - 2)).drop 7,0)
theorem Bl {b:Bs}(h:b.length<2):Xx b=(0,[],3):=by unfold Xx;rw [if_pos h]
theorem KV {b:Bs}(h:¬b.length<2)(a:¬Ac (fb b) b.length):Xx b=(0,[],4):=by unfold Xx;rw [if_neg h,if_pos a]
theorem KW {b:Bs}(a:Ac (fb b) b.length)(c:b.length<9):Xx b=(0,[],3):=by
 unfold Xx;rw [if_neg (by have:=a.1;omega),if_neg (by simpa using a),if_pos c]
theorem AF {b:Bs}(a:Ac (fb b) b.length)(c:¬b.length<9)(d:Qn (fb b) 0 4<1∨1073741824<Qn (fb b) 0 4∨65536<Qn (fb b) 4 3∨Qn (fb b) 4 3≠(b.length:Int) - 9):Xx b=(0,[],2):=by
 unfold Xx;rw [if_neg (by omega),if_neg (by simpa using a),if_neg c,if_pos d]
theorem EJ {b:Bs}(a:Ac (fb b) b.length)(c:¬b.length<9)(d:¬(Qn (fb b) 0 4<1∨1073741824<Qn (fb b) 0 4∨65536<Qn (fb b) 4 3∨Qn (fb b) 4 3≠(b.length:Int) - 9)):Xx b=(Qn (fb b) 0 4,(b.take (b.length - 2)).drop 7,0):=by
 unfold Xx;rw [if_neg (by omega),if_neg (by simpa using a),if_neg c,if_neg d]
theorem Hs (b:Bs):(((Xx b).2.2=3∨(Xx b).2.2=4∨(Xx b).2.2=2)/\(Xx b).1=0/\(Xx b).2.1=[])∨
  ((Xx b).2.2=0/\1<=(Xx b).1/\(Xx b).1<=1073741824/\Ac (fb b) b.length/\9<=b.length/\Qn (fb b) 0 4=(Xx b).1/\Qn (fb b) 4 3=(b.length:Int) - 9/\(Xx b).2.1=(b.take (b.length - 2)).drop 7/\(Xx b).2.1.length=b.length - 9):=by
 by_cases d:b.length<2
 ·rw [Bl d];exact .inl ⟨.inl rfl,rfl,rfl⟩
 ·by_cases a:Ac (fb b) b.length
  ·by_cases c:b.length<9
   ·rw [KW a c];exact .inl ⟨.inl rfl,rfl,rfl⟩
   ·by_cases e:Qn (fb b) 0 4<1∨1073741824<Qn (fb b) 0 4∨65536<Qn (fb b) 4 3∨Qn (fb b) 4 3≠(b.length:Int) - 9
    ·rw [AF a c e];exact .inl ⟨.inr (.inr rfl),rfl,rfl⟩
    ·rw [EJ a c e];exact .inr ⟨rfl,by dsimp only;omega,by dsimp only;omega,a,by omega,rfl,by omega,rfl,by simp;omega⟩
  ·rw [KV d a];exact .inl ⟨.inr (.inl rfl),rfl,rfl⟩
theorem KX (v:Int)(F:Nat->B8)(n i:Nat)(h:i<7):CR v F n i=DL v n i:=by
 unfold CR VM;simp only [XZ];rw [if_pos (show i<7+n by omega),if_pos h]
theorem Wr (v:Int)(F:Nat->B8)(n i:Nat)(h:i<n):CR v F n (7+i)=F i:=by
 unfold CR VM;simp only [XZ];rw [if_pos (show 7+i<7+n by omega),if_neg (by omega),Nat.add_sub_cancel_left]
theorem Ws (v:Int)(F:Nat->B8)(n:Nat):Qn (CR v F n) 0 4=Qn (XH v 4) 0 4:=Un λi hi=>by
 rw [KX v F n (0+i) (by omega)]
 simp only [DL,XZ];rw [if_pos (by omega)]
theorem Wt (v:Int)(F:Nat->B8)(n:Nat):Qn (CR v F n) 4 3=Qn (XH n 3) 0 3:=Un λi hi=>by
 rw [KX v F n (4+i) (by omega)]
 simp only [DL,XZ];rw [if_neg (by omega)]
 congr 1;omega
theorem Wu {v:Int}{b:Bs}(h1:1<=v)(h2:v<=1073741824)(h3:b.length<=65536):Xx (Vc v b)=(v,b,0):=by
 have e:=KU v b;have d:∀i,i<b.length+9->fb (Vc v b) i=CR v (fb b) b.length i:=λi a=>by unfold Vc;exact ml _ (by omega)
 have c:Ac (fb (Vc v b)) (Vc v b).length:=by
  rw [e,Wq d];have:=ji (XZ (DL v b.length) 7 (fb b)) (7+b.length);rw [show 7+b.length+2=b.length+9 by omega] at this
  exact this
 have f:Qn (fb (Vc v b)) 0 4=v:=by
  rw [Un (F:=fb (Vc v b)) (G:=CR v (fb b) b.length) (j:=0) (λi a=>d _ (by omega)),Ws,Wn (by omega) (by omega)]
 have g:Qn (fb (Vc v b)) 4 3=b.length:=by
  rw [Un (F:=fb (Vc v b)) (G:=CR v (fb b) b.length) (j:=4) (λi a=>d _ (by omega)),Wt,Wo (by omega) (by omega)]
 rw [EJ c (by omega) (by rw [f,g,e];omega),f]
 refine Prod.ext rfl (Prod.ext ?_ rfl);dsimp only;apply List.ext_getElem?;intro i;rw [List.getElem?_drop,e];by_cases a:i<b.length
 ·rw [List.getElem?_take_of_lt (by omega)]
  unfold Vc;rw [VW (by omega),Wr _ _ _ _ a]
  simp [a]
 ·rw [List.getElem?_eq_none (by simp;omega),List.getElem?_eq_none (by omega)]
end
section
open Go.RowKit
attribute [local go_sem] Oper.semAt_some
theorem BT {w:World}{base n:Nat}{v:Value}(b:w.ownsRow base 5 1 v n (bl F n))(y:Int)(j:n8 (F n)=y)(hn:n<=1000000)(a:base<=w.heap.size):
  ∃q c w',(Builtin.append_ #[51,51] 51 #[v,.slice (some ⟨w.heap.size,0,none⟩) 1 1]).run prog (w.alloc (.cells #[int u8 y] 5))=.ok (.slice q (n+1) c) w'/\w'.ownsRow base 5 1 (.slice q (n+1) c) (n+1) (bl F (n+1))/\Below base w w':=by
 subst j;have e:pM w (w.alloc (.cells #[int u8 (n8 (F n))] 5)):=Q3 _ _;have l:YF (w.alloc (.cells #[int u8 (n8 (F n))] 5)) (some ⟨w.heap.size,0,none⟩) 1 (λ_=>F n):=YF.of λi g=>by
  obtain rfl:i=0:=by omega
  exact (Q0.new' rfl:Q0 _ w.heap.size 5 #[int u8 (n8 (F n))]).cell 0
 obtain ⟨v',w',k,d,f⟩:=Fl (P:=prog) (base:=base) (ty:=51) underlying51 DD (j6 b e) (pA 1) l (by omega) (pB a e.size)
 rw [Nh (F:=XZ F n λ_=>F n) (G:=F)] at d
 ·obtain ⟨q,c,rfl,-,-,-⟩:=Vs d;exact ⟨q,c,w',k,d,(e.mono a).trans f⟩
 ·intro i g;unfold XZ;by_cases h:i<n
  ·rw [if_pos h]
  ·obtain rfl:i=n:=by omega
   rw [if_neg h]
theorem BU (n:Int)(m j:Nat)(k:Nat)(F:Nat->B8):XZ F k (XH n m) (k+j)=XH n m j:=by
 unfold XZ;rw [if_neg (by omega),Nat.add_sub_cancel_left]
theorem BV {n:Int}{e:Int}(h:(256:Int) ^ (m - 1 - j)=e):n8 (XH n m j)=n / e%256:=by
 unfold XH;rw [QF,h]
theorem em (base:Nat)(v:Value)(k:Nat)(F:Nat->B8)(n:Int)(_:0<=n)(_:n<=1099511627776)(hk:k<=1000)(w:World)(a:w.ownsRow base 5 1 v k (bl (XZ F k (XH n 4)) k))(b:base<=w.heap.size):
  Calls prog 222 #[v,n,int i64 4] w λr w'=>∃v',r=.returned v'/\w'.ownsRow base 5 1 v' (k+4) (bl (XZ F k (XH n 4)) (k+4))/\Below base w w':=by
 obtain ⟨q0,c0,rfl,-,-,-⟩:=Vs a;obtain ⟨q1,c1,C,t,f,i⟩:=BT a (n / 16777216%256) (by rw [show n8 (XZ F k (XH n 4) (k))=n8 (XH n 4 0) from congrArg n8 (BU n 4 0 k F),BV (e:=16777216) (by decide)]) (by omega) b
 have s:Below base w C:=i;have y:=pB b s.size;obtain ⟨q2,c2,G,p,j,g⟩:=BT f (n / 65536%256) (by rw [show n8 (XZ F k (XH n 4) (k+1))=n8 (XH n 4 1) from congrArg n8 (BU n 4 1 k F),BV (e:=65536) (by decide)]) (by omega) y
 have g2:Below base w G:=s.trans g;have A:=pB b g2.size;obtain ⟨q3,c3,D,u,c,l⟩:=BT j (n / 256%256) (by rw [show n8 (XZ F k (XH n 4) (k+1+1))=n8 (XH n 4 2) from congrArg n8 (BU n 4 2 k F),BV (e:=256) (by decide)]) (by omega) A
 have x:Below base w D:=g2.trans l;have z:=pB b x.size;obtain ⟨q4,c4,B,m,d,h⟩:=BT c (n%256) (by rw [show n8 (XZ F k (XH n 4) (k+1+1+1))=n8 (XH n 4 3) from congrArg n8 (BU n 4 3 k F),BV (e:=1) (by decide),Int.ediv_one]) (by omega) z
 have q:Below base w B:=x.trans h;have H:=pB b q.size;have E:=pp (py d q);clear a b f s j g2 c x d q i y g A l z h H;go_enter func222,ntmps222;go_upto_region 2 with fail
 refine wp_loop_rounds 5 ?_;rw [rounds_succ];go_wp2_with (at_builtin;refine Lib.wpList_append_run _ rfl _ _ _ _ rfl _ _ rfl rfl _ _ t ?_);rw [rounds_succ];go_wp2_with (at_builtin;refine Lib.wpList_append_run _ rfl _ _ _ _ rfl _ _ rfl rfl _ _ p ?_);rw [rounds_succ];go_wp2_with (at_builtin;refine Lib.wpList_append_run _ rfl _ _ _ _ rfl _ _ rfl rfl _ _ u ?_);rw [rounds_succ];go_wp2_with (at_builtin;refine Lib.wpList_append_run _ rfl _ _ _ _ rfl _ _ rfl rfl _ _ m ?_);rw [rounds_succ];go_wp2_with fail;go_returns;exact ⟨_,rfl,E.o⟩
theorem eo (base:Nat)(v:Value)(k:Nat)(F:Nat->B8)(n:Int)(_:0<=n)(_:n<=1099511627776)(hk:k<=1000)(w:World)(a:w.ownsRow base 5 1 v k (bl (XZ F k (XH n 3)) k))(c:base<=w.heap.size):
  Calls prog 222 #[v,n,int i64 3] w λr w'=>∃v',r=.returned v'/\w'.ownsRow base 5 1 v' (k+3) (bl (XZ F k (XH n 3)) (k+3))/\Below base w w':=by
 obtain ⟨q0,c0,rfl,-,-,-⟩:=Vs a;obtain ⟨q1,c1,u,m,d,g⟩:=BT a (n / 65536%256) (by rw [show n8 (XZ F k (XH n 3) (k))=n8 (XH n 3 0) from congrArg n8 (BU n 3 0 k F),BV (e:=65536) (by decide)]) (by omega) c
 have l:Below base w u:=g;have s:=pB c l.size;obtain ⟨q2,c2,A,j,h,f⟩:=BT d (n / 256%256) (by rw [show n8 (XZ F k (XH n 3) (k+1))=n8 (XH n 3 1) from congrArg n8 (BU n 3 1 k F),BV (e:=256) (by decide)]) (by omega) s
 have g2:Below base w A:=l.trans f;have t:=pB c g2.size;obtain ⟨q3,c3,x,p,b,i⟩:=BT h (n%256) (by rw [show n8 (XZ F k (XH n 3) (k+1+1))=n8 (XH n 3 2) from congrArg n8 (BU n 3 2 k F),BV (e:=1) (by decide),Int.ediv_one]) (by omega) t
 have q:Below base w x:=g2.trans i;have y:=pB c q.size;have z:=pp (py b q);clear a c d l h g2 b q g s f t i y;go_enter func222,ntmps222;go_upto_region 2 with fail
 refine wp_loop_rounds 4 ?_;rw [rounds_succ];go_wp2_with (at_builtin;refine Lib.wpList_append_run _ rfl _ _ _ _ rfl _ _ rfl rfl _ _ m ?_);rw [rounds_succ];go_wp2_with (at_builtin;refine Lib.wpList_append_run _ rfl _ _ _ _ rfl _ _ rfl rfl _ _ j ?_);rw [rounds_succ];go_wp2_with (at_builtin;refine Lib.wpList_append_run _ rfl _ _ _ _ rfl _ _ rfl rfl _ _ p ?_);rw [rounds_succ];go_wp2_with fail;go_returns;exact ⟨_,rfl,z.o⟩
theorem jp (F:Nat->B8)(k n:Nat)(h:n<=3):Qn F k n<=100000000:=by
 have h0:=ZF (F (k+0));have h1:=ZF (F (k+1));have h2:=ZF (F (k+2))
 match n,h with
 | 0,_=>simp [Qn]
 | 1,_=>simp only [Qn];omega
 | 2,_=>simp only [Qn];omega
 | 3,_=>simp only [Qn];omega
theorem jq (n:Int)(b:0<=n)(h1:n<=1000000000000)(x:B8):bits .or .i64 (n * 256) (n8 x)=n * 256+n8 x:=by
 obtain ⟨N,rfl⟩:=Int.eq_ofNat_of_zero_le b;have d:x.toNat<2 ^ 8:=x.isLt;have e:(2 ^ 8 * N|||x.toNat)=2 ^ 8 * N+x.toNat:=(Nat.two_pow_add_eq_or_of_lt d N).symm;show IntKind.i64.wrap ((BitVec.ofInt 64 ((N:Int) * 256)|||BitVec.ofInt 64 (x.toNat:Int)).toNat:Int)=(N:Int) * 256+(x.toNat:Int);have a:(BitVec.ofInt 64 ((N:Int) * 256)).toNat=2 ^ 8 * N:=by rw [BitVec.toNat_ofInt];omega
 have c:(BitVec.ofInt 64 (x.toNat:Int)).toNat=x.toNat:=by rw [BitVec.toNat_ofInt];omega
 rw [BitVec.toNat_or,a,c,e,IntKind.wrap_i64];omega
theorem Nr (q:Option Addr)(n c:Nat)(F:Nat->B8)(hn:n<=4)(hc:n<=c)(w:World)(h:YF w q n F):
  Calls prog 216 #[.slice q n c] w λr w'=>r=.returned (int i64 (Qn F 0 n))/\w=w':=by
 go_enter func216,ntmps216;go_upto_region 3 with fail
 go_loopw [3,8] (λi f wr=>∃k:Nat,k<=n/\f=.int .i64 k/\i=.int .i64 (Qn F 0 k)/\wr=w) (λ_ f _=>n - (intOf f).toNat)
 case atStart=>exact ⟨0,pC _,rfl,rfl,rfl⟩
 case round=>
  obtain ⟨k,hk,rfl,rfl,rfl⟩:=hrel;by_cases b:k<n
  ·obtain ⟨g,o,rfl,l⟩:=h (by omega)
   have hx:=l k b;have hk0:(0:Int)<=k:=by omega
   have d:(k:Int)<n:=by omega
   have hkc:k<c:=by omega
   have e:=Hr F 0 k;have hhi:Qn F 0 k<=100000000:=jp F 0 k (by omega)
   have x8:=ZF (F k);have hor:=jq (Qn F 0 k) e (by omega) (F k)
   have a:Qn F 0 (k+1)=Qn F 0 k * 256+n8 (F k):=by simp only [Qn,Nat.zero_add]
   have j:=pp a;clear a;go_wp2_with fail;exact ⟨⟨k+1,b,by go_num,by rw [j.o],trivial⟩,ZY b⟩
  ·obtain rfl:k=n:=by omega
   have d:¬((k:Int)<(k:Int)):=by omega
   go_wp2_with fail;go_returns;exact ⟨rfl,rfl⟩
theorem Ap {w:World}{base:Nat} :GoodS w base (none,0,0):=⟨pA _,pC _,λh=>absurd h (Nat.lt_irrefl 0)⟩
def II (v:Int)(n:Nat):Bool:=decide (1<=v)&&decide (v<=1073741824)&&decide (n<=65536)
def Zr (v:Int)(b:Bs):Option Bs:=if II v b.length then some (Vc v b) else none
def RO (base:Nat)(o:Option Bs)(r:Ending)(w w':World):Prop:=∃s:SL,r=.returned (.tuple #[Xn s,int i64 (if o.isSome then 0 else 1)])/\GoodS w' base s/\QW w' s=o.getD []/\s.2.1<=65545/\Below w.heap.size w w'
theorem Wv {base:Nat}{v:Int}{b:Bs}{w w':World}{x:Value}{n:Nat}(f:b.length=n)(hm:n<=65536)(h:w'.ownsRow w.heap.size 5 1 x (7+n+2) (bl (VM (XZ (DL v n) 7 (fb b)) (7+n)) (7+n+2)))(a:pM w w')(c:Zr v b=some (Vc v b)):RO base (Zr v b) (.returned (.tuple #[x,int i64 0])) w w':=by
 obtain ⟨s,rfl,h1,d,e⟩:=GoodS.own (base:=base) h;rw [c];refine ⟨s,rfl,d,e.trans ?_,by omega,a⟩
 subst f;rfl
theorem Ww {w:World}{v n:Int}{x:Value}(h:w.ownsRow B 5 1 x 4 (bl (XH v 4) 4)):w.ownsRow B 5 1 x 4 (bl (XZ (XH v 4) 4 (XH n 3)) 4):=by
 rw [Nh (G:=XH v 4) λi a=>by unfold XZ;rw [if_pos a]]
 exact h
theorem Wx (base:Nat)(v:Int)(T:Qg v)(s:SL)(w:World)(k:GoodS w base s)(P:s.2.1<=1000000):
  Calls prog 173 #[v,Xn s] w λr w'=>RO base (Zr v (QW w s)) r w w':=by
 have f:=k.len;have e:=k.byq;have h:=k.cap;have i:=k.most;unfold Qg at T;generalize K:QW w s=b at f e ⊢;replace e:YF w s.1 s.2.1 (fb b):=e;clear k K;obtain ⟨q,n,c⟩:=s;dsimp only at f e h i P;simp only [Xn];by_cases B:1<=v
 ·by_cases A:v<=1073741824
  ·by_cases x:n<=65536
   ·have a:Zr v b=some (Vc v b):=by unfold Zr II;rw [if_pos (by rw [f];simp [B,A,x])]
    have j:=pp a;have Q:=pp f;have m:¬v<1:=by omega
    have C:¬1073741824<v:=by omega
    have S:¬(65536:Int)<n:=by omega
    have P1:=pp (em w.heap.size (.slice none 0 0) 0 (XH v 4) v (by omega) (by omega) (by decide) w Ni (pA _))
    have L:=pp e;clear a f e;go_enter func173,ntmps173;go_upto_region 4 with first
     | (go_at_call 222;refine P1.o.mono ?_;rintro y I ⟨x1,rfl,t,u⟩;rw [OQ] at t;have P2:=pp (eo w.heap.size x1 4 (XH v 4) n (by omega) (by omega) (by decide) I (Ww t) u.size);clear P1 t)
     | (go_at_call 222;refine P2.o.mono ?_;rintro y z ⟨x2,rfl,o2,g2⟩)
    obtain ⟨q2,c2,rfl,H,k2,l⟩:=Vs o2;have g:=u.trans g2;have d:YF z q n (fb b):=L.o.on g;have E:=pp (Jt q2 7 c2 (DL v n) H q n c (fb b) h (by omega) (by omega) z.heap.size (z.alloc (.cells #[.slice q2 7 c2,.slice q n c] 51)) (Q0.new' rfl) (l.on (Q3 _ _)) (d.on (Q3 _ _)))
    have p:=pp (g.trans (Hq g.size (.cells #[.slice q2 7 c2,.slice q n c] 51)));clear o2 u g2 g l d P2;go_wp2_with first
     | (go_at_call 224;refine E.o.mono ?_;rintro y J ⟨x3,rfl,F,G⟩;obtain ⟨N,c3,rfl,M,U,d⟩:=Vs F;have V:=pp (ee N (7+n) c3 _ M U (by omega) J d);have D:=pp (after p.o G);clear F d G E)
     | (go_at_call 223;refine V.o.mono ?_;rintro y w4 ⟨x4,rfl,R,O⟩)
    go_returns;exact Wv Q.o x (IE R D.o.size) (after D.o O) j.o
   ·have a:Zr v b=none:=by unfold Zr II;rw [if_neg (by rw [f];simp [x])]
    have j:=pp a;have m:¬v<1:=by omega
    have C:¬1073741824<v:=by omega
    have S:(65536:Int)<n:=by omega
    clear a f e;go_enter func173,ntmps173;go_wp2_with fail;go_returns;rw [j.o];exact ⟨(none,0,0),rfl,Ap,rfl,pC _,pI _ _⟩
  ·have a:Zr v b=none:=by unfold Zr II;rw [if_neg (by simp [A])]
   have j:=pp a;have m:¬v<1:=by omega
   have C:1073741824<v:=by omega
   clear a f e;go_enter func173,ntmps173;go_wp2_with fail;go_returns;rw [j.o];exact ⟨(none,0,0),rfl,Ap,rfl,pC _,pI _ _⟩
 ·have a:Zr v b=none:=by unfold Zr II;rw [if_neg (by simp [B])]
  have j:=pp a;have m:v<1:=by omega
  clear a f e;go_enter func173,ntmps173;go_wp2_with fail;go_returns;rw [j.o];exact ⟨(none,0,0),rfl,Ap,rfl,pC _,pI _ _⟩
def OY (base:Nat)(x:Int×Bs×Int)(r:Ending)(w w':World):Prop:=∃s:SL,r=.returned (.tuple #[int i64 x.1,Xn s,int i64 x.2.2])/\GoodS w' base s/\QW w' s=x.2.1/\Below w.heap.size w w'
theorem Ux {base:Nat}{x:Int×Bs×Int}{e:Int}{w w':World}(b:x=(0,[],e))(a:pM w w'):OY base x (.returned (.tuple #[int i64 0,.slice none 0 0,e])) w w':=by
 subst b;exact ⟨(none,0,0),rfl,Ap,rfl,a⟩
theorem jr {w:World}{g o n:Nat}(a:Vy w g o n F)(h:k+j<=n):YF w (some ⟨g,o+k,none⟩) j (λi=>F (k+i)):=YF.of λi hi=>by
 have:=a (k+i) (by omega)
 rwa [<-Nat.add_assoc] at this
theorem js (F:Nat->B8)(k n:Nat):Qn (λi=>F (k+i)) 0 n=Qn F k n:=Un λi _=>by simp
theorem ep (b:Bs)(h:k<=b.length):Zx (fb b) k=b.take k:=by rw [<-Ju (fb b) h,Hp]
theorem er {w i:World}{base g a:Nat}{b:Bs}{q:Option Addr}{cur:Array Value}(l:Q0 w1 g 5 cur)(f:Vy w1 g 0 (m+7) (fb b))(j:m+7<=a)(s:a<=maxLen)(r:b.length=m+9)(t:0<m->q=some ⟨g,7,none⟩)(n:Xx b=(Qn (fb b) 0 4,(b.take (b.length - 2)).drop 7,0))(v:pM w w1)(d:pM w1 i):
  OY base (Xx b) (.returned (.tuple #[int i64 (Qn (fb b) 0 4),.slice q m (a - 7),int i64 0])) w i:=by
 rw [n];have p:GoodS w1 base (some ⟨g,0,none⟩,m+7,a):=⟨j,s,λ_=>⟨g,0,_,rfl,f,.inr ⟨cur,l⟩⟩⟩
 obtain ⟨e,c⟩:=p.drop (k:=7) (Nat.le_add_left 7 m) q λh=>by rw [Nat.zero_add];exact t (by omega)
 rw [Nat.add_sub_cancel] at e c;obtain ⟨o,u⟩:=e.on d;refine ⟨(q,m,a - 7),rfl,o,?_,after v d⟩;rw [u,c,Ub f,ep b (by omega),r]
 rfl
theorem Ns (base:Nat)(s:SL)(w:World)(L:GoodS w base s)(hz:s.2.1<=1000000):
  Calls prog 166 #[Xn s] w λr w'=>OY base (Xx (QW w s)) r w w':=by
 have R:=L.len;have u:=L.byq;have i:=L.cap;have e:=L.most;generalize hb:QW w s=b at R u ⊢;replace u:YF w s.1 s.2.1 (fb b):=u;clear L hb;obtain ⟨q,n,c⟩:=s;dsimp only at R u i e hz;subst R;simp only [Xn];by_cases p:Ac (fb b) b.length
 ·have aa:=p.1;have z:=pp (ef q b.length c (fb b) i e hz w u p);by_cases h9:b.length<9
  ·have f:=pp (KW p h9);have e7:((b.length - 2:Nat):Int)<7:=by omega
   clear u p;go_enter func166,ntmps166;go_wp2_with (go_at_call 215;refine z.o.mono ?_;rintro e_ t ⟨x1,rfl,I,J⟩;obtain ⟨q1,x,rfl,-,-,-⟩:=Vs I;have D:=pp J;clear J I);go_returns;exact Ux f.o D.o
  ·have v:(b.length - 2)=(b.length - 9)+7:=by omega
   rw [v] at z;have l:=pp (py p h9);have H:=pp (show b.length=(b.length - 9)+9 by omega)
   clear u p aa h9 v;go_enter func166,ntmps166;go_upto_region 6 with (go_at_call 215;refine z.o.mono ?_;rintro e_ t ⟨x1,rfl,I,J⟩;obtain ⟨g,x,cur,rfl,hbg,hC,k1,k2,k3,N⟩:=Gh I (Nat.succ_pos _);clear I k3)
   generalize hm:b.length - 9=m at *;have B:b.length=m+9:=by have:=H.o;omega
   have e7:¬((m:Int)+7<7):=by omega
   have C:∀d os,Calls prog 216 #[.slice (some ⟨g,0,none⟩) 4 x] (Go.Sort.grow (redrawn t d) os) λr w'=>r=.returned (int i64 (Qn (fb b) 0 4))/\(Go.Sort.grow (redrawn t d) os)=w':=λd os=>Nr _ 4 x (fb b) (by decide) (by omega) _ (YF.of ((N.re d os).le (by omega)))
   have A:∀d os,Calls prog 216 #[.slice (some ⟨g,4,none⟩) 3 (x - 4)] (Go.Sort.grow (redrawn t d) os) λr w'=>r=.returned (int i64 (Qn (fb b) 4 3))/\(Go.Sort.grow (redrawn t d) os)=w':=λd os=>by
    rw [<-js];have:=jr (k:=4) (j:=3) (N.re d os) (by omega)
    rw [Nat.zero_add] at this;exact Nr _ 3 (x - 4) _ (by decide) (by omega) _ this
   have G:=pp λd os=>Ym (C d os)
   have K:=pp λd os=>Ym (A d os)
   clear C A;have kc4:4<=x:=by omega
   have kc7:7<=x:=by omega
   refine wp_region_quiet_below (by kernel_rfl) (by kernel_rfl) ?_
   repeat (go_big_quiet_step (first|(with_reducible exact Calls.regrown_of (G.o _ _))|(with_reducible exact Calls.regrown_of (K.o _ _))))
   refine wpQuiet_nil ?_;intro w' W;obtain ⟨rg,rfl⟩:=W;generalize F:(if x=7 then (some ⟨g,0,none⟩:Option Addr) else some ⟨g,7,none⟩)=q7;have X:=pp (show 0<m->q7=some ⟨g,7,none⟩ from λ_=>by rw [<-F,if_neg (by omega)])
   clear F;have Y:=Hr (fb b) 0 4;have T:=oa (fb b) 0;have Q:=Hr (fb b) 4 3;have O:=o8 (fb b) 4;clear G K;obtain ⟨V,S⟩:=pt (Qn (fb b) 0 4);obtain ⟨U,Z⟩:=pt (Qn (fb b) 4 3);rw [<-S] at Y T ⊢;rw [<-Z] at Q O ⊢;have a:=pp (py J (pK t _ _:pM t (Go.Sort.grow (redrawn t rg.d) rg.os)));have HX:=pp (py hC N);have HK:=pp (py k1 k2);have M:=pp S;have HU:=pp Z;have P:=pp B;have HB8:=pp (show b.length - 9=m from by omega)
   clear hC N k1 k2 S Z B J hm H;by_cases a1:V<1
   ·have f:=pp (AF l.o.1 l.o.2 (.inl (M.o▸a1)));go_wp2_with fail;go_returns;exact Ux f.o (after a.o.1 a.o.2)
   ·by_cases a2:1073741824<V
    ·have f:=pp (AF l.o.1 l.o.2 (.inr (.inl (M.o▸a2))));go_wp2_with fail;go_returns;exact Ux f.o (after a.o.1 a.o.2)
    ·by_cases a3:65536<U
     ·have f:=pp (AF l.o.1 l.o.2 (.inr (.inr (.inl (HU.o▸a3)))));go_wp2_with fail;go_returns;exact Ux f.o (after a.o.1 a.o.2)
     ·by_cases a4:U=(m:Int)
      ·have f:=pp (EJ l.o.1 l.o.2 (by rw [<-M.o,<-HU.o];have:=P.o;omega))
       subst a4;go_wp2_with fail;go_returns;rw [M.o];exact er HX.o.1 HX.o.2 HK.o.1 HK.o.2 P.o X.o f.o a.o.1 a.o.2
      ·have f:=pp (AF l.o.1 l.o.2 (.inr (.inr (.inr (by rw [<-HU.o];have:=P.o;omega)))))
       go_wp2_with fail;go_returns;exact Ux f.o (after a.o.1 a.o.2)
 ·have f:=pp (show Xx b=(0,[],if b.length<2 then 3 else 4) by
   split
   ·rename_i h;exact Bl h
   ·rename_i h;exact KV h p)
  have z:=pp (eh q b.length c (fb b) i e w u p _ rfl);obtain ⟨E,y⟩:=pt ((if b.length<2 then (3:Int) else 4));rw [<-y] at f z;have hE:E≠0:=by rw [y];split<;>decide
  clear y;clear u p;go_enter func166,ntmps166;go_wp2_with (go_at_call 215;refine z.o.mono ?_;rintro e_ t ⟨rfl,D⟩;replace D:=pp D);go_returns;exact Ux f.o D.o
noncomputable def Qj (S:DS)(k:Int):Int×Bs×Int:=Xx ((S.get k).getD [])
noncomputable def QY (S:DS)(id:Int):Int×Int×Bs:=
 if (Qj S (2 * id)).2.2=0 then
  if (Qj S (2 * id+1)).2.2=0/\(Qj S (2 * id)).1<(Qj S (2 * id+1)).1 then (2 * id+1,(Qj S (2 * id+1)).1,(Qj S (2 * id+1)).2.1)
  else (2 * id,(Qj S (2 * id)).1,(Qj S (2 * id)).2.1)
 else if (Qj S (2 * id+1)).2.2=0 then (2 * id+1,(Qj S (2 * id+1)).1,(Qj S (2 * id+1)).2.1)
 else (2 * id+1,0,[])
structure StoreIs (w:World)(base:Nat)(M:Nat->Prop)(s d:Nat)(S:DS):Prop where
 blk:Q0 w s 151 #[d]
 disk:Yd w base M d S
 based:base<=s
theorem StoreIs.on {w w':World}{base:Nat}(h:StoreIs w base M s d S)(a:Below w.heap.size w w'):StoreIs w' base M s d S:=⟨h.blk.on a,h.disk.on a,h.based⟩
theorem Wy {M:Nat}(h:DOk S N M)(k:Int):((S.get k).getD []).length<=M:=by
 unfold DS.get;cases hg:XT S.now k with
 | none=>simp
 | some b=>
  unfold XT at hg;cases hf:S.now.find? λp=>p.1==k with
  | none=>rw [hf] at hg;cases hg
  | some p=>
   rw [hf] at hg;obtain rfl:p.2=b:=by simpa using hg
   exact h.now.2.2.2 p (List.mem_of_find?_eq_some hf)
noncomputable def XL (S:DS)(id:Int):Nat->Int×Int×Bs
 | 0=>(2 * id+1,0,[])
 | k+1=>if (Qj S (2 * id+k)).2.2=0/\(XL S id k).2.1<(Qj S (2 * id+k)).1 then (2 * id+k,(Qj S (2 * id+k)).1,(Qj S (2 * id+k)).2.1) else XL S id k
theorem AG {k:Int}(h:(Qj S k).2.2=0):1<=(Qj S k).1/\(Qj S k).1<=1073741824:=by
 unfold Qj at *;rcases Hs ((S.get k).getD []) with ⟨a,-⟩|⟨-,a,b,-⟩
 ·omega
 ·exact ⟨a,b⟩
theorem Wz {k:Int}(h:(Qj S k).2.2≠0):(Qj S k).1=0/\(Qj S k).2.1=[]:=by
 unfold Qj at *;rcases Hs ((S.get k).getD []) with ⟨-,a⟩|⟨a,-⟩
 ·exact a
 ·exact absurd a h
theorem RP (S:DS)(k:Int):0<=(Qj S k).1/\(Qj S k).1<=1073741824:=by
 by_cases h:(Qj S k).2.2=0
 ·have:=AG h;omega
 ·have:=(Wz h).1;omega
theorem Ht (S:DS)(id:Int)(k:Nat):XL S id (k+1)=if (Qj S (2 * id+k)).2.2=0/\(XL S id k).2.1<(Qj S (2 * id+k)).1 then (2 * id+k,(Qj S (2 * id+k)).1,(Qj S (2 * id+k)).2.1) else XL S id k:=rfl
theorem Jw (S:DS)(id:Int):XL S id 2=QY S id:=by
 have c:(Qj S (2 * id)).2.2=0->1<=(Qj S (2 * id)).1:=λh=>(AG h).1
 have p2:(Qj S (2 * id+1)).2.2=0->1<=(Qj S (2 * id+1)).1:=λh=>(AG h).1
 unfold QY;simp only [XL,Int.natCast_zero,Int.add_zero,Int.natCast_one];by_cases a:(Qj S (2 * id)).2.2=0
 ·have:=c a;rw [if_pos (show (Qj S (2 * id)).2.2=0/\0<(Qj S (2 * id)).1 from ⟨a,by omega⟩),if_pos a]
 ·rw [if_neg (show ¬((Qj S (2 * id)).2.2=0/\0<(Qj S (2 * id)).1) from λh=>a h.1),if_neg a]
  by_cases b:(Qj S (2 * id+1)).2.2=0
  ·have:=p2 b;rw [if_pos ⟨b,by dsimp only;omega⟩,if_pos b]
  ·rw [if_neg (λh=>b h.1),if_neg b]
theorem Jy (S:DS)(id:Int):∀k,0<=(XL S id k).2.1/\(XL S id k).2.1<=1073741824
 | 0=>by simp [XL]
 | k+1=>by
  unfold XL;split
  ·exact RP S _
  ·exact Jy S id k
theorem mn (a b:Int)(w:World):(Instr.index 230 (.agg #[a,b]) (int i64 0)).run prog w=.ok (int i64 a) w:=by kernel_rfl
theorem mo (a b:Int)(w:World):(Instr.index 230 (.agg #[a,b]) (int i64 1)).run prog w=.ok (int i64 b) w:=by kernel_rfl
def ob (base:Nat)(x:Int×Int×Bs)(r:Ending)(w w':World):Prop:=∃sl:SL,r=.returned (.agg #[int i64 x.1,int i64 x.2.1,Xn sl])/\GoodS w' base sl/\QW w' sl=x.2.2/\Below w.heap.size w w'
def Cu (w:World)(base r t:Nat)(b:Int×Int×Bs)(wr:World):Prop:=Below w.heap.size w wr/\Q0 wr r 190 #[int i64 0,int i64 0,.slice none 0 0]/\∃sl:SL,Q0 wr t 190 #[int i64 b.1,int i64 b.2.1,Xn sl]/\GoodS wr base sl/\QW wr sl=b.2.2
theorem Cu.on {w a:World}{base:Nat}{b:Int×Int×Bs}(h:Cu w base r t b wr)(g:pM wr a):Cu w base r t b a:=by
 obtain ⟨e,d,sl,i,c,f⟩:=h;exact ⟨after e g,d.on g,sl,i.on g,(c.on g).1,(c.on g).2.trans f⟩
theorem KY {base:Nat}{sl:SL}(d:Q0 W r 190 cs)(f:GoodS W base sl)(hb0:base<=r)(u v x:Value):GoodS (((W.setCell ⟨r,0,none⟩ u).setCell ⟨r,1,none⟩ v).setCell ⟨r,2,none⟩ x) base sl/\QW (((W.setCell ⟨r,0,none⟩ u).setCell ⟨r,1,none⟩ v).setCell ⟨r,2,none⟩ x) sl=QW W sl:=by
 have c:Kept (λb=>b≠r) W (((W.setCell ⟨r,0,none⟩ u).setCell ⟨r,1,none⟩ v).setCell ⟨r,2,none⟩ x):=(((Kept.refl _ W).setCell (by simp) _).setCell (by simp) _).setCell (by simp) _
 refine f.kept c λb a e=>?_
 subst e;rcases a with a|⟨cur,a⟩
 ·omega
 ·have:=An a d;revert this;decide
theorem Cu.put {w:World}{base:Nat}{b b':Int×Int×Bs}{sl:SL}(h:Cu w base r t b wr)(a:r≠t)(d:base<=t)(c:w.heap.size<=t)(l:GoodS wr base sl)(k:QW wr sl=b'.2.2):Cu w base r t b' (((wr.setCell ⟨t,0,none⟩ (int i64 b'.1)).setCell ⟨t,1,none⟩ (int i64 b'.2.1)).setCell ⟨t,2,none⟩ (Xn sl)):=by
 obtain ⟨i,j,sl0,e,-,-⟩:=h;obtain ⟨f,g⟩:=KY e l d (int i64 b'.1) (int i64 b'.2.1) (Xn sl);exact ⟨Bg (pI _ _) i c rfl,((j.far (p:=⟨t,0,none⟩) a _).far (p:=⟨t,1,none⟩) a _).far (p:=⟨t,2,none⟩) a _,sl,e.st3 _ _ _,f,g.trans k⟩
theorem cG (base s d:Nat)(M:Nat->Prop)(S:DS)(N:Nat)(w:World)(h:StoreIs w base M s d S)(E:DOk S N 1000000)(hN:N<=100000)(id:Int)(h0:0<=id)(h1:id<=1099511627776)(p:base<=w.heap.size):
  Calls prog 123 #[s,int i64 id] w λr w'=>ob base (QY S id) r w w':=by
 rw [<-Jw];have HS:=pp h;have hB:=h.blk;have HG:=pp λ(k:Int) (hk:Qg k) (W:World) (L:Below w.heap.size w W)=>mf base d M S N W (h.disk.on L) E hN k hk
 have HZ:=pp λk=>Wy E k
 clear h E hN;have i20:=mn (2 * id) (2 * id+1);have i21:=mo (2 * id) (2 * id+1);go_enter func123,ntmps123;go_upto_region 3 with fail
 obtain ⟨W0,D⟩:=pt ((w.alloc (.cells #[int i64 0,int i64 0,.slice none 0 0] 190)).alloc (.cells #[int i64 (2 * id+1),int i64 0,.slice none 0 0] 190));rw [<-D];have U:Cu w base w.heap.size (w.heap.size+1) (XL S id 0) W0:=by
  subst D;have a:(w.alloc (.cells #[int i64 0,int i64 0,.slice none 0 0] 190)).heap.size=w.heap.size+1:=by simp
  refine ⟨(Q3 w _).trans (Hq (by rw [a];omega) _),(Q0.new' rfl).on (Q3 _ _),(none,0,0),?_,Ap,rfl⟩
  rw [<-a];exact Q0.new' rfl
 have i:=pp U;have F:=pp (show w.heap.size≠w.heap.size+1/\base<=w.heap.size+1/\w.heap.size<=w.heap.size+1/\base<=w.heap.size from ⟨by omega,by omega,by omega,p⟩)
 generalize w.heap.size+1=t at *;clear D U p;go_loopw [23] (λiv wr=>∃k:Nat,k<=2/\iv=.int .i64 k/\Cu w base w.heap.size t (XL S id k) wr) (λiv _=>2 - (intOf iv).toNat)
 case atStart=>exact ⟨0,by omega,rfl,i.o⟩
 case round=>
  obtain ⟨k,hk,H,G⟩:=hrel;rcases (by omega:k=0∨k=1∨k=2) with rfl|rfl|rfl
  ·obtain rfl:_=Value.int .i64 0:=H;have V:(XL S id (0+1))=if (Qj S (2 * id)).2.2=0/\(XL S id 0).2.1<(Qj S (2 * id)).1 then (2 * id,(Qj S (2 * id)).1,(Qj S (2 * id)).2.1) else XL S id 0:=by rw [Ht,show (2 * id+((0:Nat):Int))=2 * id by omega]
   have f:=pp V;have c:=pp G;have aa:wr.cell? ⟨s,0,none⟩=some (.pointer (some ⟨d,0,none⟩)):=(HS.o.blk.on c.o.1).cell 0;clear V G;generalize XL S id 0=b at *;go_upto_region 6 with (go_at_call 165;refine (HG.o (2 * id) (by unfold Qg;omega) _ c.o.1).mono ?_;rintro e_ w1 ⟨s1,rfl,a,g,y⟩)
   have B:=pp (Ns base s1 w1 a (by rw [<-a.len,g];exact HZ.o _))
   rw [g] at B;rw [show Xx ((S.get (2 * id)).getD [])=Qj S (2 * id) from rfl] at B;have j:=pp (c.o.on y);generalize Qj S (2 * id)=x at *;obtain ⟨v,bd,e⟩:=x;go_upto_region 7 with (go_at_call 166;refine B.o.mono ?_;rintro e_ w2 ⟨s2,rfl,n,l,m⟩)
   have i:=pp (j.o.on m);clear c j y m a g B;obtain ⟨C,u,K⟩:=b;have J:=i.o;obtain ⟨-,I,sl,A,-,-⟩:=J;obtain ⟨t0,t1,X,f0,f1,f2⟩:=A.c3;obtain ⟨Z,Y,cs⟩:=s2;obtain ⟨ql,nl,cl⟩:=sl;simp only [Xn] at X ⊢;have q:=pp (py n l);clear n l I A;by_cases O:e=0
   ·by_cases P:u<v
    ·have z:=pp (show XL S id 1=(2 * id,v,bd) from by rw [f.o,if_pos ⟨O,P⟩])
     go_wp2_with fail;have HP:=i.o.put (b':=(2 * id,v,bd)) (sl:=(Z,Y,cs)) F.o.1 F.o.2.1 F.o.2.2.1 q.o.1 q.o.2;refine ⟨⟨1,by omega,rfl,?_⟩,by decide⟩
     rw [z.o];exact HP
    ·have z:=pp (show XL S id 1=(C,u,K) from by rw [f.o,if_neg (λh=>P h.2)])
     go_wp2_with fail;exact ⟨⟨1,by omega,rfl,by rw [z.o];exact i.o⟩,by decide⟩
   ·have z:=pp (show XL S id 1=(C,u,K) from by rw [f.o,if_neg (λh=>O h.1)])
    go_wp2_with fail;exact ⟨⟨1,by omega,rfl,by rw [z.o];exact i.o⟩,by decide⟩
  ·obtain rfl:_=Value.int .i64 1:=H;have V:(XL S id (1+1))=if (Qj S (2 * id+1)).2.2=0/\(XL S id 1).2.1<(Qj S (2 * id+1)).1 then (2 * id+1,(Qj S (2 * id+1)).1,(Qj S (2 * id+1)).2.1) else XL S id 1:=by rw [Ht];rfl
   have f:=pp V;have c:=pp G;have aa:wr.cell? ⟨s,0,none⟩=some (.pointer (some ⟨d,0,none⟩)):=(HS.o.blk.on c.o.1).cell 0;clear V G;generalize XL S id 1=b at *;go_upto_region 6 with (go_at_call 165;refine (HG.o (2 * id+1) (by unfold Qg;omega) _ c.o.1).mono ?_;rintro e_ w1 ⟨s1,rfl,a,g,y⟩)
   have B:=pp (Ns base s1 w1 a (by rw [<-a.len,g];exact HZ.o _))
   rw [g] at B;rw [show Xx ((S.get (2 * id+1)).getD [])=Qj S (2 * id+1) from rfl] at B;have j:=pp (c.o.on y);generalize Qj S (2 * id+1)=x at *;obtain ⟨v,bd,e⟩:=x;go_upto_region 7 with (go_at_call 166;refine B.o.mono ?_;rintro e_ w2 ⟨s2,rfl,n,l,m⟩)
   have i:=pp (j.o.on m);clear c j y m a g B;obtain ⟨C,u,K⟩:=b;have J:=i.o;obtain ⟨-,I,sl,A,-,-⟩:=J;obtain ⟨t0,t1,X,f0,f1,f2⟩:=A.c3;obtain ⟨Z,Y,cs⟩:=s2;obtain ⟨ql,nl,cl⟩:=sl;simp only [Xn] at X ⊢;have q:=pp (py n l);clear n l I A;by_cases O:e=0
   ·by_cases P:u<v
    ·have z:=pp (show XL S id 2=(2 * id+1,v,bd) from by rw [f.o,if_pos ⟨O,P⟩])
     go_wp2_with fail;have HP:=i.o.put (b':=(2 * id+1,v,bd)) (sl:=(Z,Y,cs)) F.o.1 F.o.2.1 F.o.2.2.1 q.o.1 q.o.2;refine ⟨⟨2,by omega,rfl,?_⟩,by decide⟩
     rw [z.o];exact HP
    ·have z:=pp (show XL S id 2=(C,u,K) from by rw [f.o,if_neg (λh=>P h.2)])
     go_wp2_with fail;exact ⟨⟨2,by omega,rfl,by rw [z.o];exact i.o⟩,by decide⟩
   ·have z:=pp (show XL S id 2=(C,u,K) from by rw [f.o,if_neg (λh=>O h.1)])
    go_wp2_with fail;exact ⟨⟨2,by omega,rfl,by rw [z.o];exact i.o⟩,by decide⟩
  ·obtain rfl:_=Value.int .i64 2:=H;obtain ⟨⟨C,u,K⟩,L⟩:∃b,XL S id 2=b:=⟨_,rfl⟩;rw [L] at G;have HB:=pp L;clear L;have i:=pp G;obtain ⟨-,I,⟨ql,nl,cl⟩,A,R,hr⟩:=G;have Q:=pp (py R hr);simp only [Xn] at A;have T:=pp I;obtain ⟨t0,t1,X,f0,f1,f2⟩:=A.c3;obtain ⟨r0,r1,r2,q0,q1,q2⟩:=I.c3;clear I A R hr;go_wp2_with fail;have R2:=T.o.st3 (int i64 C) (int i64 u) (.slice ql nl cl);obtain ⟨d0,d1,d2,-,-,-⟩:=R2.c3;have R:=KY T.o Q.o.1 F.o.2.2.2 (int i64 C) (int i64 u) (.slice ql nl cl);refine bodyPost_ret (v:=.agg #[int i64 C,int i64 u,.slice ql nl cl]) (by simp [results,results123,go_sem,d0,d1,d2]) rfl ?_
   rw [HB.o];exact ⟨(ql,nl,cl),rfl,R.1,R.2.trans Q.o.2,Bg (pI _ _) i.o.1 (pA _) rfl⟩
theorem Jz (N:Nat):2 * N ^^^ 1=2 * N+1:=by
 have h:=Nat.xor_div_two (a:=2 * N) (b:=1);have c:=Nat.xor_mod_two_pow (a:=2 * N) (b:=1) (n:=1);rw [show 2 * N / 2=N by omega,show 1 / 2=0 by decide,Nat.xor_zero] at h
 rw [Nat.pow_one,show 2 * N%2=0 by omega,show 1%2=1 by decide,Nat.zero_xor] at c
 omega
theorem RQ (N:Nat):(2 * N+1) ^^^ 1=2 * N:=by
 rw [<-Jz N,Nat.xor_assoc,Nat.xor_self,Nat.xor_zero]
theorem WA {id:Int}(d:0<=id)(h1:id<=1099511627776)(g:x=2 * id∨x=2 * id+1):bits .xor .i64 x 1=4 * id+1 - x:=by
 obtain ⟨N,rfl⟩:=Int.eq_ofNat_of_zero_le d;have key:∀a b:Nat,(a:Int)<4398046511104->(b:Int)<4398046511104->a ^^^ 1=b->bits .xor .i64 (a:Int) 1=b:=λa b ha hb e=>by
  show IntKind.i64.wrap ((BitVec.ofInt 64 (a:Int) ^^^ BitVec.ofInt 64 1).toNat:Int)=(b:Int);have c:(BitVec.ofInt 64 (a:Int)).toNat=a:=by rw [BitVec.toNat_ofInt];omega
  have f:(BitVec.ofInt 64 1).toNat=1:=by decide
  rw [BitVec.toNat_xor,c,f,e,IntKind.wrap_i64];omega
 rcases g with rfl|rfl
 ·have:=key (2 * N) (2 * N+1) (by omega) (by omega) (Jz N)
  rw [show (2 * (N:Int))=((2 * N:Nat):Int) by omega,this];omega
 ·have:=key (2 * N+1) (2 * N) (by omega) (by omega) (RQ N)
  rw [show (2 * (N:Int)+1)=((2 * N+1:Nat):Int) by omega,this];omega
theorem Gm (S:DS)(id:Int):(QY S id).1=2 * id∨(QY S id).1=2 * id+1:=by
 unfold QY;split
 ·split
  ·exact .inr rfl
  ·exact .inl rfl
 ·split<;>exact .inr rfl
theorem Fp (S:DS)(id:Int):0<=(QY S id).2.1/\(QY S id).2.1<=1073741824:=by
 rw [<-Jw];exact Jy S id 2
def Yx (id:Int):Bool:=decide (0<=id)&&decide (id<=1099511627776)
theorem RR (id:Int)(w:World):Calls prog 122 #[id] w λr w'=>r=.returned (.bool (Yx id))/\w=w':=by
 unfold Yx;go_enter func122,ntmps122;by_cases b:0<=id
 ·by_cases a:id<=1099511627776
  ·go_wp2_with fail;go_returns;simp [b,a]
  ·have h2':1099511627776<id:=by omega
   go_wp2_with fail;go_returns;simp [a]
 ·have h1':id<0:=by omega
  go_wp2_with fail;go_returns;simp;omega
noncomputable def Y2 (S:DS)(id:Int):Bs×Int×Bool:=if Yx id then ((QY S id).2.2,(QY S id).2.1,decide (0<(QY S id).2.1)) else ([],0,false)
def mp (base:Nat)(x:Bs×Int×Bool)(r:Ending)(w w':World):Prop:=∃sl:SL,r=.returned (.tuple #[Xn sl,int i64 x.2.1,.bool x.2.2])/\GoodS w' base sl/\QW w' sl=x.1/\Below w.heap.size w w'
theorem Nt (base s d:Nat)(M:Nat->Prop)(S:DS)(N:Nat)(w:World)(h:StoreIs w base M s d S)(e:DOk S N 1000000)(p:N<=100000)(id:Int)(b:base<=w.heap.size):
  Calls prog 82 #[s,id] w λr w'=>mp base (Y2 S id) r w w':=by
 have i:=pp (RR id w);unfold Y2;by_cases a:Yx id=true
 ·have g:0<=id/\id<=1099511627776:=by unfold Yx at a;simpa using a
  have E:=pp (cG base s d M S N w h e p id g.1 g.2 b);have HX:=pp (Fp S id);rw [a] at i;rw [if_pos a];clear h e p a;generalize QY S id=x at *;obtain ⟨x1,x2,x3⟩:=x;go_enter func82,ntmps82;go_upto_region 4 with first
   | (go_at_call 122;refine i.o.mono ?_;rintro A w' ⟨rfl,rfl⟩)
   | (go_at_call 123;refine E.o.mono ?_;rintro A t ⟨⟨q,n,c⟩,rfl,u,z,y⟩;dsimp only [Xn] at *)
  obtain ⟨m,j⟩:=pt (t.alloc (.cells #[int i64 x1,int i64 x2,.slice q n c] 190));rw [<-j];have C:=Q0.fresh j;have g2:pM t m:=by rw [j];exact Q3 _ _
  have F:=λd os=>(C.re d os).cell 1
  have c2:=λd os=>(C.re d os).cell 2
  have v:=pp (py u z);have l:=pp (py y g2);clear u z y g2 C j;refine wp_region_quiet_below (by kernel_rfl) (by kernel_rfl) ?_
  repeat (go_big_quiet_step (fail))
  refine wpQuiet_nil ?_;intro w' k;obtain ⟨rg,rfl⟩:=k;clear F c2;go_wp2_with fail;go_returns;obtain ⟨D,B⟩:=v.o.1.on (after l.o.2 (pK m _ _));exact ⟨(q,n,c),rfl,D,B.trans v.o.2,after (after l.o.1 l.o.2) (pK m _ _)⟩
 ·have f:Yx id=false:=by simpa using a
  rw [f] at i;rw [if_neg a];clear h e p a f;go_enter func82,ntmps82;go_wp2_with (go_at_call 122;refine i.o.mono ?_;rintro A w' ⟨rfl,rfl⟩);go_returns;exact ⟨(none,0,0),rfl,Ap,rfl,pI _ _⟩
noncomputable def Zv (S:DS)(id:Int)(b:Bs):DS×Int:=
 if Yx id then
  match Zr ((QY S id).2.1+1) b with
  | none=>(S,1)
  | some r=>if (S.put (4 * id+1 - (QY S id).1) r).2=0 then (S.put (4 * id+1 - (QY S id).1) r).1.sync else S.put (4 * id+1 - (QY S id).1) r
 else (S,1)
theorem Yw.ahead {w w' w'':World}{base:Nat}{a:DS}(b:Below w.heap.size w w')(k:Yw w' base M d a w''):Yw w base M d a w'':=
 Yw.trans (λ_ h=>.inl h) ((Kept.of_below b).mono λ_ _=>trivial) k
theorem Nu (base s d:Nat)(M:Nat->Prop)(S:DS)(N:Nat)(w:World)(h:StoreIs w base M s d S)(p:DOk S N 1000000)(hN:N<=90000)(id:Int)(sl:SL)(hs:GoodS w base sl)(hz:sl.2.1<=1000000)(g:base<=w.heap.size):
  Calls prog 127 #[s,int i64 id,Xn sl] w λr w'=>r=.returned (int i64 (Zv S id (QW w sl)).2)/\Yw w base M d (Zv S id (QW w sl)).1 w':=by
 have J:=pp (RR id w);have HT:=pp (Yw.same h.disk (pI _ _));have m:=h.disk;have f:=Gm S id;obtain ⟨⟨S2,Z⟩,e⟩:∃v,Zv S id (QW w sl)=v:=⟨_,rfl⟩;rw [e];dsimp only;unfold Zv at e;by_cases z:Yx id=true
 ·have t:0<=id/\id<=1099511627776:=by unfold Yx at z;simpa using z
  have HO:=pp (cG base s d M S N w h p (by omega) id t.1 t.2 g)
  have hx:=Fp S id;rw [z] at J;rw [if_pos z] at e;have HS:=pp h;have I:=pp p;clear h p z;generalize QY S id=x at *;obtain ⟨x1,x2,x3⟩:=x;dsimp only at f hx e;have j:Qg (4 * id+1 - x1):=by unfold Qg;omega
  obtain ⟨q,n,c⟩:=sl;have HW:=pp λ(W:World) (Y:pM w W)=>(Wx base (x2+1) (by unfold Qg;omega) (q,n,c) W (hs.on Y).1 hz)
  have Q:=pp λ(W:World) (Y:pM w W)=>(hs.on Y).2
  generalize QW w (q,n,c)=b at *;clear hs;go_enter func127,ntmps127;go_upto_region 4 with first
   | (go_at_call 122;refine J.o.mono ?_;rintro F w' ⟨rfl,rfl⟩)
   | (go_at_call 123;refine HO.o.mono ?_;rintro F w1 ⟨⟨sq,sn,sc⟩,rfl,-,-,g1⟩;dsimp only [Xn] at *)
  obtain ⟨W2,X⟩:=pt (w1.alloc (.cells #[int i64 x1,int i64 x2,.slice sq sn sc] 190));rw [<-X];have C:=Q0.fresh X;have g2:pM w W2:=after g1 (by rw [X];exact Q3 _ _)
  have c1:=C.cell 1;have B:=HW.o W2 g2;rw [Q.o W2 g2] at B;have k:=pp B;have HC:=pp C;have G2:=pp g2;have hxor:=WA t.1 t.2 f;generalize 4 * id+1 - x1=y at *;have a:=pp e;clear e;have hy:Qg y:=j;clear X HW B f C g2 g1 HO J Q;cases ho:Zr (x2+1) b with
  | none=>
   rw [ho] at k a;obtain ⟨rfl,rfl⟩:S=S2/\(1:Int)=Z:=by simpa using a.o
   clear ho a;go_upto_region 5 with (go_at_call 173;refine k.o.mono ?_;rintro F w3 ⟨s3,rfl,-,-,-,H⟩;have L:=pp (after G2.o H);clear H)
   go_wp2_with fail;go_returns;exact ⟨rfl,Yw.same m L.o⟩
  | some rr=>
   rw [ho] at k a;clear ho;go_upto_region 7 with (go_at_call 173;refine k.o.mono ?_;rintro F w3 ⟨⟨q3,n3,V⟩,rfl,P,T,Eo,H⟩;dsimp only [Xn,Option.isSome,Option.getD] at *)
   have l:=after G2.o H;have c0:=λd os=>((HC.o.on H).re d os).cell 0
   have b0:=λd os=>((HS.o.blk.on l).re d os).cell 0
   have u:=pp (py P (py T Eo));have L:=pp l;have U:=pp (m.on l);clear P T Eo H l m c1 HC;refine Qk [0,0,0,0,0,0,0,0,0,3,3] (λ_ _ _=>True) (by kernel_rfl) (by kernel_rfl) (λ_ _ _ _ h _=>h) ?_
   repeat (first|(refine Qi ?_)|(refine Qf (λK hK=>?_);go_simp;refine hK _ ?_;clear hK K))
   refine Q8 ?_;repeat (refine Q2 ?_)
   refine Qc ?_;simp only [Qd];intro W4 A _;clear c0 b0;have G:=pp (me base d M S N W4 (U.o.on A) I.o (by omega) y hy (q3,n3,V) (u.o.1.on A).1 (by have:=u.o.2.2;dsimp only at this ⊢;omega) (pB g (after L.o A).size))
   rw [(u.o.1.on A).2,u.o.2.1] at G;have E:=pp (HS.o.on (after L.o A));have G4:=pp (after L.o A);have i:=pp (I.o.put hy (b:=rr) (by have:=u.o.1.len;rw [u.o.2.1] at this;have:=u.o.2.2;dsimp only at *;omega))
   dsimp only [Xn] at G a;clear A;obtain ⟨⟨S3,e3⟩,hP⟩:∃v,S.put y rr=v:=⟨_,rfl⟩;rw [hP] at G a i;clear hP u U;dsimp only at G a i;by_cases he:e3=0
   ·have D:=a.o;rw [if_pos he] at D;subst he;have HV:=pp D;clear D a;go_upto_region 10 with (go_at_call 174;refine G.o.mono ?_;rintro F w5 ⟨rfl,t5⟩)
    have k0:=(t5.blk E.o.disk E.o.blk (by decide)).cell 0
    have R:=(t5.out E.o.disk (pB g G4.o.size)).2.1;obtain ⟨M5,d5,k2,V⟩:=t5;have HY:=pp (jb base d M5 S3 (N+1) w5 d5 i.o (by omega) R)
    rw [HV.o] at HY;dsimp only at HY;have HK:=pp (py k2 V);clear d5 k2 V R HV;go_wp2_with (go_at_call 175;refine HY.o.mono ?_;rintro F w6 ⟨rfl,T6⟩;replace T6:=pp T6);go_returns;exact ⟨rfl,Yw.ahead G4.o (Yw.trans HK.o.1 HK.o.2 T6.o)⟩
   ·have D:=a.o;rw [if_neg he] at D;obtain ⟨rfl,rfl⟩:S3=S2/\e3=Z:=by simpa using D
    clear D a;go_upto_region 9 with (go_at_call 174;refine G.o.mono ?_;rintro F w5 ⟨rfl,T5⟩;replace T5:=pp T5)
    go_wp2_with fail;go_returns;exact ⟨rfl,Yw.ahead G4.o T5.o⟩
 ·have O:Yx id=false:=by simpa using z
  rw [O] at J;rw [if_neg z] at e;obtain ⟨rfl,rfl⟩:S=S2/\(1:Int)=Z:=by simpa using e
  clear e;clear h p z O m;go_enter func127,ntmps127;go_wp2_with (go_at_call 122;refine J.o.mono ?_;rintro F w' ⟨rfl,rfl⟩);go_returns;exact ⟨rfl,HT.o⟩
end
section
def KZ (S:DS):Prop:=S.fails=0/\S.waits=0
theorem Hu (h:KZ S):S.asked=(S,false):=by
 unfold DS.asked;rw [if_neg (by rw [h.2];decide),if_neg (by rw [h.1];decide)]
theorem WB {j:Int}(a:Qj S' (2 * j)=Qj S (2 * j))(b:Qj S' (2 * j+1)=Qj S (2 * j+1)):QY S' j=QY S j:=by
 unfold QY;rw [a,b]
theorem mq (S:DS)(id:Int):((QY S id).1=2 * id+1/\(QY S id).2.1=0/\(QY S id).2.2=[]/\(Qj S (2 * id)).2.2≠0/\(Qj S (2 * id+1)).2.2≠0)∨
  (Qj S (QY S id).1=((QY S id).2.1,(QY S id).2.2,0)/\1<=(QY S id).2.1/\((Qj S (4 * id+1 - (QY S id).1)).2.2=0->(Qj S (4 * id+1 - (QY S id).1)).1<=(QY S id).2.1)):=by
 have e:(Qj S (2 * id)).2.2=0->1<=(Qj S (2 * id)).1:=λh=>(AG h).1
 have p2:(Qj S (2 * id+1)).2.2=0->1<=(Qj S (2 * id+1)).1:=λh=>(AG h).1
 have f:4 * id+1 - 2 * id=2 * id+1:=by omega
 have d:4 * id+1 - (2 * id+1)=2 * id:=by omega
 unfold QY;by_cases a:(Qj S (2 * id)).2.2=0
 ·rw [if_pos a];by_cases b:(Qj S (2 * id+1)).2.2=0/\(Qj S (2 * id)).1<(Qj S (2 * id+1)).1
  ·rw [if_pos b];refine .inr ⟨Prod.ext rfl (Prod.ext rfl b.1),p2 b.1,λ_=>?_⟩
   dsimp only;rw [d];omega
  ·rw [if_neg b];refine .inr ⟨Prod.ext rfl (Prod.ext rfl a),e a,λh=>?_⟩
   dsimp only at h ⊢;rw [f] at h ⊢;by_cases c:(Qj S (2 * id)).1<(Qj S (2 * id+1)).1
   ·exact absurd ⟨h,c⟩ b
   ·omega
 ·rw [if_neg a];by_cases b:(Qj S (2 * id+1)).2.2=0
  ·rw [if_pos b];refine .inr ⟨Prod.ext rfl (Prod.ext rfl b),p2 b,λh=>?_⟩
   dsimp only at h;rw [d] at h;exact absurd h a
  ·rw [if_neg b];exact .inl ⟨rfl,rfl,rfl,a,b⟩
theorem jt {id k u:Int}{b:Bs}(e:k=2 * id∨k=2 * id+1)(d:Qj S k=(u,b,0))(c:(Qj S (4 * id+1 - k)).2.2=0->(Qj S (4 * id+1 - k)).1<u):QY S id=(k,u,b):=by
 have f:4 * id+1 - 2 * id=2 * id+1:=by omega
 have g:4 * id+1 - (2 * id+1)=2 * id:=by omega
 unfold QY;rcases e with rfl|rfl
 ·rw [f] at c;rw [d,if_pos rfl,if_neg (λh=>by have:=c h.1;have:=h.2;dsimp only at this;omega)]
 ·rw [g] at c;rw [d];by_cases a:(Qj S (2 * id)).2.2=0
  ·rw [if_pos a,if_pos ⟨rfl,c a⟩]
  ·rw [if_neg a,if_pos rfl]
theorem Cv {k:Int}{b:Bs}(a:Yb S.now)(h:S'.now=QO S.now (k,b))(j:Int):Qj S' j=if k=j then Xx b else Qj S j:=by
 unfold Qj DS.get;rw [h,Kr _ _ a];split<;>rfl
theorem WC {id:Int}{b:Bs}(d:Yb S.now)(h:S'.now=QO S.now (4 * id+1 - (QY S id).1,Vc ((QY S id).2.1+1) b))(hv:(QY S id).2.1<1073741824)(f:b.length<=65536):
  QY S' id=(4 * id+1 - (QY S id).1,(QY S id).2.1+1,b)/\∀j,j≠id->QY S' j=QY S j:=by
 have hs:=Gm S id;have h0:=(Fp S id).1;constructor
 ·refine jt (by omega) ?_ λe=>?_
  ·rw [Cv d h,if_pos rfl,Wu (by omega) (by omega) f]
  ·rw [show 4 * id+1 - (4 * id+1 - (QY S id).1)=(QY S id).1 by omega,Cv d h,if_neg (by omega)] at e ⊢
   rcases mq S id with ⟨a,-,-,-,c⟩|⟨a,-,-⟩
   ·rw [a] at e;exact absurd e c
   ·rw [a];dsimp only;omega
 ·intro j hj;refine WB ?_ ?_
  ·rw [Cv d h,if_neg (by omega)]
  ·rw [Cv d h,if_neg (by omega)]
noncomputable def Uc (S:DS)(id:Int):Int:=4 * id+1 - (QY S id).1
noncomputable def Vd (S:DS)(id:Int)(b:Bs):Bs:=Vc ((QY S id).2.1+1) b
theorem L0 (S:DS)(id:Int)(b:Bs):(Vd S id b).length=b.length+9:=KU _ _
theorem ju {id:Int}(h:Yx id=true):Qg (Uc S id):=by
 have:=Gm S id;unfold Yx at h;have h2:0<=id/\id<=1099511627776:=by simpa using h
 unfold Uc Qg;omega
theorem eu {id:Int}{b:Bs}(a:Yx id=true)(hv:(QY S id).2.1<1073741824)(hb:b.length<=65536):
  Zv S id b=if (S.put (Uc S id) (Vd S id b)).2=0 then (S.put (Uc S id) (Vd S id b)).1.sync else S.put (Uc S id) (Vd S id b):=by
 have h0:=(Fp S id).1;unfold Zv Uc Vd;rw [if_pos a,show Zr ((QY S id).2.1+1) b=some (Vc ((QY S id).2.1+1) b) from by unfold Zr II;rw [if_pos (by simp;omega)]]
theorem IJ {id:Int}(h:Yx id=true):Y2 S id=((QY S id).2.2,(QY S id).2.1,decide (0<(QY S id).2.1)):=by
 unfold Y2;rw [if_pos h]
theorem RU {M:Nat}{id:Int}{b:Bs}(f:DOk S N M)(o:KZ S)(i:Yx id=true)(t:(QY S id).2.1<1073741824)(s:b.length<=65536)(u:b.length+9<=M)(hroom:(((N+1) * M:Nat):Int)<=S.room):
  ∃S',Zv S id b=(S',0)/\KZ S'/\S'.room=S.room/\S'.l=[]/\S'.now=QO S.now (Uc S id,Vd S id b)/\DOk S' (N+1) M/\QY S' id=(Uc S id,(QY S id).2.1+1,b)/\∀j,j≠id->QY S' j=QY S j:=by
 have r:=f.now.1;have k:Qg (Uc S id):=ju i;have g:S.fits (Uc S id) (Vd S id b)=true:=by
  have n:=G0 (Uc S id,Vd S id b) r;have q:=Ks f;have h3:=L0 S id b;have h4:(N+1) * M=N * M+M:=Nat.succ_mul N M;dsimp only at n;unfold DS.fits;simp only [decide_eq_true_eq];omega
 have d:S.put (Uc S id) (Vd S id b)=({ S with l:=S.l++[(Uc S id,Vd S id b)] },0):=by
  unfold DS.put;rw [Hu o,g];rfl
 have e:=f.put k (b:=Vd S id b) (by rw [L0];exact u)
 rw [d] at e;have p:KZ { S with l:=S.l++[(Uc S id,Vd S id b)] } :=o
 have m:DS.now { S with l:=S.l++[(Uc S id,Vd S id b)] } =QO S.now (Uc S id,Vd S id b):=Jm _ _ _
 have c:DS.sync { S with l:=S.l++[(Uc S id,Vd S id b)] } =({ S with safe:=QO S.now (Uc S id,Vd S id b),l:=[] },0):=by
  unfold DS.sync;rw [Hu p,m];rfl
 have a:=e.sync;dsimp only at a;rw [c] at a;have h:DS.now { S with safe:=QO S.now (Uc S id,Vd S id b),l:=[] } =QO S.now (Uc S id,Vd S id b):=rfl
 obtain ⟨n,q⟩:=WC r (h:DS.now _=QO S.now (4 * id+1 - (QY S id).1,Vc ((QY S id).2.1+1) b)) t s;refine ⟨{ S with safe:=QO S.now (Uc S id,Vd S id b),l:=[] },?_,o,rfl,rfl,h,a,n,q⟩
 rw [eu i t s,d,if_pos rfl,c]
end
end Go.Proofs.YtmbccnioijokfaaGreatDoor