/- A part of the proof. -/
import Derived.Test.YtmbccnioijokfaaGreatDoorZs39
namespace Go.Proofs.YtmbccnioijokfaaGreatDoor
set_option maxRecDepth 100000
set_option maxHeartbeats 32000000
open Go.Value (int)
open Go.IntKind (i64 u8)
open Go.Proofs.Tryz
variable {i base b q:Nat}{W w1:World}{args cs:Array Value}{v occ:Value}{bs:List B8}{y:Int}{D:List Nat}{L:Option Lf}
section
open Go.RowKit Go.Maps
theorem MD (n:Nat)(cl:List Cl):∀k,k<=cl.length->QH (ZL n cl k).l/\((ZL n cl k).l.length:Int)<=7 * k
 | 0,_=>⟨List.Pairwise.nil,by show ((0:Nat):Int)<=_;omega⟩
 | k+1,h=>by
  obtain ⟨a,h2⟩:=MD n cl k (by omega)
  obtain ⟨c,d⟩:∃c,cl[k]?=some c:=⟨_,pH (by omega)⟩
  rw [JQ d];have b:=Mf (ZL n cl k).t c 3 (p:=((ZL n cl k).f,(ZL n cl k).l)) a;refine ⟨UE _ c 3 (p:=((ZL n cl k).f,(ZL n cl k).l)) a,?_⟩;show ((Yf (ZL n cl k).t ((ZL n cl k).f,(ZL n cl k).l) c 3).2.length:Int)<=_;dsimp only at b;omega
section
variable (sh e s wd t n:Nat)(cl:List Cl)(x z:Int)(m:Nat)
noncomputable def ME:PW:=(ZL n cl cl.length).run x z true m
noncomputable def Zw (i:Nat):QK:=
 if i=0 then Cf sh e s wd t n
 else if i<=cl.length+1 then VC sh e s wd t (ZL n cl (i - 1)) (i - 1) 0 0 false (some (n:Int))
 else if i=cl.length+2 then VC sh e s wd t (ZL n cl cl.length) cl.length x z true (some (n:Int))
 else VC sh e s wd t (ME n cl x z m) (cl.length+16 * m) x z true (some (n:Int))
theorem Ya (i:Nat):QK.Fit 5 (Zw sh e s wd t n cl x z m i):=by
 unfold Zw;split
 ·exact ZX sh e s wd t n
 ·split
  ·exact ZW ..
  ·split
   ·exact ZW ..
   ·exact ZW ..
def Aa:List ByteArray:=ZK::(cl.map ZQ++[U3 x z,FF m])
noncomputable def MF (i:Nat):ByteArray:=if i=0 then Q4 (Lib.itoa 0) else if i<=cl.length+1 then VB else Z4 [Q4 (Lib.itoa ((ZL n cl cl.length).sum x z true m)),Q4 (Lib.itoa ((ZL n cl cl.length).t+m))]
theorem GQ:(Aa cl x z m).length=cl.length+3:=by simp [Aa]
end
theorem nI {sh e s wd t n:Nat}{cl:List Cl}{x z:Int}{m:Nat}(y:∀c∈cl,Ek c)(h4:cl.length<=4)(p: -100000000<x/\x<100000000)(A: -100000000<z/\z<100000000)(B:1<=m/\m<=10){c:ByteArray}(o:(Aa cl x z m)[i]?=some c)(w:World)(M:Nat->Prop)(h:Zw sh e s wd t n cl x z m i w M):
  Calls prog 9 #[sh,.string c] w λr w'=>r=.returned (.string (MF n cl x z m i))/\Q6 (Zw sh e s wd t n cl x z m (i+1)) w M w':=by
 have f:=(List.getElem?_eq_some_iff.1 o).1;rw [GQ] at f;rcases i with _|i
 ·obtain rfl:ZK=c:=by simpa [Aa] using o
  unfold Zw at h;rw [if_pos rfl] at h;refine (ck h).mono ?_;rintro r w' ⟨rfl,k⟩;refine ⟨rfl,?_⟩;unfold Zw;rw [if_neg (by omega),if_pos (by omega)]
  exact k
 ·have a:(cl.map ZQ++[U3 x z,FF m])[i]?=some c:=by simpa [Aa] using o
  unfold Zw at h;rw [if_neg (by omega)] at h
  by_cases v:i<cl.length
  ·rw [if_pos (by omega),Nat.add_sub_cancel] at h
   rw [List.getElem?_append_left (by simpa using v),List.getElem?_map] at a
   obtain ⟨d,j⟩:∃d,cl[i]?=some d:=⟨_,pH v⟩;rw [j] at a;obtain rfl:ZQ d=c:=by simpa using a
   have g:=y d (pG j);have b:=cm g;unfold Ek at g;obtain ⟨u,l⟩:=Ji n cl i;refine (iA h u l i ⟨by omega,(MD n cl i (by omega)).2,pA _⟩ d.1 d.2.1 d.2.2 g.1 g.2 _ _ _ b.1 b.2 (YE (by omega) (by omega)).1 (YE (by omega) (by omega)).1 (YE (by omega) (by omega)).1).mono ?_
   rintro r w' ⟨rfl,k,-⟩;unfold MF Zw;rw [if_neg (by omega),if_pos (by omega),if_neg (by omega),if_pos (by omega),Nat.add_sub_cancel,JQ j]
   exact ⟨rfl,k⟩
  ·rw [List.getElem?_append_right (by simpa using v),List.length_map] at a
   rcases (show i=cl.length∨i=cl.length+1 by omega) with rfl|rfl
   ·rw [Nat.sub_self] at a;obtain rfl:U3 x z=c:=by simpa using a
    rw [if_pos (by omega),Nat.add_sub_cancel] at h
    have b:=MC p A;refine (Oz h _ _ _ x z true b.1 b.2 VS (YE p.1 p.2).1 (YE A.1 A.2).1).mono ?_;rintro r w' ⟨rfl,k⟩;unfold MF Zw;rw [if_neg (by omega),if_pos (by omega),if_neg (by omega),if_neg (by omega),if_pos (by omega)]
    exact ⟨rfl,k⟩
   ·rw [Nat.add_sub_cancel_left] at a;obtain rfl:FF m=c:=by simpa using a
    rw [if_neg (by omega),if_pos (by omega)] at h
    have b:=PD (n:=m) (by omega)
    have q:=(Ji n cl cl.length).2;refine (Oy h m B (by rw [q];omega) _ (cn (by omega)) b.1 b.2).mono ?_
    rintro r w' ⟨rfl,k⟩;unfold MF Zw;rw [if_neg (by omega),if_neg (by omega),if_neg (by omega),if_neg (by omega),if_neg (by omega)]
    exact ⟨rfl,k⟩
section
variable {sh e s wd t n:Nat}{cl:List Cl}{x z:Int}{m:Nat}
theorem MG:Zw sh e s wd t n cl x z m (cl.length+3)=VC sh e s wd t (ME n cl x z m) (cl.length+16 * m) x z true (some (n:Int)):=by
 unfold Zw;rw [if_neg (by omega),if_neg (by omega),if_neg (by omega)]
theorem lQ:(ME n cl x z m).t=m:=by
 unfold ME;rw [Is,(Ji n cl cl.length).2];omega
end
section
variable (sh e s wd t:Nat)(p:PW)(K:Nat)(x z:Int)
def Ff (i:Nat):QK:=if i<=5 then Ce sh e s wd t p K i else VC sh e s wd t p K x z true none
theorem iG (i:Nat):QK.Fit 5 (Ff sh e s wd t p K x z i):=by
 unfold Ff;split
 ·exact OA i
 ·exact ZW ..
def YN:List ByteArray:=[⟨#[108,111,97,100,32,48,32,48]⟩,⟨#[108,111,97,100,32,49,32,48]⟩,⟨#[108,111,97,100,32,45,49,32,48]⟩,⟨#[108,111,97,100,32,48,32,49]⟩,⟨#[108,111,97,100,32,48,32,45,49]⟩,U3 x z]
noncomputable def Et (fr:Option Int)(i:Nat):QK:=VC sh e s wd t (p.run x z true i) (K+16 * i) x z true fr
theorem UF (fr:Option Int)(i:Nat):QK.Fit 5 (Et sh e s wd t p K x z fr i):=ZW ..
noncomputable def dm (i:Nat):ByteArray:=Z4 [Q4 (Lib.itoa ((p.run x z true i).sum x z true 1)),Q4 (Lib.itoa ((p.run x z true i).t+1))]
noncomputable def dn (i:Nat):ByteArray:=Fs (p.run x z true i).b.1 (p.run x z true i).b.2.1 (p.run x z true i).b.2.2.1 (p.run x z true i).b.2.2.2.1 (p.run x z true i).b.2.2.2.2.1 (p.run x z true i).b.2.2.2.2.2.1 (p.run x z true i).b.2.2.2.2.2.2.2.2
end
section
variable {sh e s wd t:Nat}{p:PW}{K:Nat}{x z:Int}{fr:Option Int}{w:World}{M:Nat->Prop}
theorem lR (b: -100000000<x/\x<100000000)(d: -100000000<z/\z<100000000){c:ByteArray}(a:(YN x z)[i]?=some c)(h:Ff sh e s wd t p K x z i w M):
  Calls prog 9 #[sh,.string c] w λr w'=>r=.returned (.string VB)/\Q6 (Ff sh e s wd t p K x z (i+1)) w M w':=by
 unfold Ff at h ⊢;rcases i with _|_|_|_|_|_|i
 ·obtain rfl:(⟨#[108,111,97,100,32,48,32,48]⟩:ByteArray)=c:=by simpa [YN] using a
  rw [if_pos (by omega)] at h ⊢
  exact bW h ⟨#[48]⟩ ⟨#[48]⟩ (by decide) (Xo (by kernel_rfl)) VS VS
 ·obtain rfl:(⟨#[108,111,97,100,32,49,32,48]⟩:ByteArray)=c:=by simpa [YN] using a
  rw [if_pos (by omega)] at h ⊢
  exact bX h ⟨#[49]⟩ ⟨#[48]⟩ (by decide) (Xo (by kernel_rfl)) Mx VS
 ·obtain rfl:(⟨#[108,111,97,100,32,45,49,32,48]⟩:ByteArray)=c:=by simpa [YN] using a
  rw [if_pos (by omega)] at h ⊢
  exact bY h ⟨#[45,49]⟩ ⟨#[48]⟩ (by decide) (Xo (by kernel_rfl)) dk VS
 ·obtain rfl:(⟨#[108,111,97,100,32,48,32,49]⟩:ByteArray)=c:=by simpa [YN] using a
  rw [if_pos (by omega)] at h ⊢
  exact bZ h ⟨#[48]⟩ ⟨#[49]⟩ (by decide) (Xo (by kernel_rfl)) VS Mx
 ·obtain rfl:(⟨#[108,111,97,100,32,48,32,45,49]⟩:ByteArray)=c:=by simpa [YN] using a
  rw [if_pos (by omega)] at h ⊢
  exact cd h ⟨#[48]⟩ ⟨#[45,49]⟩ (by decide) (Xo (by kernel_rfl)) VS dk
 ·obtain rfl:U3 x z=c:=by simpa [YN] using a
  rw [if_pos (by omega)] at h
  rw [if_neg (by omega)]
  have f:=MC b d;exact Oz (ce h) _ _ _ x z true f.1 f.2 VS (YE b.1 b.2).1 (YE d.1 d.2).1
 ·exact absurd a (by simp [YN])
theorem iH {i:Nat}(ht:p.t+(i:Int)+1<=20)(h:Et sh e s wd t p K x z fr i w M):
  Calls prog 9 #[sh,.string ⟨#[116,105,99,107,32,49]⟩] w λr w'=>r=.returned (.string (dm p x z i))/\Q6 (Et sh e s wd t p K x z fr (i+1)) w M w':=by
 refine (Oy h 1 (by omega) (by rw [Is];omega) ⟨#[49]⟩ (by decide) (Xo (by kernel_rfl)) Mx).mono ?_
 rintro r w' ⟨rfl,k⟩;refine ⟨rfl,?_⟩;unfold Et;rw [show K+16 * (i+1)=K+16 * i+16 * 1 by omega]
 exact k
theorem iI (a:Vz w)(h:Et sh e s wd t p K x z fr i w M):
  Calls prog 9 #[sh,.string ⟨#[98,111,100,121,32,48]⟩] w λr w'=>r=.returned (.string (dn p x z i))/\Q6 (Et sh e s wd t p K x z fr i) w M w':=
 iw h a ⟨#[48]⟩ (by decide) (Xo (by kernel_rfl)) VS
theorem MH (h:VC sh e s wd t p K x z true fr w M):Q0 w sh 79 #[e]/\Calls prog 13 #[e] w (λr w'=>r=.returned (.bool true)/\w=w')/\
   ∀W,Below w.heap.size w W->Calls prog 19 #[e] W λr w'=>∃v,r=.returned v/\QG W W.heap.size (.slice none 0 0) (Vv p.t p.b p.l) v w':=by
 obtain ⟨occ,S,q,f,a,i,hF,Me,d,c,-⟩:=h;refine ⟨d,Oo e s wd t q occ S _ Me w c,λW g=>?_⟩
 have:=JO e s wd t q occ S ⟨f,p.b,x,z,true⟩ (by rw [a.ql];have:=i.small;omega) W Me ((YB ..).on c g)
 rw [a.now,a.ql] at this;exact this
end
abbrev N0 (w:World):Nat->Prop:=λb=>w.heap.size<=b
def VJ (w:World)(g:Nat)(S1 S2:QK)(wr:World):Prop:=XN (λb=>w.heap.size<=b/\b≠g) S1 S2 wr/\Below w.heap.size w wr/\g<wr.heap.size
section
variable {w wr w':World}{g:Nat}{P Q P' Q':QK}
theorem VJ.of (c:0<w.heap.size)(h:XN (N0 w) P Q wr)(a:Below w.heap.size w wr):VJ w 0 P Q wr:=
 ⟨h.mono λb a=>⟨a,λe=>by have:w.heap.size<=b:=a;omega⟩,a,pD c a.size⟩
theorem VJ.back (a:0<w.heap.size)(h:VJ w g P Q wr):VJ w 0 P Q wr:=VJ.of a (h.1.mono λ_ b=>b.1) h.2.1
theorem VJ.row (F:QK.Fit 5 P)(G:QK.Fit 5 Q)(h:VJ w 0 P Q wr){o:Obj}(c:W=wr.alloc o):VJ w wr.heap.size P Q W:=by
 have a:pM wr W:=by rw [c];exact Q3 _ _
 have l:wr.heap.size<W.heap.size:=by rw [c,World.size_alloc];omega
 obtain ⟨⟨A,B,f,d,k,i,j⟩,g,-⟩:=h;refine ⟨⟨A,B,F.on f a,G.on d a,k,λb a=>⟨(i b a).1,λe=>?_⟩,λb a=>⟨(j b a).1,λe=>?_⟩⟩,after g a,l⟩
 ·have:=F.lt f b a;omega
 ·have:=G.lt d b a;omega
theorem VJ.left (F:QK.Fit 5 P)(G:QK.Fit 5 Q)(h:VJ w g P Q wr){R:Ending->Prop}{f:FuncId}(e:∀A,P wr A->Calls prog f args wr λr w'=>R r/\Q6 P' wr A w'):
  Calls prog f args wr λr w'=>R r/\VJ w g P' Q w'/\∀ty cs,Q0 wr g ty cs->Q0 w' g ty cs:=by
 refine (XN.left F G (λb a=>⟨pB h.2.1.size a,by have:=h.2.2;omega⟩) h.1 e).mono ?_
 rintro r w' ⟨d,ht,c⟩;exact ⟨d,⟨ht,Vm h.2.1 (λb a=>a.1) c,pD h.2.2 c.size⟩,λty cs a=>c.blk (λh=>h.2 rfl) a⟩
theorem VJ.right (F:QK.Fit 5 P)(G:QK.Fit 5 Q)(h:VJ w g P Q wr){R:Ending->Prop}{f:FuncId}(e:∀A,Q wr A->Calls prog f args wr λr w'=>R r/\Q6 Q' wr A w'):
  Calls prog f args wr λr w'=>R r/\VJ w g P Q' w'/\∀ty cs,Q0 wr g ty cs->Q0 w' g ty cs:=by
 refine (XN.right F G (λb a=>⟨pB h.2.1.size a,by have:=h.2.2;omega⟩) h.1 e).mono ?_
 rintro r w' ⟨d,ht,c⟩;exact ⟨d,⟨ht,Vm h.2.1 (λb a=>a.1) c,pD h.2.2 c.size⟩,λty cs a=>c.blk (λh=>h.2 rfl) a⟩
end
def VU (TL:ByteArray):Array Value:=#[.string ⟨#[108,111,97,100,32,48,32,48]⟩,.string ⟨#[108,111,97,100,32,49,32,48]⟩,.string ⟨#[108,111,97,100,32,45,49,32,48]⟩,.string ⟨#[108,111,97,100,32,48,32,49]⟩,.string ⟨#[108,111,97,100,32,48,32,45,49]⟩,.string TL]
theorem co {wr:World}{g:Nat}{x z:Int}(h:Q0 wr g 9 (VU (U3 x z))){c:ByteArray}(a:(YN x z)[i]?=some c):wr.cell? ⟨g,i,none⟩=some (.string c):=by
 rw [h.cell i];rcases i with _|_|_|_|_|_|i
 ·simpa [YN,VU] using a
 ·simpa [YN,VU] using a
 ·simpa [YN,VU] using a
 ·simpa [YN,VU] using a
 ·simpa [YN,VU] using a
 ·simpa [YN,VU] using a
 ·exact absurd a (by simp [YN])
theorem cq {sh e s wd t:Nat}{p:PW}{K:Nat}{x z:Int} :Ff sh e s wd t p K x z 6=VC sh e s wd t p K x z true none:=by
 unfold Ff;rw [if_neg (by omega)]
theorem Tp {sh e s wd t:Nat}{p:PW}{K:Nat}{x z:Int} :Ff sh e s wd t p K x z 0=Ce sh e s wd t p K 0:=by
 unfold Ff;rw [if_pos (by omega)]
def lS (bs:List B8):ByteArray:=strOfNums (bs.map n8)
theorem cr {w:World}(h:Q5 w base 5 1 Yk v bs)(a:0<bs.length):(convert 51 9 v).run prog w=.ok (.string (lS bs)) w:=by
 obtain ⟨q,cap,rfl,-,-,b,-⟩:=h.form (show ∀x:B8,(Yk x).length=1 from λ_=>rfl)
 obtain ⟨g,o,rfl,f⟩:=b a;refine run_convert_bytes_arg w 51 5 underlying51 underlying5 g o _ cap _ (by simp) (λi j=>?_) 9 underlying9
 obtain ⟨c,d⟩:∃c,bs[i]?=some c:=⟨_,pH j⟩;have e:w.cell? ⟨g,o+i,none⟩=some (int u8 (n8 c)):=by simpa using f i c d 0 _ rfl
 rw [e];simp [List.getD,d]
def MI (bs:List B8)(o:ByteArray):Nat->XO:=λi v w=>match i with
 | 2=>∃base,Q5 w base 5 1 Yk v bs
 | 6=>∃base,Q5 w base 5 1 Yk v bs
 | 3=>v=.string o
 | 7=>v=.string o
 | _=>True
theorem Tq (bs:List B8)(o:ByteArray):∀i v (w w':World),MI bs o i v w->Below w.heap.size w w'->MI bs o i v w'
 | 2,_,_,_,⟨b,h⟩,a=>⟨b,h.on a⟩
 | 6,_,_,_,⟨b,h⟩,a=>⟨b,h.on a⟩
 | 3,_,_,_,h,_=>h
 | 7,_,_,_,h,_=>h
 | 0,_,_,_,_,_=>trivial
 | 1,_,_,_,_,_=>trivial
 | 4,_,_,_,_,_=>trivial
 | 5,_,_,_,_,_=>trivial
 | _+8,_,_,_,_,_=>trivial
end
section
open Go.RowKit Go.Maps
attribute [local go_sem] Oper.semAt_some
def It (c:Cl):Cl:=(3+Zb c.1 10,6+Zb c.2.1 14+12,3+Zb c.2.2 10)
theorem MJ (c:Cl):Ek (It c):=by
 have a1:=UH c.1 (m:=10) (by decide)
 have a2:=UI c.1 (m:=10) (by decide)
 have b1:=UH c.2.1 (m:=14) (by decide)
 have b2:=UI c.2.1 (m:=14) (by decide)
 have c1:=UH c.2.2 (m:=10) (by decide)
 have c2:=UI c.2.2 (m:=10) (by decide)
 unfold Ek It;dsimp only;omega
abbrev N1 (w w2:World):Nat->Prop:=λb=>w.heap.size<=b/\b<w2.heap.size
theorem XN.kept {N K:Nat->Prop}{P Q:QK}{w w':World}(F:QK.Fit 5 P)(G:QK.Fit 5 Q)(h:XN N P Q w)(d:Kept K w w')(f:∀b,N b->K b)(c:∀b cs,Q0 w b 5 cs->K b):XN N P Q w':=by
 obtain ⟨A,B,k,i,j,e,g⟩:=h;exact ⟨A,B,F.kept k d (λb a=>f b (e b a)) c,G.kept i d (λb a=>f b (g b a)) c,j,e,g⟩
theorem JC.cl3 {w:World}{A:Option Addr}{n:Nat}{F:Nat->Cl}(h:JC 3 XG w A n F)(b:i<n):∃g o,A=some ⟨g,o,none⟩/\w.cell? ⟨g,o+i * 3,none⟩=some (int i64 (F i).1)/\w.cell? ⟨g,o+i * 3+1,none⟩=some (int i64 (F i).2.1)/\w.cell? ⟨g,o+i * 3+2,none⟩=some (int i64 (F i).2.2):=by
 obtain ⟨g,o,e,a⟩:=h (by omega)
 exact ⟨g,o,e,by simpa using a i b 0 _ rfl,by simpa using a i b 1 _ rfl,by simpa using a i b 2 _ rfl⟩
def Ab (F:Nat->Cl)(k:Nat):List Cl:=(List.range k).map λi=>It (F i)
theorem MZ (F:Nat->Cl)(k:Nat):Ab F (k+1)=Ab F k++[It (F k)]:=by
 unfold Ab;rw [List.range_succ,List.map_append];rfl
theorem Bv (F:Nat->Cl)(k:Nat):(Ab F k).length=k:=by simp [Ab]
theorem ct {x z:Int}(hx: -100000000<x/\x<100000000)(hy: -100000000<y/\y<100000000)(hz: -100000000<z/\z<100000000):(Q4 (XW [x,y,z])).size<=30:=
 FG (l:=[x,y,z]) (by intro n a;simp only [List.mem_cons,List.not_mem_nil,or_false] at a;rcases a with rfl|rfl|rfl<;>assumption)
theorem nJ {xs:List ByteArray}{s s2:ByteArray}(o:Q5 W base 9 1 YJ v xs)(n:Q0 W b 9 #[.string s,.string s2])(hl:xs.length<=1000000)(l:base<=W.heap.size):
  ∃v2 c,(Builtin.append_ #[48,48] 48 #[v,.slice (some ⟨b,0,none⟩) 2 2]).run prog W=.ok v2 c/\Q5 c base 9 1 YJ v2 (xs++[s,s2])/\Kept (λb=>v.ownBlock≠some b) W c:=by
 obtain ⟨i,k,e,f,d⟩:=info_parts WP;obtain ⟨v2,c,g,h,m,-,-⟩:=run_append_own_at (P:=prog) W base 48 48 9 i (.string ⟨#[]⟩) 1 16 underlying48 k e f d rfl (by decide) v xs.length (xs.flatMap YJ) o ⟨b,0,none⟩ 2 2 [.string s,.string s2] rfl (λj u a=>by
  have hj:j<2:=(List.getElem?_eq_some_iff.1 a).1;rw [Addr.add_lit,Nat.zero_add,n.cell];simpa using a) (by intro u a;simp at a;rcases a with rfl|rfl<;>rfl) (by simp [maxLen];omega) (by omega) l
 refine ⟨v2,c,g,?_,XQ m⟩;unfold Q5;rw [List.length_append,List.flatMap_append];exact h
theorem FH {w c:World}(h:Kept (λb=>b∉D) w w1)(k:Kept (λb=>¬(b∈D∨w.heap.size<=b)) w1 c):Kept (λb=>b∉D) w c:=
 ⟨k.os.trans h.os,k.tape.trans h.tape,k.output.trans h.output,pB h.size k.size,λb d a=>(k.block b (pD d h.size) (λe=>e.elim a (by omega))).trans (h.block b d a)⟩
theorem lT:¬Pp 9:=by
 intro h;rcases h with h|h|h|h|h|h
 ·revert h;decide
 ·revert h;decide
 ·revert h;decide
 ·revert h;decide
 ·rcases h with h|h|h|h|h|h|h|h|h|h<;>revert h<;>decide
 ·rcases h with h|h<;>revert h<;>decide
theorem El {w:World}{sh e s wd t:Nat}{S:SS}{M:Nat->Prop}(h:QJ sh e s wd t q occ S L w M)(a:M b):¬Q0 w b 9 cs:=λc=>by
 obtain ⟨Me,f,d,g⟩:=h;rcases (g b).1 a with rfl|a
 ·exact absurd (Q7 c f) (by decide)
 ·exact lT ((d.type a).2 _ _ c)
theorem JR {w:World}{sh e s wd t n:Nat}{cl:List Cl}{x z:Int}{m:Nat}{M:Nat->Prop}(h:Zw sh e s wd t n cl x z m i w M)(a:M b):¬Q0 w b 9 cs:=by
 unfold Zw at h;split at h
 ·obtain ⟨q,h⟩:=h;exact El h a
 ·split at h
  ·obtain ⟨occ,S,q,c,-,-,-,h⟩:=h;exact El h a
  ·split at h
   ·obtain ⟨occ,S,q,c,-,-,-,h⟩:=h;exact El h a
   ·obtain ⟨occ,S,q,c,-,-,-,h⟩:=h;exact El h a
theorem PE (seed:Int)(h1: -9223372036854775808<=seed)(h2:seed<=9223372036854775807)(A1:Option Addr)(n1 k1:Nat)(F1:Nat->Cl)(eg:n1<=k1)(c6:k1<=maxLen)(dr:∀i,i<n1->UC (F1 i))(ix iz:Int)(c4:Qg ix)(em:Qg iz)(j:Bool)(O behind:Int)(ha:Qg O)(dq:Qg behind)(mx:Int)(w:World)(hq:JC 3 XG w A1 n1 F1)(hm:w.cell? ⟨0,0,none⟩=some (int i64 mx))(hT:Vz w):
  Calls prog 6 #[int i64 seed,.slice A1 n1 k1,.agg #[ix,iz,.bool j],int i64 O,int i64 behind] w λr w'=>r=.returned (.bool true)/\Below w.heap.size w w':=by
 have db:0<w.heap.size:=by
  rcases Nat.lt_or_ge 0 w.heap.size with h|h
  ·exact h
  ·simp [World.cell?,Array.getElem?_eq_none h] at hm
 obtain ⟨W0,a7⟩:∃W,W=w.alloc (.cells #[ix,iz,.bool j] 33):=⟨_,rfl⟩;have b0:Below w.heap.size w W0:=by rw [a7];exact Q3 _ _
 have BI:=Q0.fresh a7;have dk:=pp λW=>cg seed h1 h2 W
 have HM:=pp (py hm (py db (py hq (py eg (py c6 (py dr (py c4 (py em (py ha (py dq hT))))))))));have H0:=pp (py b0 BI);clear h1 h2 hm db hq eg c6 dr c4 em ha dq hT b0 BI;go_enter func6,ntmps6;go_upto_region 1 with fail
 rw [<-a7];clear a7;go_upto_region 2 with (go_at_call 7;refine (dk.o _).mono ?_;rintro Q w1 ⟨n,sh,e,s,wd,t,q,M1,hn,an,rfl,p1,m1,b1⟩;have H1:=pp (py hn (py an (py p1 (py m1 b1))));clear hn an p1 m1 b1)
 go_upto_region 3 with (go_at_call 7;refine (dk.o _).mono ?_;rintro Q Z ⟨L,G,R,s2,I,Y,q2,M2,en,ad,rfl,p2,m2,b2⟩;have H2:=pp (py en (py ad (py p2 (py m2 b2))));clear en ad p2 m2 b2)
 go_upto_region 6 with fail
 have fl:L=n:=by have:=H1.o.2.1;have:=H2.o.2.1;omega
 subst fl;obtain ⟨W3,bf⟩:∃W,W=Z.alloc (.cells #[.string ⟨#[115,112,97,119,110,32,53,50,52,50,56,56,32,49,48,52,56,53,55,54,32,53,50,52,50,56,56,32,52,48,48,48,48,32,49,48,48,48,48,48]⟩] 9):=⟨_,rfl⟩;rw [<-bf];have b3:Below Z.heap.size Z W3:=by rw [bf];exact Q3 _ _
 have O3:Q5 W3 Z.heap.size 9 1 YJ (.slice (some ⟨Z.heap.size,0,none⟩) 1 1) [ZK]:=LF (xs:=[ZK]) (Q0.fresh bf) (pA _) (λ_=>rfl) (by decide) rfl
 have G3:Below W0.heap.size W0 W3:=after H1.o.2.2.2.2 (after H2.o.2.2.2.2 b3);have T3:XN (N1 w Z) (Cf sh e s wd t L) (Cf G R s2 I Y L) W3:=by
  have q1:=H1.o.2.2.1;have eo:=H2.o.2.2.1;have f1:=Qq sh e s wd t q Xb (S5 L) none;have H:=f1.lt q1;refine XN.on (ZX ..) (ZX ..) ⟨M1,M2,⟨q,f1.on q1 H2.o.2.2.2.2⟩,⟨_,eo⟩,λb F eq=>?_,λb F=>?_,λb F=>?_⟩ b3
  ·have:=H b F;have:=H2.o.2.2.2.1 b eq;omega
  ·have:=H1.o.2.2.2.1 b F;have:=H0.o.1.size;have:=H b F;have:=H2.o.2.2.2.2.size;show w.heap.size<=b/\b<Z.heap.size;omega
  ·have:=H2.o.2.2.2.1 b F;have:=H0.o.1.size;have:=H1.o.2.2.2.2.size;have:=(Qq G R s2 I Y q2 Xb (S5 L) none).lt eo b F;show w.heap.size<=b/\b<Z.heap.size;omega
 have H3:=pp (py O3 (py T3 G3));have HS2:=pp b3.size;clear b3 O3 T3 G3 bf;go_upto_block 0 with fail
 go_cut [13] from 32 to 57 (λbv wr=>∃(cl:List Cl) (c':Nat) (q':Option Addr),bv=.slice q' (cl.length+1) c'/\Hid (cl.length<=4/\∀c∈cl,Ek c)/\Hid (Q5 wr Z.heap.size 9 1 YJ (.slice q' (cl.length+1) c') (ZK::cl.map ZQ))/\Hid (XN (N1 w Z) (Cf sh e s wd t L) (Cf G R s2 I Y L) wr)/\Hid (Below W0.heap.size W0 wr))
 case first=>
  go_upto_region 7 with fail
  go_loopw [13,14] (λbv iv wr=>∃(k c':Nat) (q':Option Addr),iv=.int .i64 k/\bv=.slice q' (k+1) c'/\Hid (k<=4/\k<=n1)/\Hid (Q5 wr Z.heap.size 9 1 YJ (.slice q' (k+1) c') (ZK::(Ab F1 k).map ZQ))/\Hid (XN (N1 w Z) (Cf sh e s wd t L) (Cf G R s2 I Y L) wr)/\Hid (Below W0.heap.size W0 wr)) (λ_ iv _=>4 - (intOf iv).toNat)
  case atStart=>exact ⟨0,1,_,rfl,rfl,pp (by omega),pp H3.o.1,pp H3.o.2.1,pp H3.o.2.2⟩
  case round=>
   obtain ⟨k,c',q',rfl,rfl,hk,HO,HT,HG⟩:=hrel;by_cases H:k<n1/\k<4
   ·have g1:(k:Int)<(n1:Int):=by omega
    have g2:(k:Int)<4:=by omega
    have g0:(0:Int)<=(k:Int):=by omega
    have g3:IntKind.i64.wrap ((k:Int)+1)=(k:Int)+1:=pJ _ (by omega)
    obtain ⟨gq,oq,rfl,p0,p1,p2⟩:=((HM.o.2.2.1.on H0.o.1).on HG.out).cl3 H.1;have ae:=HM.o.2.2.2.2.2.1 k H.1;have a4:=MJ (F1 k);have ca:=MZ F1 k;have b9:=pp (To (F1 k).1 (F1 k).2.1 (F1 k).2.2 ae.1 ae.2.1 ae.2.2 wr);obtain ⟨⟨cx,cy,cz⟩,ap⟩:∃d:Cl,d=It (F1 k):=⟨_,rfl⟩;rw [<-ap] at a4 ca;have e1:3+Zb (F1 k).1 10=cx:=(congrArg (·.1) ap).symm;have R:6+Zb (F1 k).2.1 14=cy - 12:=by have:cy=6+Zb (F1 k).2.1 14+12:=congrArg (·.2.1) ap;omega
    have e3:3+Zb (F1 k).2.2 10=cz:=(congrArg (·.2.2) ap).symm;rw [e1,R,e3] at b9;unfold Ek at a4;dsimp only at a4;have w1':wrap64 cy=cy:=by unfold wrap64;omega
    have d1:=pp λW=>iE cx cy cz (by omega) (by omega) (by omega) W
    have cm:ZQ (cx,cy,cz)=(ZB++Q4 (XW [cx,cy,cz]))++⟨#[32,115,97,110,100]⟩:=rfl;have dp:=ct (x:=cx) (y:=cy) (z:=cz) (by omega) (by omega) (by omega)
    obtain ⟨rs,ac⟩:=pt (Q4 (XW [cx,cy,cz]));rw [<-ac] at d1 cm dp;have ee:(rs.size:Int)<=9223372036854775802:=by omega
    have ef:(5:Int)+(rs.size:Int)<=9223372036854775802:=by omega
    have ei:((ZB++rs).size:Int)+5<=9223372036854775807:=by have:ZB.size=5:=rfl;simp [ByteArray.size_append];omega
    have HZ:=pp (py H (py ca cm));have de:=pp (py g0 g3);clear ap e1 R e3 ae a4 ca cm dp ac H;go_upto_region 10 with (go_at_call 17;refine b9.o.mono ?_;rintro Q X ⟨rfl,G5⟩;replace G5:=pp G5)
    obtain ⟨V5,a6⟩:∃V,V=X.alloc (.cells #[int i64 cx,int i64 (cy - 12),int i64 cz] 43):=⟨_,rfl⟩;have X5:=Q0.fresh a6;have b5:Below X.heap.size X V5:=by rw [a6];exact Q3 _ _
    have y1:=X5.cell 1;have y2:=X5.frz 1;rw [<-a6];have cc:=pp (py X5 b5);obtain ⟨C,hC⟩:=pt X.heap.size;have HC:=pp hC;rw [<-hC] at cc y1 y2 ⊢;clear a6 X5 b5 p0 p1 p2 hC b9;go_upto_region 11 with fail
    obtain ⟨V6,bg⟩:∃V,V=V5.setCell ⟨C,1,none⟩ (int i64 cy):=⟨_,rfl⟩;rw [<-bg];have X6:Q0 V6 C 43 #[int i64 cx,int i64 cy,int i64 cz]:=by rw [bg];exact cc.o.1.set_ 1 _
    have b6:Below X.heap.size X V6:=by
     have h1:Kept (λb=>b≠C) V5 V6:=by rw [bg];exact (Kept.refl (λb=>b≠C) V5).setCell (p:=⟨C,1,none⟩) (by simp) _
     have h2:Below X.heap.size X V5:=by have:=cc.o.2;rwa [HC.o] at this
     exact h2.trans ⟨h1.os,h1.tape,h1.output,h1.size,λb F=>h1.block b (pD F h2.size) (by have:=HC.o;omega)⟩
    have c0:=X6.cell 0;have c1:=X6.cell 1;have c2:=X6.cell 2;have G6:=pp (after G5.o b6);clear bg X6 b6 y1 y2;have T:∀w7,Below V6.heap.size V6 w7->∃q9 c9 w9,(Builtin.append_ #[48,48] 48 #[.slice q' (k+1) c',.slice (some ⟨w7.heap.size,0,none⟩) 1 1]).run prog (w7.alloc (.cells #[.string ((ZB++rs)++⟨#[32,115,97,110,100]⟩)] 9))=.ok (.slice q9 (k+1+1) c9) w9/\Hid (Q5 w9 Z.heap.size 9 1 YJ (.slice q9 (k+1+1) c9) (ZK::(Ab F1 (k+1)).map ZQ))/\Hid (XN (N1 w Z) (Cf sh e s wd t L) (Cf G R s2 I Y L) w9)/\Hid (Below W0.heap.size W0 w9):=by
     intro w7 g7;have b7:Below wr.heap.size wr (w7.alloc (.cells #[.string ((ZB++rs)++⟨#[32,115,97,110,100]⟩)] 9)):=after (after G6.o g7) (Q3 _ _);obtain ⟨W8,ao⟩:∃W,W=w7.alloc (.cells #[.string ((ZB++rs)++⟨#[32,115,97,110,100]⟩)] 9):=⟨_,rfl⟩;rw [<-ao] at b7 ⊢;have al:(ZK::(Ab F1 k).map ZQ).length=k+1:=by rw [List.length_cons,List.length_map,Bv]
     have O8:=HO.out.on b7;have cd:Z.heap.size<=W8.heap.size:=by
      obtain ⟨S,a2⟩:∃S,(Value.slice q' (k+1) c').ownBlock=some S:=by
       obtain ⟨q9,df,cu,-,-,-,-,ak⟩:=O8.form (show ∀s:ByteArray,(YJ s).length=1 from λ_=>rfl)
       obtain ⟨S,rfl⟩:=ak (by rw [al];omega)
       exact ⟨S,by rw [cu];rfl⟩
      have h2:=O8.block S a2;omega
     obtain ⟨g',eu,w9,hrun,ho,a2,-⟩:=Yr (P:=prog) (base:=Z.heap.size) (e:=9) (size:=1) (enc:=YJ) (ts:=48) (ty:=48) (bytes:=16) (b:=w7.heap.size) (x:=(ZB++rs)++⟨#[32,115,97,110,100]⟩) underlying48 WP rfl (by decide) (by decide) rfl (by intro u hu;simp [YJ] at hu;rcases hu with rfl;rfl) O8 (λi u hu=>by rw [(Q0.fresh ao).cell i];simpa [YJ] using hu) (by rw [al];have:=HZ.o.1;omega) cd
     rw [al] at hrun ho;have N:=XQ a2;refine ⟨some ⟨g',0,none⟩,eu,w9,hrun,pp ?_,pp (XN.kept (ZX ..) (ZX ..) (XN.on (ZX ..) (ZX ..) HT.out b7) N (λb F e=>?_) (λb cs F e=>?_)),pp ?_⟩
     ·rw [HZ.o.2.1,List.map_append,List.map_cons,List.map_nil,HZ.o.2.2];exact ho
     ·have:=(O8.block b e).1;omega
     ·obtain ⟨-,cur,h4⟩:=QC O8 e;exact absurd (Q7 F h4) (by decide)
     ·refine (after HG.out b7).trans ⟨N.os,N.tape,N.output,N.size,λb F=>N.block b (pD F (after HG.out b7).size) λe=>?_⟩
      have h1:=(O8.block b e).1;have h2:=H1.o.2.2.2.2.size;have h3:=H2.o.2.2.2.2.size;omega
    have a5:=pp T;clear T;go_upto_region 8 with first
     | (go_at_call 18;refine (d1.o _).mono ?_;rintro Q w7 ⟨rfl,g7⟩;obtain ⟨q9,c9,w9,hrun,H9⟩:=a5.o _ g7;have aj:=pp H9;clear g7 H9)
     | (at_builtin;refine Lib.wpList_append_run _ rfl _ _ _ _ rfl _ _ rfl rfl _ _ hrun ?_)
    have g0:=de.o.1;have g3:=de.o.2;go_wp2_with fail;exact ⟨⟨k+1,c9,q9,by go_num,rfl,pp (by have:=HZ.o.1;omega),aj.o.1,aj.o.2.1,aj.o.2.2⟩,by have:=HZ.o.1;simp [intOf];omega⟩
   ·have hdone:¬((k:Int)<(n1:Int))∨((k:Int)<(n1:Int)/\¬((k:Int)<4)):=by omega
    have bj:∃(cl:List Cl) (c9:Nat) (q9:Option Addr),Value.slice q' (k+1) c'=.slice q9 (cl.length+1) c9/\Hid (cl.length<=4/\∀c∈cl,Ek c)/\Hid (Q5 wr Z.heap.size 9 1 YJ (.slice q9 (cl.length+1) c9) (ZK::cl.map ZQ))/\Hid (XN (N1 w Z) (Cf sh e s wd t L) (Cf G R s2 I Y L) wr)/\Hid (Below W0.heap.size W0 wr):=by
     refine ⟨Ab F1 k,c',q',by rw [Bv],pp ⟨by rw [Bv];exact hk.out.1,λc hc=>?_⟩,?_,HT,HG⟩
     ·obtain ⟨i,-,rfl⟩:=List.mem_map.1 hc;exact MJ _
     ·rw [Bv];exact HO
    have bn:=pp bj;clear bj H hk HO HT HG;rcases hdone with g1|⟨g1,g2⟩
    ·go_wp2_with fail;go_meet;exact bn.o
    ·go_wp2_with fail;go_meet;exact bn.o
 case rest=>
  obtain ⟨cl,c',q',rfl,a9,HO,HT,HG⟩:=hcut;have i0:=(H0.o.2.on HG.out).cell 0;have i1:=(H0.o.2.on HG.out).cell 1;obtain ⟨E,bt⟩:=pt (Int.tmod ix 1000000);obtain ⟨a,ci⟩:=pt (Int.tmod iz 1000000);have ej: -100000000<E/\E<100000000:=by
   rw [bt];have h1:=Int.tmod_lt_of_pos ix (b:=1000000) (by decide)
   have h2:=Int.lt_tmod_of_pos ix (b:=1000000) (by decide)
   omega
  have el: -100000000<a/\a<100000000:=by
   rw [ci];have h1:=Int.tmod_lt_of_pos iz (b:=1000000) (by decide)
   have h2:=Int.lt_tmod_of_pos iz (b:=1000000) (by decide)
   omega
  have fd:Int.tmod ix 1000000=E:=bt.symm;have e8:Int.tmod iz 1000000=a:=ci.symm;have bc:=pp (py ej el);have a0:=pp λ(g:Nat) (W:World) (F:Q0 W g 3 #[int i64 E,int i64 a])=>di [E,a] (by simp) (by intro y hy;simp only [List.mem_cons,List.not_mem_nil,or_false] at hy;rcases hy with rfl|rfl<;>assumption) g 2 W F.lt (λi n hn=>by
   rcases i with _|_|i
   ·obtain rfl:E=n:=by simpa using hn
    exact F.cell 0
   ·obtain rfl:a=n:=by simpa using hn
    exact F.cell 1
   ·simp at hn)
  have bz:=FG (l:=[E,a]) (by intro y hy;simp only [List.mem_cons,List.not_mem_nil,or_false] at hy;rcases hy with rfl|rfl<;>assumption)
  have ch:U3 E a=(Vn++Q4 (XW [E,a]))++⟨#[32,49]⟩:=rfl;simp only [List.length_cons,List.length_nil] at bz;obtain ⟨rs,ac⟩:=pt (Q4 (XW [E,a]));rw [<-ac] at a0 bz ch;have ee:(rs.size:Int)<=9223372036854775800:=by omega
  have ef:(7:Int)+(rs.size:Int)<=9223372036854775805:=by omega
  have ei:((Vn++rs).size:Int)+2<=9223372036854775807:=by have:Vn.size=7:=rfl;simp [ByteArray.size_append];omega
  have fj:=pp ch;clear bt ci ej el bz ch ac;go_upto_region 13 with (go_at_call 12;refine (a0.o _ _ (Q0.new' rfl)).mono ?_;rintro Q X ⟨rfl,g5⟩;have G5:=pp (after (Q3 _ _) g5);clear g5)
  obtain ⟨TL,ct⟩:=pt ((Vn++rs)++⟨#[32,49]⟩);rw [<-ct];have bp:=pp (fj.o.trans ct.symm);clear ct fd e8 ee ef ei i0 i1 a0;have an:=UH O (m:=10) (by decide)
  have ad:=UI O (m:=10) (by decide)
  have cb:=pp (DA O 10 (HM.o.2.2.2.2.2.2.2.2.1).1 (HM.o.2.2.2.2.2.2.2.2.1).2 (by decide) X)
  generalize Zb O 10=aa at cb an ad;obtain ⟨m,hm⟩:∃m:Nat,1+aa=(m:Int):=⟨(1+aa).toNat,by omega⟩
  have bl:1<=m/\m<=10:=by omega
  have ex:wrap64 (1+aa)=(m:Int):=by unfold wrap64;omega
  have d3:IntKind.i64.wrap (1+aa)=(m:Int):=by rw [<-hm];exact pJ _ (by omega)
  have ba:=pp λW=>Tc (m:Int) (by omega) (by omega) W
  have dl:=I0 m (by omega)
  rw [FB] at ba;have cg:FF m=⟨#[116,105,99,107,32]⟩++Q4 (Lib.decDigits m):=rfl;obtain ⟨ds,bo⟩:=pt (Q4 (Lib.decDigits m));rw [<-bo] at ba dl cg;have ew:(ds.size:Int)<=9223372036854775800:=by omega
  have aq:=pp (py bl cg);clear bl cg bo dl an ad hm;have T:∀w7,Below X.heap.size X w7->∃q9 c9 w9,(Builtin.append_ #[48,48] 48 #[.slice q' (cl.length+1) c',.slice (some ⟨w7.heap.size,0,none⟩) 2 2]).run prog (w7.alloc (.cells #[.string TL,.string (⟨#[116,105,99,107,32]⟩++ds)] 9))=.ok (.slice q9 (cl.length+3) c9) w9/\Hid (Q5 w9 Z.heap.size 9 1 YJ (.slice q9 (cl.length+3) c9) (Aa cl E a m))/\Hid (XN (N0 w) (Cf sh e s wd t L) (Cf G R s2 I Y L) w9)/\Hid (Below W0.heap.size W0 w9):=by
   intro w7 g7;have b7:Below wc.heap.size wc (w7.alloc (.cells #[.string TL,.string (⟨#[116,105,99,107,32]⟩++ds)] 9)):=after (after G5.o g7) (Q3 _ _);obtain ⟨W8,ao⟩:∃W,W=w7.alloc (.cells #[.string TL,.string (⟨#[116,105,99,107,32]⟩++ds)] 9):=⟨_,rfl⟩;rw [<-ao] at b7 ⊢;have al:(ZK::cl.map ZQ).length=cl.length+1:=by rw [List.length_cons,List.length_map]
   have O8:=HO.out.on b7;have cd:Z.heap.size<=W8.heap.size:=by
    obtain ⟨S,a2⟩:∃S,(Value.slice q' (cl.length+1) c').ownBlock=some S:=by
     obtain ⟨q9,df,cu,-,-,-,-,ak⟩:=O8.form (show ∀s:ByteArray,(YJ s).length=1 from λ_=>rfl)
     obtain ⟨S,rfl⟩:=ak (by rw [al];omega)
     exact ⟨S,by rw [cu];rfl⟩
    have h2:=O8.block S a2;omega
   obtain ⟨v9,w9,hrun,ho,N⟩:=nJ O8 (Q0.fresh ao) (by rw [al];have:=a9.out.1;omega) cd
   obtain ⟨q9,c9,rfl,-,-,-,-,-⟩:=ho.form (show ∀s:ByteArray,(YJ s).length=1 from λ_=>rfl)
   have e4:((ZK::cl.map ZQ)++[TL,⟨#[116,105,99,107,32]⟩++ds]).length=cl.length+3:=by simp
   rw [e4] at hrun ho;refine ⟨q9,c9,w9,hrun,pp ?_,pp ((XN.kept (ZX ..) (ZX ..) (XN.on (ZX ..) (ZX ..) HT.out b7) N (λb F e=>?_) (λb cs F e=>?_)).mono λb F=>F.1),pp ?_⟩
   ·have e9:(ZK::cl.map ZQ)++[TL,⟨#[116,105,99,107,32]⟩++ds]=Aa cl E a m:=by
     unfold Aa;rw [bp.o,aq.o.2];rfl
    rw [e9] at ho;exact ho
   ·have:=(O8.block b e).1;omega
   ·obtain ⟨-,cur,h4⟩:=QC O8 e;exact absurd (Q7 F h4) (by decide)
   ·refine (after HG.out b7).trans ⟨N.os,N.tape,N.output,N.size,λb F=>N.block b (pD F (after HG.out b7).size) λe=>?_⟩
    have h1:=(O8.block b e).1;have h2:=H1.o.2.2.2.2.size;have h3:=H2.o.2.2.2.2.size;omega
  have a5:=pp T;clear T;go_upto_region 14 with first
   | (go_at_call 8;refine cb.o.mono ?_;rintro Q w6 ⟨rfl,rfl⟩)
   | (go_at_call 10;refine (ba.o _).mono ?_;rintro Q w7 ⟨rfl,g7⟩;obtain ⟨q9,c9,w9,hrun,H9⟩:=a5.o _ g7;have aj:=pp H9;clear g7 H9)
   | (at_builtin;refine Lib.wpList_append_run _ rfl _ _ _ _ rfl _ _ rfl rfl _ _ hrun ?_)
  obtain ⟨c5,dn,ek⟩:=aj.o;have bq:XN (N0 w) (Zw sh e s wd t L cl E a m 0) (Zw G R s2 I Y L cl E a m 0) w9:=by
   unfold Zw;rw [if_pos rfl,if_pos rfl];exact dn.out
  have aw:=pp (py c5.out (py bq (show Below w.heap.size w w9 from H0.o.1.trans (ek.out.mono H0.o.1.size))));obtain ⟨ln,bw⟩:∃ln:Nat,ln=cl.length+3:=⟨_,rfl⟩;have be:=pp bw;rw [<-bw] at aw ⊢;clear c5 dn ek bq aj hrun bw a5 cb ba ex d3 ew;go_upto_region 15 with fail
  go_loopw [17] (λiv wr=>∃i:Nat,iv=.int .i64 i/\Hid (i<=ln)/\Hid (Q5 wr Z.heap.size 9 1 YJ (.slice q9 ln c9) (Aa cl E a m))/\Hid (XN (N0 w) (Zw sh e s wd t L cl E a m i) (Zw G R s2 I Y L cl E a m i) wr)/\Hid (Below w.heap.size w wr)) (λiv _=>ln - (intOf iv).toNat)
  case atStart=>exact ⟨0,rfl,pp (pC _),pp aw.o.1,pp aw.o.2.1,pp aw.o.2.2⟩
  case round=>
   clear aw;obtain ⟨i,rfl,hi,HR,bb,HB⟩:=hrel;by_cases H:i<ln
   ·have g1:(i:Int)<(ln:Int):=by omega
    have g0:(0:Int)<=(i:Int):=by omega
    have dj:IntKind.i64.wrap ((i:Int)+1)=(i:Int)+1:=pJ _ (by have:=a9.out.1;have:=be.o;omega)
    have dx:=GQ cl E a m;obtain ⟨c,hc⟩:∃c,(Aa cl E a m)[i]?=some c:=⟨_,pH (by have:=be.o;omega)⟩
    obtain ⟨o,ho⟩:=pt (MF L cl E a m i);have av:=pp λ(sh e s wd t:Nat) (W:World) (M:Nat->Prop) (h:Zw sh e s wd t L cl E a m i W M)=>nI a9.out.2 a9.out.1 bc.o.1 bc.o.2 aq.o.1 hc W M h
    rw [<-ho] at av;obtain ⟨D,hD,cv,d0⟩:=bb.out.list (Ya ..) (Ya ..);obtain ⟨S,bm,am,a3⟩:∃S bm,Q0 wr S 9 bm/\q9=some ⟨S,0,none⟩/\wr.cell? ⟨S,i,none⟩=some (.string c):=by
     obtain ⟨q',cap',ez,-,-,fi,-,ey⟩:=HR.out.form (show ∀s:ByteArray,(YJ s).length=1 from λ_=>rfl)
     have hl:(Aa cl E a m).length=ln:=by rw [GQ];exact be.o.symm
     obtain ⟨S,rfl⟩:=ey (by omega)
     obtain ⟨ak,-,-⟩:=Value.slice.inj ez;obtain ⟨g',o',e1,h5⟩:=fi (by omega)
     obtain ⟨rfl,rfl⟩:S=g'/\0=o':=by simpa using e1
     obtain ⟨-,cur,h4⟩:=QC HR.out (b:=S) (by rw [ak];rfl)
     exact ⟨S,cur,h4,ak,by simpa using h5 i c hc 0 _ rfl⟩
    obtain ⟨rfl,a3⟩:=a3;have ce:S∉D:=λF=>by
     rcases d0 S F with ⟨A,U,F⟩|⟨A,U,F⟩
     ·exact JR U F am
     ·exact JR U F am
    have e5:∀f d os,(Go.Sort.grow (redrawn (V8 wr D f) d) os).cell? ⟨S,i,none⟩=some (.string c):=λf d os=>by
     rw [(am.sp ce f d os).cell,<-am.cell];exact a3
    have e0:=pp hD;have fh:=pp (py ce am);clear hD d0 am a3 ce hc ho;go_upto_region 17 with fail
    refine GY [0,0,0,0,0,2,0,0,0,0,0,2,3] D (Yg 5 11 (XN (λb=>b∈D∨wr.heap.size<=b) (Zw sh e s wd t L cl E a m i) (Zw G R s2 I Y L cl E a m i)) (λv w=>v=.string o/\XN (λb=>b∈D∨wr.heap.size<=b) (Zw sh e s wd t L cl E a m (i+1)) (Zw G R s2 I Y L cl E a m i) w) (λv w=>v=.string o/\XN (λb=>b∈D∨wr.heap.size<=b) (Zw sh e s wd t L cl E a m i) (Zw G R s2 I Y L cl E a m (i+1)) w) (λv u w=>v=.string o/\u=.string o/\XN (λb=>b∈D∨wr.heap.size<=b) (Zw sh e s wd t L cl E a m (i+1)) (Zw G R s2 I Y L cl E a m (i+1)) w)) (by kernel_rfl) (by kernel_rfl) (λ_ _ _ _ _ h k=>h.below k (λ_ _ h k=>h.on (Ya ..) (Ya ..) k) (λ_ _ _ h k=>⟨h.1,h.2.on (Ya ..) (Ya ..) k⟩) (λ_ _ _ h k=>⟨h.1,h.2.on (Ya ..) (Ya ..) k⟩) (λ_ _ _ _ h k=>⟨h.1,h.2.1,h.2.2.on (Ya ..) (Ya ..) k⟩)) (λ_=>Yg.zero e0.o) ?_
    repeat (first|(refine Qi ?_)|(refine Qf (λK hK=>?_);go_simp;refine hK _ ?_;clear hK K))
    refine Q8 ?_;refine QL ?_;refine QL ?_;refine QL ?_;refine QL ?_;refine QL ?_;refine XY rfl ?s5 (λfe=>?_)
    case s5=>
     intro S_ V_ w_ J ay au ai ah;rcases ah.first ai with ⟨bh,hP⟩|⟨bi,he,hP⟩
     ·have ag:=pp (XN.left (Ya ..) (Ya ..) (λb F=>.inr (pB J.size F)) hP (λA U=>av.o sh e s wd t w_ A U))
      have HK:=pp (py J bh);clear J ay au ai ah bh hP;go_simp;refine ag.o.mono ?_;rintro Q X ⟨rfl,t5,k5⟩;exact ⟨_,rfl,FH HK.o.1 k5,Yg.lay10 (by decide) HK.o.2 ⟨rfl,t5⟩⟩
     ·have ag:=pp (XN.left (Ya ..) (Ya ..) (λb F=>.inr (pB J.size F)) hP (λA U=>av.o sh e s wd t w_ A U))
      have HK:=pp (py J (py bi he));clear J ay au ai ah bi he hP;go_simp;refine ag.o.mono ?_;rintro Q X ⟨rfl,t5,k5⟩;exact ⟨_,rfl,FH HK.o.1 k5,Yg.lay11a (by decide) HK.o.2.1 ⟨rfl,HK.o.2.2,t5⟩⟩
    refine QL ?_;refine QL ?_;refine QL ?_;refine QL ?_;refine QL ?_;refine XY rfl ?s11 (λc7=>?_)
    case s11=>
     intro S_ V_ w_ J ay au ai ah;rcases ah.second ai with ⟨d9,hP⟩|⟨c8,he,hP⟩
     ·have ag:=pp (XN.right (Ya ..) (Ya ..) (λb F=>.inr (pB J.size F)) hP (λA U=>av.o G R s2 I Y w_ A U))
      have HK:=pp (py J d9);clear J ay au ai ah d9 hP;go_simp;refine ag.o.mono ?_;rintro Q X ⟨rfl,t5,k5⟩;exact ⟨_,rfl,FH HK.o.1 k5,Yg.lay01 (by decide) HK.o.2 ⟨rfl,t5⟩⟩
     ·have ag:=pp (XN.right (Ya ..) (Ya ..) (λb F=>.inr (pB J.size F)) hP (λA U=>av.o G R s2 I Y w_ A U))
      have HK:=pp (py J (py c8 he));clear J ay au ai ah c8 he hP;go_simp;refine ag.o.mono ?_;rintro Q X ⟨rfl,t5,k5⟩;exact ⟨_,rfl,FH HK.o.1 k5,Yg.lay11b (by decide) HK.o.2.1 ⟨HK.o.2.2,rfl,t5⟩⟩
    refine QL ?_;refine Co (λV2 ea af cf eb=>?_)
    obtain ⟨co,az,dw⟩:=eb.both (by decide) (by decide)
    rw [cf 5 (by decide) rfl] at co
    rw [cf 11 (by decide) rfl] at az
    have et:fe=.string o:=by simpa [upd] using co
    have da:c7=.string o:=by simpa [upd] using az
    subst et da;have dc:Below w.heap.size w ea:=HB.out.trans ⟨af.os,af.tape,af.output,af.size,λb F=>af.block b (pD F HB.out.size) λev=>by
     have:w.heap.size<=b:=cv b ev;omega⟩
    have d8:=HR.out.keep af (λb F=>by
     obtain rfl:S=b:=by simpa [Value.ownBlock] using F
     exact fh.o.1)
    have dz:XN (N0 w) (Zw sh e s wd t L cl E a m (i+1)) (Zw G R s2 I Y L cl E a m (i+1)) ea:=dw.mono λb F=>F.elim (cv b) λh=>pB HB.out.size h
    have HF:=pp (py d8 (py dz dc));have dt:i+1<=ln:=H;have d6:=pp dt;clear af cf eb co az dw dc d8 dz cv e5 dx dt HR bb HB H;simp only [Qd];go_wp2_with fail;go_roundw
    case rel=>exact ⟨i+1,by go_num,pp d6.o,pp HF.o.1,pp HF.o.2.1,pp HF.o.2.2⟩
    case measure=>have:=d6.o;simp [intOf];omega
   ·have du:i=cl.length+3:=by have:=hi.out;have:=be.o;omega
    have gx:¬((i:Int)<(ln:Int)):=by omega
    obtain ⟨p,hp⟩:=pt (ME L cl E a m);obtain ⟨K0,ec⟩:=pt (cl.length+16 * m);have dh:p.t=m:=by rw [hp];exact lQ
    have dg:VJ w 0 (VC sh e s wd t p K0 E a true (some (L:Int))) (VC G R s2 I Y p K0 E a true (some (L:Int))) wr:=by
     have h9:=bb.out;rw [du,MG,MG,<-hp,<-ec] at h9;exact VJ.of HM.o.2.1 h9 HB.out
    have fg:=pp dg;have er:=pp dh;clear du hp ec dh dg bb HB HR hi H;go_upto_region 20 with (go_at_call 9;refine (VJ.right (ZW ..) (ZW ..) fg.o (λB hB=>bU hB (by decide) (Xo (by kernel_rfl)))).mono ?_;rintro Q w3 ⟨⟨o3,rfl⟩,v3,-⟩;have ep:=pp v3;clear v3)
    clear gx;go_upto_region 22 with (go_at_call 9;refine (VJ.right (ZW ..) iB ep.o (λB hB=>iD hB (by decide) (Xo (by kernel_rfl)))).mono ?_;rintro Q w4 ⟨rfl,v4,-⟩;have ff:=pp v4;clear v4)
    go_upto_region 23 with (go_at_call 9;refine (VJ.right (ZW ..) iC ff.o (λB hB=>bV hB ⟨#[48]⟩ (by decide) (Xo (by kernel_rfl)) VS)).mono ?_;rintro Q X ⟨⟨o5,rfl⟩,v5,-⟩;have cq:=pp v5;clear v5)
    go_upto_region 24 with fail
    obtain ⟨W6,ar⟩:∃W,W=X.alloc (.cells (VU TL) 9):=⟨_,rfl⟩;have ck:VJ w X.heap.size (VC sh e s wd t p K0 E a true (some (L:Int))) (Ff G R s2 I Y p K0 E a 0) W6:=by
     rw [Tp];exact VJ.row (ZW ..) (OA 0) cq.o ar
    have cp:Q0 W6 X.heap.size 9 (VU (U3 E a)):=by
     rw [bp.o];exact Q0.fresh ar
    unfold VU at ar;rw [<-ar];obtain ⟨ga,dd⟩:=pt X.heap.size;rw [<-dd] at ck cp ⊢;have ax:=pp (py ck cp);clear ck cp ar dd;go_upto_region 25 with fail
    go_loopw [19] (λiv wr=>∃i:Nat,iv=.int .i64 i/\Hid (i<=6)/\Hid (VJ w ga (VC sh e s wd t p K0 E a true (some (L:Int))) (Ff G R s2 I Y p K0 E a i) wr/\Q0 wr ga 9 (VU (U3 E a)))) (λiv _=>6 - (intOf iv).toNat)
    case atStart=>exact ⟨0,rfl,pp (pC _),ax⟩
    case round=>
     clear ax;obtain ⟨i3,rfl,ae,HV⟩:=hrel;by_cases H:i3<6
     ·have g1:(i3:Int)<6:=by omega
      have g0:(0:Int)<=(i3:Int):=by omega
      have dj:IntKind.i64.wrap ((i3:Int)+1)=(i3:Int)+1:=pJ _ (by omega)
      obtain ⟨c,hc⟩:∃c,(YN E a)[i3]?=some c:=⟨_,pH (by simpa [YN] using H)⟩
      have hcell:=co HV.out.2 hc;have HC:=pp (py hc H);clear hc H ae;go_wp2_with (go_at_call 9;refine (VJ.right (ZW ..) (iG ..) HV.out.1 (λB hB=>lR bc.o.1 bc.o.2 HC.o.1 hB)).mono ?_;rintro Q w7 ⟨rfl,v7,b7⟩;have bd:=pp (py v7 (b7 _ _ HV.out.2));clear v7 b7)
      go_roundw
      case rel=>exact ⟨i3+1,by go_num,pp HC.o.2,bd⟩
      case measure=>have:=HC.o.2;simp [intOf];omega
     ·have d4:i3=6:=by have:=ae.out;omega
      have dv:VJ w 0 (Et sh e s wd t p K0 E a (some (L:Int)) 0) (Et G R s2 I Y p K0 E a none 0) wr:=by
       have h9:=HV.out.1.back HM.o.2.1;rw [d4,Go.Proofs.YtmbccnioijokfaaGreatDoor.cq] at h9;exact h9
      have dy:=pp dv;have e6:¬((i3:Int)<6):=by omega
      clear dv HV ae H d4;have cr:=UH behind (m:=11) (by decide)
      have bk:=UI behind (m:=11) (by decide)
      have bu:=pp λW=>DA behind 11 (HM.o.2.2.2.2.2.2.2.2.2.1).1 (HM.o.2.2.2.2.2.2.2.2.2.1).2 (by decide) W
      generalize Zb behind 11=ab at bu cr bk;obtain ⟨nb,es⟩:=Int.eq_ofNat_of_zero_le cr;subst es;have eh:=pp (show nb<=10 by omega)
      clear cr bk;go_upto_region 30 with fail
      clear e6;go_loopw [20] (λiv wr=>∃i:Nat,iv=.int .i64 i/\Hid (i<=nb)/\Hid (VJ w 0 (Et sh e s wd t p K0 E a (some (L:Int)) i) (Et G R s2 I Y p K0 E a none i) wr)) (λiv _=>nb - (intOf iv).toNat)
      case atStart=>exact ⟨0,rfl,pp (pC _),dy⟩
      case round=>
       clear dy;obtain ⟨i4,rfl,d5,HV⟩:=hrel;by_cases H:i4<nb
       ·have g1:(i4:Int)<(nb:Int):=by omega
        have g0:(0:Int)<=(i4:Int):=by omega
        have dj:IntKind.i64.wrap ((i4:Int)+1)=(i4:Int)+1:=pJ _ (by have:=eh.o;omega)
        obtain ⟨o1,ed⟩:∃o,o=dm p E a i4:=⟨_,rfl⟩;obtain ⟨o2,d7⟩:∃o,o=dn p E a (i4+1):=⟨_,rfl⟩;have bx:=pp λ(sh e s wd t:Nat) (fr:Option Int) (W:World) (M:Nat->Prop) (h:Et sh e s wd t p K0 E a fr i4 W M)=>iH (by have:=er.o;have:=eh.o;have:=aq.o.1;omega) h
        have b4:=pp λ(sh e s wd t:Nat) (fr:Option Int) (W:World) (M:Nat->Prop) (hT:Vz W) (h:Et sh e s wd t p K0 E a fr (i4+1) W M)=>iI hT h
        rw [<-ed] at bx;rw [<-d7] at b4;have d2:=pp H;clear ed d7 H d5;go_upto_region 32 with (go_at_call 8;refine (bu.o _).mono ?_;rintro Q wx ⟨rfl,rfl⟩)
        go_wp2_with fail;go_at_call 9;refine (VJ.left (UF ..) (UF ..) HV.out (λA U=>bx.o _ _ _ _ _ _ _ A U)).mono ?_
        rintro Q X ⟨rfl,v5,-⟩;have cq:=pp v5;clear v5;go_wp2_with fail;go_at_call 9;refine (VJ.right (UF ..) (UF ..) cq.o (λA U=>bx.o _ _ _ _ _ _ _ A U)).mono ?_
        rintro Q w6 ⟨rfl,v6,-⟩;have ax:=pp v6;clear v6;go_wp2_with fail;go_at_call 9;refine (VJ.left (UF ..) (UF ..) ax.o (λA U=>b4.o _ _ _ _ _ _ _ A (HM.o.2.2.2.2.2.2.2.2.2.2.on ax.o.2.1) U)).mono ?_
        rintro Q w7 ⟨rfl,v7,-⟩;have bd:=pp v7;clear v7;go_wp2_with fail;go_at_call 9;refine (VJ.right (UF ..) (UF ..) bd.o (λA U=>b4.o _ _ _ _ _ _ _ A (HM.o.2.2.2.2.2.2.2.2.2.2.on bd.o.2.1) U)).mono ?_
        rintro Q w8 ⟨rfl,v8,-⟩;have e7:=pp v8;clear v8;go_wp2_with fail;go_roundw
        case rel=>exact ⟨i4+1,by go_num,pp d2.o,e7⟩
        case measure=>have:=d2.o;simp [intOf];omega
       ·have gx:¬((i4:Int)<(nb:Int)):=by omega
        obtain ⟨⟨MA,MB,U,hB,-⟩,dm,-⟩:=HV.out;have a8:=MH U;have hwb:=MH hB;obtain ⟨bs,br⟩:=pt (Vv (p.run E a true i4).t (p.run E a true i4).b (p.run E a true i4).l);have di:0<bs.length:=by rw [br,Dn];omega
        rw [<-br] at a8 hwb;have cw:=pp a8;have b8:=pp hwb;have fb:=pp λd os=>a8.1.re d os
        have fc:=pp λd os=>hwb.1.re d os
        obtain ⟨o,ho⟩:=pt (lS bs);have cn:=pp λ(W:World) (base:Nat) (v:Value) (h:Q5 W base 5 1 Yk v bs)=>cr h di
        rw [<-ho] at cn;have fk:=pp dm;clear U hB dm br di H d5 HV a8 hwb ho;go_upto_region 34 with (go_at_call 8;refine (bu.o _).mono ?_;rintro Q wx ⟨rfl,rfl⟩)
        clear gx;go_wp2_with fail;go_at_call 14;refine (CL sh e _ cw.o.1).mono ?_;rintro Q wx ⟨rfl,rfl⟩;go_wp2_with fail;go_at_call 13;refine cw.o.2.1.mono ?_;rintro Q wx ⟨rfl,rfl⟩;go_wp2_with fail;go_at_call 14;refine (CL G R _ b8.o.1).mono ?_;rintro Q wx ⟨rfl,rfl⟩;go_wp2_with fail;go_at_call 13;refine b8.o.2.1.mono ?_;rintro Q wx ⟨rfl,rfl⟩;go_upto_region 36 with fail
        refine Qk [0,0,2,2,0,0,2,2,3,3,3,3,3] (MI bs o) (by kernel_rfl) (by kernel_rfl) (Tq bs o) ?_
        repeat (first|(refine Qi ?_)|(refine Qf (λK hK=>?_);go_simp;first|(refine hK _ ?_;clear hK K)|(apply Exists.intro;refine ⟨λ_=>?_,hK _ ?_⟩;(exact Ym (CL _ _ _ (by first|exact fb.o _ _|exact fc.o _ _)));clear hK K)))
        refine Q8 ?_;refine Q2 ?_;refine Q2 ?_;refine Qv ?lsA (λv_=>?_)
        case lsA=>
         intro w_ J cj;go_simp;refine (cw.o.2.2 _ (Qb J).none).mono ?_;rintro Q w9 ⟨v9,rfl,h9⟩;exact ⟨_,rfl,Kept.of_below h9.below,_,h9.1⟩
        refine Xz ?lsB (λv_=>?_)
        case lsB=>
         intro w_ J cj a1;dsimp only at a1;obtain ⟨base,ho⟩:=a1.2 (by kernel_rfl)
         have fa:=cn.o _ _ _ ho;go_simp<;>first|exact Kept.refl _ _|exact ⟨Kept.refl _ _,rfl⟩
        refine Q2 ?_;refine Q2 ?_;refine Qv ?lsC (λv_=>?_)
        case lsC=>
         intro w_ J cj;go_simp;refine (b8.o.2.2 _ (Qb J).none).mono ?_;rintro Q w9 ⟨v9,rfl,h9⟩;exact ⟨_,rfl,Kept.of_below h9.below,_,h9.1⟩
        refine Xz ?lsD (λv_=>?_)
        case lsD=>
         intro w_ J cj a1;dsimp only at a1;obtain ⟨base,ho⟩:=a1.2 (by kernel_rfl)
         have fa:=cn.o _ _ _ ho;go_simp<;>first|exact Kept.refl _ _|exact ⟨Kept.refl _ _,rfl⟩
        refine Q2 ?_;refine Q2 ?_;refine Q2 ?_;refine Q2 ?_;refine Q2 ?_;refine Qc ?_;simp only [Qd];rintro W6 h6 ⟨⟨⟨⟨-,-⟩,rfl⟩,-⟩,rfl⟩;have H6:=pp (after fk.o h6);clear h6;go_wp2_with (go_at_call 11;refine (iF mx W6 (by rw [Below.cell H6.o HM.o.2.1];exact HM.o.1)).mono ?_;rintro Q w14 ⟨rfl,c3⟩;replace c3:=pp c3)
        go_returns;exact ⟨rfl,after H6.o c3.o⟩
end
end Go.Proofs.YtmbccnioijokfaaGreatDoor