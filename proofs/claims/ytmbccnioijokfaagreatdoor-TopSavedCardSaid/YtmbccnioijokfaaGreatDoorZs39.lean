/- A part of the proof. -/
import Derived.Test.YtmbccnioijokfaaGreatDoorZs37
import Derived.Test.YtmbccnioijokfaaGreatDoorZs38
namespace Go.Proofs.YtmbccnioijokfaaGreatDoor
set_option maxRecDepth 100000
set_option maxHeartbeats 32000000
open Go.Value (int)
open Go.IntKind (i64 u8)
open Go.Proofs.Tryz
variable {d n m k:Nat}{Ms Mi M':Nat -> Prop}{T:TS}{o:Oper}{a:Act}{W:World}{occ':Value}{args:Array Value}
section
open Go.RowKit Go.Maps
attribute [local go_sem] Oper.semAt_some
theorem br (d h:Int)(cs:List Int)(ok:CellsOk cs)(q:Option Addr)(n c:Nat)(w:World)(b:GoodS w 0 (q,n,c))(i:QW w (q,n,c)=QZ (Yn cs))(k:0<(QZ (Yn cs)).length):
  Calls prog 83 #[.agg #[d,h],.slice q n c] w λr w'=>Pt w d h cs r w':=by
 have f:=b.len;have a:=b.rd8;rw [i] at f a;obtain ⟨g,o,e,m⟩:=a k;dsimp only at e f;subst e;exact bn d h g o c n cs ok f.symm b.cap b.most w (λj x l=>by
  have:=m j x l 0 _ rfl;simpa using this)
theorem Mu (t:Nat)(T:TS)(i pz:Int)(w:World)(M:Nat->Prop)(h:Yz t T w M)(hx: -524288<=i/\i<524288)(hz: -524288<=pz/\pz<524288)(hn:T.l.length<=1000)(aa:(T.l.length:Int)<T.lim)(hf:T.find (i,pz)= -1)(N:Nat)(hok:DOk T.d N 1000000)(hN:N<=100000)(ap:Int)(kept:Bool)(cs:List Int)(bs:Bs)(hk:(bs=[]/\cs=Ye T.seed i pz)∨(bs=QZ (Yn cs)/\CellsOk cs))(hd:Y2 T.d (Ue i pz)=(bs,ap,kept)):
  Calls prog 42 #[t,.agg #[int i64 i,int i64 pz]] w λr w'=>r=.returned (int i64 0)/\Q6 (Yz t { T with l:=T.l++[(⟨i,pz,cs,false,0⟩:TI)] }) w M w':=by
 rcases hk with ⟨ao,ai⟩|⟨aw,ok⟩<;>(
  obtain ⟨s,d,v,L,Ms,Mi,h,hM⟩:=h;obtain ⟨W,hW⟩:=pt (w.alloc (.cells #[int i64 i,int i64 pz] 123));have H:Below w.heap.size w W:=by rw [hW];exact (pI _ _).alloc (pA _) _
  have X:Q0 W w.heap.size 123 #[int i64 i,int i64 pz]:=by rw [hW];exact Q0.new' rfl
  have h1:=h.on H;have HI:=pp (cO i pz hx hz W);have HF:=pp λm (G:Below W.heap.size W m)=>IU t s d v L Ms Mi T i pz m (h1.on G) hn
  rw [hf] at HF;have HR:=pp λm (G:Below W.heap.size W m)=>fj t s d v L Ms Mi T m (h1.on G) aa
  have HL:=pp λm (G:Below W.heap.size W m)=>Nt 0 s d Ms T.d N m (h1.on G).st hok hN (Ue i pz) (pC _)
  rw [hd] at HL;have aj:=pp λm=>ae T.seed i pz (by omega) (by omega) m
  have HX:=pp X;have HH:=pp H;have HT:=pp h1;have O:=pp h;have HM:=pp hM;have HN:=pp hn;obtain ⟨Y,V,-,-⟩:=X.pair;clear h X H h1 hd hf aa hn hM hx hz hok hN;generalize Ue i pz=id at *;go_enter func42,ntmps42;go_upto_region 1 with fail
  rw [<-hW];clear hW;go_upto_region 4 with (go_at_call 78;refine HI.o.mono ?_;rintro e_ w1 ⟨rfl,G1⟩;replace G1:=pp G1)
  clear Y V;obtain ⟨Y,V,-,-⟩:=(HX.o.on G1.o).pair;have af:=pp (HF.o w1 G1.o);clear HF HI;go_upto_region 8 with (go_at_call 79;refine af.o.mono ?_;rintro e_ w2 ⟨rfl,g2⟩;have G2:=pp (after G1.o g2);clear g2)
  have ah:=pp (HR.o w2 G2.o);clear HR af Y V;go_upto_region 11 with (go_at_call 81;refine ah.o.mono ?_;rintro e_ w3 ⟨rfl,g3⟩;have G3:=pp (after G2.o g3);clear g3)
  have S:=pp (HL.o w3 G3.o);have t0:=(HT.o.on G3.o).blk.cell 0;clear ah HL
  first
   | (
    subst ao;rw [<-ai] at aj;clear ai;go_upto_region 12 with (go_at_call 82;refine S.o.mono ?_;rintro e_ w4 ⟨⟨q4,n4,c4⟩,rfl,s4,r4,g4⟩;have G4:=pp (after G3.o g4);have ad:=s4.len;rw [r4] at ad;have ar:n4=0:=(by simpa using ad.symm);subst ar;simp only [Xn];clear s4 r4 g4 ad)
    clear S t0;obtain ⟨Y,V,-,-⟩:=(HX.o.on G4.o).pair;have A:=pp (Sh i pz q4 c4 w4);go_upto_region 14 with (go_at_call 83;refine A.o.mono ?_;rintro e_ w5 ⟨rfl,g5⟩;have G5:=pp (after G4.o g5);clear g5)
    clear Y V A;obtain ⟨Y,V⟩:=(HX.o.on G5.o).rep;have t1:=λd os=>(((HT.o.on G5.o).blk).re d os).cell 1
    refine Qk [0,0,0,0,0,2,3] (λ_ v w'=>Kj i pz cs w.heap.size v w') (by kernel_rfl) (by kernel_rfl) (λ_ _ _ _ h k=>h.on k) ?_
    repeat (first|(refine Qi ?_)|(refine Qf (λK hK=>?_);go_simp;refine hK _ ?_;clear hK K))
    refine Q8 ?_;repeat (first|(refine Q2 ?_)|(refine Qv ?lsA (λv_=>?_);case lsA=>(intro w_ av hp_;(go_simp;refine (aj.o _).mono ?_;rintro e_ w9 ⟨c,Mc,rfl,h1,G,h3⟩;exact ⟨_,rfl,Kept.of_below h3,c,Mc,rfl,h1,λb f=>pB (pB (after HH.o G5.o).size (Qb av).size) (G b f)⟩))))
    refine Qc ?_;simp only [Qd];rintro D h6 ⟨-,c,Mc,rfl,F,y⟩;clear Y V t1;have ag:=pp F;have U:=pp y;have G6:=pp (after G5.o h6);clear F y h6
    )
   | (
    subst aw;have al:0<(QZ (Yn cs)).length:=by
     have G:=Bz (Ur cs) (Us cs) ok;cases hR:Yn cs with
     | nil=>rw [hR] at G;exact absurd G (by decide)
     | cons r R=>unfold QZ;rw [List.flatMap_cons,List.length_append,List.length_cons];omega
    have Z:=pp λ(m:World) (q:Option Addr) (n c:Nat) (hs:GoodS m 0 (q,n,c)) (hr:QW m (q,n,c)=QZ (Yn cs))=>br i pz cs ok q n c m hs hr al
    clear al;go_upto_region 12 with (go_at_call 82;refine S.o.mono ?_;rintro e_ w4 ⟨⟨q4,n4,c4⟩,rfl,s4,r4,g4⟩;have G4:=pp (after G3.o g4);have A:=pp (Z.o w4 q4 n4 c4 s4 r4);simp only [Xn];clear s4 r4 g4)
    clear S t0 Z;obtain ⟨Y,V,-,-⟩:=(HX.o.on G4.o).pair;go_upto_region 13 with (go_at_call 83;refine A.o.mono ?_;rintro e_ D ⟨c,Mc,rfl,F,y,g5⟩;have ag:=pp F;have U:=pp (show ∀b,Mc b->w.heap.size<=b from λb f=>pB (pB HH.o.size G4.o.size) (y b f));have G6:=pp (after G4.o g5);clear F y g5)
    clear Y V A
    )
  go_upto_region 15 with fail
  have ac:=HT.o.on G6.o;have t3:=ac.blk.cell 3;obtain ⟨W7,B⟩:=pt (D.alloc (.cells #[c,.bool false,int i64 0] 142));obtain ⟨W8,Q⟩:=pt (W7.alloc (.cells #[D.heap.size] 128));have h7:Below D.heap.size D W7:=by rw [B];exact (pI _ _).alloc (pA _) _
  have h8:Below W7.heap.size W7 W8:=by rw [Q];exact (pI _ _).alloc (pA _) _
  have I:=after h7 h8;have I8:Q0 W8 D.heap.size 142 #[c,.bool false,int i64 0]:=(Q0.fresh B).on h8;have Y8:Q0 W8 W7.heap.size 128 #[D.heap.size]:=Q0.fresh Q;have E:=ac.on I;have au:(L.map (·.1)).length<=1000:=by rw [List.length_map,show L.length=T.l.length by rw [<-O.o.l,List.length_map]];exact HN.o
  obtain ⟨g,cp,w9,hrun,ho,p,an⟩:=Yr (P:=prog) (w:=W8) (base:=0) (e:=128) (size:=1) (enc:=Zj) (v:=v) (xs:=L.map (·.1)) (ts:=133) (ty:=133) (z:=.pointer none) (bytes:=8) (b:=W7.heap.size) (x:=D.heap.size) underlying133 Lp rfl (by decide) (by decide) rfl (by intro u hu;simp at hu;rw [hu];rfl) E.row (λj u hu=>by rw [Y8.cell j];simpa using hu) (by omega) (pC _)
  have C:∀b,v.ownBlock=some b->b<w.heap.size/\∃cur,Q0 W8 b 128 cur:=λb f=>⟨(O.o.row.block b f).2,(QC E.row f).2⟩
  have k9:Kept (λb=>v.ownBlock≠some b) W8 w9:=⟨p.os,p.tape,p.output,p.size,λb f hK=>p.block b f (Ne.symm hK)⟩
  have ab:Below w.heap.size w W8:=after (after HH.o G6.o) I;have B9:=k9.blk (λe=>by obtain ⟨-,cur,h5⟩:=C t e;exact absurd (Q7 h5 E.blk) (by decide)) E.blk
  have f3:=B9.frz 3;have k3:=B9.cell 3;have aq:=pp (show Q6 (Yz t { T with l:=T.l++[(⟨i,pz,cs,false,0⟩:TI)] }) w M (w9.setCell ⟨t,3,none⟩ (.slice (some ⟨g,0,none⟩) ((L.map (·.1)).length+1) cp)) from by
   have J:Kept (λb=>b≠t) w9 (w9.setCell ⟨t,3,none⟩ (.slice (some ⟨g,0,none⟩) ((L.map (·.1)).length+1) cp)):=(Kept.refl _ _).setCell (by simp) _
   have htl:=O.o.blk.lt;have am:w.heap.size<=D.heap.size:=(after HH.o G6.o).size;refine O.o.more HM.o (a:=D.heap.size) (c:=c) (Mc:=Mc) (it:=⟨i,pz,cs,false,0⟩) ?_ (B9.set_ 3 _) (ho.keep J λb f e=>?_) (λb f=>?_) (J.blk (by omega) (k9.blk (λe=>by have:=(C _ e).1;omega) I8)) ?_ am U.o
   ·exact ((Kept.of_below ab).mono (K':=λb=>b≠t/\v.ownBlock≠some b) λ_ _=>trivial).trans ((k9.mono λb f=>f.2).trans (J.mono λb f=>f.1))
   ·obtain ⟨-,cur,h5⟩:=QC ho f;subst e;exact absurd (Q7 h5 B9) (by decide)
   ·simp [Value.ownBlock] at f;subst f;rcases an with h|h
    ·exact .inl h
    ·exact .inr (pB ab.size h)
   ·have c8:=(YD c i pz cs).on ag.o I;have c9:=(YD c i pz cs).kept c8 k9 (λb f e=>by have:=(C b e).1;have:=U.o b f;omega) (λb cs f e=>by obtain ⟨-,cur,h5⟩:=C b e;exact absurd (Q7 f h5) (by decide))
    exact (YD c i pz cs).kept c9 J (λb f e=>by have:=U.o b f;omega) (λb cs f e=>by subst e;exact absurd (Q7 f B9) (by decide)))
  have ak:W7.heap.size=D.heap.size+1:=by rw [B];simp
  rw [ak,Q,B] at hrun;clear ac h7 h8 I I8 Y8 E au ho p an C k9 ab B9 ak B Q;go_wp2_with (at_builtin;refine Lib.wpList_append_run _ rfl _ _ _ _ rfl _ _ rfl rfl _ _ hrun ?_);go_returns;exact ⟨rfl,by have:=aq.o;rwa [List.length_map] at this⟩
  )
theorem Au (t:Nat)(T:TS)(a b:Int)(w:World)(M:Nat->Prop)(h:Yz t T w M)(j: -524288<=a/\a<524288)(n: -524288<=b/\b<524288)(k:T.l.length<=1000)(c:(T.l.length:Int)<T.lim)(i:T.find (a,b)= -1)(N:Nat)(f:DOk T.d N 1000000)(m:N<=100000)(e:Int)(kept:Bool)(g:Y2 T.d (Ue a b)=([],e,kept)):
  Calls prog 42 #[t,.agg #[a,b]] w λr w'=>r=.returned (int i64 0)/\Q6 (Yz t { T with l:=T.l++[QP T.seed a b] }) w M w':=by
 exact Mu t T a b w M h j n k c i N f m e kept _ _ (.inl ⟨rfl,rfl⟩) g
theorem bA (t:Nat)(T:TS)(a pz:Int)(w:World)(M:Nat->Prop)(h:Yz t T w M)(i: -524288<=a/\a<524288)(m: -524288<=pz/\pz<524288)(j:T.l.length<=1000)(b:(T.l.length:Int)<T.lim)(g:T.find (a,pz)= -1)(N:Nat)(e:DOk T.d N 1000000)(k:N<=100000)(c:Int)(kept:Bool)(cs:List Int)(ok:CellsOk cs)(f:Y2 T.d (Ue a pz)=(QZ (Yn cs),c,kept)):
  Calls prog 42 #[t,.agg #[a,pz]] w λr w'=>r=.returned (int i64 0)/\Q6 (Yz t { T with l:=T.l++[(⟨a,pz,cs,false,0⟩:TI)] }) w M w':=by
 exact Mu t T a pz w M h i m j b g N e k c kept cs _ (.inr ⟨rfl,ok⟩) f
theorem TbAt.aftD {w w':World}{t s:Nat}{v:Value}{L:List (Nat×TI)}{M:Nat->Prop}{f:DS}(h:TbAt w t s d v L Ms Mi T)(c:∀b,M b↔Es t s v Ms Mi b)(k:Yw w 0 Ms d f w'):Q6 (Yz t { T with d:=f }) w M w':=by
 obtain ⟨e,i,g,j⟩:=h.disk k;refine ⟨Es t s v e Mi,⟨s,d,v,L,e,Mi,i,λ_=>Iff.rfl⟩,λb a=>?_,j.mono λb a h=>a ((c b).2 (.inr (.inr (.inl h))))⟩
 rcases a with a|a|a|a|a
 ·exact .inl ((c b).2 (.inl a))
 ·exact .inl ((c b).2 (.inr (.inl a)))
 ·exact (g b a).imp_left λh=>(c b).2 (.inr (.inr (.inl h)))
 ·exact .inl ((c b).2 (.inr (.inr (.inr (.inl a)))))
 ·exact .inl ((c b).2 (.inr (.inr (.inr (.inr a)))))
theorem gP (t:Nat)(T:TS)(N:Nat)(e:DS)(q:Option Addr)(n c:Nat)(bs:List B8)(w:World)(M:Nat->Prop)(h:Yz t T w M)(b:DOk T.d N 1000000)(m:N<=90000)(j:GoodS w 0 (q,n,c))(g:QW w (q,n,c)=bs)(l:n<=1000000)(k:Zv T.d 0 bs=(e,0)):
  Calls prog 133 #[t,.slice q n c] w λr w'=>r=.returned (int i64 0)/\Q6 (Yz t { T with d:=e }) w M w':=by
 obtain ⟨s,d,v,L,Ms,Mi,h,i⟩:=h;have a:=Nu 0 s d Ms T.d N w h.st b m 0 (q,n,c) j l (pC _);rw [g,k] at a;have u:=pp (show Calls prog 127 #[s,int i64 0,.slice q n c] w λr w'=>r=.returned (int i64 0)/\Yw w 0 Ms d e w' from a)
 have t0:=h.blk.cell 0;have p:=pp (py h i);clear h i a b m j g l k;go_enter func133,ntmps133;go_wp2_with (go_at_call 127;refine u.o.mono ?_;rintro e_ w1 ⟨rfl,f⟩;replace f:=pp f);go_returns;exact ⟨rfl,p.o.1.aftD p.o.2 f.o⟩
theorem gQ (t:Nat)(T:TS)(N:Nat)(e:Int)(kept:Bool)(bs:List B8)(w:World)(M:Nat->Prop)(h:Yz t T w M)(b:DOk T.d N 1000000)(k:N<=100000)(j:Y2 T.d 0=(bs,e,kept)):
  Calls prog 130 #[t] w λr w'=>∃q n c,r=.returned (.tuple #[.slice q n c,.bool kept])/\GoodS w' 0 (q,n,c)/\QW w' (q,n,c)=bs/\Below w.heap.size w w':=by
 obtain ⟨s,d,v,L,Ms,Mi,h,p⟩:=h;have a:=Nt 0 s d Ms T.d N w h.st b k 0 (pC _);rw [j] at a;have u:=pp a;have t0:=h.blk.cell 0;clear h p a b k j;go_enter func130,ntmps130;go_wp2_with (go_at_call 82;refine u.o.mono ?_;rintro e_ w1 ⟨⟨m,x,c4⟩,rfl,i,l,g⟩;have f:=pp (py i (py l g));simp only [Xn];clear i l g);go_returns;exact ⟨m,x,c4,rfl,f.o.1,f.o.2.1,f.o.2.2⟩
theorem TbAt.bare {w w':World}{t s:Nat}{v:Value}{L:List (Nat×TI)}(h:TbAt w t s d v L Ms Mi T)(c:Kept (λb=>b≠t) w w')(f:Q0 w' t 135 #[s,int i64 T.seed,int i64 T.lim,.slice none 0 0]):TbAt w' t s d (.slice none 0 0) [] Ms (λ_=>False) { T with l:=[] } where
 blk:=f
 st:=⟨c.blk (λe=>by subst e;exact absurd (Q7 h.st.blk h.blk) (by decide)) h.st.blk,h.st.disk.kept c (λb a e=>by
  subst e;rcases (h.st.disk.mine a).2.2 _ _ h.blk with h|h<;>revert h<;>decide) (λb a e=>by
  subst e;rcases a with a|⟨cur,a⟩
  ·omega
  ·exact absurd (Q7 a h.blk) (by decide)),pC _⟩
 row:=Q5.nil
 its:=λ_ a=>a
 l:=rfl
theorem bB (t:Nat)(T:TS)(N:Nat)(w:World)(M:Nat->Prop)(h:Yz t T w M)(j:DOk T.d N 1000000)(n:N<=100000):
  Calls prog 129 #[t,int i64 0] w λr w'=>r=.returned (int i64 (T.d.crash 0).2)/\Q6 (Yz t { T with l:=[],d:=(T.d.crash 0).1 }) w M w':=by
 obtain ⟨s,d,v,L,Ms,Mi,h,i⟩:=h;obtain ⟨m,g⟩:=pt (w.setCell ⟨t,3,none⟩ (.slice none 0 0));have f:Kept (λb=>b≠t) w m:=by rw [g];exact (Kept.refl _ _).setCell (by simp) _
 have a:=h.bare f (by rw [g];exact h.blk.set_ 3 _)
 have p:=pp (dV 0 d Ms T.d N m a.st.disk j n 0);have q:=h.blk.frz 3;have c3:=h.blk.cell 3;have t0:=a.blk.cell 0;have s0:=a.st.blk.cell 0;have u:=pp (py h (py i (py f a)));clear h i f a j n;go_enter func129,ntmps129;go_upto_region 2 with fail
 rw [<-g];clear g q c3;go_wp2_with (go_at_call 177;refine p.o.mono ?_;rintro e_ w2 ⟨rfl,k⟩;replace k:=pp k);go_returns;obtain ⟨h,i,f,a⟩:=u.o;refine ⟨rfl,Q6.bind (M':=Es t s (.slice none 0 0) Ms (λ_=>False)) (λb c=>.inl ((i b).2 ?_)) (f.mono λb c e=>c ((i b).2 (.inl e))) (a.aftD (λ_=>Iff.rfl) k.o)⟩
 rcases c with c|c|c|c|c
 ·exact .inl c
 ·exact .inr (.inl c)
 ·exact .inr (.inr (.inl c))
 ·cases c
 ·exact c.elim
def Il (c:Cl):Prop:=(-1000000<=c.1/\c.1<=1000000)/\(-1000000<=c.2.1/\c.2.1<=1000000)/\(-1000000<=c.2.2/\c.2.2<=1000000)
def Yl (now:Int)(l0:Option Addr)(v:Value):Array Value:=#[now,.pointer l0,.pointer none,.pointer none,.pointer none,.pointer none,.pointer none,.pointer none,.pointer none,.pointer none,.pointer none,.pointer none,.pointer none,.pointer none,.pointer none,.pointer none,.pointer none,v]
structure RdA (N B Rc Fb Sb Nb:Nat)(rs:List B8)(w:World):Prop where
 r:Zd N B rs w
 c:ClS B Fb Sb Nb w
 f:Q0 w Fb 4 #[.bool true]
 x:Q0 w Rc 249 (Yl 0 none (.slice none 0 0))
 fB:Fb≠B
 xB:Rc≠B
 len:rs.length<=1000000
section
variable {N B Rc Fb Sb Nb:Nat}{rs rs':List B8}{w w':World}
theorem RdA.turn (h:RdA N B Rc Fb Sb Nb rs w)(e:Zd N B rs' w')(a:Kept (λb=>b≠B) w w')(d:rs'.length<=rs.length):RdA N B Rc Fb Sb Nb rs' w':=⟨e,h.c.turn a,a.blk h.fB h.f,a.blk h.xB h.x,h.fB,h.xB,pB d h.len⟩
theorem RdA.on (h:RdA N B Rc Fb Sb Nb rs w)(a:Below w.heap.size w w'):RdA N B Rc Fb Sb Nb rs w':=⟨h.r.on a,h.c.kept ((Kept.of_below a).mono (K':=λ_=>True) λ_ _=>trivial) trivial trivial,h.f.on a,h.x.on a,h.fB,h.xB,h.len⟩
theorem RdA.keep {M:Nat}(h:RdA N B Rc Fb Sb Nb rs w)(a:Kept (λb=>b<M) w w')(i:N<=M)(e:B<M)(k:Rc<M)(g:Fb<M)(j:Sb<M)(d:Nb<M):RdA N B Rc Fb Sb Nb rs w':=
 ⟨h.r.keep a e (λ_ l=>pD l i),h.c.kept a j d,a.blk g h.f,a.blk k h.x,h.fB,h.xB,h.len⟩
theorem RdA.num {x:Int}{r:List B8}(f:YU x)(h:RdA N B Rc Fb Sb Nb (QB x++r) w):
  Calls prog 231 #[Sb] w λq w'=>q=.returned (int i64 x)/\RdA N B Rc Fb Sb Nb r w'/\Kept (λb=>b≠B) w w':=
 (gM f h.len h.r h.c).mono λ_ _ ⟨e,d,a⟩=>⟨e,h.turn d a (by simp),a⟩
theorem RdA.way {x y z:Int}{r:List B8}(g:YU x)(e:YU y)(i:YU z)(h:RdA N B Rc Fb Sb Nb (QB x++(QB y++(QB z++r))) w):
  Calls prog 232 #[Nb] w λq w'=>q=.returned (.agg #[x,y,z])/\RdA N B Rc Fb Sb Nb r w'/\Kept (λb=>b≠B) w w':=
 (gN g e i h.len h.r h.c).mono λ_ _ ⟨f,d,a⟩=>⟨f,h.turn d a (by simp only [List.length_append];omega),a⟩
theorem RdA.one {b:B8}{r:List B8}(h:RdA N B Rc Fb Sb Nb (b::r) w):
  Calls prog 230 #[int i64 1,B,Fb] w λq w'=>q=.returned (int i64 (n8 b))/\RdA N B Rc Fb Sb Nb r w'/\Kept (λb=>b≠B) w w':=
 (SY h.len h.r).mono λ_ _ ⟨d,c,a⟩=>⟨d,h.turn c a (by simp),a⟩
theorem RdA.two {b c:B8}{r:List B8}(h:RdA N B Rc Fb Sb Nb (b::c::r) w):
  Calls prog 230 #[int i64 2,B,Fb] w λq w'=>q=.returned (int i64 (n8 b * 256+n8 c))/\RdA N B Rc Fb Sb Nb r w'/\Kept (λb=>b≠B) w w':=
 (SZ h.len h.r).mono λ_ _ ⟨e,d,a⟩=>⟨e,h.turn d a (by simp;omega),a⟩
end
structure RdM (w0:World)(Rb:Nat)(rc:Array Value)(rs:List B8)(w:World):Prop where
 a:RdA w0.heap.size w0.heap.size (w0.heap.size+1) (w0.heap.size+1+1) (w0.heap.size+1+1+1) (w0.heap.size+1+1+1+1) rs w
 r:Q0 w Rb 249 rc
 hr:w0.heap.size+1+1+1+1<Rb
 g:Below w0.heap.size w0 w
section
variable {w0 w w':World}{Rb X:Nat}{rc lc:Array Value}{rs r:List B8}
theorem Mv (h:Kept (λb=>b≠n) w w')(hn:n<=w.heap.size):Below n w w':=⟨h.os,h.tape,h.output,h.size,λb hb=>h.block b (by omega) (by omega)⟩
theorem RdM.turn (h:RdM w0 Rb rc rs w)(c:RdA w0.heap.size w0.heap.size (w0.heap.size+1) (w0.heap.size+1+1) (w0.heap.size+1+1+1) (w0.heap.size+1+1+1+1) r w')(a:Kept (λb=>b≠w0.heap.size) w w'):RdM w0 Rb rc r w':=
 ⟨c,a.blk (by have:=h.hr;omega) h.r,h.hr,h.g.trans (Mv a h.g.size)⟩
theorem RdM.on (h:RdM w0 Rb rc rs w)(b:Below w.heap.size w w'):RdM w0 Rb rc rs w':=⟨h.a.on b,h.r.on b,h.hr,after h.g b⟩
theorem RdM.keep (h:RdM w0 Rb rc rs w)(c:Kept (λb=>b<=Rb) w w'):RdM w0 Rb rc rs w':=by
 have hr:=h.hr;have e:=c.mono (K':=λb=>b<Rb) λ_ h=>Nat.le_of_lt h
 refine ⟨h.a.keep e (by omega) (by omega) (by omega) (by omega) (by omega) (by omega),c.blk (pA _) h.r,hr,h.g.trans ⟨c.os,c.tape,c.output,c.size,λb d=>c.block b (pD d h.g.size) (by omega)⟩⟩
theorem RdM.set (h:RdM w0 Rb rc rs w)(i:Nat)(v:Value):RdM w0 Rb (rc.setIfInBounds i v) rs (w.setCell ⟨Rb,i,none⟩ v):=by
 have hr:=h.hr;have c:Kept (λb=>b<Rb) w (w.setCell ⟨Rb,i,none⟩ v):=(Kept.refl _ _).setCell (p:=⟨Rb,i,none⟩) (K:=λb=>b<Rb) (λe=>Nat.lt_irrefl _ e) v
 exact ⟨h.a.keep c (by omega) (by omega) (by omega) (by omega) (by omega) (by omega),h.r.set_ i v,hr,h.g.trans ⟨c.os,c.tape,c.output,c.size,λb d=>c.block b (pD d h.g.size) (by omega)⟩⟩
theorem RdM.num {x:Int}(f:YU x)(h:RdM w0 Rb rc (QB x++r) w):
  Calls prog 231 #[.pointer (some ⟨w0.heap.size+1+1+1,0,none⟩)] w λq w'=>q=.returned (int i64 x)/\RdM w0 Rb rc r w'/\Kept (λb=>b≠w0.heap.size) w w':=
 (h.a.num f).mono λ_ _ ⟨e,d,c⟩=>⟨e,h.turn d c,c⟩
theorem RdM.way {x y z:Int}(g:YU x)(e:YU y)(i:YU z)(h:RdM w0 Rb rc (QB x++(QB y++(QB z++r))) w):
  Calls prog 232 #[.pointer (some ⟨w0.heap.size+1+1+1+1,0,none⟩)] w λq w'=>q=.returned (.agg #[x,y,z])/\RdM w0 Rb rc r w'/\Kept (λb=>b≠w0.heap.size) w w':=
 (h.a.way g e i).mono λ_ _ ⟨f,d,c⟩=>⟨f,h.turn d c,c⟩
theorem RdM.one {b:B8}(n:Int)(f:n8 b=n)(h:RdM w0 Rb rc (b::r) w):
  Calls prog 230 #[int i64 1,w0.heap.size,.pointer (some ⟨w0.heap.size+1+1,0,none⟩)] w λq w'=>q=.returned (int i64 n)/\RdM w0 Rb rc r w'/\Kept (λb=>b≠w0.heap.size) w w':=
 h.a.one.mono λ_ _ ⟨e,d,c⟩=>⟨by rw [e,f],h.turn d c,c⟩
theorem RdM.two {b c:B8}(n:Int)(g:n8 b * 256+n8 c=n)(h:RdM w0 Rb rc (b::c::r) w):
  Calls prog 230 #[int i64 2,w0.heap.size,.pointer (some ⟨w0.heap.size+1+1,0,none⟩)] w λq w'=>q=.returned (int i64 n)/\RdM w0 Rb rc r w'/\Kept (λb=>b≠w0.heap.size) w w':=
 h.a.two.mono λ_ _ ⟨f,e,d⟩=>⟨by rw [f,g],h.turn e d,d⟩
theorem RdM.fine (h:RdM w0 Rb rc rs w):RdM w0 Rb rc rs (w.setCell ⟨w0.heap.size+1+1,0,none⟩ (.bool true)):=by
 have hr:=h.hr;have d:Kept (λb=>b≠w0.heap.size+1+1) w (w.setCell ⟨w0.heap.size+1+1,0,none⟩ (.bool true)):=(Kept.refl _ _).setCell (λe=>e rfl) _
 exact ⟨⟨h.a.r.keep d (by omega) (λb i=>by omega),h.a.c.kept d (by omega) (by omega),h.a.f.set_ 0 _,d.blk (by omega) h.a.x,by omega,by omega,h.a.len⟩,d.blk (by omega) h.r,hr,h.g.trans ⟨d.os,d.tape,d.output,d.size,λb i=>d.block b (pD i h.g.size) (by omega)⟩⟩
structure RdL (w0:World)(Rb X:Nat)(rc lc:Array Value)(rs:List B8)(w:World):Prop where
 m:RdM w0 Rb rc rs w
 x:Q0 w X 83 lc
 hx:Rb<X
theorem RdL.turn (h:RdL w0 Rb X rc lc rs w)(a:RdM w0 Rb rc r w')(c:Kept (λb=>b≠w0.heap.size) w w'):RdL w0 Rb X rc lc r w':=⟨a,c.blk (by have:=h.hx;have:=h.m.hr;omega) h.x,h.hx⟩
theorem RdL.on (h:RdL w0 Rb X rc lc rs w)(a:Below w.heap.size w w'):RdL w0 Rb X rc lc rs w':=⟨h.m.on a,h.x.on a,h.hx⟩
theorem RdL.set (h:RdL w0 Rb X rc lc rs w)(i:Nat)(v:Value):RdL w0 Rb X rc (lc.setIfInBounds i v) rs (w.setCell ⟨X,i,none⟩ v):=
 ⟨h.m.keep ((Kept.refl _ _).setCell (p:=⟨X,i,none⟩) (K:=λb=>b<=Rb) (by have:=h.hx;dsimp only;omega) v),h.x.set_ i v,h.hx⟩
theorem RdL.setR (h:RdL w0 Rb X rc lc rs w)(i:Nat)(v:Value):RdL w0 Rb X (rc.setIfInBounds i v) lc rs (w.setCell ⟨Rb,i,none⟩ v):=
 ⟨h.m.set i v,(Kept.refl (λb=>b≠Rb) w).setCell (p:=⟨Rb,i,none⟩) (λe=>e rfl) v |>.blk (by have:=h.hx;omega) h.x,h.hx⟩
theorem RdL.keep (h:RdL w0 Rb X rc lc rs w)(a:Kept (λb=>b<=X) w w'):RdL w0 Rb X rc lc rs w':=
 ⟨h.m.keep (a.mono λ_ c=>pB c (Nat.le_of_lt h.hx)),a.blk (pA _) h.x,h.hx⟩
theorem RdL.fine (h:RdL w0 Rb X rc lc rs w):RdL w0 Rb X rc lc rs (w.setCell ⟨w0.heap.size+1+1,0,none⟩ (.bool true)):=
 ⟨h.m.fine,(Kept.refl (λb=>b≠w0.heap.size+1+1) w).setCell (p:=⟨w0.heap.size+1+1,0,none⟩) (λe=>e rfl) (.bool true) |>.blk (by have:=h.hx;have:=h.m.hr;omega) h.x,h.hx⟩
end
theorem Td {P:Program}{C:World->Prop}{K:Act->Prop}(ty:TypeId)(x:Operand)(e:o.op=.load ty x)(g:Nat)(k:a.eval x=.pointer (some ⟨g,0,none⟩))(t:TypeId)(cs:Array Value)(fr:Nat×Nat)(d:TypeDesc)(i:∀w,C w->w.heap[g]?=some (.cells cs t fr))
  (f:P.underlying ty=some d) (c:(match d with|.struct _|.array _ _=>true|_=>false)=true) (j:(P.info? ty).map (·.size)=some cs.size) (h:K (a.put o.dst (.agg cs))):Ka P o a C K:=by
 refine ⟨.agg cs,λw b=>?_,h⟩
 unfold Bf execOp;simp only [e,k,Instr.loadAt,Instr.sureAddr,Sem.run_bind,Sem.run_pure,Result.andThen_ok,run_loadVar_row w g t ty cs fr d (i w b) f c j];exact ⟨rfl,rfl⟩
theorem Im {P:Program}{b:Func}{p q:Tmp}{ty:TypeId}(h:b.results=#[.cell p ty,.tmp q])(tmps:Array Value)(w:World)(g:Nat)(t:TypeId)(cs:Array Value)(fr:Nat×Nat)(d:TypeDesc)(v:Value)
  (c:tmps.getD p undef=.pointer (some ⟨g,0,none⟩)) (k:tmps.getD q undef=v) (i:w.heap[g]?=some (.cells cs t fr))
  (f:P.underlying ty=some d) (e:(match d with|.struct _|.array _ _=>true|_=>false)=true) (j:(P.info? ty).map (·.size)=some cs.size):
  (results b tmps).run P w=.ok (.tuple #[.agg cs,v]) w:=by
 have hp':tmps[p]?.getD undef=.pointer (some ⟨g,0,none⟩):=by simpa using c
 have a:tmps[q]?.getD undef=v:=by simpa using k
 simp [results,h,hp',a,asAddr,run_loadVar_row w g t ty cs fr d i f e j]
theorem bC (a:Act)(v:Value):a.put none v=a:=rfl
theorem Te {P:Program}{D:List Nat}{w:World}{R:XO}(ty:TypeId)(x y:Operand)(f:o.op=.store ty x y)(g:Nat)(cells:Array Value)(k:a.eval x=.pointer (some ⟨g,0,none⟩))(h:a.eval y=.agg cells)
  (t:TypeId) (c:Array Value) (i:w.heap[g]?=some (.cells c t (0,0))) (j:(P.info? ty).map (·.size)=some cells.size)
  (d:c.size=cells.size) (p:cells.all (·.oneCell')=true) (l:g∈D) (m:R undef (w.setRow g cells)):VV P D o a R w:=by
 unfold VV execOp;simp only [f,k,h,Instr.storeAt,Instr.sureAddr,Sem.run_bind,Sem.run_pure,Result.andThen_ok,run_storeVar_row w g t ty c cells i j d p];exact ⟨⟨(Kept.refl (λ_=>True) w).os,(Kept.refl (λ_=>True) w).tape,(Kept.refl (λ_=>True) w).output,by rw [setRow_size];exact pA _,λb _ n=>setRow_other w g b _ (λe=>n (e▸l))⟩,m⟩
theorem gR (now:Int)(b:BD)(l:List QI)(rs:List B8)(dd:rs=Vv now b l)(hl:rs.length<=1000000)(cb:0<=now/\now<=1099511627776)(O:EW b=true)(B:∀u∈[b.1,b.2.1,b.2.2.1,b.2.2.2.1,b.2.2.2.2.1,b.2.2.2.2.2.1,b.2.2.2.2.2.2.1,b.2.2.2.2.2.2.2.1],YU u)(ec:l.length<=2000)(b8:∀u∈l,YU u.1/\Il u.2)(a:Option Addr)(c:Nat)(hc:rs.length<=c)(d6:c<=maxLen)(w:World)(en:Rd w a 1 Yk rs)(ds:∀x,a=some x->x.block<w.heap.size):
  Calls prog 178 #[.slice a rs.length c] w λr w'=>∃(la:Nat) (q:Option Addr) (Y:Nat),r=.returned (.tuple #[.agg (Yl now (some ⟨la,0,none⟩) (.slice q l.length Y)),.bool true])/\Q0 w' la 83 (Ed ⟨la,b,0,0,false⟩)/\w.heap.size<=la/\Q5 w' w.heap.size 92 4 Qt (.slice q l.length Y) l/\(∀a,q=some a->a.block≠la)/\Below w.heap.size w w':=by
 obtain ⟨x,y,z,sx,sy,sz,wi,ht,st⟩:=b;obtain ⟨r9,dh⟩:∃r,r=l.flatMap Vu:=⟨_,rfl⟩;obtain ⟨r8,dl⟩:∃r,r=BitVec.ofInt 8 ((l.length:Int) / 256)::BitVec.ofInt 8 (l.length:Int)::r9:=⟨_,rfl⟩;obtain ⟨r7,ck⟩:∃r,r=de (x,y,z,sx,sy,sz,wi,ht,st)::r8:=⟨_,rfl⟩;obtain ⟨r6,cm⟩:∃r,r=QB ht++r7:=⟨_,rfl⟩;obtain ⟨r5,cs⟩:∃r,r=QB wi++r6:=⟨_,rfl⟩;obtain ⟨r4,cz⟩:∃r,r=QB sx++(QB sy++(QB sz++r5)):=⟨_,rfl⟩;obtain ⟨r3,co⟩:∃r,r=QB x++(QB y++(QB z++r4)):=⟨_,rfl⟩;obtain ⟨r2,di⟩:∃r,r=(0:B8)::r3:=⟨_,rfl⟩;obtain ⟨r1,cj⟩:∃r,r=(1:B8)::r2:=⟨_,rfl⟩;have el:rs=QB now++r1:=by rw [dd,T4,cj,di,co,cz,cs,cm,ck,dl,dh]
 obtain ⟨W1,bj⟩:=pt (w.alloc (.cells #[.slice a rs.length c] 51));obtain ⟨W2,av⟩:=pt (W1.alloc (.cells (Yl 0 none (.slice none 0 0)) 249));obtain ⟨W3,bm⟩:=pt (W2.alloc (.cells #[.bool true] 4));obtain ⟨W4,az⟩:=pt (W3.alloc (.cells #[.func (.func 230) #[] #[w.heap.size,.pointer (some ⟨w.heap.size+1+1,0,none⟩)]] 84));obtain ⟨W5,a6⟩:=pt (W4.alloc (.cells #[.func (.func 231) #[] #[.pointer (some ⟨w.heap.size+1+1+1,0,none⟩)]] 87));have z1:W1.heap.size=w.heap.size+1:=by rw [bj];simp
 have z2:W2.heap.size=w.heap.size+1+1:=by rw [av];simp [z1]
 have z3:W3.heap.size=w.heap.size+1+1+1:=by rw [bm];simp [z2]
 have z4:W4.heap.size=w.heap.size+1+1+1+1:=by rw [az];simp [z3]
 have z5:W5.heap.size=w.heap.size+1+1+1+1+1:=by rw [a6];simp [z4]
 have b1:Below w.heap.size w W1:=by rw [bj];exact Q3 _ _
 have b2:Below W1.heap.size W1 W2:=by rw [av];exact Q3 _ _
 have b3:Below W2.heap.size W2 W3:=by rw [bm];exact Q3 _ _
 have b4:Below W3.heap.size W3 W4:=by rw [az];exact Q3 _ _
 have b5:Below W4.heap.size W4 W5:=by rw [a6];exact Q3 _ _
 have A0:RdA w.heap.size w.heap.size (w.heap.size+1) (w.heap.size+1+1) (w.heap.size+1+1+1) (w.heap.size+1+1+1+1) rs W5:=by
  refine ⟨?_,⟨?_,?_,by omega,by omega⟩,?_,?_,by omega,by omega,hl⟩
  ·have h1:Zd w.heap.size w.heap.size rs W1:=⟨a,c,Q0.fresh bj,hc,d6,pA _,en.below b1 ds,ds⟩;exact (((h1.on b2).on b3).on b4).on b5
  ·have:=Q0.fresh az;rw [z3] at this;exact this.on b5
  ·have:=Q0.fresh a6;rw [z4] at this;exact this
  ·have:=Q0.fresh bm;rw [z2] at this;exact (this.on b4).on b5
  ·have:=Q0.fresh av;rw [z1] at this;exact ((this.on b3).on b4).on b5
 have G5:=pp (after b1 (after b2 (after b3 (after b4 b5))));have HRS:=pp dd;have HB:=pp O;have ep:=pp (py ec b8);have HX:=pp (py (B x (by simp)) (py (B y (by simp)) (py (B z (by simp)) (py (B sx (by simp)) (py (B sy (by simp)) (py (B sz (by simp)) (py (B wi (by simp)) (B ht (by simp)))))))))
 clear O B ec b8;rw [el] at A0;have cy:=pp A0;have bg:=pp cb;unfold Yl at av;clear dd hl hc d6 en ds b1 b2 b3 b4 b5 A0 el cb;have HZ:=pp z5;clear z1 z2 z3 z4 z5;have Q:=pp (py cj (py di (py co (py cz (py cs (py cm (py ck (py dl dh))))))));clear cj di co cz cs cm ck dl dh;have HE:=pp (py bj (py av (py bm (py az a6))));clear bj av bm az a6;go_enter func178,ntmps178;go_upto_region 5 with fail
 rw [<-HE.o.1,<-HE.o.2.1,<-HE.o.2.2.1,<-HE.o.2.2.2.1,<-HE.o.2.2.2.2];clear HE;have d0:=pp (cy.o.num (by have:=bg.o;unfold YU;omega))
 have n0:=cy.o.c.n.cell 0;have ac:=pp (show (Yl now none (.slice none 0 0)).all (·.oneCell')=true by simp [Yl,Value.oneCell'])
 go_upto_region 6 with first
  | (go_at_call 231;refine d0.o.mono ?_;rintro e_ w5 ⟨rfl,a5,k5⟩;have fu:=pp a5;have G6:=pp k5;clear a5 k5)
  | (refine wpList_store_rowTo rfl 249 _ _ rfl rfl w5.heap.size (Yl now none (.slice none 0 0)) rfl rfl 249 _ (Q0.new' rfl) (by kernel_rfl) rfl ac.o ?_)
 obtain ⟨V5,bo⟩:∃V,V=w5.alloc (.cells #[int i64 0,.pointer none,.pointer none,.pointer none,.pointer none,.pointer none,.pointer none,.pointer none,.pointer none,.pointer none,.pointer none,.pointer none,.pointer none,.pointer none,.pointer none,.pointer none,.pointer none,.slice none 0 0] 249):=⟨_,rfl⟩;obtain ⟨V6,bu⟩:∃V,V=V5.setRow w5.heap.size (Yl now none (.slice none 0 0)):=⟨_,rfl⟩;have g5:Below w5.heap.size w5 V5:=by rw [bo];exact Q3 _ _
 have g6:Below w5.heap.size w5 V6:=by rw [bu];exact Ut g5 (pA _) _
 have M6:RdM w w5.heap.size (Yl now none (.slice none 0 0)) r1 V6:=by
  have h1:=G6.o.size;have h2:=HZ.o;refine ⟨fu.o.on g6,?_,by omega,after (G5.o.trans (Mv G6.o (by omega))) g6⟩
  rw [bu];exact (Q0.fresh bo).row _
 rw [<-bo,<-bu];obtain ⟨Rb,eq⟩:=pt w5.heap.size;rw [<-eq] at M6 ⊢;have d7:=pp M6;have m0:V6.cell? ⟨Rb,0,none⟩=some (int i64 now):=M6.r.cell 0;have f0:V6.cell? ⟨w.heap.size+1+1,0,none⟩=some (.bool true):=M6.a.f.cell 0;have f1:=M6.a.f.frz 0;have VS:=bg.o.1;have Mx:=bg.o.2;clear bo bu g5 g6 M6 eq n0 d0 cy ac HZ;go_upto_region 7 with fail
 obtain ⟨V7,de⟩:∃V,V=V6.setCell ⟨w.heap.size+1+1,0,none⟩ (.bool true):=⟨_,rfl⟩;rw [<-de];have M7:=d7.o.fine;rw [<-de,Q.o.1] at M7;have cv:=pp M7;have eb:=pp (cv.o.one 1 (by decide))
 have s0:=cv.o.a.c.s.cell 0;clear m0 f0 f1 VS Mx M7 de;go_upto_region 9 with (go_at_call 230;refine eb.o.mono ?_;rintro e_ w8 ⟨rfl,m8,k8⟩;have d9:=pp m8;clear m8 k8)
 refine wp_loop_rounds 2 ?_;rw [rounds_succ];have M8:=d9.o;rw [Q.o.2.1] at M8;have af:=pp M8;have cf:=pp (af.o.one 0 (by decide))
 have f8:w8.cell? ⟨w.heap.size+1+1,0,none⟩=some (.bool true):=af.o.a.f.cell 0;have s8:=af.o.a.c.s.cell 0;clear M8 s0 eb;go_upto_region 12 with (go_at_call 230;refine cf.o.mono ?_;rintro e_ a3 ⟨rfl,dz,fe⟩;have b7:=pp dz;clear dz fe)
 clear f8 s8 cf d9 af cv d7;go_upto_region 13 with fail
 obtain ⟨dx,ap⟩:∃V,V=a3.alloc (.cells #[int i64 0,int i64 0,int i64 0,int i64 0,int i64 0,int i64 0,int i64 0,int i64 0,.bool false,int i64 0,int i64 0,.bool false] 83):=⟨_,rfl⟩;rw [<-ap];have bt:RdL w Rb a3.heap.size (Yl now none (.slice none 0 0)) #[int i64 0,int i64 0,int i64 0,int i64 0,int i64 0,int i64 0,int i64 0,int i64 0,.bool false,int i64 0,int i64 0,.bool false] r3 dx:=by
  have g:Below a3.heap.size a3 dx:=by rw [ap];exact Q3 _ _
  refine ⟨b7.o.on g,Q0.fresh ap,?_⟩;exact b7.o.r.lt
 obtain ⟨X,hX⟩:=pt a3.heap.size;rw [<-hX] at bt ⊢;rw [Q.o.2.2.1] at bt;have a9:=pp bt;clear bt hX ap;have bx:=pp (a9.o.m.way HX.o.1 HX.o.2.1 HX.o.2.2.1);go_upto_region 14 with (go_at_call 232;refine bx.o.mono ?_;rintro e_ f9 ⟨rfl,E,G⟩;have F:=pp (a9.o.turn E G);have e8:=F.o.x.frz 0;have ew:=F.o.x.cell 0;have gi:=F.o.x.frz 1;have f6:=F.o.x.cell 1;have fn:=F.o.x.frz 2;have eu:=F.o.x.cell 2;clear E G)
 obtain ⟨gf,bc⟩:∃V,V=(((f9.setCell ⟨X,0,none⟩ (int i64 x)).setCell ⟨X,1,none⟩ (int i64 y)).setCell ⟨X,2,none⟩ (int i64 z)):=⟨_,rfl⟩;rw [<-bc];have du:RdL w Rb X (Yl now none (.slice none 0 0)) #[int i64 x,int i64 y,int i64 z,int i64 0,int i64 0,int i64 0,int i64 0,int i64 0,.bool false,int i64 0,int i64 0,.bool false] r4 gf:=by rw [bc];exact (((F.o.set 0 (int i64 x)).set 1 (int i64 y)).set 2 (int i64 z))
 rw [Q.o.2.2.2.1] at du;have bn:=pp du;clear du bc bx a9 F e8 gi fn ew f6 eu;have ci:=pp (bn.o.m.way HX.o.2.2.2.1 HX.o.2.2.2.2.1 HX.o.2.2.2.2.2.1);go_upto_region 15 with (go_at_call 232;refine ci.o.mono ?_;rintro e_ ga ⟨rfl,E,G⟩;have D:=pp (bn.o.turn E G);have ey:=D.o.x.frz 3;have fk:=D.o.x.cell 3;have e4:=D.o.x.frz 4;have fo:=D.o.x.cell 4;have fx:=D.o.x.frz 5;have fb:=D.o.x.cell 5;clear E G)
 obtain ⟨fd,bf⟩:∃V,V=(((ga.setCell ⟨X,3,none⟩ (int i64 sx)).setCell ⟨X,4,none⟩ (int i64 sy)).setCell ⟨X,5,none⟩ (int i64 sz)):=⟨_,rfl⟩;rw [<-bf];have cq:RdL w Rb X (Yl now none (.slice none 0 0)) #[int i64 x,int i64 y,int i64 z,int i64 sx,int i64 sy,int i64 sz,int i64 0,int i64 0,.bool false,int i64 0,int i64 0,.bool false] r5 fd:=by rw [bf];exact (((D.o.set 3 (int i64 sx)).set 4 (int i64 sy)).set 5 (int i64 sz))
 rw [Q.o.2.2.2.2.1] at cq;have ai:=pp cq;clear cq bf ci bn D ey e4 fx fk fo fb;have b9:=pp (ai.o.m.num HX.o.2.2.2.2.2.2.1);have f7:=ai.o.m.a.c.n.cell 0;go_upto_region 16 with (go_at_call 231;refine b9.o.mono ?_;rintro e_ e5 ⟨rfl,E,G⟩;have aj:=pp (ai.o.turn E G);have ez:=aj.o.x.frz 6;have e6:=aj.o.x.cell 6;clear E G)
 obtain ⟨fj,a4⟩:∃V,V=(e5.setCell ⟨X,6,none⟩ (int i64 wi)):=⟨_,rfl⟩;rw [<-a4];have dr:RdL w Rb X (Yl now none (.slice none 0 0)) #[int i64 x,int i64 y,int i64 z,int i64 sx,int i64 sy,int i64 sz,int i64 wi,int i64 0,.bool false,int i64 0,int i64 0,.bool false] r6 fj:=by rw [a4];exact (aj.o.set 6 (int i64 wi))
 rw [Q.o.2.2.2.2.2.1] at dr;have al:=pp dr;clear dr a4 b9 ai aj ez e6 f7;have bz:=pp (al.o.m.num HX.o.2.2.2.2.2.2.2);have Qa:=al.o.m.a.c.n.cell 0;go_upto_region 17 with (go_at_call 231;refine bz.o.mono ?_;rintro e_ ge ⟨rfl,E,G⟩;have ar:=pp (al.o.turn E G);have fm:=ar.o.x.frz 7;have ev:=ar.o.x.cell 7;clear E G)
 obtain ⟨fi,a8⟩:∃V,V=(ge.setCell ⟨X,7,none⟩ (int i64 ht)):=⟨_,rfl⟩;rw [<-a8];have cn:RdL w Rb X (Yl now none (.slice none 0 0)) #[int i64 x,int i64 y,int i64 z,int i64 sx,int i64 sy,int i64 sz,int i64 wi,int i64 ht,.bool false,int i64 0,int i64 0,.bool false] r7 fi:=by rw [a8];exact (ar.o.set 7 (int i64 ht))
 rw [Q.o.2.2.2.2.2.2.1] at cn;have am:=pp cn;clear cn a8 bz al ar fm ev Qa;obtain ⟨sv,br⟩:∃sv:Int,sv=if st then 1 else 0:=⟨_,rfl⟩;have b6:=pp (am.o.m.one sv (by rw [br];cases st<;>rfl))
 have fc:(sv==1)=st:=by rw [br];cases st<;>decide
 have ft:sv<=1:=by rw [br];cases st<;>decide
 have e2:=am.o.m.a.c.s.cell 0;clear br;go_upto_region 18 with (go_at_call 230;refine b6.o.mono ?_;rintro e_ gg ⟨rfl,E,G⟩;have an:=pp (am.o.turn E G);have fz:=an.o.x.frz 8;have f4:=an.o.x.cell 8;clear E G)
 go_upto_region 19 with fail
 obtain ⟨cu,bk⟩:∃V,V=gg.setCell ⟨X,8,none⟩ (.bool st):=⟨_,rfl⟩;rw [<-bk];have d2:RdL w Rb X (Yl now none (.slice none 0 0)) #[int i64 x,int i64 y,int i64 z,int i64 sx,int i64 sy,int i64 sz,int i64 wi,int i64 ht,.bool st,int i64 0,int i64 0,.bool false] r8 cu:=by rw [bk];exact an.o.set 8 (.bool st)
 have t:=pp d2;clear d2 bk b6 am an fz f4 e2 fc;have dc:=pp (Se (x,y,z,sx,sy,sz,wi,ht,st) cu);rw [HB.o] at dc;have gc:cu.cell? ⟨w.heap.size+1+1,0,none⟩=some (.bool true):=t.o.m.a.f.cell 0;have c0:=t.o.x.cell 0;have c1:=t.o.x.cell 1;have c2:=t.o.x.cell 2;have c3:=t.o.x.cell 3;have c4:=t.o.x.cell 4;have c5:=t.o.x.cell 5;have c6:=t.o.x.cell 6;have c7:=t.o.x.cell 7;have c8:=t.o.x.cell 8;go_upto_region 20 with (go_at_call 135;refine dc.o.mono ?_;rintro e_ d5 ⟨rfl,E⟩;have ah:=pp (t.o.on E);have ff:d5.cell? ⟨w.heap.size+1+1,0,none⟩=some (.bool true):=ah.o.m.a.f.cell 0;have dy:=ah.o.m.a.f.frz 0;clear E)
 obtain ⟨ct,ay⟩:∃V,V=d5.setCell ⟨w.heap.size+1+1,0,none⟩ (.bool true):=⟨_,rfl⟩;rw [<-ay];have dt:=ah.o.fine;rw [<-ay] at dt;have M:=pp dt;have fa:ct.cell? ⟨w.heap.size+1+1,0,none⟩=some (.bool true):=M.o.m.a.f.cell 0;have ra:ct.cell? ⟨Rb,1,none⟩=some (.pointer none):=M.o.m.r.cell 1;have rz:=M.o.m.r.frz 1;clear c0 c1 c2 c3 c4 c5 c6 c7 c8 gc dc t ff dy ah dt ay ft;go_upto_region 21 with fail
 go_upto_region 10 with fail
 obtain ⟨fh,bh⟩:∃V,V=ct.setCell ⟨Rb,1,none⟩ (.pointer (some ⟨X,0,none⟩)):=⟨_,rfl⟩;rw [<-bh];have cl:RdL w Rb X (Yl now (some ⟨X,0,none⟩) (.slice none 0 0)) #[int i64 x,int i64 y,int i64 z,int i64 sx,int i64 sy,int i64 sz,int i64 wi,int i64 ht,.bool st,int i64 0,int i64 0,.bool false] r8 fh:=by rw [bh];exact M.o.setR 1 _
 obtain ⟨n,hn⟩:=pt l.length;have hnm:n<=2000:=by have:=ep.o.1;omega
 rw [Q.o.2.2.2.2.2.2.2.1,Q.o.2.2.2.2.2.2.2.2] at cl;have ag:=pp cl;have bv:=pp (ag.o.m.two (n:Int) (by rw [QF,QF,<-hn];omega))
 have fl:=ag.o.m.a.c.s.cell 0;have HN:=pp hn;clear fa ra rz bh cl M hn;go_wp2_with fail;rw [rounds_succ];go_upto_region 22 with fail
 go_upto_region 23 with (go_at_call 230;refine bv.o.mono ?_;rintro e_ w22 ⟨rfl,E,G⟩;have ba:=pp (ag.o.turn E G);clear E G)
 clear fl bv ag;obtain ⟨lc,dn⟩:∃lc:Array Value,lc=#[int i64 x,int i64 y,int i64 z,int i64 sx,int i64 sy,int i64 sz,int i64 wi,int i64 ht,.bool st,int i64 0,int i64 0,.bool false]:=⟨_,rfl⟩;rw [<-dn] at ba;have e3:=pp dn;have HS:=ba;clear dn ba;go_loopw [14] (λnv wr=>∃(k Y:Nat) (q:Option Addr),nv=.int .i64 ((n:Int) - (k:Int))/\Hid (k<=n)/\Hid (RdL w Rb X (Yl now (some ⟨X,0,none⟩) (.slice q k Y)) lc ((l.drop k).flatMap Vu) wr)/\Hid (Q5 wr (X+1) 92 4 Qt (.slice q k Y) (l.take k))) (λnv _=>(intOf nv).toNat)
 case atStart=>exact ⟨0,0,none,by simp,pC _,HS,pp Q5.nil⟩
 case round=>
  obtain ⟨k,Y,q,rfl,hk,HL,HO⟩:=hrel;by_cases hlt:k<n
  ·have hgt:(0:Int)<(n:Int) - (k:Int):=by omega
   have YV:IntKind.i64.wrap ((n:Int) - (k:Int) - 1)=(n:Int) - (k:Int) - 1:=pJ _ (by omega)
   have hk2:(k:Int)<2000:=by omega
   have gj:=HN.o;obtain ⟨u,hu⟩:∃u,l[k]?=some u:=⟨_,pH (by omega)⟩
   have b0:u∈l:=pG hu;obtain ⟨c9,Z⟩:=ep.o.2 u b0;have ax:=HL.out;have bb:l.drop k=u::l.drop (k+1):=by
    have ch:k<l.length:=by omega
    rw [List.drop_eq_getElem_cons ch];have:=pH ch;rw [hu] at this;rw [<-pE this]
   rw [bb,T7] at ax;obtain ⟨m,hm⟩:∃m:Int,m=(n:Int) - (k:Int):=⟨_,rfl⟩;have HU:=pp (py hu (py c9 (py Z hm)));rw [<-hm] at hgt YV ⊢;have T:=pp ax;have cc:=pp (T.o.m.num c9);have fw:wr.cell? ⟨w.heap.size+1+1,0,none⟩=some (.bool true):=T.o.m.a.f.cell 0;have e7:=T.o.m.a.c.n.cell 0;clear gj hu b0 c9 Z ax bb hm HL;go_upto_region 26 with (go_at_call 231;refine cc.o.mono ?_;rintro e_ aa ⟨rfl,E,G⟩;have C:=pp (T.o.turn E G);have a7:=pp G;clear E G)
   have ex:=pp C.o.m.g.size;obtain ⟨fp,ak⟩:∃V,V=aa.alloc (.cells #[int i64 u.1,int i64 0,int i64 0,int i64 0] 92):=⟨_,rfl⟩;have dj:Below aa.heap.size aa fp:=by rw [ak];exact Q3 _ _
   have XI:=Q0.fresh ak;have ax:=C.o.on dj;have dp:X<aa.heap.size:=C.o.x.lt;have cx:∀b,(Value.slice q k Y).ownBlock=some b->b<aa.heap.size:=λb O=>by
    have h1:=(HO.out.block b O).2;have h2:=a7.o.size;omega
   have eh:=(HO.out.keep (show Kept (λb=>b≠w.heap.size) wr aa from a7.o) (λb O=>by have:=HO.out.block b O;have:=C.o.hx;have:=C.o.m.hr;omega)).on dj
   rw [<-ak];obtain ⟨I,hI⟩:=pt aa.heap.size;rw [<-hI] at XI dp cx ⊢;have HI:=pp (py XI dp);have f3:=pp cx;have be:=pp eh;have A:=pp ax;have Z:=HU.o.2.2.1;have cg:=pp (A.o.m.way (x:=u.2.1) (y:=u.2.2.1) (z:=u.2.2.2) (by unfold YU;have:=Z.1;omega) (by unfold YU;have:=Z.2.1;omega) (by unfold YU;have:=Z.2.2;omega))
   clear fw e7 cc T C XI dp cx eh ax dj ak Z hI HO a7 ex;go_upto_region 27 with (go_at_call 232;refine cg.o.mono ?_;rintro e_ dm ⟨rfl,E,G⟩;have bw:=pp (A.o.turn E G);have a2:=pp G;clear E G)
   obtain ⟨au,ae⟩:∃V,V=dm.alloc (.cells #[int i64 u.2.1,int i64 u.2.2.1,int i64 u.2.2.2] 38):=⟨_,rfl⟩;have bq:Below dm.heap.size dm au:=by rw [ae];exact Q3 _ _
   obtain ⟨p0,p1,p2,-,-,-⟩:=(Q0.fresh ae).c3;have dv:I≠w.heap.size:=by have:=HI.o.2;have:=A.o.hx;have:=A.o.m.hr;omega
   have XI:=(a2.o.blk dv HI.o.1).on bq;have ei:=bw.o.on bq;have d4:=(be.o.keep a2.o (λb O=>by have:=be.o.block b O;have:=A.o.hx;have:=A.o.m.hr;omega)).on bq
   rw [<-ae];have eo:=pp XI;have C:=pp ei;have ca:=pp d4;have i1:=XI.cell 1;have i2:=XI.cell 2;have i3:=XI.cell 3;have j1:=XI.frz 1;have j2:=XI.frz 2;have j3:=XI.frz 3;clear bq dv XI ei d4 ae cg bw a2 A be;go_upto_region 28 with fail
   obtain ⟨N,S⟩:∃V,V=((au.setCell ⟨I,1,none⟩ (int i64 u.2.1)).setCell ⟨I,2,none⟩ (int i64 u.2.2.1)).setCell ⟨I,3,none⟩ (int i64 u.2.2.2):=⟨_,rfl⟩;have es:Kept (λb=>b<=X) au N:=by
    have:=HI.o.2;rw [S];exact (((Kept.refl (λb=>b<=X) au).setCell (p:=⟨I,1,none⟩) (by dsimp only;omega) _).setCell (p:=⟨I,2,none⟩) (by dsimp only;omega) _).setCell (p:=⟨I,3,none⟩) (by dsimp only;omega) _
   have ce:Kept (λb=>b≠I) au N:=by
    rw [S];exact (((Kept.refl (λb=>b≠I) au).setCell (p:=⟨I,1,none⟩) (by simp) _).setCell (p:=⟨I,2,none⟩) (by simp) _).setCell (p:=⟨I,3,none⟩) (by simp) _
   have XJ:Q0 N I 92 #[int i64 u.1,int i64 u.2.1,int i64 u.2.2.1,int i64 u.2.2.2]:=by
    rw [S];exact ((eo.o.set_ 1 _).set_ 2 _).set_ 3 _
   have bp:=C.o.keep es;have et:=ca.o.keep ce (λb O e=>by have:=f3.o b O;omega)
   rw [<-S];have gb:∀d os,(Go.Sort.grow (redrawn N d) os).cell? ⟨w.heap.size+1+1,0,none⟩=some (.bool true):=λd os=>(bp.m.a.f.re d os).cell 0
   have fv:∀d os,(Go.Sort.grow (redrawn N d) os).cell? ⟨Rb,17,none⟩=some (.slice q k Y):=λd os=>(bp.m.r.re d os).cell 17
   have i1:∀d os,(Go.Sort.grow (redrawn N d) os).cell? ⟨I,1,none⟩=some (int i64 u.2.1):=λd os=>(XJ.re d os).cell 1
   have i2:∀d os,(Go.Sort.grow (redrawn N d) os).cell? ⟨I,2,none⟩=some (int i64 u.2.2.1):=λd os=>(XJ.re d os).cell 2
   have i3:∀d os,(Go.Sort.grow (redrawn N d) os).cell? ⟨I,3,none⟩=some (int i64 u.2.2.2):=λd os=>(XJ.re d os).cell 3
   have cp:=pp λW=>Rp u.2.1 u.2.2.1 u.2.2.2 W
   rw [Vr (by have:=HU.o.2.2.1.1;omega),Vr (by have:=HU.o.2.2.1.2.1;omega),Vr (by have:=HU.o.2.2.1.2.2;omega)] at cp
   have pe:=λW=>Ly u.2 u.2 W
   rw [show decide (u.2=u.2)=true by simp] at pe
   have pg:=FV;have aq:=pp (py XJ (py bp et));clear S es ce XJ bp et eo C ca j1 j2 j3 p0 p1 p2;refine Qo 15 (by kernel_rfl) rfl (by kernel_rfl) ?_
   simp only [List.take_succ_cons,List.take_zero,List.drop_succ_cons,List.drop_zero];repeat (go_big_quiet_step (with_reducible exact Calls.regrown_of (cp.o _)))
   refine wpQuiet_nil ?_;intro w' e0;obtain ⟨rg,rfl⟩:=e0;obtain ⟨bd,bl⟩:∃W,W=Go.Sort.grow (redrawn N rg.d) rg.os:=⟨_,rfl⟩;have bs:Below N.heap.size N bd:=by rw [bl];exact pK _ _ _
   have XJ:=aq.o.1.on bs;have R:=aq.o.2.1.on bs;have a1:=aq.o.2.2.on bs;have dw:bd.cell? ⟨w.heap.size+1+1,0,none⟩=some (.bool true):=R.m.a.f.cell 0;have ej:=R.m.a.f.frz 0;rw [<-bl];have H:=pp (py XJ (py R a1));clear bl bs XJ R a1 aq gb fv i1 i2 i3 cp pe pg;go_upto_region 29 with fail
   obtain ⟨aw,bi⟩:∃V,V=bd.setCell ⟨w.heap.size+1+1,0,none⟩ (.bool true):=⟨_,rfl⟩;have e1:w.heap.size+1+1<X:=by have:=H.o.2.1.hx;have:=H.o.2.1.m.hr;omega
   have cr:Kept (λb=>X<b) bd aw:=by rw [bi];exact (Kept.refl (λb=>X<b) bd).setCell (p:=⟨w.heap.size+1+1,0,none⟩) (by dsimp only;omega) _
   have XJ:=cr.blk HI.o.2 H.o.1;have R:=H.o.2.1.fine;rw [<-bi] at R ⊢;have a1:=H.o.2.2.keep cr (λb O=>by have:=(H.o.2.2.block b O).1;omega)
   obtain ⟨ek,ad⟩:∃V,V=aw.alloc (.cells #[int i64 u.1,int i64 u.2.1,int i64 u.2.2.1,int i64 u.2.2.2] 92):=⟨_,rfl⟩;have dq:Below aw.heap.size aw ek:=by rw [ad];exact Q3 _ _
   have db:=R.on dq;have da:(l.take k).length=k:=by rw [List.length_take,<-HN.o];omega
   have dg:=a1.on dq;obtain ⟨g',c2,dk,hrun,ho,er,gh⟩:=Yr (P:=prog) (base:=X+1) (e:=92) (size:=4) (enc:=Qt) (xs:=l.take k) (ts:=88) (ty:=88) (bytes:=32) (b:=aw.heap.size) (x:=u) underlying88 Ls rfl (by decide) (by decide) rfl (by intro a ha;simp [Qt] at ha;rcases ha with rfl|rfl|rfl|rfl<;>rfl) dg (λj a ha=>by rw [(Q0.fresh ad).cell j];simpa [Qt] using ha) (by rw [da];omega) (by have:=db.x.lt;omega)
   have e9:l.take k++[u]=l.take (k+1):=by rw [List.take_add_one,HU.o.1];rfl
   rw [da] at hrun ho;rw [e9] at ho;have ee:Kept (λb=>b<=X) ek dk:=(XQ er).mono λb O e=>by
    have:=(dg.block b e).1;omega
   have ao:=db.keep ee;have gd:aw.cell? ⟨Rb,17,none⟩=some (.slice q k Y):=R.m.r.cell 17;have y0:=XJ.cell 0;have y1:=XJ.cell 1;have y2:=XJ.cell 2;have y3:=XJ.cell 3;have fy:dk.cell? ⟨Rb,17,none⟩=some (.slice q k Y):=ao.m.r.cell 17;have d3:=ao.m.r.frz 17;have U:=pp (py ao ho);rw [ad] at hrun;clear e1 cr XJ R a1 dq db da dg ho er gh e9 ee ao H dw ej bi ad;go_upto_region 24 with (at_builtin;refine Lib.wpList_append_run _ rfl _ _ _ _ rfl _ _ rfl rfl _ _ hrun ?_)
   have ef:=U.o.1.setR 17 (.slice (some ⟨g',0,none⟩) (k+1) c2);have eg:=U.o.2.keep ((Kept.refl (λb=>b≠Rb) dk).setCell (p:=⟨Rb,17,none⟩) (by simp) (.slice (some ⟨g',0,none⟩) (k+1) c2)) (λb O e=>by have:=(U.o.2.block b O).1;have:=U.o.1.hx;omega)
   have cd:=pp (py (show RdL w Rb X (Yl now (some ⟨X,0,none⟩) (.slice (some ⟨g',0,none⟩) (k+1) c2)) lc ((l.drop (k+1)).flatMap Vu) _ from ef) eg);clear ef eg gd y0 y1 y2 y3 fy d3 hrun U;go_wp2_with fail;go_roundw
   case rel=>exact ⟨k+1,c2,some ⟨g',0,none⟩,by rw [HU.o.2.2.2];congr 1;omega,pp (by omega),pp cd.o.1,pp cd.o.2⟩
   case measure=>simp [intOf];omega
  ·obtain rfl:k=n:=by have:=hk.out;omega
   have hz:¬(0:Int)<(k:Int) - (k:Int):=by omega
   have L:=HL.out;have bb:l.drop k=[]:=by rw [HN.o];exact List.drop_length
   rw [bb] at L;have fg:l.take k=l:=by rw [HN.o];exact List.take_length
   have d8:Rb∉[w.heap.size+1]:=by have:=L.m.hr;simp;omega
   have f30:∀f d os,(Go.Sort.grow (redrawn (V8 wr [w.heap.size+1] f) d) os).cell? ⟨w.heap.size+1+1,0,none⟩=some (.bool true):=λf d os=>(L.m.a.f.sp (by simp) f d os).cell 0
   obtain ⟨a0,fq,em,-,-,-,-,-⟩:=id L.m.a.r;have b30:∀f d os,(Go.Sort.grow (redrawn (V8 wr [w.heap.size+1] f) d) os).cell? ⟨w.heap.size,0,none⟩=some (.slice a0 0 fq):=λf d os=>(em.sp (by simp) f d os).cell 0
   have J:=pp L;clear L em bb;go_upto_region 30 with fail
   have ac:=pp (show (Yl now (some ⟨X,0,none⟩) (.slice q k Y)).all (·.oneCell')=true by simp [Yl,Value.oneCell'])
   have fs:=pp J.o.m.a.x;refine VI [0,0,0,0,0,0,0,2,3] 7 (some (w.heap.size+1)) (λi _ w'=>i=7->Q0 w' (w.heap.size+1) 249 (Yl now (some ⟨X,0,none⟩) (.slice q k Y))) (by kernel_rfl) (by kernel_rfl) (λi v w w' h hk e=>by subst e;rw [if_pos rfl] at hk;exact (h rfl).on hk) ?_
   refine Qf (λK hK=>?_)
   rw [if_pos (by kernel_rfl)]
   refine Td 249 _ rfl Rb rfl 249 (Yl now (some ⟨X,0,none⟩) (.slice q k Y)) (0,0) _ (λw_ df=>(Qb df).blk d8 J.o.m.r) underlying249 rfl (by kernel_rfl) ?_
   refine hK _ ?_;clear hK K;repeat (first|(refine Qi ?_)|(refine Qf (λK hK=>?_);go_simp;refine hK _ ?_;clear hK K))
   refine Q8 ?_;refine Q2 ?_;refine Q2 ?_;refine Q2 ?_;refine Q2 ?_;refine Q2 ?_;refine Q2 ?_;refine Q2 ?_;refine Qv ?lsA (λv_=>?_)
   case lsA=>
    intro w_ df fr;have ea:Q0 w_ (w.heap.size+1) 249 (Yl 0 none (.slice none 0 0)):=fs.o.on (Y9 df fr);refine Te 249 _ _ rfl (w.heap.size+1) (Yl now (some ⟨X,0,none⟩) (.slice q k Y)) rfl rfl 249 _ ea (by kernel_rfl) rfl ac.o (by simp [BJ]) (λ_=>?_)
    exact ea.row _
   refine Q2 ?_;refine XX ?_;simp only [Qd];rintro W9 h9 ⟨-,d1⟩;have f2:=pp (d1 trivial);have f5:=pp h9;clear d1 h9;rw [bC];refine wpList_plain rfl (λKK ed=>?_)
   go_simp;refine ed _ _ ?_;clear ed;simp only [wpList,Exit.then];rename_i cw;refine cw _ _ (wp_ret ?_);repeat go_step
   refine bodyPost_ret (v:=.tuple #[.agg (Yl now (some ⟨X,0,none⟩) (.slice q k Y)),.bool true]) (Im rfl _ _ (w.heap.size+1) 249 _ (0,0) _ (.bool true) rfl rfl f2.o underlying249 rfl (by kernel_rfl)) rfl ?_
   have ab:Kept (λb=>b≠w.heap.size+1) wr W9:=f5.o.mono λb O=>by simpa using O
   have hX2:=J.o.hx;have hX3:=J.o.m.hr;refine ⟨X,q,Y,by rw [<-HN.o],?_,by omega,?_,?_,?_⟩
   ·have:=ab.blk (by omega) J.o.x
    rw [e3.o] at this;exact this
   ·have h1:=HO.out.keep ab (λb O=>by have:=(HO.out.block b O).1;omega)
    rw [fg] at h1;rw [<-HN.o];exact h1.lowB (by omega)
   ·intro a ha e;subst ha;have:=(HO.out.block a.block (by simp [Value.ownBlock])).1
    omega
   ·exact J.o.m.g.trans ⟨ab.os,ab.tape,ab.output,ab.size,λb O=>ab.block b (pD O J.o.m.g.size) (by omega)⟩
end
section
open Go.RowKit Go.Maps
abbrev VB:ByteArray:=Q4 [111,107]
theorem Av (sh e s wd t q:Nat)(occ:Value)(S:SS)(d:TS)(M:Nat->Prop)(w:World)(line:ByteArray)(L:Option Lf)(h:QJ sh e s wd t q occ S L w M)(s1 s2:ByteArray)(f i:Int)(hl:line.size<=1000)(p:QD line=[⟨#[108,111,97,100]⟩,s1,s2])(n:NW s1 f)(l:NW s2 i)
  (m:∀b j,Yz t S.T b j->Calls prog 42 #[t,.agg #[f,i]] b λr w'=>r=.returned (int i64 0)/\Q6 (Yz t d) b j w'):
  Calls prog 9 #[sh,.string line] w λr w'=>r=.returned (.string VB)/\Q6 (QJ sh e s wd t q occ { S with T:=d } L) w M w':=by
 refine (SO sh e s wd t q occ S L M w h line _ _ (by omega) p (by simp) 1 (λ_ _ _ _ _=>by kernel_rfl) (λA c=>A=QJ sh e s wd t q occ { S with T:=d } L/\c=VB) (λb N a bx u _ g o=>?_)).mono ?_
 ·refine (aX b sh e s wd t q occ S d L M N a s1 s2 f i n l m u bx g o).mono ?_;rintro r w' ⟨rfl,k⟩;exact ⟨_,_,rfl,Qq sh e s wd t q occ _ L,⟨rfl,rfl⟩,k⟩
 ·rintro r w' ⟨A,c,rfl,-,⟨rfl,rfl⟩,k⟩;exact ⟨rfl,k⟩
section
variable (sh e s wd t q:Nat)(occ:Value)(S:SS)(M:Nat->Prop)(w:World)(line:ByteArray)
theorem BB (L:Option Lf)(h:QJ sh e s wd t q occ S L w M)(s1 s2:ByteArray)(a b:Int)(o:line.size<=1000)(k:QD line=[⟨#[108,111,97,100]⟩,s1,s2])(x:NW s1 a)(p:NW s2 b)(i: -524288<=a/\a<524288)(j: -524288<=b/\b<524288)(v:S.T.l.length<=1000)(c:(S.T.l.length:Int)<S.T.lim)(n:S.T.find (a,b)= -1)(f:Bare S.T.d):
  Calls prog 9 #[sh,.string line] w λr w'=>r=.returned (.string VB)/\Q6 (QJ sh e s wd t q occ { S with T:= { S.T with l:=S.T.l++[QP S.T.seed a b] } } L) w M w':=by
 exact Av sh e s wd t q occ S _ M w line L h s1 s2 a b o k x p λm u g=>Au t S.T a b m u g i j v c n 1000 f.ok (by omega) 0 false (f.load _ (fi i j))
theorem bD (L:Option Lf)(h:QJ sh e s wd t q occ S L w M)(s1 s2 s3:ByteArray)(seed b f:Int)(hl:line.size<=1000)(u:QD line=[⟨#[119,111,114,108,100]⟩,s1,s2,s3])(o:NW s1 seed)(n:NW s2 b)(v:NW s3 f):
  Calls prog 9 #[sh,.string line] w λr w'=>nQ w sh seed b f M r w':=by
 refine (UZ sh e s wd t q occ S L M w h line _ _ (by omega) u (by simp) 40 0 (λ_ _ _ _ _=>by kernel_rfl) (enters_of func40 (by kernel_rfl) rfl) (λA d=>d=VB/\∃e s wd t q,A=QJ sh e s wd t q Xb (AC (AU seed b 200000) 0 f) none) (λm N a x _ p=>?_)).mono ?_
 ·refine (aW m sh e s wd t q occ S L M N a s1 s2 s3 seed b f o n v x p).mono ?_;rintro r w' ⟨j,g,c,i,l,rfl,k⟩;exact ⟨_,_,rfl,Qq sh j g c i l Xb _ none,⟨rfl,_,_,_,_,_,rfl⟩,k⟩
 ·rintro r w' ⟨A,d,rfl,-,⟨rfl,j,g,c,i,l,rfl⟩,k⟩;exact ⟨j,g,c,i,l,rfl,k⟩
theorem gS (L:Option Lf)(S':SS)(h:QJ sh e s wd t q occ S L w M)(s1 s2 s3:ByteArray)(x y z b:Int)(hl:line.size<=1000)(f:QD line=[⟨#[101,100,105,116]⟩,s1,s2,s3,Q4 (XK b)])(n:NW s1 x)(j:NW s2 y)(l:NW s3 z)(m:Zi b=true)
  (i:∀W d,Qr e s wd t q occ S L W d->Calls prog 99 #[e,XF (x,y,z),b] W λr w'=>r=.returned (int i64 0)/\Q6 (Qr e s wd t q occ S' L) W d w'):
  Calls prog 9 #[sh,.string line] w λr w'=>r=.returned (.string VB)/\Q6 (QJ sh e s wd t q occ S' L) w M w':=by
 refine (UZ sh e s wd t q occ S L M w h line _ _ (by omega) f (by simp) 55 14 (λ_ _ _ _ _=>by kernel_rfl) (enters_of func55 (by kernel_rfl) rfl) (λA c=>A=QJ sh e s wd t q occ S' L/\c=VB) (λg N a o _ p=>?_)).mono ?_
 ·refine (gh g sh e s wd t q occ S S' L M N a s1 s2 s3 x y z b n j l m o p i).mono ?_;rintro r w' ⟨rfl,k⟩;exact ⟨_,_,rfl,Qq sh e s wd t q occ _ L,⟨rfl,rfl⟩,k⟩
 ·rintro r w' ⟨A,c,rfl,-,⟨rfl,rfl⟩,k⟩;exact ⟨rfl,k⟩
theorem bF (h:QJ sh e s wd t q occ S none w M)(s1 s2 s3 g s5:ByteArray)(x y z f ht:Int)(b:BD)(hl:line.size<=1000)(p:QD line=[⟨#[115,112,97,119,110]⟩,s1,s2,s3,g,s5])(n:NW s1 x)(l:NW s2 y)(u:NW s3 z)(m:NW g f)(o:NW s5 ht)
  (v:∀W i,Qr e s wd t q occ S none W i->Calls prog 92 #[e,.agg #[x,y,z],int i64 f,int i64 ht] W λr w'=>r=.returned (.tuple #[int i64 0,int i64 0])/\(∃a,Q6 (Qr e s wd t q occ S (some ⟨a,b,0,0,false⟩)) W i w')/\Kept (λb=>b≠e) W w'):
  Calls prog 9 #[sh,.string line] w λr w'=>r=.returned (.string (Q4 (Lib.itoa 0)))/\∃c,Q6 (QJ sh e s wd t q occ S (some ⟨c,b,0,0,false⟩)) w M w':=by
 refine (UZ sh e s wd t q occ S none M w h line _ _ (by omega) p (by simp) 51 10 (λ_ _ _ _ _=>by kernel_rfl) (enters_of func51 (by kernel_rfl) rfl) (λA d=>(∃c,A=QJ sh e s wd t q occ S (some ⟨c,b,0,0,false⟩))/\d=Q4 (Lib.itoa 0)) (λj N a B _ C=>?_)).mono ?_
 ·refine (aV j sh e s wd t q occ S M N a s1 s2 s3 g s5 x y z f ht b n l u m o B C v).mono ?_;rintro r w' ⟨rfl,c,k⟩;exact ⟨_,_,rfl,Qq sh e s wd t q occ _ _,⟨⟨c,rfl⟩,rfl⟩,k⟩
 ·rintro r w' ⟨A,d,rfl,-,⟨⟨c,rfl⟩,rfl⟩,k⟩;exact ⟨rfl,c,k⟩
theorem gT (l:Lf)(h:QJ sh e s wd t q occ S (some l) w M)(s1:ByteArray)(hl:line.size<=1000)(f:QD line=[⟨#[98,111,100,121]⟩,s1])(u:NW s1 0)(p:Vz w)(v:Zc l.b.1)(y:Zc l.b.2.1)(n:Zc l.b.2.2.1)(o:Zc l.b.2.2.2.1)(i:Zc l.b.2.2.2.2.1)(j:Zc l.b.2.2.2.2.2.1):
  Calls prog 9 #[sh,.string line] w λr w'=>r=.returned (.string (Fs l.b.1 l.b.2.1 l.b.2.2.1 l.b.2.2.2.1 l.b.2.2.2.2.1 l.b.2.2.2.2.2.1 l.b.2.2.2.2.2.2.2.2))/\Q6 (QJ sh e s wd t q occ S (some l)) w M w':=by
 refine (UZ sh e s wd t q occ S (some l) M w h line _ _ (by omega) f (by simp) 60 19 (λ_ _ _ _ _=>by kernel_rfl) (enters_of func60 (by kernel_rfl) rfl) (λA c=>A=QJ sh e s wd t q occ S (some l)/\c=Fs l.b.1 l.b.2.1 l.b.2.2.1 l.b.2.2.2.1 l.b.2.2.2.2.1 l.b.2.2.2.2.2.1 l.b.2.2.2.2.2.2.2.2) (λg N a x m d=>?_)).mono ?_
 ·refine (gm g sh e s wd t q occ S l M N a s1 u x (p.on m) d v y n o i j).mono ?_;rintro r w' ⟨rfl,k⟩;exact ⟨_,_,rfl,Qq sh e s wd t q occ _ _,⟨rfl,rfl⟩,Q6.below ((Qq sh e s wd t q occ S _).on d.sh k) k⟩
 ·rintro r w' ⟨A,c,rfl,-,⟨rfl,rfl⟩,k⟩;exact ⟨rfl,k⟩
end
theorem gU (sh e s wd t q:Nat)(M:Nat->Prop)(w:World)(line:ByteArray)(n:Nat)(y:1<=n/\n<=100)(occ:Nat->Value)(S:Nat->SS)(L:Nat->Option Lf)(b c:Nat->Int)(f:b 0=0)(j:∀i,i<n->b (i+1)=b i+c i)(g:∀i,i<=n->0<=b i/\b i<100)(d:0<=(S n).now/\(S n).now<100)(h:QJ sh e s wd t q (occ 0) (S 0) (L 0) w M)(s1:ByteArray)(hl:line.size<=1000)(x:QD line=[⟨#[116,105,99,107]⟩,s1])(p:NW s1 n)
  (u:∀i,i<n->∀W l,Qr e s wd t q (occ i) (S i) (L i) W l->Calls prog 105 #[e] W λr w'=>r=.returned (int i64 (c i))/\Q6 (Qr e s wd t q (occ (i+1)) (S (i+1)) (L (i+1))) W l w'):
  Calls prog 9 #[sh,.string line] w λr w'=>r=.returned (.string (Z4 [Q4 (Lib.itoa (b n)),Q4 (Lib.itoa (S n).now)]))/\Q6 (QJ sh e s wd t q (occ n) (S n) (L n)) w M w':=by
 refine (UZ sh e s wd t q (occ 0) (S 0) (L 0) M w h line _ _ (by omega) x (by simp) 63 22 (λ_ _ _ _ _=>by kernel_rfl) (enters_of func63 (by kernel_rfl) rfl) (λA o=>A=QJ sh e s wd t q (occ n) (S n) (L n)/\o=Z4 [Q4 (Lib.itoa (b n)),Q4 (Lib.itoa (S n).now)]) (λm N a z _ v=>?_)).mono ?_
 ·refine (gn m sh e s wd t q n y occ S L b c f j g d M N a s1 p z v u).mono ?_;rintro r w' ⟨rfl,k⟩;exact ⟨_,_,rfl,Qq sh e s wd t q _ _ _,⟨rfl,rfl⟩,k⟩
 ·rintro r w' ⟨A,o,rfl,-,⟨rfl,rfl⟩,k⟩;exact ⟨rfl,k⟩
end
section
open Go.RowKit Go.Maps
attribute [local go_sem] Oper.semAt_some
def nk (seed lim R bu:Int)(w:World)(r:Ending)(w':World):Prop:=∃sh e s wd t q M,r=.returned (.pointer (some ⟨sh,0,none⟩))/\QJ sh e s wd t q Xb (AC (AU seed lim R) 0 bu) none w' M/\(∀b,M b->w.heap.size<=b)/\Below w.heap.size w w'
theorem Tf (w:World):Calls prog 20 #[] w λr w'=>nk 1 9 200000 16 w r w':=by
 have n:=pp (SH 1 9 200000 16 w);go_enter func20,ntmps20;go_wp2_with (go_at_call 37;refine n.o.mono ?_;rintro e_ d ⟨f,g,e,h,k,M',rfl,(l:Hid _)⟩);go_returns;obtain ⟨m,q,i⟩:=l.o;obtain ⟨p,a⟩:=pt (d.alloc (.cells #[f] 79));have j:Below d.heap.size d p:=by rw [a];exact Q3 _ _
 rw [<-a];refine ⟨d.heap.size,f,g,e,h,k,λb=>b=d.heap.size∨M' b,rfl,⟨M',Q0.fresh a,(YB f g e h k Xb _ none).on m j,λ_=>Iff.rfl⟩,λb c=>?_,after i j⟩
 rcases c with rfl|c
 ·exact i.size
 ·exact q b c
theorem bG (x:Fn)(y z:Array Value)(w:World):(binOp .neq 74 (.func x y z) .nilFunc).run prog w=.ok (.bool true) w:=by kernel_rfl
theorem CL (sh e:Nat)(w:World)(h:Q0 w sh 79 #[e]):Calls prog 14 #[sh] w λr w'=>r=.returned (.pointer (some ⟨e,0,none⟩))/\w=w':=by
 have c0:=h.cell 0;clear h;go_enter func14,ntmps14;go_wp2_with fail;go_returns;exact ⟨rfl,rfl⟩
theorem Oo (e s wd t q:Nat)(occ:Value)(S:SS)(L:Option Lf)(M:Nat->Prop)(w:World)(h:Qr e s wd t q occ S L w M):
  Calls prog 13 #[e] w λr w'=>r=.returned (.bool true)/\w=w':=by
 have hnv:=bG;obtain ⟨Ms,a,-⟩:=h;have e0:=a.blk.cell 0;have d:=pp (kF e s (JN L) w a.blk);have f:=pp (As s wd t q occ S w Ms a.sim);obtain ⟨v,ds,Mw,Mq,g,-⟩:=a.sim;have j:=pp (UB wd t S.k S.T w Mw g.wd);have b:=pp (GC wd t S.k S.T w Mw g.wd);clear a g;go_enter func13,ntmps13;go_wp2_with first
  | (go_at_call 27;refine f.o.mono ?_;rintro i c ⟨rfl,rfl⟩)
  | (go_at_call 28;refine d.o.mono ?_;rintro i c ⟨rfl,rfl⟩)
  | (go_at_call 29;refine j.o.mono ?_;rintro i c ⟨rfl,rfl⟩)
  | (go_at_call 30;refine b.o.mono ?_;rintro i c ⟨rfl,rfl⟩)
 go_returns;exact ⟨rfl,rfl⟩
def T5 (seed:Int):TS:=⟨seed,9,[QP seed 0 0,QP seed 1 0,QP seed (-1) 0,QP seed 0 1,QP seed 0 (-1)],U9 200000⟩
def S5 (seed:Int):SS:=⟨T5 seed,0,E3 4096,8,0,0⟩
theorem dj (seed:Int):High (T5 seed) (λ_=>0) where
 good:=⟨λi a=>by
  unfold T5 at a;simp only [List.mem_cons,List.not_mem_nil,or_false] at a;rcases a with rfl|rfl|rfl|rfl|rfl<;>exact LJ _ _ _,by
  show List.Nodup [((0:Int),(0:Int)),(1,0),(-1,0),(0,1),(0,-1)];decide⟩
 len:=rfl
 ring:=λp b=>by
  unfold TS.here T5 QP;revert b;unfold YK;simp;rintro (rfl|rfl|rfl|rfl|rfl)<;>simp
 cell:=λc e hy=>by
  unfold TS.cell TS.at;cases hf:(T5 seed).l.find? (TI.is (Xa c.1 c.2.2)) with
  | some i=>
   have a:=List.mem_of_find?_eq_some hf;unfold T5 at a;simp only [List.mem_cons,List.not_mem_nil,or_false] at a;rcases a with rfl|rfl|rfl|rfl|rfl<;>exact LI _ _ _ _ _ _ (by omega)
  | none=>
   exfalso;rw [List.find?_eq_none] at hf;have:Xa c.1 c.2.2∈(T5 seed).here:=by
    unfold TS.here T5 QP;revert e;unfold YK;simp;rintro (h|h|h|h|h)<;>simp [h]
   obtain ⟨i,a,d⟩:=List.mem_map.1 this;exact hf i a (ZV.2 d)
theorem VS:NW ⟨#[48]⟩ 0:=A5 (l:=[48]) (by decide)
theorem Mx:NW ⟨#[49]⟩ 1:=A5 (l:=[49]) (by decide)
theorem dk:NW ⟨#[45,49]⟩ (-1):=⟨true,[49],⟨rfl,rfl,by decide⟩,by decide⟩
def Sl (seed:Int)(k:Nat):SS:=⟨{ T5 seed with l:=(T5 seed).l.take k },0,E3 4096,8,0,0⟩
theorem In (seed:Int)(k:Nat):Bare (Sl seed k).T.d:=⟨rfl,rfl,by show 0<=(U9 200000).room/\(U9 200000).room<=1048576;decide,rfl,rfl⟩
theorem Vm {w0 w w':World}{M:Nat->Prop}(a:Below w0.heap.size w0 w)(d:∀b,M b->w0.heap.size<=b)(k:Kept (λb=>¬M b) w w'):Below w0.heap.size w0 w':=
 ⟨k.os.trans a.os,k.tape.trans a.tape,k.output.trans a.output,pB a.size k.size,λb c=>(k.block b (pD c a.size) (λh=>by have:=d b h;omega)).trans (a.block b c)⟩
theorem Dm {w0 w:World}{M:Nat->Prop}(c:Below w0.heap.size w0 w)(a:∀b,M b->w0.heap.size<=b)(m:∀b,M' b->M b∨w.heap.size<=b):∀b,M' b->w0.heap.size<=b:=λb h=>(m b h).elim (a b) (pB c.size)
theorem pm:NW ⟨#[57]⟩ 9:=A5 (l:=[57]) (by decide)
theorem po:NW ⟨#[56]⟩ 8:=A5 (l:=[56]) (by decide)
theorem gV {ds:ByteArray}(h:ds.size<=21):((AN++ds)++Ij).size<=1000:=by
 simp [ByteArray.size_append];have h1:AN.size=6:=rfl;have h2:Ij.size=4:=rfl;omega
theorem lw (n:Int):AC (AU n 9 200000) 0 8=Sl n 0:=by
 have a:Ph 9=9:=by decide
 have b:Xj (Xv 8 1) 64=8:=by decide
 unfold AC AU Sl T5;rw [a,b];rfl
theorem oN (n:Int):({ Sl n 0 with T:= { (Sl n 0).T with l:=(Sl n 0).T.l++[QP (Sl n 0).T.seed (0) (0)] } } :SS)=Sl n 1:=by
 unfold Sl T5;simp
theorem nm (n:Int):(Sl n 0).T.find (0,0)= -1:=by
 unfold Sl T5 TS.find;simp [Z7,QP]
theorem oO (n:Int):({ Sl n 1 with T:= { (Sl n 1).T with l:=(Sl n 1).T.l++[QP (Sl n 1).T.seed (1) (0)] } } :SS)=Sl n 2:=by
 unfold Sl T5;simp
theorem nn (n:Int):(Sl n 1).T.find (1,0)= -1:=by
 unfold Sl T5 TS.find;simp [Z7,TI.is,QP,Zy]
theorem oP (n:Int):({ Sl n 2 with T:= { (Sl n 2).T with l:=(Sl n 2).T.l++[QP (Sl n 2).T.seed (-1) (0)] } } :SS)=Sl n 3:=by
 unfold Sl T5;simp
theorem nq (n:Int):(Sl n 2).T.find (-1,0)= -1:=by
 unfold Sl T5 TS.find;simp [Z7,TI.is,QP,Zy]
theorem oQ (n:Int):({ Sl n 3 with T:= { (Sl n 3).T with l:=(Sl n 3).T.l++[QP (Sl n 3).T.seed (0) (1)] } } :SS)=Sl n 4:=by
 unfold Sl T5;simp
theorem nu (n:Int):(Sl n 3).T.find (0,1)= -1:=by
 unfold Sl T5 TS.find;simp [Z7,TI.is,QP,Zy]
theorem oR (n:Int):({ Sl n 4 with T:= { (Sl n 4).T with l:=(Sl n 4).T.l++[QP (Sl n 4).T.seed (0) (-1)] } } :SS)=Sl n 5:=by
 unfold Sl T5;simp
theorem nw (n:Int):(Sl n 4).T.find (0,-1)= -1:=by
 unfold Sl T5 TS.find;simp [Z7,TI.is,QP,Zy]
theorem Io (seed:Int)(k:Nat):(Sl seed k).T.l.length<=1000:=by
 have:((T5 seed).l.take k).length<=5:=by rw [List.length_take];exact Nat.min_le_right _ _
 show ((T5 seed).l.take k).length<=1000;omega
theorem Ip (seed:Int)(k:Nat)(_:k<=5):(((Sl seed k).T.l.length:Nat):Int)<(Sl seed k).T.lim:=by
 have:((T5 seed).l.take k).length<=5:=by rw [List.length_take];exact Nat.min_le_right _ _
 show (((T5 seed).l.take k).length:Int)<9;omega
end
section
open Go.RowKit Go.Maps
def AW (y g:Int):Int:=if y<0 then 1 else if Yp y then BS y g else 0
theorem gW {s b d x z y:Int}(h:Yp y=true):Ud (Ye s b d) x y z=BS y (BW s b d ((z%16 * 16+x%16).toNat)):=by
 have e:=BA (x:=x) (z:=z) (Ca h);unfold Ud Ye;rw [List.getElem?_map,List.getElem?_range (by omega)]
 show DO s b d _=_;unfold DO;have c:(((YH x y z).toNat:Nat):Int) / 256=y:=by
  rw [Int.toNat_of_nonneg e.1];unfold YH;omega
 have a:(YH x y z).toNat%256=(z%16 * 16+x%16).toNat:=by
  unfold YH at e ⊢;omega
 rw [c,a]
theorem ly {cs:List Int}{x z g:Int}(h:∀y,Yp y=true->Ud cs x y z=BS y g)(i:TI)(b:i.cs=cs)(y:Int):i.at x y z=AW y g:=by
 unfold TI.at AW;rw [b];by_cases a:y<0
 ·simp only [a,if_true]
 ·simp only [a,if_false];cases hy:Yp y
  ·simp only [Bool.false_eq_true,if_false]
  ·simp only [if_true];exact h y hy
theorem gX (s a b:Int):(QP s a b).cs=Ye s a b:=by unfold QP;dsimp only
theorem gY (s a b x z:Int):∃g,(6<=g/\g<=14)/\∀y,(QP s a b).at x y z=AW y g:=by
 have h:∀y,Yp y=true->Ud (Ye s a b) x y z=BS y (BW s a b ((z%16 * 16+x%16).toNat)):=λy c=>gW c
 have e:=gX s a b;generalize QP s a b=i at *;generalize Ye s a b=cs at *;exact ⟨_,DI _ _ _,λy=>ly h i e y⟩
def lA (f:Cl->Int):Prop:=∀x z:Int,(∀y,f (x,y,z)= -1)∨∃g,(6<=g/\g<=14)/\∀y,f (x,y,z)=AW y g
theorem bH (h:∀i∈T.l,i=QP T.seed i.x i.z):lA T.cell:=λx z=>by
 unfold TS.cell TS.at;dsimp only;cases hf:T.l.find? (TI.is (Xa x z)) with
 | none=>exact .inl λ_=>rfl
 | some i=>
  have a:=h i (List.mem_of_find?_eq_some hf);rw [a];exact .inr (gY _ _ _ _ _)
theorem Ej {y g:Int}(hg:6<=g/\g<=14):(Yv (AW y g)=true->y<=8)/\(AW y g=3->y<=31/\Zz (AW (y - 1) g)=false):=by
 unfold AW;by_cases a:y<0
 ·rw [if_pos a];exact ⟨λh=>absurd h (by decide),λh=>absurd h (by decide)⟩
 ·rw [if_neg a];cases hy:Yp y
  ·simp only [Bool.false_eq_true,if_false];exact ⟨λh=>absurd h (by decide),λh=>absurd h (by decide)⟩
  ·have hb:=Ca hy;rw [if_pos rfl];constructor
   ·intro h;rcases Int.lt_or_le y 9 with b|b
    ·omega
    ·exfalso;unfold BS at h;rw [if_neg (by omega)] at h
     split at h
     ·exact absurd h (by decide)
     ·split at h
      ·exact absurd h (by decide)
      ·split at h
       ·exact absurd h (by decide)
       ·rw [if_neg (by omega)] at h
        exact absurd h (by decide)
   ·intro h;have hyg:y=g - 1:=by
     unfold BS at h;rw [if_neg (by omega)] at h
     split at h
     ·exact absurd h (by decide)
     ·split at h
      ·exact absurd h (by decide)
      ·split at h
       ·assumption
       ·split at h<;>exact absurd h (by decide)
    refine ⟨by omega,?_⟩
    rw [if_neg (by omega),show Yp (y - 1)=true by simp [Yp];omega,if_pos rfl]
    unfold BS;rw [if_neg (by omega)]
    split
    ·decide
    ·rw [if_pos (by omega)];decide
theorem bI {f:Cl->Int}(h:lA f):SInv f 0 [] [] where
 t20:=by decide
 top:=λc hc e=>by
  rcases h c.1 c.2.2 with a|⟨g,d,a⟩
  ·have:f c= -1:=a c.2.1;omega
  ·have b:f c=AW c.2.1 g:=a c.2.1;have:=((Ej d).2 (by rw [<-b];exact e)).1
   omega
 wet:=λ_ c i=>by
  rcases h c.1 c.2.2 with a|⟨g,d,a⟩
  ·have b:f c= -1:=a c.2.1;rw [b] at i;exact absurd i (by decide)
  ·have b:f c=AW c.2.1 g:=a c.2.1;rw [b] at i;exact (Ej d).1 i
 un:=λc j=>by
  exfalso;rcases h c.1 c.2.2 with a|⟨g,d,a⟩
  ·have b:f c= -1:=a c.2.1;have:=j.1;omega
  ·have b:f c=AW c.2.1 g:=a c.2.1;have n:f (Qx c)=AW (c.2.1 - 1) g:=a (c.2.1 - 1);have m:=((Ej d).2 (by rw [<-b];exact j.1)).2
   have l:=j.2;rw [n,m] at l;cases l
 it:=λx k=>by cases k
 pc:=λx k=>by cases k
 pd:=List.nodup_nil
structure Sx (S:SS)(f:Cl->Int)(l:List QI)(t:Int)(K:Nat):Prop where
 good:GoodT S.T
 len:S.T.l.length=5
 here:∀p,p∈S.T.here↔p∈YK 0 0
 cell:S.T.cell=f
 ql:S.Q.l=l
 room:S.Q.room=4096
 now:S.now=t
 k:S.k<=K
 d:S.d<=K
 bud:S.budget=8
 sort:Xh l
 dist:QH l
section
variable {S:SS}{f:Cl->Int}{l:List QI}{t:Int}{K N:Nat}{c:Cl}{b:Int}{P:List Cl}
theorem Sx.ok (h:Sx S f l t K)(ht:0<=t/\t<=1000)(a:l.length+7 * N<=4000)(hK:K+N<=1000000):S.Ok N:=
 ⟨by rw [h.len];decide,by have:=h.k;omega,by rw [h.ql];exact a,by rw [h.room];decide,by rw [h.ql];exact h.sort,by rw [h.ql];exact h.dist,by rw [h.now];omega,by have:=h.d;omega⟩
theorem Iq (h:∀p,p∈T.here↔p∈YK 0 0)(x z:Int):T.ready x z=(YK (x / 16) (z / 16)).all λp=>decide (p∈YK 0 0):=by
 unfold TS.ready;congr 1
 funext p;exact decide_eq_decide.2 (h p)
theorem gZ {c:Cl}(h:(0<=c.1/\c.1<16)/\(0<=c.2.2/\c.2.2<16)):Xa c.1 c.2.2∈YK 0 0:=by
 unfold Xa;rw [show c.1 / 16=0 by omega,show c.2.2 / 16=0 by omega]
 exact List.mem_cons_self
theorem Sx.ready (h:Sx S f l t K){x z:Int}(hx:0<=x/\x<16)(hz:0<=z/\z<16):S.T.ready x z=true:=by
 rw [Iq h.here,show x / 16=0 by omega,show z / 16=0 by omega]
 decide
theorem Sx.can (h:Sx S f l t K)(m:(0<=c.1/\c.1<16)/\(0<=c.2.2/\c.2.2<16))(e:Yp c.2.1=true)(k:Zi b=true):∃n i,CanSet S.T c n i b:=by
 rcases JE S.T (Xa c.1 c.2.2) with ⟨-,a⟩|⟨n,i,g,a,j,-⟩
 ·obtain ⟨i,o,d⟩:=List.mem_map.1 ((h.here _).2 (gZ m));rw [List.find?_eq_none] at a;exact absurd (ZV.2 d) (a i o)
 ·exact ⟨n,i,g,a,j,e,k⟩
theorem hH {i:TI}(g:GoodT T)(h:CanSet T c n i b):(T.put c n i b).cell=Vj T.cell c b:=by
 funext d;rw [h.cell g d];rfl
theorem Sx.edit (h:Sx S f l t K){i:TI}(a:CanSet S.T c n i b):Sx (S.edit c n i b) (Yf t (f,l) c b).1 (Yf t (f,l) c b).2 t (K+1):=by
 have e:(S.T.put c n i b).cell=Vj f c b:=by rw [hH h.good a,h.cell]
 have g:(S.edit c n i b).Q.l=(Yf t (f,l) c b).2:=by
  show YM (S.T.put c n i b).cell S.now (U0 (S.T.put c n i b).cell c) S.Q.l=_;rw [e,h.now,h.ql];rfl
 exact ⟨h.good.put a.get,(J2 a.get).trans h.len,λp=>((LH a.get).mem_iff).trans (h.here p),e,g,h.room,h.now,Nat.succ_le_succ h.k,Nat.le_succ_of_le h.d,h.bud,MV t c b h.sort,UE t c b h.dist⟩
structure Fresh (sd:Int)(T:TS):Prop where
 seed:T.seed=sd
 lim:T.lim=9
 d:T.d=U9 200000
 oth:∀i∈T.l,(i.x,i.z)≠(0,0)->i=QP sd i.x i.z
 own:∀i∈T.l,(i.x,i.z)=(0,0)->i.pins=0/\(i.dirty=false->i=QP sd 0 0)
theorem bJ {i:TI}{x y z b:Int}(h:(i.set x y z b).dirty=false)(c:i.cs.length=8192)(f:Yp y=true):i.dirty=false/\i.set x y z b=i:=by
 unfold TI.set at h;simp only [Bool.or_eq_false_iff] at h;refine ⟨h.1,?_⟩;have a:Ud i.cs x y z=b:=by simpa using h.2
 have hi:=BA (x:=x) (z:=z) (Ca f);unfold TI.set;have e:i.cs.set (YH x y z).toNat b=i.cs:=by
  refine List.ext_getElem? λk=>?_
  rw [List.getElem?_set];split
  ·rename_i d;subst d;rw [if_pos (by rw [c];omega)]
   unfold Ud at a;rw [pH (by rw [c];omega)] at a ⊢
   simpa using a.symm
  ·rfl
 rw [e,a];have g:(i.dirty||b !=b)=i.dirty:=by simp
 rw [g]
theorem Fresh.put {seed:Int}(h:Fresh seed T)(g:GoodT T){i:TI}(f:CanSet T c n i b)(hc:(0<=c.1/\c.1<16)/\(0<=c.2.2/\c.2.2<16)):Fresh seed (T.put c n i b):=by
 have m:=pG f.get;have l:(i.x,i.z)=(0,0):=by
  have:=ZV.1 f.is;rw [this];unfold Xa;rw [show c.1 / 16=0 by omega,show c.2.2 / 16=0 by omega]
 refine ⟨h.seed,h.lim,h.d,λj a e=>?_,λj a k=>?_⟩
 ·rcases Fy a with rfl|a
  ·exact absurd l e
  ·exact h.oth j a e
 ·rcases Fy a with rfl|a
  ·refine ⟨(h.own i m l).1,λo=>?_⟩
   obtain ⟨q,p⟩:=bJ o (g.len i m) f.y;rw [p];exact (h.own i m l).2 q
  ·exact h.own j a k
end
theorem ia {b:Int}(h:Zz b=true):Zi b=true:=by
 unfold Zz Yv at h;simp only [Bool.or_eq_true,beq_iff_eq,Bool.and_eq_true,decide_eq_true_eq] at h;rcases (show b=0∨b=8∨b=9∨b=10∨b=11∨b=12∨b=13∨b=14∨b=15 by omega) with rfl|rfl|rfl|rfl|rfl|rfl|rfl|rfl|rfl<;>decide
section
variable {S:SS}{f:Cl->Int}{l:List QI}{t:Int}{K:Nat}{c:Cl}{P:List Cl}
theorem Sx.mono (h:Sx S f l t K){K':Nat}(a:K<=K'):Sx S f l t K':=⟨h.good,h.len,h.here,h.cell,h.ql,h.room,h.now,pB h.k a,pB h.d a,h.bud,h.sort,h.dist⟩
theorem bK {n:Int}(h:n≠3):Uh n=false:=by
 unfold Uh;simpa using h
theorem Tg (h:¬GL f c):Bq f c=[]:=by
 unfold Bq;by_cases a:f c=3
 ·have b:Zz (f (Qx c))=false:=by
   cases hh:Zz (f (Qx c))
   ·rfl
   ·exact absurd ⟨a,hh⟩ h
  unfold Eb;rw [b];simp
 ·rw [bK a];rfl
abbrev Pv (s wd tb q e:Nat)(held:Cl->Bool)(S S':SS)(c:Cl):Prop:=∀W M,QQ s wd tb q (XS e) S W M->(∀W1,Below W.heap.size W W1->Calls prog 145 #[e,XF (Qx c)] W1 λr w'=>r=.returned (.bool (held (Qx c)))/\Below W1.heap.size W1 w')->
 Calls prog 203 #[s,XF c] W λr w'=>r=.returned (.tuple #[])/\Q6 (QQ s wd tb q (XS e) S') W M w'
theorem lB (s wd tb q e:Nat)(held:Cl->Bool)(h:Sx S f l t K)(z:SInv f t l (c::P))(hl:l.length<=2900)(hK:K<=900000):
  ∃S',Sx S' (Zl held t (f,l) c).1 (Zl held t (f,l) c).2 t (K+2)/\(∀seed,Fresh seed S.T->Fresh seed S'.T)/\Pv s wd tb q e held S S' c:=by
 have ht:=z.t20;obtain ⟨J,-,-⟩:=z.pc c List.mem_cons_self;unfold LZ at J;have a:UD c:=by unfold UD;omega
 have R:S.T.l.length<=1000:=by rw [h.len];decide
 have O:S.T.ready c.1 c.2.2=true:=h.ready (by omega) (by omega)
 by_cases j:GL f c
 ·have hy:=z.now.2 j;have hcx:=z.un c j;have hctop:c.2.1<=31:=by
   rcases Int.lt_or_le c.2.1 32 with p|p
   ·omega
   ·exact absurd j.1 (z.top c p)
  have hl1:(Qx c).1=c.1/\(Qx c).2.1=c.2.1 - 1/\(Qx c).2.2=c.2.2:=⟨rfl,rfl,rfl⟩;have w:UD (Qx c):=by unfold UD;omega
  have E:Yp c.2.1=true:=by simp [Yp];omega
  have hyl:Yp (Qx c).2.1=true:=by simp [Yp];omega
  have H:S.T.cell c=3:=by rw [h.cell];exact j.1
  have L:Zl held t (f,l) c=if held (Qx c) then Yf t (f,l) c 0 else Yf t (Yf t (f,l) c (f (Qx c))) (Qx c) 3:=by
   unfold Zl;rw [if_pos (by rw [Bool.and_eq_true,decide_eq_true_eq];exact j)]
  rw [L];have m:(0<=c.1/\c.1<16)/\(0<=c.2.2/\c.2.2<16):=by omega
  have G:(0<=(Qx c).1/\(Qx c).1<16)/\(0<=(Qx c).2.2/\(Qx c).2.2<16):=m;cases hh:held (Qx c)
  ·obtain ⟨n,i,v⟩:=h.can (c:=c) (b:=f (Qx c)) m E (ia j.2);have p:=h.edit v;obtain ⟨X,i2,x⟩:=p.can (c:=Qx c) (b:=3) G hyl (by decide)
   have V:=p.edit x;rw [if_neg (by decide)]
   refine ⟨_,V,λseed D=>(D.put h.good v m).put p.good x G,λW M y B=>?_⟩
   have u:=h.ok (N:=2) (by omega) (by omega) (by omega)
   have Q:(S.edit c n i (f (Qx c))).Ok 1:=u.edit v.get;rw [hh] at B;have o:S.T.cell c≠f (Qx c):=by rw [H];exact λe=>Fa j.2 e.symm
   have F:(S.edit c n i (f (Qx c))).T.cell (Qx c)≠3:=by
    rw [p.cell];show Vj f c (f (Qx c)) (Qx c)≠3;rw [QX _ (Ma c)];exact Fa j.2
   exact fZ s wd tb q e S _ _ c a R O H (f (Qx c)) (by rw [h.cell]) j.2 W M y B
    (λC A g=>Ee s wd tb q n 1 (XS e) S i c (f (Qx c)) a u v o C A g)
    (λC A g=>Ee s wd tb q X 0 (XS e) (S.edit c n i (f (Qx c))) i2 (Qx c) 3 w Q x F C A g)
  ·have I:Sx { S with d:=S.d+1 } f l t (K+1):=⟨h.good,h.len,h.here,h.cell,h.ql,h.room,h.now,Nat.le_succ_of_le h.k,Nat.succ_le_succ h.d,h.bud,h.sort,h.dist⟩
   obtain ⟨n,i,v⟩:=I.can (c:=c) (b:=0) m E (by decide)
   have p:=I.edit v;rw [if_pos rfl];refine ⟨_,p,λseed D=>D.put h.good v m,λW M y B=>?_⟩
   have u:=I.ok (N:=1) (by omega) (by omega) (by omega)
   rw [hh] at B;have o:({ S with d:=S.d+1 } :SS).T.cell c≠0:=by
    show S.T.cell c≠0;rw [H];decide
   exact gr s wd tb q e S _ c a R O H (f (Qx c)) (by rw [h.cell]) j.2 W M y B (by have:=h.d;omega)
    (λC A g=>Ee s wd tb q n 0 (XS e) { S with d:=S.d+1 } i c 0 a u v o C A g)
 ·have L:Zl held t (f,l) c=(f,l):=by
   unfold Zl;rw [if_neg (λe=>by
    rw [Bool.and_eq_true,decide_eq_true_eq] at e;exact j e)]
  rw [L];refine ⟨S,h.mono (by omega),λ_ D=>D,λW M y _=>?_⟩
  refine (kT s wd tb q (XS e) S c a R O (by rw [h.cell];exact z.now.1) (by rw [h.cell];exact Tg j) W M y).mono ?_
  rintro r w' ⟨rfl,U⟩;exact ⟨rfl,Q6.below ((Xs s wd tb q (XS e) S).on y U) U⟩
theorem Oq (s wd tb q e:Nat)(held:Cl->Bool){t:Int} :∀(P:List Cl) {S:SS} {p:(Cl->Int)×List QI} {K:Nat},Sx S p.1 p.2 t K->SInv p.1 t p.2 P->p.2.length+12 * P.length<=2900->K+2 * P.length<=900000->
  ∃st:Nat->SS,st 0=S/\Sx (st P.length) (P.foldl (Zl held t) p).1 (P.foldl (Zl held t) p).2 t (K+2 * P.length)/\(∀seed,Fresh seed S.T->Fresh seed (st P.length).T)/\∀i c,P[i]?=some c->Pv s wd tb q e held (st i) (st (i+1)) c
 | [],S,p,K,h,_,_,_=>⟨λ_=>S,rfl,h,λ_ a=>a,λi c r=>by cases r⟩
 | c::P,S,p,K,h,f,j,o=>by
  rw [List.length_cons] at j o;obtain ⟨S1,n,m,u⟩:=lB s wd tb q e held h f (by omega) (by omega)
  have hlen:=Og held t c (p:=p) h.dist;obtain ⟨st,z0,g,l,k⟩:=Oq s wd tb q e held P (p:=Zl held t p c) n (f.upd held) (by omega) (by omega)
  refine ⟨λi=>match i with|0=>S|i+1=>st i,rfl,?_,λseed a=>l seed (m seed a),λi d b=>?_⟩
  ·exact g.mono (by rw [List.length_cons];omega)
  ·cases i with
   | zero=>
    obtain rfl:c=d:=by simpa using b
    show Pv s wd tb q e held S (st 0) c;rw [z0];exact u
   | succ i=>exact k i d (by simpa using b)
theorem ib (s wd tb q e:Nat)(m:Lf)(G:m.b.2.2.2.2.2.2.1<=9223372036854775807)(h:Sx S f l t K)(A:SInv f t l [])(ht:t<=19)(v:l.length<=2700)(hK:K<=800000):
  ∃S',Sx S' (U2 (VA (some m)) t (f,l)).1 (U2 (VA (some m)) t (f,l)).2 (t+1) (K+16)/\(∀seed,Fresh seed S.T->Fresh seed S'.T)/\kN e s wd tb q S S' m ((Xr l (t+1) 8:Nat):Int):=by
 have ht0:=A.t20;have j:=gg h.now (by omega)
 obtain ⟨n,o⟩:=pt (Xr l (t+1) 8);have hn8:n<=8/\n<=l.length:=⟨by rw [o];unfold Xr;omega,by rw [o];exact J1 _ _ _⟩
 have a:((l.take n).map (·.2)).length=n:=by rw [List.length_map,List.length_take];omega
 have hld:(l.drop n).length=l.length - n:=List.length_drop;have E:Sx { S.tick with Q:= { S.Q with l:=l.drop n } } f (l.drop n) (t+1) K:=
  ⟨h.good,h.len,h.here,h.cell,rfl,h.room,j,h.k,h.d,h.bud,List.Pairwise.sublist (List.drop_sublist _ _) h.sort,List.Nodup.sublist ((List.drop_sublist _ _).map _) h.dist⟩
 have YV:=A.due ht h.dist;rw [<-o] at YV;obtain ⟨st,z0,F,I,C⟩:=Oq s wd tb q e (VA (some m)) ((l.take n).map (·.2)) (p:=(f,l.drop n)) E YV (by rw [a];dsimp only;omega) (by rw [a];omega)
 refine ⟨st ((l.take n).map (·.2)).length,?_,λseed H=>I seed H,?_⟩
 ·unfold U2;dsimp only;rw [<-o];exact F.mono (by rw [a];omega)
 ·rw [<-o];intro W M ⟨Ms,u,D⟩;have y:=aZ s wd tb q (XS e) S st ((l.take n).map (·.2)) { S.Q with l:=l.drop n } (by rw [h.now];omega) (by rw [a];omega) W Ms u.sim (λx w g=>?_) z0 (λi c N x w g k=>?_)
  ·refine y.mono ?_;rintro r w' ⟨rfl,k⟩;rw [a] at k ⊢;exact ⟨rfl,(u.turn k).under D⟩
  ·rw [j,h.bud];by_cases z:l=[]
   ·subst z;have:=fm q S.Q (t+1) 8 h.ql x w g;have L:({ S.Q with l:=([]:List QI).drop n } :QS)=S.Q:=by
     have:=h.ql;rw [List.drop_nil];cases hq:S.Q;rw [hq] at this;dsimp only at this;rw [this]
    rw [L,List.take_nil];exact this
   ·have:=fM q S.Q (t+1) 8 (by rw [h.ql];exact z) (by rw [h.ql];omega) (by rw [h.ql];exact h.dist) x w g
    rw [h.ql,<-o] at this;exact this
  ·refine C i c N x w g λJ g2=>?_
   exact Ob e s (some m) (Qx c) (λB v=>by obtain rfl:=pE v;exact G) J ((k.blk u.e_no u.blk).on g2) (λB v=>(k.blk (u.l_no v).1 (u.life B v)).on g2)
end
def AO (t:Int)(l:List QI):Prop:=∀x∈l,0<=x.1/\x.1<=t+5
theorem AO.edit {t:Int}{p:(Cl->Int)×List QI}(h:AO t p.2)(ht:0<=t)(c:Cl)(b:Int):AO t (Yf t p c b).2:=λx d=>by
 rcases Cc _ t _ d with a|⟨-,h2⟩
 ·exact h x a
 ·have:=SD (Vj p.1 c b x.2);omega
theorem AO.upd {t:Int}{p:(Cl->Int)×List QI}(h:AO t p.2)(ht:0<=t)(held:Cl->Bool)(c:Cl):AO t (Zl held t p c).2:=by
 unfold Zl;split
 ·split
  ·exact h.edit ht _ _
  ·exact AO.edit (h.edit ht _ _) ht _ _
 ·exact h
theorem AO.upds (held:Cl->Bool){t:Int}(ht:0<=t):∀(P:List Cl) {p:(Cl->Int)×List QI},AO t p.2->AO t (P.foldl (Zl held t) p).2
 | [],_,h=>h
 | c::P,_,h=>AO.upds held ht P (h.upd ht held c)
theorem AO.tick {t:Int}{f:Cl->Int}{l:List QI}(h:AO t l)(ht:0<=t)(held:Cl->Bool):AO (t+1) (U2 held t (f,l)).2:=
 AO.upds held (by omega) _ (p:=(f,l.drop (Xr l (t+1) 8))) λx a=>by
  have:=h x (List.mem_of_mem_drop a);omega
structure PW where
 f:Cl->Int
 l:List QI
 t:Int
 b:BD
def Fe (f:Cl->Int)(b:BD)(x z:Int)(j:Bool):BD:=if ((YK (Qm b.1 / 16) (Qm b.2.2.1 / 16)).all λp=>decide (p∈YK 0 0))=true then Ft f b x z j else b
def PW.tick (p:PW)(x z:Int)(j:Bool):PW:=⟨(U2 (CH (Fe p.f p.b x z j)) p.t (p.f,p.l)).1,(U2 (CH (Fe p.f p.b x z j)) p.t (p.f,p.l)).2,p.t+1,Fe p.f p.b x z j⟩
def PW.due (p:PW):Int:=((Xr p.l (p.t+1) 8:Nat):Int)
structure PW.Ok (p:PW)(K:Nat):Prop where
 inv:SInv p.f p.t p.l []
 len:(p.l.length:Int)<=28+96 * p.t
 bod:BOk (1200000+262144 * p.t) p.b
 k:(K:Int)<=100+16 * p.t
 tk:AO p.t p.l
theorem My {n:Int}(h: -100000000<=n/\n<=100000000): -1000000000000000<=Qm n/\Qm n<=1000000000000000:=by
 unfold Qm Qe;omega
theorem ic {p:PW}{K:Nat}(h:p.Ok K)(x z:Int)(j:Bool):BOk (1200000+262144 * (p.t+1)) (Fe p.f p.b x z j):=by
 have ht:=h.inv.t20;unfold Fe;split
 ·have:=h.bod.step (by omega) (by omega) p.f x z j
  rwa [show 1200000+262144 * p.t+262144=1200000+262144 * (p.t+1) by omega] at this
 ·exact h.bod.mono (by omega)
theorem ie (e s wd tb q:Nat){S:SS}{p:PW}{K:Nat}(a:Lf)(i:a.b=p.b)(h:Sx S p.f p.l p.t K)(c:p.Ok K)(ht:p.t<=19):
  ∃S',Sx S' (p.tick a.x a.z a.j).f (p.tick a.x a.z a.j).l (p.tick a.x a.z a.j).t (K+16)/\(p.tick a.x a.z a.j).Ok (K+16)/\(∀seed,Fresh seed S.T->Fresh seed S'.T)/\
   ∀occ W M,Qr e s wd tb q occ S (some a) W M->Calls prog 105 #[e] W λr w'=>r=.returned (int i64 p.due)/\Q6 (Qr e s wd tb q (XS e) S' (some (a.go (p.tick a.x a.z a.j).b))) W M w':=by
 have w:=c.inv.t20;have o:=ic c a.x a.z a.j;obtain ⟨b',d⟩:=pt (Fe p.f p.b a.x a.z a.j);have hlen:p.l.length<=1900:=by have:=c.len;omega
 have hK:=c.k;obtain ⟨S',E,D,u⟩:=ib s wd tb q e (a.go b') (by show b'.2.2.2.2.2.2.1<=9223372036854775807;rw [d];have:=o.wd;omega) h c.inv ht (by omega) (by omega)
 have F:(p.tick a.x a.z a.j)=⟨(U2 (VA (some (a.go b'))) p.t (p.f,p.l)).1,(U2 (VA (some (a.go b'))) p.t (p.f,p.l)).2,p.t+1,b'⟩:=by
  unfold PW.tick;rw [<-d];rfl
 have hbx:=c.bod.x;have hbz:=c.bod.z;have B:=My (n:=a.b.1) (by rw [i];omega)
 have A:=My (n:=a.b.2.2.1) (by rw [i];omega)
 have C:S.T.l.length<=1000:=by rw [h.len];decide
 have m:AM S.T a.b=(YK (Qm p.b.1 / 16) (Qm p.b.2.2.1 / 16)).all λp=>decide (p∈YK 0 0):=by
  unfold AM;rw [Iq h.here,i]
 rw [F];refine ⟨S',E,⟨c.inv.tick _ ht h.dist,?_,by rw [d];exact o,by dsimp only;omega,c.tk.tick w.1 _⟩,D,λocc W M y=>?_⟩
 ·have:=(bf (VA (some (a.go b'))) p.t (f:=p.f) h.dist).1;have:=c.len;dsimp only;omega
 ·cases ha:AM S.T a.b
  ·have g:b'=a.b:=by
    rw [d,i];unfold Fe;rw [if_neg (by rw [<-m,ha];decide)]
   have v:a.go b'=a:=by rw [g]
   rw [v] at u ⊢;exact aR e s wd tb q occ S S' a _ ha B A C W M y u
  ·have g:Ft S.T.cell a.b a.x a.z a.j=b':=by
    rw [d,i,h.cell];unfold Fe;rw [if_pos (by rw [<-m,ha])]
   exact ge e s wd tb q occ S S' a b' _ (1200000+262144 * p.t) (by omega) (by omega) (by rw [i];exact c.bod) g ha B A C W M y u
theorem Th {a:TS}(h:∀p,p∈T.here↔p∈a.here)(k:∀i∈T.l,∀j∈a.l,(i.x,i.z)=(j.x,j.z)->i.cs=j.cs):T.cell=a.cell:=by
 funext c;unfold TS.cell TS.at;cases b:T.l.find? (TI.is (Xa c.1 c.2.2)) with
 | none=>
  cases h4:a.l.find? (TI.is (Xa c.1 c.2.2)) with
  | none=>rfl
  | some j=>
   exfalso;have f:Xa c.1 c.2.2∈T.here:=(h _).2 (List.mem_map.2 ⟨j,List.mem_of_find?_eq_some h4,ZV.1 (List.find?_some h4)⟩);obtain ⟨i,m,d⟩:=List.mem_map.1 f;rw [List.find?_eq_none] at b;exact b i m (ZV.2 d)
 | some i=>
  cases h4:a.l.find? (TI.is (Xa c.1 c.2.2)) with
  | none=>
   exfalso;have f:Xa c.1 c.2.2∈a.here:=(h _).1 (List.mem_map.2 ⟨i,List.mem_of_find?_eq_some b,ZV.1 (List.find?_some b)⟩);obtain ⟨j,g,d⟩:=List.mem_map.1 f;rw [List.find?_eq_none] at h4;exact h4 j g (ZV.2 d)
  | some j=>
   have e:=k i (List.mem_of_find?_eq_some b) j (List.mem_of_find?_eq_some h4) ((ZV.1 (List.find?_some b)).trans (ZV.1 (List.find?_some h4)).symm);unfold TI.at;dsimp only;rw [e]
def Tk (sd:Int)(cs:List Int)(D:DS)(k:Nat):TS:=⟨sd,9,([⟨0,0,cs,false,0⟩,QP sd 1 0,QP sd (-1) 0,QP sd 0 1,QP sd 0 (-1)]:List TI).take k,D⟩
theorem Ot (sd:Int)(cs:List Int)(D:DS):∀p,p∈(Tk sd cs D 5).here↔p∈YK 0 0:=by
 intro p;have e:(Tk sd cs D 5).here=[(0,0),(1,0),(-1,0),(0,1),(0,-1)]:=rfl;rw [e];unfold YK;simp
 try (constructor<;>(intro h;rcases h with h|h|h|h|h<;>simp [h]))
theorem Ov (sd:Int)(cs:List Int)(D:DS)(h:cs.length=8192):GoodT (Tk sd cs D 5):=⟨λi a=>by
 unfold Tk at a;simp only [List.take_succ_cons,List.take_zero,List.mem_cons,List.not_mem_nil,or_false] at a;rcases a with rfl|rfl|rfl|rfl|rfl
 ·exact h
 all_goals exact LJ _ _ _,by
 show List.Nodup [((0:Int),(0:Int)),(1,0),(-1,0),(0,1),(0,-1)];decide⟩
abbrev VT (t:Nat)(T T':TS)(px pz:Int):Prop:=∀W M,Yz t T W M->Calls prog 42 #[t,.agg #[px,pz]] W λr w'=>r=.returned (int i64 0)/\Q6 (Yz t T') W M w'
abbrev Jh (t:Nat)(T T':TS)(n:Int):Prop:=∀W M,Yz t T W M->Calls prog 87 #[t] W λr w'=>r=.returned (.tuple #[n,int i64 0])/\Q6 (Yz t T') W M w'
section
variable {sd:Int}{cs:List Int}{D:DS}{N:Nat}
theorem oS (t:Nat)(ok:CellsOk cs)(c:DOk D N 1000000)(hN:N<=90000)(b:∃a kept,Y2 D (Ue 0 0)=(QZ (Yn cs),a,kept)):VT t (Tk sd cs D 0) (Tk sd cs D 1) 0 0:=λW M h=>by
 obtain ⟨a,kept,b⟩:=b;have e:({ Tk sd cs D 0 with l:=(Tk sd cs D 0).l++[(⟨0,0,cs,false,0⟩:TI)] } :TS)=Tk sd cs D 1:=by unfold Tk;simp
 rw [<-e];exact bA t (Tk sd cs D 0) 0 0 W M h (by omega) (by omega) (by unfold Tk;simp) (by unfold Tk;simp) (by unfold Tk TS.find;simp [Z7]) N c (by omega) a kept cs ok b
theorem ny (t:Nat)(a:cs=(QP sd 0 0).cs)(c:DOk D N 1000000)(hN:N<=90000)(b:Y2 D (Ue 0 0)=([],0,false)):VT t (Tk sd cs D 0) (Tk sd cs D 1) 0 0:=λW M h=>by
 have e:({ Tk sd cs D 0 with l:=(Tk sd cs D 0).l++[QP (Tk sd cs D 0).seed 0 0] } :TS)=Tk sd cs D 1:=by
  rw [a];unfold Tk QP;simp
 rw [<-e];exact Au t (Tk sd cs D 0) 0 0 W M h (by omega) (by omega) (by unfold Tk;simp) (by unfold Tk;simp) (by unfold Tk TS.find;simp [Z7]) N c (by omega) 0 false b
theorem lC (t:Nat)(b:DOk D N 1000000)(hN:N<=90000)(a:Y2 D (Ue 1 0)=([],0,false)):VT t (Tk sd cs D 1) (Tk sd cs D 2) 1 0:=λW M h=>by
 have e:({ Tk sd cs D 1 with l:=(Tk sd cs D 1).l++[QP (Tk sd cs D 1).seed 1 0] } :TS)=Tk sd cs D 2:=by unfold Tk;simp
 rw [<-e];exact Au t (Tk sd cs D 1) 1 0 W M h (by omega) (by omega) (by unfold Tk;simp) (by unfold Tk;simp) (by unfold Tk TS.find;simp [Z7,TI.is,QP,Zy]) N b (by omega) 0 false a
theorem lD (t:Nat)(b:DOk D N 1000000)(hN:N<=90000)(a:Y2 D (Ue (-1) 0)=([],0,false)):VT t (Tk sd cs D 2) (Tk sd cs D 3) (-1) 0:=λW M h=>by
 have e:({ Tk sd cs D 2 with l:=(Tk sd cs D 2).l++[QP (Tk sd cs D 2).seed (-1) 0] } :TS)=Tk sd cs D 3:=by unfold Tk;simp
 rw [<-e];exact Au t (Tk sd cs D 2) (-1) 0 W M h (by omega) (by omega) (by unfold Tk;simp) (by unfold Tk;simp) (by unfold Tk TS.find;simp [Z7,TI.is,QP,Zy]) N b (by omega) 0 false a
theorem lE (t:Nat)(b:DOk D N 1000000)(hN:N<=90000)(a:Y2 D (Ue 0 1)=([],0,false)):VT t (Tk sd cs D 3) (Tk sd cs D 4) 0 1:=λW M h=>by
 have e:({ Tk sd cs D 3 with l:=(Tk sd cs D 3).l++[QP (Tk sd cs D 3).seed 0 1] } :TS)=Tk sd cs D 4:=by unfold Tk;simp
 rw [<-e];exact Au t (Tk sd cs D 3) 0 1 W M h (by omega) (by omega) (by unfold Tk;simp) (by unfold Tk;simp) (by unfold Tk TS.find;simp [Z7,TI.is,QP,Zy]) N b (by omega) 0 false a
theorem lF (t:Nat)(b:DOk D N 1000000)(hN:N<=90000)(a:Y2 D (Ue 0 (-1))=([],0,false)):VT t (Tk sd cs D 4) (Tk sd cs D 5) 0 (-1):=λW M h=>by
 have e:({ Tk sd cs D 4 with l:=(Tk sd cs D 4).l++[QP (Tk sd cs D 4).seed 0 (-1)] } :TS)=Tk sd cs D 5:=by unfold Tk;simp
 rw [<-e];exact Au t (Tk sd cs D 4) 0 (-1) W M h (by omega) (by omega) (by unfold Tk;simp) (by unfold Tk;simp) (by unfold Tk TS.find;simp [Z7,TI.is,QP,Zy]) N b (by omega) 0 false a
end
theorem bL (t:Nat)(h0:0<T.l.length)(hl:T.l.length<=1000)(a:∀i∈T.l,i.dirty=false):Jh t T T 0:=λW M ⟨s,d,v,L,Ms,Mi,h,c⟩=>by
 have e:L.length=T.l.length:=by rw [<-h.l,List.length_map]
 refine (SV t s d v L Ms Mi T W h (λk p b=>a p.2 ?_) (by omega) (by omega)).mono ?_
 ·rw [<-h.l];exact List.mem_map.2 ⟨p,pG b,rfl⟩
 ·rintro r w' ⟨rfl,rfl⟩;exact ⟨rfl,Q6.same ⟨s,d,v,L,Ms,Mi,h,c⟩⟩
theorem Ti (t n N:Nat)(i:TI)(m:DS)(w:T.l[n]?=some i)(y:i.dirty=true)(q:∀k j,k≠n->T.l[k]?=some j->j.dirty=false)(hl:T.l.length<=1000)(E: -524288<=i.x/\i.x<524288)(C: -524288<=i.z/\i.z<524288)(o:DOk T.d N 1000000)(G:N<=90000)(D:Zv T.d (Ue i.x i.z) (QZ (Yn i.cs))=(m,0))(g:i.cs.length=8192):
  Jh t T { T with l:=T.l.set n { i with dirty:=false },d:=m } 1:=λW M ⟨s,d,v,L,Ms,Mi,h,A⟩=>by
 have e:L.length=T.l.length:=by rw [<-h.l,List.length_map]
 have b:∀k:Nat,(T.l)[k]?=(L[k]?).map (·.2):=λk=>by rw [<-h.l,List.getElem?_map]
 obtain ⟨p,u⟩:∃p,L[n]?=some p:=⟨_,pH (by have:=(List.getElem?_eq_some_iff.1 w).1;omega)⟩
 obtain ⟨a,j⟩:=p;have F:j=i:=by
  have:=b n;rw [w,u] at this;simpa using this.symm
 subst F;refine (SU t s d n a v L Ms Mi T j m N W h u y (λk p B f=>q k p.2 B (by rw [b,f];rfl)) (by omega) E C o G D g).mono ?_
 rintro r w' ⟨rfl,c⟩;exact ⟨rfl,c.aft A⟩
theorem bM (cs:List Int)(h:cs.length=8192):(QZ (Yn cs)).length<=65536:=by
 have h1:=Dk (Yn cs);have h2:=XD (Ur cs).pos;have a:Qh (Yn cs)=(Qu (Yn cs)).length:=Ze λr b=>by have:=(Ur cs).pos r b;omega
 rw [Us,h] at a;omega
structure KeptT (t:Nat)(sd:Int)(T T1:TS)(D:DS)(n:Int)(cs:List Int)(rc:Bs)(f:Cl->Int):Prop where
 nb:0<=n/\n<100
 flush:Jh t T T1 n
 ok1:DOk T1.d 1 1000000
 save:Zv T1.d 0 rc=(D,0)
 ok2:DOk D 2 1000000
 crash:D.crash 0=(D,0)
 back:Y2 D 0=(rc,1,true)
 seed:T1.seed=sd
 lim:T1.lim=9
 good:GoodT (Tk sd cs D 5)
 cell:(Tk sd cs D 5).cell=f
 l0:VT t (Tk sd cs D 0) (Tk sd cs D 1) 0 0
 l1:VT t (Tk sd cs D 1) (Tk sd cs D 2) 1 0
 l2:VT t (Tk sd cs D 2) (Tk sd cs D 3) (-1) 0
 l3:VT t (Tk sd cs D 3) (Tk sd cs D 4) 0 1
 l4:VT t (Tk sd cs D 4) (Tk sd cs D 5) 0 (-1)
theorem Pw {S:SS}{f:Cl->Int}{l:List QI}{t0:Int}{K:Nat}{sd:Int}(t:Nat)(h:Sx S f l t0 K)(q:Fresh sd S.T)(ok:∀i∈S.T.l,CellsOk i.cs)(rc:Bs)(C:rc.length<=65536):
  ∃U D n cs,KeptT t sd S.T U D n cs rc f:=by
 obtain ⟨b,c,r⟩:=List.mem_map.1 ((h.here (0,0)).2 (by unfold YK;simp))
 obtain ⟨n0,s⟩:=List.getElem?_of_mem c;have v:∀j∈S.T.l,(j.x,j.z)=(0,0)->j=b:=λj e u=>by
  obtain ⟨m,R⟩:=List.getElem?_of_mem e;have M:=h.good.one;have E:S.T.here[n0]?=some (0,0):=by unfold TS.here;rw [List.getElem?_map,s];exact congrArg some r
  have L:S.T.here[m]?=some (0,0):=by unfold TS.here;rw [List.getElem?_map,R];exact congrArg some u
  have Y:n0=m:=(List.getElem?_inj (List.getElem?_eq_some_iff.1 E).1 M).1 (E.trans L.symm);rw [Y,R] at s;exact pE s
 have P:b.x=0:=congrArg Prod.fst r;have I:b.z=0:=congrArg Prod.snd r;have hlen:S.T.l.length=5:=h.len;have w:∀j∈S.T.l,(j.x,j.z)≠(0,0)->j.dirty=false:=λj e y=>by rw [q.oth j e y];rfl
 have g:∀D,(Tk sd b.cs D 5).cell=f:=λD=>by
  rw [<-h.cell];refine Th (λp=>(Ot sd b.cs D p).trans (h.here p).symm) λi N j e u=>?_
  unfold Tk at N;simp only [List.take_succ_cons,List.take_zero,List.mem_cons,List.not_mem_nil,or_false] at N;rcases N with rfl|rfl|rfl|rfl|rfl
  ·rw [v j e u.symm]
  all_goals
   have A:=u;simp only [QP,Prod.mk.injEq] at A;rw [q.oth j e (by rw [<-u];simp [QP]),<-A.1,<-A.2]
 cases hd:b.dirty
 ·obtain ⟨-,o⟩:=q.own b c r;have o:=o hd;obtain ⟨D,J,G,H,O,B⟩:=az rc C;have a:DOk D 2 1000000:=G.ok.mono (by omega) (by omega)
  refine ⟨S.T,D,0,b.cs,⟨by omega,bL t (by omega) (by omega) λj e=>?_,?_,by rw [q.d];exact J,a,H,O,q.seed,q.lim,Ov _ _ _ (h.good.len b c),g D,
   ny t (congrArg TI.cs o) a (by omega) (B _ (by decide) (by decide)),lC t a (by omega) (B _ (by decide) (by decide)),lD t a (by omega) (B _ (by decide) (by decide)),lE t a (by omega) (B _ (by decide) (by decide)),lF t a (by omega) (B _ (by decide) (by decide))⟩⟩
  ·by_cases u:(j.x,j.z)=(0,0)
   ·rw [v j e u];exact hd
   ·exact w j e u
  ·rw [q.d];exact DCalm.new.ok.mono (by omega) (by omega)
 ·obtain ⟨Q,D,X,J,G,H,O,B,W,F⟩:=aA (Ue 0 0) (by decide) (by decide) (QZ (Yn b.cs)) rc (bM _ (h.good.len b c)) C
  have a:DOk D 2 1000000:=H.ok.mono (by omega) (by omega)
  refine ⟨{ S.T with l:=S.T.l.set n0 { b with dirty:=false },d:=Q },D,1,b.cs,⟨by omega,Ti t n0 0 b Q s hd (λk j V e=>?_) (by omega) (by omega) (by omega) (by rw [q.d];exact DCalm.new.ok.mono (by omega) (by omega)) (by omega) (by rw [q.d,P,I];exact X) (h.good.len b c),J.ok.mono (by omega) (by omega),G,a,O,B,q.seed,q.lim,Ov _ _ _ (h.good.len b c),g D,
   oS t (ok b c) a (by omega) ⟨_,_,W⟩,lC t a (by omega) (F _ (by decide) (by decide) (by decide)),lD t a (by omega) (F _ (by decide) (by decide) (by decide)),lE t a (by omega) (F _ (by decide) (by decide) (by decide)),lF t a (by omega) (F _ (by decide) (by decide) (by decide))⟩⟩
  have y:(j.x,j.z)≠(0,0):=λu=>by
   have E:S.T.here[n0]?=some (0,0):=by unfold TS.here;rw [List.getElem?_map,s];exact congrArg some r
   have L:S.T.here[k]?=some (0,0):=by unfold TS.here;rw [List.getElem?_map,e];exact congrArg some u
   exact V ((List.getElem?_inj (List.getElem?_eq_some_iff.1 E).1 h.good.one).1 (E.trans L.symm)).symm
  exact w j (pG e) y
end
section
open Go.RowKit Go.Maps
attribute [local go_sem] Oper.semAt_some
theorem Qr.table {M:Nat->Prop}{e s wd t q:Nat}{occ:Value}{S:SS}{L:Option Lf}(h:Qr e s wd t q occ S L W M):∃d,Yz t S.T W d/\∀i w',Q6 (Yz t i) W d w'->Q6 (Qr e s wd t q occ { S with T:=i } L) W M w':=by
 obtain ⟨Ms,u,j⟩:=h;obtain ⟨v,ds,Mw,Mq,r,o⟩:=u.sim;obtain ⟨v',xs,d,p,g2,A,m,c⟩:=r.wd;refine ⟨d,m,λi w' k=>?_⟩
 have n:¬d wd:=CD m p DZ;have f:∀b,v'.ownBlock=some b->¬d b:=λb a=>by
  obtain ⟨-,cur,z⟩:=QC g2 a;exact CD m z CF
 obtain ⟨g,w,y,l⟩:=k;have x:Q6 (Bb wd t i S.k) W Mw w':=by
  refine ⟨λb=>b=wd∨v'.ownBlock=some b∨g b,⟨v',xs,g,l.blk n p,g2.keep l f,A,w,λ_=>Iff.rfl⟩,λb a=>?_,l.mono λb a h=>a ((c b).2 (.inr (.inr h)))⟩
  rcases a with rfl|a|a
  ·exact .inl ((c _).2 (.inl rfl))
  ·exact .inl ((c _).2 (.inr (.inl a)))
  ·exact (y b a).imp_left λh=>(c b).2 (.inr (.inr h))
 exact (u.turn ((r.world x).under o)).under j
def Ir (w:World)(e:Nat)(p:Value):World:=((((((((((((((((w.setCell ⟨e,1,none⟩ p).setCell ⟨e,2,none⟩ (.pointer none)).setCell ⟨e,3,none⟩ (.pointer none)).setCell ⟨e,4,none⟩ (.pointer none)).setCell ⟨e,5,none⟩ (.pointer none)).setCell ⟨e,6,none⟩ (.pointer none)).setCell ⟨e,7,none⟩ (.pointer none)).setCell ⟨e,8,none⟩ (.pointer none)).setCell ⟨e,9,none⟩ (.pointer none)).setCell ⟨e,10,none⟩ (.pointer none)).setCell ⟨e,11,none⟩ (.pointer none)).setCell ⟨e,12,none⟩ (.pointer none)).setCell ⟨e,13,none⟩ (.pointer none)).setCell ⟨e,14,none⟩ (.pointer none)).setCell ⟨e,15,none⟩ (.pointer none)).setCell ⟨e,16,none⟩ (.pointer none))
theorem Px (w:World)(e:Nat)(p:Value):Kept (λb=>b≠e) w (Ir w e p):=(((((((((((((((((Kept.refl (λb=>b≠e) w).setCell (p:=⟨e,1,none⟩) (λh=>h rfl) _).setCell (p:=⟨e,2,none⟩) (λh=>h rfl) _).setCell (p:=⟨e,3,none⟩) (λh=>h rfl) _).setCell (p:=⟨e,4,none⟩) (λh=>h rfl) _).setCell (p:=⟨e,5,none⟩) (λh=>h rfl) _).setCell (p:=⟨e,6,none⟩) (λh=>h rfl) _).setCell (p:=⟨e,7,none⟩) (λh=>h rfl) _).setCell (p:=⟨e,8,none⟩) (λh=>h rfl) _).setCell (p:=⟨e,9,none⟩) (λh=>h rfl) _).setCell (p:=⟨e,10,none⟩) (λh=>h rfl) _).setCell (p:=⟨e,11,none⟩) (λh=>h rfl) _).setCell (p:=⟨e,12,none⟩) (λh=>h rfl) _).setCell (p:=⟨e,13,none⟩) (λh=>h rfl) _).setCell (p:=⟨e,14,none⟩) (λh=>h rfl) _).setCell (p:=⟨e,15,none⟩) (λh=>h rfl) _).setCell (p:=⟨e,16,none⟩) (λh=>h rfl) _)
theorem MX (s:Nat)(p a:Option Addr):(((((((((((((((((Ua s p).setIfInBounds 1 (.pointer a)).setIfInBounds 2 (.pointer none)).setIfInBounds 3 (.pointer none)).setIfInBounds 4 (.pointer none)).setIfInBounds 5 (.pointer none)).setIfInBounds 6 (.pointer none)).setIfInBounds 7 (.pointer none)).setIfInBounds 8 (.pointer none)).setIfInBounds 9 (.pointer none)).setIfInBounds 10 (.pointer none)).setIfInBounds 11 (.pointer none)).setIfInBounds 12 (.pointer none)).setIfInBounds 13 (.pointer none)).setIfInBounds 14 (.pointer none)).setIfInBounds 15 (.pointer none)).setIfInBounds 16 (.pointer none))=Ua s a:=by kernel_rfl
theorem Tj {w:World}{e s:Nat}{p:Option Addr}(h:Q0 w e 71 (Ua s p))(a:Option Addr):Q0 (Ir w e (.pointer a)) e 71 (Ua s a):=by
 rw [<-MX s p a];unfold Ir;exact ((((((((((((((((h.set_ 1 _).set_ 2 _).set_ 3 _).set_ 4 _).set_ 5 _).set_ 6 _).set_ 7 _).set_ 8 _).set_ 9 _).set_ 10 _).set_ 11 _).set_ 12 _).set_ 13 _).set_ 14 _).set_ 15 _).set_ 16 _)
theorem EngAt.turnq {w w':World}{e s wd t q g:Nat}{occ:Value}{S:SS}{L:Option Lf}(h:EngAt w e s wd t q occ S L Ms){S':SS}(k:Q6 (QQ s wd t g occ' S') w Ms w'):Q6 (Qr e s wd t g occ' S' L) w (AV e L Ms) w':=by
 obtain ⟨c,i,j,d⟩:=k;refine ⟨AV e L c,⟨c,⟨d.blk h.e_no h.blk,λl f=>d.blk (h.l_no f).1 (h.life l f),i⟩,λ_=>Iff.rfl⟩,λb a=>?_,d.mono λb a h=>a (.inr (.inr h))⟩
 rcases a with a|a|a
 ·exact .inl (.inl a)
 ·exact .inl (.inr (.inl a))
 ·exact (j b a).imp_left λh=>.inr (.inr h)
theorem Py (now:Int)(b:BD)(l:List QI)(rs:List B8)(ai:rs=Vv now b l)(hl:rs.length<=1000000)(z:0<=now/\now<=1099511627776)(y:EW b=true)(I:∀u∈[b.1,b.2.1,b.2.2.1,b.2.2.2.1,b.2.2.2.2.1,b.2.2.2.2.2.1,b.2.2.2.2.2.2.1,b.2.2.2.2.2.2.2.1],YU u)(W:l.length<=2000)(B:∀u∈l,YU u.1/\Il u.2)(a:Option Addr)(c:Nat)(hc:rs.length<=c)(ad:c<=maxLen)
  (e s wd t q:Nat) (occ:Value) (S:SS) (L:Option Lf) (w:World) (M:Nat->Prop) (h:Qr e s wd t q occ S L w M) (ag:Rd w a 1 Yk rs) (ah:∀x,a=some x->x.block<w.heap.size):
  Calls prog 131 #[e,.slice a rs.length c] w λr w'=>r=.returned (int i64 0)/\∃p q',Q6 (Qr e s wd t q' occ (S.back now l) (some ⟨p,b,0,0,false⟩)) w M w':=by
 have HR:=pp (gR now b l rs ai hl z y I W B a c hc ad w ag ah);have Y:=pp (py h (py z (py W B)));obtain ⟨rn,Z⟩:∃n,n=rs.length:=⟨_,rfl⟩;rw [<-Z] at HR ⊢;clear ai hl z y I W B hc ad h ag ah Z;go_enter func131,ntmps131;go_upto_region 2 with first
  | (go_at_call 178;refine HR.o.mono ?_;rintro e_ k ⟨p,R,c5,rfl,x1,x2,x3,x4,x5⟩;have O:=pp (py x1 (py x2 (py x3 (py x4 x5))));have F:=pp (show (Yl now (some ⟨p,0,none⟩) (.slice R l.length c5)).all (·.oneCell')=true by simp [Yl,Value.oneCell']);clear x1 x2 x3 x4 x5)
  | (refine wpList_store_rowTo rfl 249 _ _ rfl rfl k.heap.size (Yl now (some ⟨p,0,none⟩) (.slice R l.length c5)) rfl rfl 249 _ (Q0.new' rfl) (by kernel_rfl) rfl F.o ?_)
 obtain ⟨V1,E⟩:∃V,V=k.alloc (.cells #[int i64 0,.pointer none,.pointer none,.pointer none,.pointer none,.pointer none,.pointer none,.pointer none,.pointer none,.pointer none,.pointer none,.pointer none,.pointer none,.pointer none,.pointer none,.pointer none,.pointer none,.slice none 0 0] 249):=⟨_,rfl⟩;obtain ⟨j,D⟩:∃V,V=V1.setRow k.heap.size (Yl now (some ⟨p,0,none⟩) (.slice R l.length c5)):=⟨_,rfl⟩;have g1:Below k.heap.size k V1:=by rw [E];exact Q3 _ _
 have g2:Below k.heap.size k j:=by rw [D];exact Ut g1 (pA _) _
 have R2:Q0 j k.heap.size 249 (Yl now (some ⟨p,0,none⟩) (.slice R l.length c5)):=by rw [D];exact (Q0.fresh E).row _
 rw [<-E,<-D];obtain ⟨Rb,X⟩:=pt k.heap.size;have a2:=pp X;rw [<-X] at R2 ⊢;have i:=pp (py R2 g2);clear E D g1 g2 R2 X HR F;obtain ⟨Ms,T,hM⟩:=Y.o.1;have HM:=pp hM;have ae:=pp (after O.o.2.2.2.2 (show Below k.heap.size k j from i.o.2));have f:=pp (T.on ae.o);clear T hM;go_upto_region 4 with fail
 have p1:j.cell? ⟨Rb,1,none⟩=some (.pointer (some ⟨p,0,none⟩)):=i.o.1.cell 1;have c1:j.cell? ⟨e,1,none⟩=some (.pointer (JN L)):=f.o.blk.cell 1;have z1:=f.o.blk.frz 1;have p2:j.cell? ⟨Rb,2,none⟩=some (.pointer none):=i.o.1.cell 2;have c2:j.cell? ⟨e,2,none⟩=some (.pointer none):=f.o.blk.cell 2;have z2:=f.o.blk.frz 2;have p3:j.cell? ⟨Rb,3,none⟩=some (.pointer none):=i.o.1.cell 3;have c3:j.cell? ⟨e,3,none⟩=some (.pointer none):=f.o.blk.cell 3;have z3:=f.o.blk.frz 3;have p4:j.cell? ⟨Rb,4,none⟩=some (.pointer none):=i.o.1.cell 4;have c4:j.cell? ⟨e,4,none⟩=some (.pointer none):=f.o.blk.cell 4;have z4:=f.o.blk.frz 4;have p5:j.cell? ⟨Rb,5,none⟩=some (.pointer none):=i.o.1.cell 5;have c5:j.cell? ⟨e,5,none⟩=some (.pointer none):=f.o.blk.cell 5;have z5:=f.o.blk.frz 5;have p6:j.cell? ⟨Rb,6,none⟩=some (.pointer none):=i.o.1.cell 6;have c6:j.cell? ⟨e,6,none⟩=some (.pointer none):=f.o.blk.cell 6;have z6:=f.o.blk.frz 6;have p7:j.cell? ⟨Rb,7,none⟩=some (.pointer none):=i.o.1.cell 7;have c7:j.cell? ⟨e,7,none⟩=some (.pointer none):=f.o.blk.cell 7;have z7:=f.o.blk.frz 7;have p8:j.cell? ⟨Rb,8,none⟩=some (.pointer none):=i.o.1.cell 8;have c8:j.cell? ⟨e,8,none⟩=some (.pointer none):=f.o.blk.cell 8;have z8:=f.o.blk.frz 8;have p9:j.cell? ⟨Rb,9,none⟩=some (.pointer none):=i.o.1.cell 9;have c9:j.cell? ⟨e,9,none⟩=some (.pointer none):=f.o.blk.cell 9;have z9:=f.o.blk.frz 9;have an:j.cell? ⟨Rb,10,none⟩=some (.pointer none):=i.o.1.cell 10;have ao:j.cell? ⟨e,10,none⟩=some (.pointer none):=f.o.blk.cell 10;have ak:=f.o.blk.frz 10;have a3:j.cell? ⟨Rb,11,none⟩=some (.pointer none):=i.o.1.cell 11;have a4:j.cell? ⟨e,11,none⟩=some (.pointer none):=f.o.blk.cell 11;have a9:=f.o.blk.frz 11;have a1:j.cell? ⟨Rb,12,none⟩=some (.pointer none):=i.o.1.cell 12;have ax:j.cell? ⟨e,12,none⟩=some (.pointer none):=f.o.blk.cell 12;have a7:=f.o.blk.frz 12;have ar:j.cell? ⟨Rb,13,none⟩=some (.pointer none):=i.o.1.cell 13;have a8:j.cell? ⟨e,13,none⟩=some (.pointer none):=f.o.blk.cell 13;have am:=f.o.blk.frz 13;have au:j.cell? ⟨Rb,14,none⟩=some (.pointer none):=i.o.1.cell 14;have al:j.cell? ⟨e,14,none⟩=some (.pointer none):=f.o.blk.cell 14;have aw:=f.o.blk.frz 14;have aj:j.cell? ⟨Rb,15,none⟩=some (.pointer none):=i.o.1.cell 15;have a5:j.cell? ⟨e,15,none⟩=some (.pointer none):=f.o.blk.cell 15;have ay:=f.o.blk.frz 15;have az:j.cell? ⟨Rb,16,none⟩=some (.pointer none):=i.o.1.cell 16;have aq:j.cell? ⟨e,16,none⟩=some (.pointer none):=f.o.blk.cell 16;have ap:=f.o.blk.frz 16;go_upto_region 5 with fail
 clear p1 c1 z1 p2 c2 z2 p3 c3 z3 p4 c4 z4 p5 c5 z5 p6 c6 z6 p7 c7 z7 p8 c8 z8 p9 c9 z9 an ao ak a3 a4 a9 a1 ax a7 ar a8 am au al aw aj a5 ay az aq ap;obtain ⟨Q,A⟩:∃V,V=Ir j e (.pointer (some ⟨p,0,none⟩)):=⟨_,rfl⟩;have m:Kept (λb=>b≠e) j Q:=by rw [A];exact Px _ _ _
 have P:Q0 Q e 71 (Ua s (some ⟨p,0,none⟩)):=by rw [A];exact Tj f.o.blk _
 have G:e<w.heap.size:=by
  obtain ⟨av,N,-⟩:=Y.o.1;exact N.blk.lt
 have H:s<w.heap.size:=by
  obtain ⟨av,N,-⟩:=Y.o.1;obtain ⟨v,ds,Mw,Mq,h5,-⟩:=N.sim;exact h5.blk.lt
 have ab:w.heap.size<=k.heap.size:=O.o.2.2.2.2.size;have aa:EngAt Q e s wd t q occ S (some ⟨p,b,0,0,false⟩) Ms:=by
  refine ⟨P,λl hl=>?_,?_⟩
  ·obtain rfl:=pE hl;exact m.blk (by have:=O.o.2.1;dsimp only;omega) (O.o.1.on (show Below k.heap.size k j from i.o.2))
  ·exact (Xs s wd t q occ S).kept f.o.sim m (λb y T=>f.o.e_no (T▸y)) λb cs y T=>by rw [T] at y;exact absurd (Q7 y f.o.blk) (by decide)
 have J:Q0 Q Rb 249 (Yl now (some ⟨p,0,none⟩) (.slice R l.length c5)):=m.blk (by have:=a2.o;omega) i.o.1
 have af:=(O.o.2.2.1.on (show Below k.heap.size k j from i.o.2)).keep m (λb y T=>by have:=(O.o.2.2.1.block b y).1;omega)
 have r0:∀d os,(Go.Sort.grow (redrawn Q d) os).cell? ⟨Rb,0,none⟩=some (int i64 now):=λd os=>(J.re d os).cell 0
 have a0:∀d os,(Go.Sort.grow (redrawn Q d) os).cell? ⟨Rb,17,none⟩=some (.slice R l.length c5):=λd os=>(J.re d os).cell 17
 have e0:∀d os,(Go.Sort.grow (redrawn Q d) os).cell? ⟨e,0,none⟩=some (.pointer (some ⟨s,0,none⟩)):=λd os=>(P.re d os).cell 0
 unfold Ir at A;rw [<-A];have H3:=pp (py aa (py af (py m (py G (py H ab)))));clear A m P G H ab aa J af;refine Qk [0,0,0,0,0,0,0,0,3] (λ_ _ _=>True) (by kernel_rfl) (by kernel_rfl) (λ_ _ _ _ h _=>h) ?_
 repeat (first|(refine Qi ?_)|(refine Qf (λK hK=>?_);go_simp;refine hK _ ?_;clear hK K))
 refine Q8 ?_;repeat (refine Q2 ?_)
 refine Qc ?_;simp only [Qd];intro W4 h4 _;have U:=H3.o.1.on h4;have ac:=H3.o.2.1.on h4;have HS:=pp (Pq s wd t q occ S now (.slice R l.length c5) l (λx hx=>by
  obtain ⟨k1,k2,k3,k4⟩:=Y.o.2.2.2 x hx;unfold YU at k1;unfold UC Qg;omega) (by have:=Y.o.2.2.1;omega) Y.o.2.1 W4 Ms U.sim (ac.lowB (pC _)) (λy=>by have:=(H3.o.2.1.block _ y).1;have:=H3.o.2.2.2.2.1;omega))
 have H4:=pp (py U h4);clear r0 a0 e0 U ac h4;go_wp2_with (go_at_call 132;refine HS.o.mono ?_;rintro e_ w5 ⟨⟨k5,rfl⟩,q',K6⟩;replace K6:=pp K6);go_returns;refine ⟨rfl,p,q',Q6.bind (M':=AV e (some ⟨p,b,0,0,false⟩) Ms) (λg C=>?_) ?_ (H4.o.1.turnq K6.o)⟩
 ·rcases C with C|⟨l',a6,C⟩|C
  ·exact .inl ((HM.o g).2 (.inl C))
  ·obtain rfl:=pE a6;exact .inr (by rw [C];exact O.o.2.1)
  ·exact .inl ((HM.o g).2 (.inr (.inr C)))
 ·have k1:Kept (λb=>¬M b) w j:=(Kept.of_below ae.o).mono λ_ _=>trivial
  exact (k1.trans (H3.o.2.2.1.mono λg C e'=>C ((HM.o g).2 (.inl e')))).on H4.o.2
theorem Dn (now:Int)(b:BD)(l:List QI):(Vv now b l).length=59+l.length * 24:=by
 unfold Vv Fc;simp only [List.length_append,YT,List.length_cons,List.length_nil];rw [Mk Vu (λx=>by unfold Vu;rw [YT];rfl)]
theorem Qr.on {w w':World}{M:Nat->Prop}{e s wd t q:Nat}{occ:Value}{S:SS}{L:Option Lf}(h:Qr e s wd t q occ S L w M)(a:Below w.heap.size w w'):Qr e s wd t q occ S L w' M:=(YB e s wd t q occ S L).on h a
theorem Qr.world {w:World}{M:Nat->Prop}{e s wd t q:Nat}{occ:Value}{S:SS}{L:Option Lf}(h:Qr e s wd t q occ S L w M):
  w.cell? ⟨e,0,none⟩=some (.pointer (some ⟨s,0,none⟩))/\(Calls prog 27 #[s] w λr w'=>r=.returned (.pointer (some ⟨wd,0,none⟩))/\w=w')/\(Calls prog 30 #[wd] w λr w'=>r=.returned (.pointer (some ⟨t,0,none⟩))/\w=w'):=by
 obtain ⟨Ms,a,-⟩:=h;refine ⟨a.blk.cell 0,As s wd t q occ S w Ms a.sim,?_⟩;obtain ⟨v,ds,Mw,Mq,b,-⟩:=a.sim;exact GC wd t S.k S.T w Mw b.wd
theorem ig (e s wd t q:Nat)(occ:Value)(S:SS)(l:Lf)(C:S.Q.l.length<=2000)(N:Nat)(x:DS)(p:DOk S.T.d N 1000000)(G:N<=90000)(F:Zv S.T.d 0 (Vv S.now l.b S.Q.l)=(x,0))(w:World)(M:Nat->Prop)(h:Qr e s wd t q occ S (some l) w M):
  Calls prog 90 #[e] w λr w'=>r=.returned (int i64 0)/\Q6 (Qr e s wd t q occ { S with T:= { S.T with d:=x } } (some l)) w M w':=by
 obtain ⟨e0,m,n⟩:=h.world;have y:=pp m;have B:=pp n;have K:=pp (JO e s wd t q occ S l C w M h);have u:=pp (py h (py p (py G (py F C))));clear h m n p G F C;have key:∀v j,QG w w.heap.size (.slice none 0 0) (Vv S.now l.b S.Q.l) v j->∃f A i,v=.slice f A i/\Calls prog 133 #[t,.slice f A i] j λr w'=>r=.returned (int i64 0)/\Q6 (Qr e s wd t q occ { S with T:= { S.T with d:=x } } (some l)) w M w':=by
  intro v j g;obtain ⟨f,i,R,H,O⟩:=Ih 0 g.1;refine ⟨f,_,i,R,?_⟩;obtain ⟨L,I,c⟩:=(u.o.1.on g.below).table;refine (gP t S.T N x f _ i _ j L I u.o.2.1 u.o.2.2.1 H O (by rw [Dn];have:=u.o.2.2.2.2;omega) u.o.2.2.2.1).mono ?_
  rintro r w' ⟨rfl,k⟩;exact ⟨rfl,Q6.ahead g.below (c _ _ k)⟩
 have P:=pp key;clear key;go_enter func90,ntmps90;go_wp2_with first
  | (go_at_call 27;refine y.o.mono ?_;rintro D J ⟨rfl,rfl⟩)
  | (go_at_call 30;refine B.o.mono ?_;rintro D J ⟨rfl,rfl⟩)
  | (go_at_call 19;refine K.o.mono ?_;rintro D j ⟨v1,rfl,E⟩;obtain ⟨f,A,i,rfl,a⟩:=P.o _ _ E;replace a:=pp a;clear E)
  | (go_at_call 133;refine a.o.mono ?_;rintro D w2 ⟨rfl,z⟩;replace z:=pp z)
 go_returns;exact ⟨rfl,z.o⟩
noncomputable def SS.fell (S:SS)(now:Int)(l:List QI):SS:=({ S with T:= { S.T with l:=[],d:=(S.T.d.crash 0).1 } } :SS).back now l
theorem bN (now:Int)(b:BD)(l:List QI)(n:0<=now/\now<=1099511627776)(hb:EW b=true)(j:∀u∈[b.1,b.2.1,b.2.2.1,b.2.2.2.1,b.2.2.2.2.1,b.2.2.2.2.2.1,b.2.2.2.2.2.2.1,b.2.2.2.2.2.2.2.1],YU u)(P:l.length<=2000)(p:∀u∈l,YU u.1/\Il u.2)
  (e s wd t q:Nat) (occ:Value) (S:SS) (L:Option Lf) (N:Nat) (U:Int) (K:DOk S.T.d N 1000000) (hN:N<=90000) (m:DOk (S.T.d.crash 0).1 N 1000000) (J:Y2 (S.T.d.crash 0).1 0=(Vv now b l,U,true)) (i:(S.T.d.crash 0).2=0) (w:World) (M:Nat->Prop) (h:Qr e s wd t q occ S L w M):
  Calls prog 89 #[e,int i64 0] w λr w'=>r=.returned (int i64 0)/\∃D C,Q6 (Qr e s wd t C occ (S.fell now l) (some ⟨D,b,0,0,false⟩)) w M w':=by
 obtain ⟨e0,H,R⟩:=h.world;have Z:=pp H;have ae:=pp R;have y:Calls prog 129 #[t,int i64 0] w λr w'=>r=.returned (int i64 0)/\Q6 (Qr e s wd t q occ { S with T:= { S.T with l:=[],d:=(S.T.d.crash 0).1 } } L) w M w':=by
  obtain ⟨Mt,hT,A⟩:=h.table;refine (bB t S.T N w Mt hT K (by omega)).mono ?_
  rintro r w' ⟨rfl,k⟩;exact ⟨by rw [i],A _ _ k⟩
 have v:∀O,Q6 (Qr e s wd t q occ { S with T:= { S.T with l:=[],d:=(S.T.d.crash 0).1 } } L) w M O->Calls prog 130 #[t] O λr w'=>∃z G E,r=.returned (.tuple #[.slice z G E,.bool true])/\Calls prog 131 #[e,.slice z G E] w' λr w'=>r=.returned (int i64 0)/\∃D C,Q6 (Qr e s wd t C occ (S.fell now l) (some ⟨D,b,0,0,false⟩)) w M w':=by
  intro O X;obtain ⟨M1,I,m1,af⟩:=X;obtain ⟨Mt,hT,-⟩:=I.table;refine (gQ t _ N U true (Vv now b l) O Mt hT m (by omega) J).mono ?_
  rintro r w2 ⟨z,G,E,rfl,Q,hr,V⟩;refine ⟨z,G,E,rfl,?_⟩;have a:=Q.len;rw [hr] at a;dsimp only at a;have h8:=Q.rd8;rw [hr] at h8;have W:0<G:=by rw [<-a,Dn];omega
  have ac:∀x,z=some x->x.block<w2.heap.size:=by
   obtain ⟨g,o,F,hq,hB,-⟩:=Q.lies W;intro x hx;dsimp only at hq;rw [hq] at hx;obtain rfl:=pE hx;exact QN (hB 0 W)
  have c:=Q.cap;have f:=Q.most;dsimp only at c f;rw [<-a] at c ⊢;refine (Py now b l _ rfl (by rw [Dn];omega) n hb j P p z E c f e s wd t q occ _ L w2 M1 (I.on V) h8 ac).mono ?_
  rintro r w3 ⟨rfl,D,C,k3⟩;exact ⟨rfl,D,C,Q6.bind m1 af (Q6.ahead V k3)⟩
 have aa:=pp y;have ab:=pp v;clear h H R K hN m J i n hb j P p y v;go_enter func89,ntmps89;go_wp2_with first
  | (go_at_call 27;refine Z.o.mono ?_;rintro Y wx ⟨rfl,rfl⟩)
  | (go_at_call 30;refine ae.o.mono ?_;rintro Y wx ⟨rfl,rfl⟩)
  | (go_at_call 129;refine aa.o.mono ?_;rintro Y O ⟨rfl,X⟩;have ad:=pp (ab.o _ X);clear X e0)
  | (go_at_call 130;refine ad.o.mono ?_;rintro Y w2 ⟨z,G,E,rfl,B⟩;replace B:=pp B)
  | (go_at_call 131;refine B.o.mono ?_;rintro Y w3 ⟨rfl,D,C,K3⟩;replace K3:=pp K3)
 go_returns;exact ⟨rfl,D,C,K3.o⟩
theorem QJ.turnq {w w':World}{sh e s wd t q j:Nat}{occ:Value}{S S':SS}{L L':Option Lf}{Me M:Nat->Prop}(i:Q0 w sh 79 #[e])(m:Qr e s wd t q occ S L w Me)(f:∀b,M b↔b=sh∨Me b)(k:Q6 (Qr e s wd t j occ' S' L') w Me w'):Q6 (QJ sh e s wd t j occ' S' L') w M w':=by
 have d:=LX i m;obtain ⟨a,l,n,g⟩:=k;refine ⟨λb=>b=sh∨a b,⟨a,g.blk d i,l,λ_=>Iff.rfl⟩,λb c=>?_,g.mono λb c h=>c ((f b).2 (.inr h))⟩
 rcases c with rfl|c
 ·exact .inl ((f _).2 (.inl rfl))
 ·exact (n b c).imp_left λh=>(f b).2 (.inr h)
theorem ii (w0:World)(sh e s wd t q:Nat)(occ:Value)(S S':SS)(L:Option Lf)(M:Nat->Prop)(N a:Nat)(w:World)(h:Cmd w0 sh e s wd t q occ S L M N a [] w)
  (g:∀W k,Qr e s wd t q occ S L W k->Calls prog 90 #[e] W λr w'=>r=.returned (int i64 0)/\Q6 (Qr e s wd t q occ S' L) W k w'):
  Calls prog 50 #[sh,a] w λr w'=>r=.returned (.string VB)/\Q6 (QJ sh e s wd t q occ S' L) w0 M w':=by
 obtain ⟨Me,b,c,i⟩:=h.here;have d:=pp (py b (py c i));have u:=pp (g w Me c);have n:=pp h;have p0:=b.cell 0;clear h g b c i;go_enter func50,ntmps50;go_wp2_with first
  | (go_at_call 74;refine (Ug N a _ n.o.arg).mono ?_;rintro l w4 ⟨rfl,rfl⟩)
  | (go_at_call 90;refine u.o.mono ?_;rintro l j ⟨rfl,f⟩;replace f:=pp f)
  | (go_at_call 75;refine (Vt j.heap.size .ok (j.alloc (.cells #[.iface 121 (int i64 0)] 20)) (Q0.new' rfl) trivial (by decide)).mono ?_;rintro l w7 ⟨rfl,m⟩;have p:=pp (after (Q3 _ _) m);clear m)
 go_returns;exact ⟨rfl,Q6.ahead n.o.bel (Q6.on (Qq sh e s wd t q occ S' L) (QJ.turn d.o.1 d.o.2.1 d.o.2.2 f.o) p.o)⟩
theorem bO (w0:World)(sh e s wd t q:Nat)(occ:Value)(S S':SS)(L:Option Lf)(b:BD)(M:Nat->Prop)(N a:Nat)(s1:ByteArray)(y:NW s1 0)(w:World)(h:Cmd w0 sh e s wd t q occ S L M N a [s1] w)
  (A:∀W x,Qr e s wd t q occ S L W x->Calls prog 89 #[e,int i64 0] W λr w'=>r=.returned (int i64 0)/\∃g f,Q6 (Qr e s wd t f occ S' (some ⟨g,b,0,0,false⟩)) W x w'):
  Calls prog 49 #[sh,a] w λr w'=>r=.returned (.string (Q4 (Lib.itoa 0)))/\∃g f,Q6 (QJ sh e s wd t f occ S' (some ⟨g,b,0,0,false⟩)) w0 M w':=by
 have E:=pp h;have F:=pp (Zk N a s1 0 y _ w h.arg);have I:=pp A;have G:=pp (show ∀W,YP W 0 from λW=>⟨by unfold Zc;omega,.inl (by omega)⟩)
 have H:=pp (show sL (TV.int 0).str_<=1000000 from pB (YC (n:=0) (by unfold Zc;omega)) (by decide))
 clear h y A;go_enter func49,ntmps49;go_upto_region 3 with first
  | (go_at_call 73;refine F.o.mono ?_;rintro l C ⟨rfl,B,p⟩;have j:=pp (E.o.eat B p);clear B p)
  | (go_at_call 74;refine (Ug N a _ j.o.arg).mono ?_;rintro l w4 ⟨rfl,rfl⟩)
 obtain ⟨Me,c,d,u⟩:=j.o.here;have k:=pp (py c (py d u));have m:=pp (I.o C Me d);have p0:=c.cell 0;clear c d u;go_wp2_with first
  | (go_at_call 89;refine m.o.mono ?_;rintro l v ⟨rfl,g,f,i⟩;replace i:=pp i)
  | (go_at_call 75;refine (Vt v.heap.size (.int 0) (v.alloc (.cells #[.iface 3 (int i64 0)] 20)) (Q0.new' rfl) (G.o _) H.o).mono ?_;rintro l w7 ⟨rfl,z⟩;have D:=pp (after (Q3 _ _) z);clear z)
 go_returns;exact ⟨rfl,g,f,Q6.ahead j.o.bel (Q6.on (Qq sh e s wd t f occ S' _) (QJ.turnq k.o.1 k.o.2.1 k.o.2.2 i.o) D.o)⟩
theorem bP (w0:World)(sh e s wd t q:Nat)(occ:Value)(S S':SS)(L:Option Lf)(n:Int)(F:0<=n/\n<100)(M:Nat->Prop)(N a:Nat)(w:World)(h:Cmd w0 sh e s wd t q occ S L M N a [] w)
  (A:∀W v,Qr e s wd t q occ S L W v->Calls prog 87 #[t] W λr w'=>r=.returned (.tuple #[int i64 n,int i64 0])/\Q6 (Qr e s wd t q occ S' L) W v w'):
  Calls prog 47 #[sh,a] w λr w'=>r=.returned (.string (Z4 [Q4 (Lib.itoa n),VB]))/\Q6 (QJ sh e s wd t q occ S' L) w0 M w':=by
 obtain ⟨Me,c,b,p⟩:=h.here;obtain ⟨e0,d,f⟩:=b.world;have j:=pp d;have l:=pp f;have m:=pp (py c (py b p));have G:=pp (A w Me b);have z:=pp h;have p0:=c.cell 0;have D:=pp (show ∀W,YP W n from λW=>⟨by unfold Zc;omega,.inl F⟩)
 have E:=pp (show sL (Q4 (Lib.itoa n))<=1000000 from pB (YC (n:=n) (by unfold Zc;omega)) (by decide))
 clear h A c b p d f;go_enter func47,ntmps47;go_wp2_with first
  | (go_at_call 74;refine (Ug N a _ z.o.arg).mono ?_;rintro i w4 ⟨rfl,rfl⟩)
  | (go_at_call 27;refine j.o.mono ?_;rintro i C ⟨rfl,rfl⟩)
  | (go_at_call 30;refine l.o.mono ?_;rintro i C ⟨rfl,rfl⟩)
  | (go_at_call 87;refine G.o.mono ?_;rintro i u ⟨rfl,k⟩;replace k:=pp k)
  | (go_at_call 75;refine (ER u.heap.size [.int n,.ok] (by simp) (by simp) (u.alloc (.cells #[.iface 3 (int i64 n),.iface 121 (int i64 0)] 20)) (Q0.new' rfl) (λx g=>by
    simp at g;rcases g with rfl|rfl
    ·exact D.o _
    ·trivial) (λx g=>by
    simp at g;rcases g with rfl|rfl
    ·exact E.o
    ·decide)).mono ?_;rintro i w7 ⟨rfl,y⟩;have B:=pp (after (Q3 _ _) y);clear y)
 go_returns;exact ⟨rfl,Q6.ahead z.o.bel (Q6.on (Qq sh e s wd t q occ S' L) (QJ.turn m.o.1 m.o.2.1 m.o.2.2 k.o) B.o)⟩
section
variable (sh e s wd t q:Nat)(occ:Value)(S S':SS)(L:Option Lf)(M:Nat->Prop)(w:World)(line:ByteArray)
theorem il (h:QJ sh e s wd t q occ S L w M)(hl:line.size<=1000)(d:QD line=[⟨#[115,97,118,101]⟩])
  (f:∀W c,Qr e s wd t q occ S L W c->Calls prog 90 #[e] W λr w'=>r=.returned (int i64 0)/\Q6 (Qr e s wd t q occ S' L) W c w'):
  Calls prog 9 #[sh,.string line] w λr w'=>r=.returned (.string VB)/\Q6 (QJ sh e s wd t q occ S' L) w M w':=by
 refine (UZ sh e s wd t q occ S L M w h line _ _ (by omega) d (by simp) 50 9 (λ_ _ _ _ _=>by kernel_rfl) (enters_of func50 (by kernel_rfl) rfl) (λA b=>A=QJ sh e s wd t q occ S' L/\b=VB) (λg N a i hb j=>?_)).mono ?_
 ·refine (ii g sh e s wd t q occ S S' L M N a i j f).mono ?_;rintro r w' ⟨rfl,k⟩;exact ⟨_,_,rfl,Qq sh e s wd t q occ _ _,⟨rfl,rfl⟩,k⟩
 ·rintro r w' ⟨A,b,rfl,-,⟨rfl,rfl⟩,k⟩;exact ⟨rfl,k⟩
theorem bQ (b:BD)(h:QJ sh e s wd t q occ S L w M)(s1:ByteArray)(hl:line.size<=1000)(i:QD line=[⟨#[99,114,97,115,104]⟩,s1])(m:NW s1 0)
  (l:∀W g,Qr e s wd t q occ S L W g->Calls prog 89 #[e,int i64 0] W λr w'=>r=.returned (int i64 0)/\∃d c,Q6 (Qr e s wd t c occ S' (some ⟨d,b,0,0,false⟩)) W g w'):
  Calls prog 9 #[sh,.string line] w λr w'=>r=.returned (.string (Q4 (Lib.itoa 0)))/\∃d c,Q6 (QJ sh e s wd t c occ S' (some ⟨d,b,0,0,false⟩)) w M w':=by
 refine (UZ sh e s wd t q occ S L M w h line _ _ (by omega) i (by simp) 49 8 (λ_ _ _ _ _=>by kernel_rfl) (enters_of func49 (by kernel_rfl) rfl) (λA f=>(∃d c,A=QJ sh e s wd t c occ S' (some ⟨d,b,0,0,false⟩))/\f=Q4 (Lib.itoa 0)) (λj N a n hb o=>?_)).mono ?_
 ·refine (bO j sh e s wd t q occ S S' L b M N a s1 m n o l).mono ?_;rintro r w' ⟨rfl,d,c,k⟩;exact ⟨_,_,rfl,Qq sh e s wd t c occ _ _,⟨⟨d,c,rfl⟩,rfl⟩,k⟩
 ·rintro r w' ⟨A,f,rfl,-,⟨⟨d,c,rfl⟩,rfl⟩,k⟩;exact ⟨rfl,d,c,k⟩
theorem bR (n:Int)(i:0<=n/\n<100)(h:QJ sh e s wd t q occ S L w M)(hl:line.size<=1000)(d:QD line=[⟨#[102,108,117,115,104,97,108,108]⟩])
  (f:∀W c,Qr e s wd t q occ S L W c->Calls prog 87 #[t] W λr w'=>r=.returned (.tuple #[n,int i64 0])/\Q6 (Qr e s wd t q occ S' L) W c w'):
  Calls prog 9 #[sh,.string line] w λr w'=>r=.returned (.string (Z4 [Q4 (Lib.itoa n),VB]))/\Q6 (QJ sh e s wd t q occ S' L) w M w':=by
 refine (UZ sh e s wd t q occ S L M w h line _ _ (by omega) d (by simp) 47 6 (λ_ _ _ _ _=>by kernel_rfl) (enters_of func47 (by kernel_rfl) rfl) (λA b=>A=QJ sh e s wd t q occ S' L/\b=Z4 [Q4 (Lib.itoa n),VB]) (λg N a j hb l=>?_)).mono ?_
 ·refine (bP g sh e s wd t q occ S S' L n i M N a j l f).mono ?_;rintro r w' ⟨rfl,k⟩;exact ⟨_,_,rfl,Qq sh e s wd t q occ _ _,⟨rfl,rfl⟩,k⟩
 ·rintro r w' ⟨A,b,rfl,-,⟨rfl,rfl⟩,k⟩;exact ⟨rfl,k⟩
end
end
section
open Go.RowKit Go.Maps
theorem Yz.cells {t:Nat}{w:World}{M:Nat->Prop}(h:Yz t T w M):∀i∈T.l,CellsOk i.cs:=λi f=>by
 obtain ⟨s,d,v,L,Ms,Mi,h,hM⟩:=h;rw [<-h.l] at f;obtain ⟨⟨a,j⟩,g,rfl⟩:=List.mem_map.1 f;obtain ⟨M',e,-⟩:=UA h.its g;obtain ⟨c,Mc,-,b,-⟩:=e;obtain ⟨v,R,-,-,-,-,ok,-⟩:=b;exact ok
theorem Qr.cells {w:World}{M:Nat->Prop}{e s wd t q:Nat}{occ:Value}{S:SS}{L:Option Lf}(h:Qr e s wd t q occ S L w M):∀i∈S.T.l,CellsOk i.cs:=by
 obtain ⟨Mt,a,-⟩:=h.table;exact a.cells
theorem QJ.cells {w:World}{M:Nat->Prop}{sh e s wd t q:Nat}{occ:Value}{S:SS}{L:Option Lf}(h:QJ sh e s wd t q occ S L w M):∀i∈S.T.l,CellsOk i.cs:=by
 obtain ⟨Me,-,a,-⟩:=h;exact a.cells
noncomputable def SS.re (S:SS)(sd:Int)(cs:List Int)(D:DS)(t0:Int)(l:List QI)(k:Nat):SS:=⟨Tk sd cs D k,S.k,{ E3 4096 with l:=YA l [] },S.budget,t0,S.d⟩
theorem im {S:SS}{a:TS}{sd:Int}{cs:List Int}{D:DS}{t0:Int}{l:List QI}(c:a.seed=sd)(b:a.lim=9)(e:D.crash 0=(D,0)):({ S with T:= { a with d:=D } } :SS).fell t0 l=S.re sd cs D t0 l 0:=by
 unfold SS.fell SS.back SS.re Tk;dsimp only;rw [e,c,b];rfl
theorem nz {S:SS}{f:Cl->Int}{l:List QI}{t0:Int}{K:Nat}{sd:Int}{cs:List Int}{D:DS}(h:Sx S f l t0 K)(a:GoodT (Tk sd cs D 5))(b:(Tk sd cs D 5).cell=f):Sx (S.re sd cs D t0 l 5) f l t0 K:=
 ⟨a,rfl,Ot sd cs D,b,SB h.sort h.dist,(by show (E3 4096).room=4096;decide),rfl,h.k,h.d,h.bud,h.sort,h.dist⟩
theorem nA (sd:Int):Sx (S5 sd) (T5 sd).cell [] 0 0:=
 ⟨(
  dj sd).good,rfl,λp=>by
  have e:(S5 sd).T.here=[(0,0),(1,0),(-1,0),(0,1),(0,-1)]:=rfl;rw [e];unfold YK;simp
  try (constructor<;>(intro h;rcases h with h|h|h|h|h<;>simp [h])),rfl,rfl,by show (E3 4096).room=4096;decide,rfl,pA _,pA _,rfl,List.Pairwise.nil,List.Pairwise.nil⟩
theorem Mz {sd:Int}{i:TI}(h:i∈(T5 sd).l):i=QP sd i.x i.z:=by
 unfold T5 at h;simp only [List.mem_cons,List.not_mem_nil,or_false] at h;rcases h with rfl|rfl|rfl|rfl|rfl<;>rfl
theorem bS (sd:Int):Fresh sd (S5 sd).T:=⟨rfl,rfl,rfl,λi a _=>Mz a,λi a b=>by
 have e:=Mz a;rw [show i.x=0 from congrArg Prod.fst b,show i.z=0 from congrArg Prod.snd b] at e;exact ⟨by rw [e];rfl,λ_=>e⟩⟩
theorem lG (sd:Int):SInv (T5 sd).cell 0 [] []:=bI (bH λ_ a=>Mz a)
def FC (g:Cl->Int)(c:Cl):Int:=if (decide (15<=c.2.1)&&(decide (0<=c.1)&&decide (c.1<16))&&(decide (0<=c.2.2)&&decide (c.2.2<16)))=true then 0 else g c
theorem Ox (sd:Int):(T5 sd).cell=FC (T5 sd).cell:=by
 funext c;unfold FC;split
 ·rename_i h;simp only [Bool.and_eq_true,decide_eq_true_eq] at h;unfold TS.cell TS.at Xa;rw [show c.1 / 16=0 by omega,show c.2.2 / 16=0 by omega]
  have e:(T5 sd).l.find? (TI.is (0,0))=some (QP sd 0 0):=rfl;rw [e];exact LI sd 0 0 _ _ _ (by omega)
 ·rfl
abbrev A9:BD:=ZP 524288 1048576 524288 40000 100000 false
theorem nC:BOk 1200000 A9:=by constructor<;>decide
theorem lH:Qw A9=(504288,1048576,504288,544288,1148576,544288):=by decide
theorem io (g:Cl->Int):((Qz 504288 1048576 504288 544288 1148576 544288).any λc=>Zh (FC g c))=false:=by kernel_rfl
theorem ip (g:Cl->Int):((Qz 504288 (Qe (1048576 - 1)) 504288 544288 1048576 544288).any λc=>Zh (FC g c))=false:=by kernel_rfl
theorem bT (sd:Int)(e s wd t q:Nat)(W:World)(M:Nat->Prop)(c:Qr e s wd t q Xb (S5 sd) none W M):
  Calls prog 92 #[e,.agg #[int i64 524288,int i64 1048576,int i64 524288],int i64 40000,int i64 100000] W λr w'=>r=.returned (.tuple #[int i64 0,int i64 0])/\(∃a,Q6 (Qr e s wd t q Xb (S5 sd) (some ⟨a,A9,0,0,false⟩)) W M w')/\Kept (λb=>b≠e) W w':=
 aO e s wd t q Xb (S5 sd) 524288 1048576 524288 40000 100000 false (504288,1048576,504288,544288,1148576,544288) (by decide) (by decide) (by decide) ((dj sd).ready (x:=Qm 524288) (z:=Qm 524288) (by decide) (by decide)) (by decide) (by decide) (by show (T5 sd).l.length<=1000;rw [show (T5 sd).l.length=5 from rfl];decide)
  (by constructor<;>decide) (by constructor<;>decide) (by decide) (by decide) (by rw [show (S5 sd).T.cell=FC (T5 sd).cell from Ox sd];exact io _) (by rw [show (S5 sd).T.cell=FC (T5 sd).cell from Ox sd];exact ip _) W M c
theorem iq {c:Cl}(hy:18<=c.2.1)(h31:c.2.1<=31):CH A9 c=false:=by
 unfold CH;rw [lH];have e:∀n:Int,3<=n->n<=31->Xu n=n * 65536/\Q9 (Xu n) 65536=n * 65536+65536:=λn h1 h2=>by
  unfold Xu Q9 Qe;omega
 have b:=e c.2.1 (by omega) (by omega)
 unfold OP;rw [b.1];have a:Hc 1048576 1148576 (c.2.1 * 65536) (Q9 (c.2.1 * 65536) 65536)=false:=by
  unfold Hc;simp;omega
 rw [a,Bool.and_false,Bool.false_and]
def P0 (sd:Int):PW:=⟨(T5 sd).cell,[],0,A9⟩
theorem nD (sd:Int):(P0 sd).Ok 0:=⟨lG sd,by show (0:Int)<=28+96 * 0;decide,by show BOk (1200000+262144 * 0) A9;exact nC,by show (0:Int)<=100+16 * 0;decide,λx a=>by cases a⟩
end
section
open Go.RowKit Go.Maps
attribute [local go_sem] Oper.semAt_some
abbrev jA (j:Bool):ByteArray:=if j then ⟨#[49]⟩ else ⟨#[48]⟩
theorem MY (w0:World)(sh e s wd t q:Nat)(occ:Value)(S:SS)(l:Lf)(M:Nat->Prop)(N a:Nat)(s1 s2 s3:ByteArray)(x z:Int)(h1:NW s1 0)(h2:NW s2 x)(h3:NW s3 z)(w:World)
  (h:Cmd w0 sh e s wd t q occ S (some l) M N a [s1,s2,s3,⟨#[48]⟩] w):
  Calls prog 53 #[sh,a] w λr w'=>r=.returned (.string (Q4 [111,107]))/\Q6 (QJ sh e s wd t q occ S (some (l.say x z false))) w0 M w':=by
 have HC:=pp h;have X:=pp (py h1 (py h2 h3));clear h h1 h2 h3;go_enter func53,ntmps53;go_upto_region 2 with (go_at_call 73;refine (Zk N a s1 0 X.o.1 _ _ HC.o.arg).mono ?_;rintro y w1 ⟨rfl,a1,k1⟩;have C1:=pp (HC.o.eat a1 k1);clear a1 k1)
 go_upto_region 3 with (go_at_call 73;refine (Zk N a s2 x X.o.2.1 _ _ C1.o.arg).mono ?_;rintro y A ⟨rfl,a2,k2⟩;have u:=pp (C1.o.eat a2 k2);clear a2 k2)
 obtain ⟨W2,j⟩:=pt (A.alloc (.cells #[int i64 x,int i64 0,.bool false] 81));have v:Below A.heap.size A W2:=by rw [j];exact Q3 _ _
 have B2:=pp (Q0.fresh j);have C3:=pp (show Cmd w0 sh e s wd t q occ S (some l) M N a [s3,⟨#[48]⟩] W2 from ⟨u.o.sh,u.o.new,after u.o.bel v,u.o.arg.on v⟩);rw [<-j];have E:w0.heap.size<=A.heap.size:=u.o.bel.size;have G:A.heap.size≠a:=by have:=u.o.arg.le;omega
 have C:N<=A.heap.size:=by have:=u.o.arg.le;omega
 generalize A.heap.size=g at *;have B:=pp (py E (py G C));clear j v E G C;go_upto_region 4 with (go_at_call 73;refine (Zk N a s3 z X.o.2.2 _ _ C3.o.arg).mono ?_;rintro y w3 ⟨rfl,a3,Q⟩;have I:=pp (C3.o.eat a3 Q);have n:=Q.blk B.o.2.1 B2.o;have B3:=pp n;obtain ⟨U,r1,r2,f0,T,Z⟩:=n.c3;clear a3 Q n)
 obtain ⟨O,c⟩:=pt (w3.setCell ⟨g,1,none⟩ (int i64 z));have F:Q0 O g 81 #[int i64 x,int i64 z,.bool false]:=by rw [c];exact B3.o.set_ 1 _
 have B4:=pp F;have i:Below N w3 O:=by rw [c];exact (pI _ _).setCell (p:=⟨g,1,none⟩) B.o.2.2 _
 have f:Below w0.heap.size w3 O:=by rw [c];exact (pI _ _).setCell (p:=⟨g,1,none⟩) B.o.1 _
 have C5:=pp (show Cmd w0 sh e s wd t q occ S (some l) M N a [⟨#[48]⟩] O from ⟨I.o.sh,I.o.new,I.o.bel.trans f,I.o.arg.bel i⟩);rw [<-c];clear c F i f U r1 r2 f0 T Z;go_upto_region 6 with first
  | (go_at_call 24;refine (EL N a _ _ _ C5.o.arg).mono ?_;rintro y w5 ⟨rfl,a5,V⟩;have L:=pp (C5.o.eat a5 V);have k:=V.blk B.o.2.1 B4.o;have B5:=pp k;obtain ⟨U,r1,r2,f0,T,Z⟩:=k.c3;clear a5 V k)
  | (go_at_call 25;refine (AH _).mono ?_;rintro y w6 ⟨rfl,rfl⟩)
 go_upto_region 7 with fail
 obtain ⟨J,b⟩:=pt (w5.setCell ⟨g,2,none⟩ (.bool false));have H:Q0 J g 81 #[int i64 x,int i64 z,.bool false]:=by rw [b];exact B5.o.set_ 2 _
 have B6:=pp H;have i:Below N w5 J:=by rw [b];exact (pI _ _).setCell (p:=⟨g,2,none⟩) B.o.2.2 _
 have f:Below w0.heap.size w5 J:=by rw [b];exact (pI _ _).setCell (p:=⟨g,2,none⟩) B.o.1 _
 have C7:=pp (show Cmd w0 sh e s wd t q occ S (some l) M N a [] J from ⟨L.o.sh,L.o.new,L.o.bel.trans f,L.o.arg.bel i⟩);rw [<-b];clear b H i f U r1 r2 f0 T Z;go_upto_region 8 with (go_at_call 74;refine (Ug N a _ C7.o.arg).mono ?_;rintro y w7 ⟨rfl,rfl⟩)
 obtain ⟨Me,m,D,hM⟩:=C7.o.here;have c0:=λd os=>(B6.o.re d os).cell 0
 have c1:=λd os=>(B6.o.re d os).cell 1
 have c2:=λd os=>(B6.o.re d os).cell 2
 have p0:=λd os=>(m.re d os).cell 0
 have P:=pp (py m (py D hM));clear m D hM;refine Qk [0,0,0,0,0,0,3,3,3,3,3] (λ_ _ _=>True) (by kernel_rfl) (by kernel_rfl) (λ_ _ _ _ h _=>h) ?_
 repeat (first|(refine Qi ?_)|(refine Qf (λK hK=>?_);go_simp;refine hK _ ?_;clear hK K))
 refine Q8 ?_;repeat (refine Q2 ?_)
 refine Qc ?_;simp only [Qd];intro W8 g8 _;have Y:=pp g8;have W:=pp (Oc e s wd t q occ S l x z false W8 Me ((YB e s wd t q occ S (some l)).on P.o.2.1 g8));clear g8 c0 c1 c2 p0;go_wp2_with first
  | (go_at_call 95;refine W.o.mono ?_;rintro y w6 ⟨rfl,R⟩;replace R:=pp R)
  | (go_at_call 75;refine (Vt w6.heap.size .ok (w6.alloc (.cells #[.iface 121 (int i64 0)] 20)) (Q0.new' rfl) trivial (by decide)).mono ?_;rintro y w7 ⟨rfl,g7⟩;have G7:=pp (after (Q3 _ _) g7);clear g7)
 go_returns;refine ⟨rfl,Q6.ahead (after C7.o.bel Y.o) (Q6.on (Qq sh e s wd t q occ S _) (QJ.turn (P.o.1.on Y.o) ((YB e s wd t q occ S _).on P.o.2.1 Y.o) P.o.2.2 R.o) G7.o)⟩
theorem Pz (w0:World)(sh e s wd t q:Nat)(occ:Value)(S:SS)(l:Lf)(M:Nat->Prop)(N a:Nat)(s1 s2 s3:ByteArray)(x z:Int)(h1:NW s1 0)(h2:NW s2 x)(h3:NW s3 z)(w:World)
  (h:Cmd w0 sh e s wd t q occ S (some l) M N a [s1,s2,s3,⟨#[49]⟩] w):
  Calls prog 53 #[sh,a] w λr w'=>r=.returned (.string (Q4 [111,107]))/\Q6 (QJ sh e s wd t q occ S (some (l.say x z true))) w0 M w':=by
 have HC:=pp h;have X:=pp (py h1 (py h2 h3));clear h h1 h2 h3;go_enter func53,ntmps53;go_upto_region 2 with (go_at_call 73;refine (Zk N a s1 0 X.o.1 _ _ HC.o.arg).mono ?_;rintro y w1 ⟨rfl,a1,k1⟩;have C1:=pp (HC.o.eat a1 k1);clear a1 k1)
 go_upto_region 3 with (go_at_call 73;refine (Zk N a s2 x X.o.2.1 _ _ C1.o.arg).mono ?_;rintro y A ⟨rfl,a2,k2⟩;have u:=pp (C1.o.eat a2 k2);clear a2 k2)
 obtain ⟨W2,j⟩:=pt (A.alloc (.cells #[int i64 x,int i64 0,.bool false] 81));have v:Below A.heap.size A W2:=by rw [j];exact Q3 _ _
 have B2:=pp (Q0.fresh j);have C3:=pp (show Cmd w0 sh e s wd t q occ S (some l) M N a [s3,⟨#[49]⟩] W2 from ⟨u.o.sh,u.o.new,after u.o.bel v,u.o.arg.on v⟩);rw [<-j];have E:w0.heap.size<=A.heap.size:=u.o.bel.size;have G:A.heap.size≠a:=by have:=u.o.arg.le;omega
 have C:N<=A.heap.size:=by have:=u.o.arg.le;omega
 generalize A.heap.size=g at *;have B:=pp (py E (py G C));clear j v E G C;go_upto_region 4 with (go_at_call 73;refine (Zk N a s3 z X.o.2.2 _ _ C3.o.arg).mono ?_;rintro y w3 ⟨rfl,a3,Q⟩;have I:=pp (C3.o.eat a3 Q);have n:=Q.blk B.o.2.1 B2.o;have B3:=pp n;obtain ⟨U,r1,r2,f0,T,Z⟩:=n.c3;clear a3 Q n)
 obtain ⟨O,c⟩:=pt (w3.setCell ⟨g,1,none⟩ (int i64 z));have F:Q0 O g 81 #[int i64 x,int i64 z,.bool false]:=by rw [c];exact B3.o.set_ 1 _
 have B4:=pp F;have i:Below N w3 O:=by rw [c];exact (pI _ _).setCell (p:=⟨g,1,none⟩) B.o.2.2 _
 have f:Below w0.heap.size w3 O:=by rw [c];exact (pI _ _).setCell (p:=⟨g,1,none⟩) B.o.1 _
 have C5:=pp (show Cmd w0 sh e s wd t q occ S (some l) M N a [⟨#[49]⟩] O from ⟨I.o.sh,I.o.new,I.o.bel.trans f,I.o.arg.bel i⟩);rw [<-c];clear c F i f U r1 r2 f0 T Z;go_upto_region 6 with first
  | (go_at_call 24;refine (EL N a _ _ _ C5.o.arg).mono ?_;rintro y w5 ⟨rfl,a5,V⟩;have L:=pp (C5.o.eat a5 V);have k:=V.blk B.o.2.1 B4.o;have B5:=pp k;obtain ⟨U,r1,r2,f0,T,Z⟩:=k.c3;clear a5 V k)
  | (go_at_call 25;refine (AH _).mono ?_;rintro y w6 ⟨rfl,rfl⟩)
 go_upto_region 7 with fail
 obtain ⟨J,b⟩:=pt (w5.setCell ⟨g,2,none⟩ (.bool true));have H:Q0 J g 81 #[int i64 x,int i64 z,.bool true]:=by rw [b];exact B5.o.set_ 2 _
 have B6:=pp H;have i:Below N w5 J:=by rw [b];exact (pI _ _).setCell (p:=⟨g,2,none⟩) B.o.2.2 _
 have f:Below w0.heap.size w5 J:=by rw [b];exact (pI _ _).setCell (p:=⟨g,2,none⟩) B.o.1 _
 have C7:=pp (show Cmd w0 sh e s wd t q occ S (some l) M N a [] J from ⟨L.o.sh,L.o.new,L.o.bel.trans f,L.o.arg.bel i⟩);rw [<-b];clear b H i f U r1 r2 f0 T Z;go_upto_region 8 with (go_at_call 74;refine (Ug N a _ C7.o.arg).mono ?_;rintro y w7 ⟨rfl,rfl⟩)
 obtain ⟨Me,m,D,hM⟩:=C7.o.here;have c0:=λd os=>(B6.o.re d os).cell 0
 have c1:=λd os=>(B6.o.re d os).cell 1
 have c2:=λd os=>(B6.o.re d os).cell 2
 have p0:=λd os=>(m.re d os).cell 0
 have P:=pp (py m (py D hM));clear m D hM;refine Qk [0,0,0,0,0,0,3,3,3,3,3] (λ_ _ _=>True) (by kernel_rfl) (by kernel_rfl) (λ_ _ _ _ h _=>h) ?_
 repeat (first|(refine Qi ?_)|(refine Qf (λK hK=>?_);go_simp;refine hK _ ?_;clear hK K))
 refine Q8 ?_;repeat (refine Q2 ?_)
 refine Qc ?_;simp only [Qd];intro W8 g8 _;have Y:=pp g8;have W:=pp (Oc e s wd t q occ S l x z true W8 Me ((YB e s wd t q occ S (some l)).on P.o.2.1 g8));clear g8 c0 c1 c2 p0;go_wp2_with first
  | (go_at_call 95;refine W.o.mono ?_;rintro y w6 ⟨rfl,R⟩;replace R:=pp R)
  | (go_at_call 75;refine (Vt w6.heap.size .ok (w6.alloc (.cells #[.iface 121 (int i64 0)] 20)) (Q0.new' rfl) trivial (by decide)).mono ?_;rintro y w7 ⟨rfl,g7⟩;have G7:=pp (after (Q3 _ _) g7);clear g7)
 go_returns;refine ⟨rfl,Q6.ahead (after C7.o.bel Y.o) (Q6.on (Qq sh e s wd t q occ S _) (QJ.turn (P.o.1.on Y.o) ((YB e s wd t q occ S _).on P.o.2.1 Y.o) P.o.2.2 R.o) G7.o)⟩
theorem ir (w0:World)(sh e s wd t q:Nat)(occ:Value)(S:SS)(l:Lf)(M:Nat->Prop)(N a:Nat)(s1 s2 s3:ByteArray)(x z:Int)(j:Bool)(d:NW s1 0)(b:NW s2 x)(c:NW s3 z)(w:World)
  (h:Cmd w0 sh e s wd t q occ S (some l) M N a [s1,s2,s3,jA j] w):
  Calls prog 53 #[sh,a] w λr w'=>r=.returned (.string (Q4 [111,107]))/\Q6 (QJ sh e s wd t q occ S (some (l.say x z j))) w0 M w':=by
 cases j
 ·exact MY w0 sh e s wd t q occ S l M N a s1 s2 s3 x z d b c w h
 ·exact Pz w0 sh e s wd t q occ S l M N a s1 s2 s3 x z d b c w h
theorem iu (sh e s wd t q:Nat)(occ:Value)(S:SS)(M:Nat->Prop)(w:World)(line:ByteArray)(l:Lf)(h:QJ sh e s wd t q occ S (some l) w M)(s1 s2 s3:ByteArray)(x z:Int)(j:Bool)(hl:line.size<=1000)(i:QD line=[⟨#[116,101,108,108]⟩,s1,s2,s3,jA j])(f:NW s1 0)(d:NW s2 x)(m:NW s3 z):
  Calls prog 9 #[sh,.string line] w λr w'=>r=.returned (.string VB)/\Q6 (QJ sh e s wd t q occ S (some (l.say x z j))) w M w':=by
 refine (UZ sh e s wd t q occ S (some l) M w h line _ _ (by omega) i (by simp) 53 12 (λ_ _ _ _ _=>by kernel_rfl) (enters_of func53 (by kernel_rfl) rfl) (λA b=>A=QJ sh e s wd t q occ S (some (l.say x z j))/\b=VB) (λc N a n _ g=>?_)).mono ?_
 ·refine (ir c sh e s wd t q occ S l M N a s1 s2 s3 x z j f d m n g).mono ?_;rintro r w' ⟨rfl,k⟩;exact ⟨_,_,rfl,Qq sh e s wd t q occ _ _,⟨rfl,rfl⟩,k⟩
 ·rintro r w' ⟨A,b,rfl,-,⟨rfl,rfl⟩,k⟩;exact ⟨rfl,k⟩
end
section
open Go.RowKit Go.Maps
abbrev Vn:ByteArray:=⟨#[116,101,108,108,32,48,32]⟩
abbrev ZB:ByteArray:=⟨#[101,100,105,116,32]⟩
abbrev CM:ByteArray:=⟨#[32]⟩
abbrev jL (j:Bool):List UInt8:=if j then [49] else [48]
theorem nE (j:Bool):A8 (jL j):=by cases j<;>exact ⟨by decide,by decide⟩
theorem GP:A8 [116,101,108,108]/\A8 [48]/\A8 [101,100,105,116]:=⟨⟨by decide,by decide⟩,⟨by decide,by decide⟩,⟨by decide,by decide⟩⟩
section
variable {x y z:Int}
theorem PA (b: -100000000<x/\x<100000000)(c: -100000000<z/\z<100000000)(j:Bool):QD (((Vn++Q4 (XW [x,z]))++CM)++jA j)=[⟨#[116,101,108,108]⟩,⟨#[48]⟩,Q4 (Lib.itoa x),Q4 (Lib.itoa z),jA j]:=by
 have e:((Vn++Q4 (XW [x,z]))++CM)++jA j=Q4 (Xt [[116,101,108,108],[48],Lib.itoa x,Lib.itoa z,jL j]):=by
  rw [show Vn=Q4 [116,101,108,108,32,48,32] from rfl,show CM=Q4 [32] from rfl,show jA j=Q4 (jL j) by cases j<;>rfl,<-Z9,<-Z9,<-Z9]
  simp [XW,Xt]
 rw [e,Ei (by simp)]
 ·cases j<;>rfl
 ·intro w a;simp only [List.mem_cons,List.not_mem_nil,or_false] at a;rcases a with rfl|rfl|rfl|rfl|rfl
  ·exact GP.1
  ·exact GP.2.1
  ·exact (YE b.1 b.2).2.1
  ·exact (YE c.1 c.2).2.1
  ·exact nE j
theorem PB (d: -100000000<x/\x<100000000)(c: -100000000<y/\y<100000000)(f: -100000000<z/\z<100000000){b:Int}(g:A8 (XK b)):QD (((ZB++Q4 (XW [x,y,z]))++CM)++Q4 (XK b))=[⟨#[101,100,105,116]⟩,Q4 (Lib.itoa x),Q4 (Lib.itoa y),Q4 (Lib.itoa z),Q4 (XK b)]:=by
 have e:((ZB++Q4 (XW [x,y,z]))++CM)++Q4 (XK b)=Q4 (Xt [[101,100,105,116],Lib.itoa x,Lib.itoa y,Lib.itoa z,XK b]):=by
  rw [show ZB=Q4 [101,100,105,116,32] from rfl,show CM=Q4 [32] from rfl,<-Z9,<-Z9,<-Z9];simp [XW,Xt]
 rw [e,Ei (by simp)]
 ·rfl
 ·intro w a;simp only [List.mem_cons,List.not_mem_nil,or_false] at a;rcases a with rfl|rfl|rfl|rfl|rfl
  ·exact GP.2.2
  ·exact (YE d.1 d.2).2.1
  ·exact (YE c.1 c.2).2.1
  ·exact (YE f.1 f.2).2.1
  ·exact g
end
def VC (sh e s wd t:Nat)(p:PW)(K:Nat)(x z:Int)(j:Bool)(fr:Option Int):QK:=λw M=>∃(occ:Value) (S:SS) (q la:Nat),Sx S p.f p.l p.t K/\p.Ok K/\(∀sd,fr=some sd->Fresh sd S.T)/\QJ sh e s wd t q occ S (some ⟨la,p.b,x,z,j⟩) w M
theorem ZW (sh e s wd t:Nat)(p:PW)(K:Nat)(x z:Int)(j:Bool)(fr:Option Int):QK.Fit 5 (VC sh e s wd t p K x z j fr) where
 lt:=λ⟨occ,S,q,_,_,_,_,h⟩=>(Qq sh e s wd t q occ S _).lt h
 nob:=λ⟨occ,S,q,_,_,_,_,h⟩=>(Qq sh e s wd t q occ S _).nob h
 kept:=λ⟨occ,S,q,c,i,b,d,h⟩ f a g=>⟨occ,S,q,c,i,b,d,(Qq sh e s wd t q occ S _).kept h f a g⟩
def PW.set (p:PW)(c:Cl):PW:=⟨(Yf p.t (p.f,p.l) c 3).1,(Yf p.t (p.f,p.l) c 3).2,p.t,p.b⟩
def PW.run (p:PW)(x z:Int)(j:Bool):Nat->PW
 | 0=>p
 | n+1=>(p.run x z j n).tick x z j
def PW.sum (p:PW)(x z:Int)(j:Bool):Nat->Int
 | 0=>0
 | n+1=>p.sum x z j n+(p.run x z j n).due
theorem lI (p:PW):0<=p.due/\p.due<=8:=by
 unfold PW.due Xr;omega
theorem Tl (p:PW)(x z:Int)(j:Bool):∀n:Nat,0<=p.sum x z j n/\p.sum x z j n<=8 * n
 | 0=>by simp [PW.sum]
 | n+1=>by
  have h1:=Tl p x z j n;have h2:=lI (p.run x z j n);simp only [PW.sum];omega
theorem Is (p:PW)(x z:Int)(j:Bool):∀n:Nat,(p.run x z j n).t=p.t+n
 | 0=>by simp [PW.run]
 | n+1=>by
  have h1:=Is p x z j n;show (p.run x z j n).t+1=_;omega
theorem Tm (e s wd tb q:Nat)(x z:Int)(j:Bool)(a:Nat){S:SS}{p:PW}{K:Nat}(h:Sx S p.f p.l p.t K)(g:p.Ok K):∀n:Nat,p.t+n<=20->
  ∃st:Nat->SS,st 0=S/\Sx (st n) (p.run x z j n).f (p.run x z j n).l (p.run x z j n).t (K+16 * n)/\(p.run x z j n).Ok (K+16 * n)/\(∀seed,Fresh seed S.T->Fresh seed (st n).T)/\
   ∀i,i<n->∀occ W M,Qr e s wd tb q occ (st i) (some ⟨a,(p.run x z j i).b,x,z,j⟩) W M->Calls prog 105 #[e] W λr w'=>r=.returned (int i64 (p.run x z j i).due)/\Q6 (Qr e s wd tb q (XS e) (st (i+1)) (some ⟨a,(p.run x z j (i+1)).b,x,z,j⟩)) W M w'
 | 0,_=>⟨λ_=>S,rfl,h,g,λ_ d=>d,λi u=>by omega⟩
 | n+1,hn=>by
  obtain ⟨st,z0,z1,k,z3,z4⟩:=Tm e s wd tb q x z j a h g n (by omega)
  obtain ⟨S',y1,v,m,o⟩:=ie e s wd tb q (p:=p.run x z j n) ⟨a,(p.run x z j n).b,x,z,j⟩ rfl z1 k (by rw [Is];omega)
  refine ⟨λi=>if i<=n then st i else S',by simp [z0],?_,?_,λseed d=>?_,λi u=>?_⟩
  ·dsimp only;rw [if_neg (by omega),show K+16 * (n+1)=K+16 * n+16 by omega];exact y1
  ·rw [show K+16 * (n+1)=K+16 * n+16 by omega];exact v
  ·dsimp only;rw [if_neg (by omega)];exact m seed (z3 seed d)
  ·rcases Nat.lt_or_ge i n with c|hge
   ·dsimp only;rw [if_pos (by omega),if_pos (by omega)]
    exact z4 i c
   ·obtain rfl:i=n:=by omega
    dsimp only;rw [if_pos (pA _),if_neg (by omega)]
    exact o
section
variable {sh e s wd t K:Nat}{p:PW}{x z:Int}{j:Bool}{fr:Option Int}{w:World}{M:Nat->Prop}{line:ByteArray}
theorem Oy (h:VC sh e s wd t p K x z j fr w M)(n:Nat)(hn:1<=n/\n<=10)(ht:p.t+n<=20)(s1:ByteArray)(m:line.size<=1000)(l:QD line=[⟨#[116,105,99,107]⟩,s1])(A:NW s1 n):
  Calls prog 9 #[sh,.string line] w λr w'=>r=.returned (.string (Z4 [Q4 (Lib.itoa (p.sum x z j n)),Q4 (Lib.itoa (p.t+n))]))/\Q6 (VC sh e s wd t (p.run x z j n) (K+16 * n) x z j fr) w M w':=by
 obtain ⟨occ,S,q,c,y,f,C,B⟩:=h;obtain ⟨st,z0,z1,v,z3,z4⟩:=Tm e s wd t q x z j c y f n ht;have a:(st n).now=p.t+n:=by rw [z1.now,Is]
 have ht0:=f.inv.t20;refine (gU sh e s wd t q M w line n (by omega) (λi=>if i=0 then occ else XS e) st (λi=>some ⟨c,(p.run x z j i).b,x,z,j⟩) (p.sum x z j) (λi=>(p.run x z j i).due) rfl (λi _=>rfl) (λi d=>by have:=Tl p x z j i;omega) (by rw [a];omega) (show QJ sh e s wd t q (if (0:Nat)=0 then occ else XS e) (st 0) (some ⟨c,p.b,x,z,j⟩) w M by rw [z0,if_pos rfl];exact B) s1 m l A (λi d W u g=>?_)).mono ?_
 ·have:=z4 i d _ W u g;simpa using this
 ·rintro r w' ⟨rfl,k⟩;rw [a];refine ⟨rfl,k.mono λM' g=>⟨_,st n,q,c,z1,v,λsd o=>z3 sd (C sd o),g⟩⟩
theorem PW.Ok.sm (h:p.Ok K):Zc p.b.1/\Zc p.b.2.1/\Zc p.b.2.2.1/\Zc p.b.2.2.2.1/\Zc p.b.2.2.2.2.1/\Zc p.b.2.2.2.2.2.1:=by
 have ht:=h.inv.t20;obtain ⟨h1,h2,h3,h4,h5,h6,-,-⟩:=h.bod;unfold Zc;omega
theorem iw (h:VC sh e s wd t p K x z j fr w M)(v:Vz w)(s1:ByteArray)(l:line.size<=1000)(d:QD line=[⟨#[98,111,100,121]⟩,s1])(y:NW s1 0):
  Calls prog 9 #[sh,.string line] w λr w'=>r=.returned (.string (Fs p.b.1 p.b.2.1 p.b.2.2.1 p.b.2.2.2.1 p.b.2.2.2.2.1 p.b.2.2.2.2.2.1 p.b.2.2.2.2.2.2.2.2))/\Q6 (VC sh e s wd t p K x z j fr) w M w':=by
 obtain ⟨occ,S,q,a,o,c,C,B⟩:=h;obtain ⟨u,A,m,n,i,f⟩:=c.sm;refine (gT sh e s wd t q occ S M w line ⟨a,p.b,x,z,j⟩ B s1 l d y v u A m n i f).mono ?_;rintro r w' ⟨rfl,k⟩;exact ⟨rfl,k.mono λM' g=>⟨occ,S,q,a,o,c,C,g⟩⟩
theorem iA (h:VC sh e s wd t p K x z j fr w M)(G:p.b=A9)(ht:p.t=0)(m:Nat)(hm:m<=3/\(p.l.length:Int)<=7 * m/\K<=m)(o a d:Int)(X:(3<=o/\o<=12)/\(3<=d/\d<=12))(A:18<=a/\a<=31)(s1 s2 s3:ByteArray)(T:line.size<=1000)(R:QD line=[⟨#[101,100,105,116]⟩,s1,s2,s3,Q4 (XK 3)])(L:NW s1 o)(I:NW s2 a)(U:NW s3 d):
  Calls prog 9 #[sh,.string line] w λr w'=>r=.returned (.string VB)/\Q6 (VC sh e s wd t (p.set (o,a,d)) (K+1) x z j fr) w M w'/\((p.set (o,a,d)).l.length:Int)<=7 * (m+1):=by
 obtain ⟨occ,S,q,H,v,y,Q,O⟩:=h;have hK:=y.k;obtain ⟨n,i,D⟩:=v.can (c:=(o,a,d)) (b:=3) (by dsimp only;omega) (by simp [Yp];omega) (by decide)
 have F:=v.edit D;have E:S.Ok 1:=v.ok (N:=1) (by omega) (by omega) (by omega)
 have u:((p.set (o,a,d)).l.length:Int)<=7 * (m+1):=by
  have:=Mf p.t (o,a,d) 3 (p:=(p.f,p.l)) v.dist;unfold PW.set;dsimp only at this ⊢;omega
 refine (gS sh e s wd t q occ S M w line (some ⟨H,p.b,x,z,j⟩) (S.edit (o,a,d) n i 3) O s1 s2 s3 o a d 3 T R L I U (by decide) (λW J g=>fV e s wd t q occ S _ _ (o,a,d) 3 (λl' C=>by obtain rfl:=pE C;show p.b.2.2.2.2.2.2.1<=_;rw [G];decide) (λ_=>by show CH p.b _=false;rw [G];exact iq A.1 A.2) W J g λP V g2=>LL s wd t q n 0 occ S i (o,a,d) 3 (by unfold UD;dsimp only;omega) E D P V g2)).mono ?_
 rintro r w' ⟨rfl,k⟩;refine ⟨rfl,k.mono λM' g=>⟨occ,_,q,H,F,⟨?_,?_,y.bod,?_,AO.edit (p:=(p.f,p.l)) y.tk (by omega) _ _⟩,λsd B=>(Q sd B).put v.good D (by dsimp only;omega),g⟩,u⟩
 ·have:=y.inv;rw [ht] at this;show SInv (Yf p.t (p.f,p.l) (o,a,d) 3).1 p.t (Yf p.t (p.f,p.l) (o,a,d) 3).2 [];rw [ht];exact this.edit (by exact X) A.1 A.2
 ·show ((p.set (o,a,d)).l.length:Int)<=28+96 * p.t;omega
 ·show ((K+1:Nat):Int)<=100+16 * p.t;omega
theorem Oz (h:VC sh e s wd t p K x z j fr w M)(s1 s2 s3:ByteArray)(d c:Int)(a:Bool)(l:line.size<=1000)(i:QD line=[⟨#[116,101,108,108]⟩,s1,s2,s3,jA a])(u:NW s1 0)(m:NW s2 d)(n:NW s3 c):
  Calls prog 9 #[sh,.string line] w λr w'=>r=.returned (.string VB)/\Q6 (VC sh e s wd t p K d c a fr) w M w':=by
 obtain ⟨occ,S,q,f,o,v,A,y⟩:=h;refine (iu sh e s wd t q occ S M w line ⟨f,p.b,x,z,j⟩ y s1 s2 s3 d c a l i u m n).mono ?_;rintro r w' ⟨rfl,k⟩;exact ⟨rfl,k.mono λM' g=>⟨occ,S,q,f,o,v,A,g⟩⟩
end
section
variable (sh e s wd t:Nat)(p:PW)(K:Nat)(x z:Int)(j:Bool)
def lJ:QK:=λw M=>∃(occ:Value) (S:SS) (q la:Nat) (sd:Int) (T1:TS) (D:DS) (n:Int) (cs:List Int),Sx S p.f p.l p.t K/\p.Ok K/\KeptT t sd S.T T1 D n cs (Vv p.t p.b p.l) p.f/\QJ sh e s wd t q occ { S with T:=T1 } (some ⟨la,p.b,x,z,j⟩) w M
def lK:QK:=λw M=>∃(occ:Value) (S:SS) (q la:Nat) (sd:Int) (T1:TS) (D:DS) (n:Int) (cs:List Int),Sx S p.f p.l p.t K/\p.Ok K/\KeptT t sd S.T T1 D n cs (Vv p.t p.b p.l) p.f/\QJ sh e s wd t q occ { S with T:= { T1 with d:=D } } (some ⟨la,p.b,x,z,j⟩) w M
def Ce (k:Nat):QK:=λw M=>∃(occ:Value) (S:SS) (q la:Nat) (sd:Int) (T1:TS) (D:DS) (n:Int) (cs:List Int),Sx S p.f p.l p.t K/\p.Ok K/\KeptT t sd S.T T1 D n cs (Vv p.t p.b p.l) p.f/\QJ sh e s wd t q occ (S.re sd cs D p.t p.l k) (some ⟨la,p.b,0,0,false⟩) w M
end
section
variable {sh e s wd t K:Nat}{p:PW}{x z:Int}{j:Bool}{w:World}{M:Nat->Prop}{line:ByteArray}
theorem iB:QK.Fit 5 (lJ sh e s wd t p K x z j) where
 lt:=λ⟨occ,_,q,_,_,_,_,_,_,_,_,_,h⟩=>(Qq sh e s wd t q occ _ _).lt h
 nob:=λ⟨occ,_,q,_,_,_,_,_,_,_,_,_,h⟩=>(Qq sh e s wd t q occ _ _).nob h
 kept:=λ⟨occ,S,q,c,sd,f,D,n,cs,k,b,d,h⟩ g a i=>⟨occ,S,q,c,sd,f,D,n,cs,k,b,d,(Qq sh e s wd t q occ _ _).kept h g a i⟩
theorem iC:QK.Fit 5 (lK sh e s wd t p K x z j) where
 lt:=λ⟨occ,_,q,_,_,_,_,_,_,_,_,_,h⟩=>(Qq sh e s wd t q occ _ _).lt h
 nob:=λ⟨occ,_,q,_,_,_,_,_,_,_,_,_,h⟩=>(Qq sh e s wd t q occ _ _).nob h
 kept:=λ⟨occ,S,q,c,sd,f,D,n,cs,k,b,d,h⟩ g a i=>⟨occ,S,q,c,sd,f,D,n,cs,k,b,d,(Qq sh e s wd t q occ _ _).kept h g a i⟩
theorem OA (k:Nat):QK.Fit 5 (Ce sh e s wd t p K k) where
 lt:=λ⟨occ,_,q,_,_,_,_,_,_,_,_,_,h⟩=>(Qq sh e s wd t q occ _ _).lt h
 nob:=λ⟨occ,_,q,_,_,_,_,_,_,_,_,_,h⟩=>(Qq sh e s wd t q occ _ _).nob h
 kept:=λ⟨occ,S,q,c,sd,f,D,n,cs,j,b,d,h⟩ g a i=>⟨occ,S,q,c,sd,f,D,n,cs,j,b,d,(Qq sh e s wd t q occ _ _).kept h g a i⟩
theorem PW.Ok.small (h:p.Ok K):p.l.length<=1948:=by
 have h1:=h.len;have h2:=h.inv.t20;omega
theorem bU {sd:Int}(h:VC sh e s wd t p K x z j (some sd) w M)(v:line.size<=1000)(u:QD line=[⟨#[102,108,117,115,104,97,108,108]⟩]):
  Calls prog 9 #[sh,.string line] w λr w'=>(∃o,r=.returned (.string o))/\Q6 (lJ sh e s wd t p K x z j) w M w':=by
 obtain ⟨occ,S,q,A,f,i,C,m⟩:=h;obtain ⟨d,D,n,cs,c⟩:=Pw t f (C sd rfl) m.cells (Vv p.t p.b p.l) (by rw [Dn];have:=i.small;omega)
 refine (bR sh e s wd t q occ S { S with T:=d } _ M w line n c.nb m v u λW M1 g=>?_).mono ?_
 ·obtain ⟨y,B,a⟩:=g.table;refine (c.flush W y B).mono ?_;rintro r w' ⟨rfl,k⟩;exact ⟨rfl,a _ _ k⟩
 ·rintro r w' ⟨rfl,k⟩;exact ⟨⟨_,rfl⟩,k.mono λM' g=>⟨occ,S,q,A,sd,d,D,n,cs,f,i,c,g⟩⟩
theorem iD (h:lJ sh e s wd t p K x z j w M)(u:line.size<=1000)(o:QD line=[⟨#[115,97,118,101]⟩]):
  Calls prog 9 #[sh,.string line] w λr w'=>r=.returned (.string VB)/\Q6 (lK sh e s wd t p K x z j) w M w':=by
 obtain ⟨occ,S,q,i,sd,a,D,n,cs,c,m,f,y⟩:=h;refine (il sh e s wd t q occ { S with T:=a } { S with T:= { a with d:=D } } _ M w line y u o λW v g=>?_).mono ?_
 ·exact ig e s wd t q occ { S with T:=a } ⟨i,p.b,x,z,j⟩ (by show S.Q.l.length<=2000;rw [c.ql];have:=m.small;omega) 1 D f.ok1 (by omega) (by show Zv a.d 0 (Vv S.now p.b S.Q.l)=(D,0);rw [c.now,c.ql];exact f.save) W v g
 ·rintro r w' ⟨rfl,k⟩;exact ⟨rfl,k.mono λM' g=>⟨occ,S,q,i,sd,a,D,n,cs,c,m,f,g⟩⟩
theorem PW.Ok.in47 (h:p.Ok K):∀u∈[p.b.1,p.b.2.1,p.b.2.2.1,p.b.2.2.2.1,p.b.2.2.2.2.1,p.b.2.2.2.2.2.1,p.b.2.2.2.2.2.2.1,p.b.2.2.2.2.2.2.2.1],YU u:=by
 have ht:=h.inv.t20;obtain ⟨h1,h2,h3,h4,h5,h6,h7,h8⟩:=h.bod;intro u a;simp only [List.mem_cons,List.not_mem_nil,or_false] at a;unfold YU;rcases a with rfl|rfl|rfl|rfl|rfl|rfl|rfl|rfl<;>omega
theorem PW.Ok.items (h:p.Ok K):∀u∈p.l,YU u.1/\Il u.2:=λu a=>by
 have ht:=h.inv.t20;have h1:=h.tk u a;have b:=(h.inv.it u a).1;unfold LZ at b;unfold YU Il;omega
theorem bV (h:lK sh e s wd t p K x z j w M)(s1:ByteArray)(u:line.size<=1000)(m:QD line=[⟨#[99,114,97,115,104]⟩,s1])(A:NW s1 0):
  Calls prog 9 #[sh,.string line] w λr w'=>(∃o,r=.returned (.string o))/\Q6 (Ce sh e s wd t p K 0) w M w':=by
 obtain ⟨occ,S,q,la,sd,i,D,n,cs,y,c,a,C⟩:=h;have ht:=c.inv.t20;refine (bQ sh e s wd t q occ { S with T:= { i with d:=D } } (S.re sd cs D p.t p.l 0) _ M w line p.b C s1 u m A λW v g=>?_).mono ?_
 ·have:=bN p.t p.b p.l (by omega) (c.bod.may_ (by omega)) c.in47 (by have:=c.small;omega) c.items e s wd t q occ { S with T:= { i with d:=D } } _ 2 1 a.ok2 (by omega) (by show DOk (D.crash 0).1 2 1000000;rw [a.crash];exact a.ok2) (by show Y2 (D.crash 0).1 0=_;rw [a.crash];exact a.back) (by show (D.crash 0).2=0;rw [a.crash]) W v g
  rw [im (cs:=cs) a.seed a.lim a.crash] at this;exact this
 ·rintro r w' ⟨rfl,f,B,k⟩;exact ⟨⟨_,rfl⟩,k.mono λM' g=>⟨occ,S,B,f,sd,i,D,n,cs,y,c,a,g⟩⟩
theorem bW (h:Ce sh e s wd t p K 0 w M)(s1 s2:ByteArray)(c:line.size<=1000)(b:QD line=[⟨#[108,111,97,100]⟩,s1,s2])(m:NW s1 0)(d:NW s2 0):
  Calls prog 9 #[sh,.string line] w λr w'=>r=.returned (.string VB)/\Q6 (Ce sh e s wd t p K 1) w M w':=by
 obtain ⟨occ,S,q,f,sd,i,D,n,cs,j,o,a,u⟩:=h;refine (Av sh e s wd t q occ (S.re sd cs D p.t p.l 0) (Tk sd cs D 1) M w line _ u s1 s2 0 0 c b m d a.l0).mono ?_;rintro r w' ⟨rfl,k⟩;exact ⟨rfl,k.mono λM' g=>⟨occ,S,q,f,sd,i,D,n,cs,j,o,a,g⟩⟩
theorem bX (h:Ce sh e s wd t p K 1 w M)(s1 s2:ByteArray)(c:line.size<=1000)(b:QD line=[⟨#[108,111,97,100]⟩,s1,s2])(m:NW s1 1)(d:NW s2 0):
  Calls prog 9 #[sh,.string line] w λr w'=>r=.returned (.string VB)/\Q6 (Ce sh e s wd t p K 2) w M w':=by
 obtain ⟨occ,S,q,f,sd,i,D,n,cs,j,o,a,u⟩:=h;refine (Av sh e s wd t q occ (S.re sd cs D p.t p.l 1) (Tk sd cs D 2) M w line _ u s1 s2 1 0 c b m d a.l1).mono ?_;rintro r w' ⟨rfl,k⟩;exact ⟨rfl,k.mono λM' g=>⟨occ,S,q,f,sd,i,D,n,cs,j,o,a,g⟩⟩
theorem bY (h:Ce sh e s wd t p K 2 w M)(s1 s2:ByteArray)(c:line.size<=1000)(b:QD line=[⟨#[108,111,97,100]⟩,s1,s2])(m:NW s1 (-1))(d:NW s2 0):
  Calls prog 9 #[sh,.string line] w λr w'=>r=.returned (.string VB)/\Q6 (Ce sh e s wd t p K 3) w M w':=by
 obtain ⟨occ,S,q,f,sd,i,D,n,cs,j,o,a,u⟩:=h;refine (Av sh e s wd t q occ (S.re sd cs D p.t p.l 2) (Tk sd cs D 3) M w line _ u s1 s2 (-1) 0 c b m d a.l2).mono ?_;rintro r w' ⟨rfl,k⟩;exact ⟨rfl,k.mono λM' g=>⟨occ,S,q,f,sd,i,D,n,cs,j,o,a,g⟩⟩
theorem bZ (h:Ce sh e s wd t p K 3 w M)(s1 s2:ByteArray)(c:line.size<=1000)(b:QD line=[⟨#[108,111,97,100]⟩,s1,s2])(m:NW s1 0)(d:NW s2 1):
  Calls prog 9 #[sh,.string line] w λr w'=>r=.returned (.string VB)/\Q6 (Ce sh e s wd t p K 4) w M w':=by
 obtain ⟨occ,S,q,f,sd,i,D,n,cs,j,o,a,u⟩:=h;refine (Av sh e s wd t q occ (S.re sd cs D p.t p.l 3) (Tk sd cs D 4) M w line _ u s1 s2 0 1 c b m d a.l3).mono ?_;rintro r w' ⟨rfl,k⟩;exact ⟨rfl,k.mono λM' g=>⟨occ,S,q,f,sd,i,D,n,cs,j,o,a,g⟩⟩
theorem cd (h:Ce sh e s wd t p K 4 w M)(s1 s2:ByteArray)(c:line.size<=1000)(b:QD line=[⟨#[108,111,97,100]⟩,s1,s2])(m:NW s1 0)(d:NW s2 (-1)):
  Calls prog 9 #[sh,.string line] w λr w'=>r=.returned (.string VB)/\Q6 (Ce sh e s wd t p K 5) w M w':=by
 obtain ⟨occ,S,q,f,sd,i,D,n,cs,j,o,a,u⟩:=h;refine (Av sh e s wd t q occ (S.re sd cs D p.t p.l 4) (Tk sd cs D 5) M w line _ u s1 s2 0 (-1) c b m d a.l4).mono ?_;rintro r w' ⟨rfl,k⟩;exact ⟨rfl,k.mono λM' g=>⟨occ,S,q,f,sd,i,D,n,cs,j,o,a,g⟩⟩
theorem ce (h:Ce sh e s wd t p K 5 w M):VC sh e s wd t p K 0 0 false none w M:=by
 obtain ⟨occ,S,q,c,sd,T1,D,n,cs,b,d,a,f⟩:=h;exact ⟨occ,_,q,c,nz b a.good a.cell,d,λ_ h=>(by cases h),f⟩
end
end
section
open Go.RowKit Go.Maps
attribute [local go_sem] Oper.semAt_some
def lL (seed:Int)(w:World)(r:Ending)(w':World):Prop:=∃(n:Nat) (sh e s wd t q:Nat) (M:Nat->Prop),n<1000/\Zb seed 1000=(n:Int)/\r=.returned (.pointer (some ⟨sh,0,none⟩))/\QJ sh e s wd t q Xb (S5 n) none w' M/\(∀b,M b->w.heap.size<=b)/\Below w.heap.size w w'
theorem cg (seed:Int)(h1: -9223372036854775808<=seed)(h2:seed<=9223372036854775807)(w:World):Calls prog 7 #[seed] w λr w'=>lL seed w r w':=by
 have f:0<=Zb seed 1000/\Zb seed 1000<1000:=⟨UH seed (by decide),UI seed (by decide)⟩
 have j:=DA seed 1000 h1 h2 (by decide)
 obtain ⟨n,G⟩:=Int.eq_ofNat_of_zero_le f.1;rw [G] at j f;have i:n<1000:=by omega
 have v:=MW i;have t:=I0 n (by omega)
 have s:=pp λW=>cL 1000 n (by omega) (by omega) W
 generalize C:Q4 (Lib.decDigits n)=ds at *;have HDC':=pp s;have hc1:=IQ AN ds (by have:AN.size=6:=rfl;omega)
 have g:(ds.size:Int)<=9223372036854775801:=by omega
 have h:(ds.size:Int)<=9223372036854775797:=by omega
 have hs3:(6:Int)+(ds.size:Int)+4<=9223372036854775807:=by omega
 have hs4:((AN++ds).size:Int)+4<=9223372036854775807:=by have:AN.size=6:=rfl;simp [ByteArray.size_append];omega
 have l:=pp j;have A:=pp (py v (py t (py i G)));have HN:=pp (Tf w);clear f j G v C t i;go_enter func7,ntmps7;go_upto_region 4 with (go_at_call 20;refine HN.o.mono ?_;rintro e w1 ⟨sh,J,s0,y,t0,q0,M1,rfl,(u:Hid _)⟩)
 go_upto_region 5 with first
  | (go_at_call 8;refine (l.o _).mono ?_;rintro e w2 ⟨rfl,rfl⟩)
  | (go_at_call 10;refine (s.o _).mono ?_;rintro e w2 ⟨rfl,z⟩;replace z:=pp z)
  | (go_at_call 9;refine (bD sh J s0 y t0 q0 Xb _ M1 w2 _ none ((Qq sh J s0 y t0 q0 Xb _ none).on u.o.1 z.o) ds ⟨#[57]⟩ ⟨#[56]⟩ n 9 8 (gV A.o.2.1) A.o.1.1 A.o.1.2 pm po).mono ?_;rintro e w3 ⟨b,s1,a,c,d,rfl,⟨M3,H,K,O⟩⟩;have m:=pp (py (show QJ sh b s1 a c d Xb (Sl n 0) none w3 M3 from (by rw [<-lw];exact H)) (py (Dm (after u.o.2.2 z.o) u.o.2.1 K) (Vm (after u.o.2.2 z.o) u.o.2.1 O)));clear H K O)
 go_upto_region 6 with (go_at_call 9;refine (BB sh b s1 a c d Xb (Sl n 0) M3 w3 ⟨#[108,111,97,100,32,48,32,48]⟩ none m.o.1 ⟨#[48]⟩ ⟨#[48]⟩ (0) (0) (by decide) (Xo (by kernel_rfl)) VS VS (by decide) (by decide) (Io n 0) (Ip n 0 (by decide)) (nm n) (In n 0)).mono ?_;rintro e I ⟨rfl,⟨M4,Y,U,V⟩⟩;have q:=pp (py (show QJ sh b s1 a c d Xb (Sl n 1) none I M4 from (by rw [<-oN];exact Y)) (py (Dm m.o.2.2 m.o.2.1 U) (Vm m.o.2.2 m.o.2.1 V)));clear Y U V)
 go_upto_region 7 with (go_at_call 9;refine (BB sh b s1 a c d Xb (Sl n 1) M4 I ⟨#[108,111,97,100,32,49,32,48]⟩ none q.o.1 ⟨#[49]⟩ ⟨#[48]⟩ (1) (0) (by decide) (Xo (by kernel_rfl)) Mx VS (by decide) (by decide) (Io n 1) (Ip n 1 (by decide)) (nn n) (In n 1)).mono ?_;rintro e w5 ⟨rfl,⟨L,X,T,Q⟩⟩;have p:=pp (py (show QJ sh b s1 a c d Xb (Sl n 2) none w5 L from (by rw [<-oO];exact X)) (py (Dm q.o.2.2 q.o.2.1 T) (Vm q.o.2.2 q.o.2.1 Q)));clear X T Q)
 go_upto_region 8 with (go_at_call 9;refine (BB sh b s1 a c d Xb (Sl n 2) L w5 ⟨#[108,111,97,100,32,45,49,32,48]⟩ none p.o.1 ⟨#[45,49]⟩ ⟨#[48]⟩ (-1) (0) (by decide) (Xo (by kernel_rfl)) dk VS (by decide) (by decide) (Io n 2) (Ip n 2 (by decide)) (nq n) (In n 2)).mono ?_;rintro e w6 ⟨rfl,⟨R,p6,Z,k6⟩⟩;have k:=pp (py (show QJ sh b s1 a c d Xb (Sl n 3) none w6 R from (by rw [<-oP];exact p6)) (py (Dm p.o.2.2 p.o.2.1 Z) (Vm p.o.2.2 p.o.2.1 k6)));clear p6 Z k6)
 go_upto_region 9 with (go_at_call 9;refine (BB sh b s1 a c d Xb (Sl n 3) R w6 ⟨#[108,111,97,100,32,48,32,49]⟩ none k.o.1 ⟨#[48]⟩ ⟨#[49]⟩ (0) (1) (by decide) (Xo (by kernel_rfl)) VS Mx (by decide) (by decide) (Io n 3) (Ip n 3 (by decide)) (nu n) (In n 3)).mono ?_;rintro e M ⟨rfl,⟨P,N,S,k7⟩⟩;have x:=pp (py (show QJ sh b s1 a c d Xb (Sl n 4) none M P from (by rw [<-oQ];exact N)) (py (Dm k.o.2.2 k.o.2.1 S) (Vm k.o.2.2 k.o.2.1 k7)));clear N S k7)
 go_upto_region 10 with (go_at_call 9;refine (BB sh b s1 a c d Xb (Sl n 4) P M ⟨#[108,111,97,100,32,48,32,45,49]⟩ none x.o.1 ⟨#[48]⟩ ⟨#[45,49]⟩ (0) (-1) (by decide) (Xo (by kernel_rfl)) VS dk (by decide) (by decide) (Io n 4) (Ip n 4 (by decide)) (nw n) (In n 4)).mono ?_;rintro e D ⟨rfl,⟨M8,p8,m8,k8⟩⟩;have B:=pp (py (show QJ sh b s1 a c d Xb (Sl n 5) none D M8 from (by rw [<-oR];exact p8)) (py (Dm x.o.2.2 x.o.2.1 m8) (Vm x.o.2.2 x.o.2.1 k8)));clear p8 m8 k8)
 obtain ⟨Me,g,h,-⟩:=B.o.1;have E:=pp (CL sh b D g);have F:=pp (Oo b s1 a c d Xb (Sl n 5) none Me D h);clear g h;go_wp2_with first
  | (go_at_call 14;refine E.o.mono ?_;rintro e w9 ⟨rfl,rfl⟩)
  | (go_at_call 13;refine F.o.mono ?_;rintro e w9 ⟨rfl,rfl⟩)
 go_returns;exact ⟨n,sh,b,s1,a,c,d,M8,A.o.2.2.1,A.o.2.2.2,rfl,B.o.1,B.o.2.1,B.o.2.2⟩
end
section
open Go.RowKit Go.Maps
def XN (N:Nat->Prop)(P Q:QK)(w:World):Prop:=∃A B:Nat->Prop,P w A/\Q w B/\(∀b,A b->¬B b)/\(∀b,A b->N b)/\∀b,B b->N b
section
variable {N:Nat->Prop}{P Q P' Q':QK}{w w':World}
theorem XN.on (F:QK.Fit 5 P)(G:QK.Fit 5 Q)(h:XN N P Q w)(a:pM w w'):XN N P Q w':=by
 obtain ⟨A,B,c,b,d⟩:=h;exact ⟨A,B,F.on c a,G.on b a,d⟩
theorem XN.swap (h:XN N P Q w):XN N Q P w:=by
 obtain ⟨A,B,e,c,g,d,f⟩:=h;exact ⟨B,A,c,e,λb i a=>g b a i,f,d⟩
theorem XN.left (F:QK.Fit 5 P)(G:QK.Fit 5 Q)(q:∀b,w.heap.size<=b->N b)(h:XN N P Q w){R:Ending->Prop}{f:FuncId}
  (p:∀A,P w A->Calls prog f args w λr w'=>R r/\Q6 P' w A w'):Calls prog f args w λr w'=>R r/\XN N P' Q w'/\Kept (λb=>¬N b) w w':=by
 obtain ⟨A,B,l,e,g,k,o⟩:=h;refine (p A l).mono ?_;rintro r w' ⟨n,s,m,i,j⟩;refine ⟨n,⟨s,B,m,G.beside e j (λb c a=>g b a c) (F.nob l),λb a c=>?_,λb d=>(i b d).elim (k b) (q b),o⟩,j.mono λb d a=>d (k b a)⟩
 rcases i b a with hh|hh
 ·exact g b hh c
 ·have:=G.lt e b c;omega
theorem XN.right (F:QK.Fit 5 P)(G:QK.Fit 5 Q)(g:∀b,w.heap.size<=b->N b)(h:XN N P Q w){R:Ending->Prop}{f:FuncId}
  (e:∀B,Q w B->Calls prog f args w λr w'=>R r/\Q6 Q' w B w'):Calls prog f args w λr w'=>R r/\XN N P Q' w'/\Kept (λb=>¬N b) w w':=
 (h.swap.left G F g e).mono λ_ _ ⟨c,a,d⟩=>⟨c,a.swap,d⟩
theorem XN.list (F:QK.Fit 5 P)(G:QK.Fit 5 Q)(h:XN N P Q w):∃D:List Nat,XN (λb=>b∈D∨w.heap.size<=b) P Q w/\(∀b∈D,N b)/\∀b∈D,(∃A,P w A/\A b)∨∃B,Q w B/\B b:=by
 obtain ⟨A,B,d,c,g,e,f⟩:=h
 classical
 refine ⟨(List.range w.heap.size).filter λb=>decide (A b∨B b),⟨A,B,d,c,g,λb a=>.inl ?_,λb a=>.inl ?_⟩,λb a=>?_,λb a=>?_⟩
 ·exact List.mem_filter.2 ⟨List.mem_range.2 (F.lt d b a),by simpa using Or.inl a⟩
 ·exact List.mem_filter.2 ⟨List.mem_range.2 (G.lt c b a),by simpa using Or.inr a⟩
 ·rcases (show A b∨B b by simpa using (List.mem_filter.1 a).2) with h|h
  ·exact e b h
  ·exact f b h
 ·rcases (show A b∨B b by simpa using (List.mem_filter.1 a).2) with h|h
  ·exact .inl ⟨A,d,h⟩
  ·exact .inr ⟨B,c,h⟩
theorem XN.mono {c:Nat->Prop}(h:XN N P Q w)(d:∀b,N b->c b):XN c P Q w:=by
 obtain ⟨A,B,g,e,j,f,i⟩:=h;exact ⟨A,B,g,e,j,λb a=>d b (f b a),λb a=>d b (i b a)⟩
end
def Yg (i1 i2:Nat)(P00:World->Prop)(P10 P01:Value->World->Prop)(P11:Value->Value->World->Prop):UP:=λS V w=>(¬S i1/\¬S i2/\P00 w)∨(S i1/\¬S i2/\P10 (V i1) w)∨(¬S i1/\S i2/\P01 (V i2) w)∨(S i1/\S i2/\P11 (V i1) (V i2) w)
section
variable {i1 i2:Nat}{P00:World->Prop}{P10 P01:Value->World->Prop}{P11:Value->Value->World->Prop}{S:Nat->Prop}{V:Nat->Value}{w w':World}{v:Value}
theorem Yg.below (h:Yg i1 i2 P00 P10 P01 P11 S V w)(k:Below w.heap.size w w')(c:∀w w',P00 w->Below w.heap.size w w'->P00 w')(b:∀v w w',P10 v w->Below w.heap.size w w'->P10 v w')(a:∀v w w',P01 v w->Below w.heap.size w w'->P01 v w')(d:∀v u w w',P11 v u w->Below w.heap.size w w'->P11 v u w'):Yg i1 i2 P00 P10 P01 P11 S V w':=
 h.imp (λh=>⟨h.1,h.2.1,c _ _ h.2.2 k⟩) (Or.imp (λh=>⟨h.1,h.2.1,b _ _ _ h.2.2 k⟩) (Or.imp (λh=>⟨h.1,h.2.1,a _ _ _ h.2.2 k⟩) λh=>⟨h.1,h.2.1,d _ _ _ _ h.2.2 k⟩))
theorem Yg.zero (h:P00 w):Yg i1 i2 P00 P10 P01 P11 (λ_=>False) V w:=.inl ⟨λh=>h,λh=>h,h⟩
theorem Yg.first (h:Yg i1 i2 P00 P10 P01 P11 S V w)(a:¬S i1):(¬S i2/\P00 w)∨(S i2/\P01 (V i2) w):=by
 rcases h with h|h|h|h
 ·exact .inl ⟨h.2.1,h.2.2⟩
 ·exact absurd h.1 a
 ·exact .inr ⟨h.2.1,h.2.2⟩
 ·exact absurd h.1 a
theorem Yg.second (h:Yg i1 i2 P00 P10 P01 P11 S V w)(a:¬S i2):(¬S i1/\P00 w)∨(S i1/\P10 (V i1) w):=by
 rcases h with h|h|h|h
 ·exact .inl ⟨h.1,h.2.2⟩
 ·exact .inr ⟨h.1,h.2.2⟩
 ·exact absurd h.2.1 a
 ·exact absurd h.2.1 a
theorem Yg.both (h:Yg i1 i2 P00 P10 P01 P11 S V w)(a:S i1)(b:S i2):P11 (V i1) (V i2) w:=by
 rcases h with h|h|h|h
 ·exact absurd a h.1
 ·exact absurd b h.2.1
 ·exact absurd a h.1
 ·exact h.2.2
theorem Yg.lay10 (a:i1≠i2)(b:¬S i2)(h:P10 v w):Yg i1 i2 P00 P10 P01 P11 (Zg S i1) (upd V i1 v) w:=.inr (.inl ⟨.inl rfl,λe=>e.elim (λe=>a e.symm) b,by rw [Yu];exact h⟩)
theorem Yg.lay01 (a:i1≠i2)(b:¬S i1)(h:P01 v w):Yg i1 i2 P00 P10 P01 P11 (Zg S i2) (upd V i2 v) w:=.inr (.inr (.inl ⟨λe=>e.elim (λe=>a e) b,.inl rfl,by rw [Yu];exact h⟩))
theorem Yg.lay11a (a:i1≠i2)(b:S i2)(h:P11 v (V i2) w):Yg i1 i2 P00 P10 P01 P11 (Zg S i1) (upd V i1 v) w:=.inr (.inr (.inr ⟨.inl rfl,.inr b,by rw [Yu,XE (λe=>a e.symm)];exact h⟩))
theorem Yg.lay11b (a:i1≠i2)(b:S i1)(h:P11 (V i1) v w):Yg i1 i2 P00 P10 P01 P11 (Zg S i2) (upd V i2 v) w:=.inr (.inr (.inr ⟨.inr b,.inl rfl,by rw [Yu,XE a];exact h⟩))
end
end
section
open Go.RowKit Go.Maps
attribute [local go_sem] Oper.semAt_some
abbrev FD:ByteArray:=⟨#[108,111,97,100,32,48,32,48]⟩
abbrev FE:ByteArray:=⟨#[97,116,32,48,32,48,32,48]⟩
abbrev PC:ByteArray:=⟨#[108,111,97,100,32,48,32,48,10,97,116,32,48,32,48,32,48]⟩
abbrev ci:ByteArray:=⟨#[111,107,10]⟩
abbrev cj:ByteArray:=⟨#[115,116,111,110,101,10]⟩
def Sr:SS:=AC (AU 1 9 200000) 0 16
def OB:SS:= { Sr with T:= { Sr.T with l:=Sr.T.l++[QP Sr.T.seed 0 0] } }
theorem Tn:OB.T.cell (0,0,0)=1:=by
 have a:OB.T.l.find? (TI.is (Xa 0 0))=some (QP 1 0 0):=by
  show [QP 1 0 0].find? (TI.is (Xa 0 0))=_;have:(QP 1 0 0).is (Xa 0 0)=true:=by decide
  rw [List.find?_cons_of_pos this]
 unfold TS.cell TS.at;rw [a];show (QP 1 0 0).at 0 0 0=1;unfold TI.at;rw [if_neg (by decide),if_pos (by decide)]
 unfold Ud QP Ye;dsimp only;rw [List.getElem?_map,show (YH 0 0 0).toNat=0 by decide,List.getElem?_range (by decide)]
 show DO 1 0 0 0=1;unfold DO BS;rw [if_neg (by omega),if_pos (by omega)]
theorem nF (m:Int)(w:World)(hm:w.cell? ⟨0,0,none⟩=some (int i64 m)):Calls prog 26 #[.string PC] w λr w'=>r=.returned (.string (ci++cj))/\Below w.heap.size w w':=by
 have P:0<w.heap.size:=by
  rcases Nat.lt_or_ge 0 w.heap.size with h|h
  ·exact h
  ·simp [World.cell?,Array.getElem?_eq_none h] at hm
 have HN:=pp (Tf w);have HM:=pp (py hm P);clear hm P;go_enter func26,ntmps26;go_upto_region 2 with (go_at_call 20;refine HN.o.mono ?_;rintro u a ⟨sh,e,s,wd,t,q,M1,rfl,(i:Hid _)⟩)
 go_upto_region 3 with fail
 obtain ⟨n,c⟩:=pt (a.alloc (.cells #[.pointer none,.slice none 0 0] 102));have g2:pM a n:=by rw [c];exact Q3 _ _
 have Q:IOq a.heap.size a.heap.size (.pointer none) [] n:=⟨pA _,.slice none 0 0,Q0.fresh c,⟨rfl,.inl ⟨rfl,rfl⟩⟩,by simp [Value.ownBlock]⟩
 have k:=pp (py Q g2);have z:=pp (show Q0 n a.heap.size 102 #[.pointer none,.slice none 0 0] from Q0.fresh c);rw [<-c];clear c Q g2;have B:=Tryz.strings_Split PC ⟨#[10]⟩ m n (by decide) (by
  rw [Below.cell (after i.o.2.2 k.o.2) HM.o.2];exact HM.o.1) (by decide)
 rw [show Lib.countB PC ⟨#[10]⟩=1 by kernel_rfl,show Lib.splitB ⟨#[10]⟩ 0 1 PC=[FD,FE] by kernel_rfl] at B
 have aa:=pp B;clear B;go_upto_region 4 with (go_at_call 64;refine aa.o.mono ?_;rintro u W ⟨rfl,V⟩;replace V:=pp V)
 have C:Q0 W n.heap.size 9 #[.string FD,.string FE]:=by rw [V.o];exact Q0.new' rfl
 have g3:pM n W:=by rw [V.o];exact Q3 _ _
 have c0:=C.cell 0;have D:=Jb FD (by decide) W
 rw [show QD FD=[⟨#[108,111,97,100]⟩,⟨#[48]⟩,⟨#[48]⟩] from Xo (by kernel_rfl)] at D
 have af:=pp D;have J:=pp (py C g3);clear C g3 D;refine wp_loop_rounds 3 ?_;rw [rounds_succ];go_upto_region 7 with (go_at_call 21;refine af.o.mono ?_;rintro u w4 ⟨A,rfl,-,-,-,g4⟩;have H:=pp (after J.o.2 g4);have X:=pp g4;clear g4)
 clear c0;have ab:=pp (BB sh e s wd t q Xb Sr M1 w4 FD none ((Qq sh e s wd t q Xb Sr none).on i.o.1 (after k.o.2 H.o)) ⟨#[48]⟩ ⟨#[48]⟩ 0 0 (by decide) (Xo (by kernel_rfl)) VS VS (by decide) (by decide) (by decide) (by decide) (by decide) ⟨rfl,rfl,by show 0<=(U9 200000).room/\(U9 200000).room<=1048576;decide,rfl,rfl⟩)
 have S:¬M1 a.heap.size:=λh=>absurd ((Qq sh e s wd t q Xb Sr none).lt i.o.1 _ h) (by omega)
 have L:a.heap.size<n.heap.size:=(z.o).lt;have b:=pp (py S L);clear S L;go_upto_region 8 with first
  | (go_at_call 9;refine ab.o.mono ?_;rintro u w5 ⟨rfl,⟨Y,p5,m5,Z⟩⟩;have G:=pp (py p5 (py m5 Z));have d:=Z.blk b.o.1 (z.o.on H.o);have p:WQ a.heap.size a.heap.size [] w5:=.inl ⟨pA _,.slice none 0 0,d,⟨rfl,.inl ⟨rfl,rfl⟩⟩,by simp [Value.ownBlock]⟩;have I:=pp (py p (d.cell 1));clear p5 m5 Z d p)
  | (go_at_call 65;refine (Ld a.heap.size a.heap.size [] _ w5 I.o.1 (by decide) (by have:=G.o.2.2.size;have:=H.o.size;have:=b.o.2;omega)).mono ?_;rintro u O ⟨rfl,b6,g6,k6⟩;have U:=pp (py b6 (py g6 (k6 _ I.o.2)));clear b6 g6 k6)
 go_wp2_with fail;have R:∀x,Y x->x≠a.heap.size:=λx hx he=>by
  rcases G.o.2.1 x hx with h|h
  ·exact b.o.1 (he▸h)
  ·have:=H.o.size;have:=b.o.2;omega
 have E:Kept (λg=>g≠a.heap.size) w5 O:=U.o.2.2.mono λg h=>⟨h,by simp [Value.ownBlock]⟩
 have v:QJ sh e s wd t q Xb OB none O Y:=(Qq sh e s wd t q Xb OB none).kept G.o.1 E R λx cs hx he=>absurd (Q7 (he▸hx) (G.o.2.2.blk b.o.1 (z.o.on H.o))) (by decide)
 have f:Q0 O n.heap.size 9 #[.string FD,.string FE]:=E.blk (by have:=b.o.2;omega) (G.o.2.2.blk (λh=>absurd ((Qq sh e s wd t q Xb Sr none).lt i.o.1 _ h) (by have:=k.o.2.size;omega)) (J.o.1.on (show pM W w4 from X.o)))
 have K:pM w O:=(Vm (after (after i.o.2.2 k.o.2) H.o) i.o.2.1 G.o.2.2).trans (U.o.2.1.mono i.o.2.2.size);have j:=pp (py v K);have c1:=f.cell 1;have hwb:=Jb FE (by decide) O
 rw [show QD FE=[⟨#[97,116]⟩,⟨#[48]⟩,⟨#[48]⟩,⟨#[48]⟩] from Xo (by kernel_rfl)] at hwb
 have ae:=pp hwb;clear R E v f K hwb;rw [rounds_succ];go_upto_region 7 with (go_at_call 21;refine ae.o.mono ?_;rintro u w7 ⟨A7,rfl,-,-,-,y⟩;replace y:=pp y)
 clear c1;have F:=kS sh e s wd t q Xb OB Y w7 FE none ((Qq sh e s wd t q Xb OB none).on j.o.1 y.o) ⟨#[48]⟩ ⟨#[48]⟩ ⟨#[48]⟩ 0 0 0 (by decide) (Xo (by kernel_rfl)) VS VS VS (by unfold Qg;omega) (by unfold Qg;omega) (by decide) (by rw [Tn];decide)
 rw [Tn] at F;have ac:=pp F;clear F;go_upto_region 8 with first
  | (go_at_call 9;refine ac.o.mono ?_;rintro u w8 ⟨rfl,M⟩;replace M:=pp M)
  | (go_at_call 65;refine (Ld a.heap.size a.heap.size _ _ w8 (.inr ((U.o.1.on y.o).on M.o)) (by decide) (by have:=j.o.2.size;have:=U.o.1.lt;have:=y.o.size;have:=M.o.size;omega)).mono ?_;rintro u w9 ⟨rfl,b9,g9,-⟩;have H9:=pp (py b9 g9);clear b9 g9)
 go_wp2_with fail;rw [rounds_succ];have l:=Tryz.Builder_String_k a.heap.size a.heap.size (ci++cj).data.toList w9 (.inr H9.o.1) (by decide)
 have N:=pp l;clear l;go_wp2_with (go_at_call 66;refine N.o.mono ?_;rintro u w10 ⟨rfl,-,T,-⟩;have ad:=pp T;clear T);go_returns;exact ⟨rfl,((j.o.2.trans ((y.o.trans (M.o.mono y.o.size)).mono j.o.2.size)).trans (H9.o.2.mono i.o.2.2.size)).trans (ad.o.mono i.o.2.2.size)⟩
end
section
open Go.RowKit Go.Maps
theorem lM:NW ⟨#[53,50,52,50,56,56]⟩ 524288:=A5 (l:=[53,50,52,50,56,56]) (by decide)
theorem PD (h:n<100000000):QD (⟨#[116,105,99,107,32]⟩++Q4 (Lib.decDigits n))=[⟨#[116,105,99,107]⟩,Q4 (Lib.decDigits n)]/\NW (Q4 (Lib.decDigits n)) n:=by
 have a:=YE (n:=(n:Int)) (by omega) (by omega)
 rw [FB] at a;refine ⟨?_,a.1⟩;have e:(⟨#[116,105,99,107,32]⟩++Q4 (Lib.decDigits n):ByteArray)=Q4 (Xt [[116,105,99,107],Lib.decDigits n]):=by
  rw [show (⟨#[116,105,99,107,32]⟩:ByteArray)=Q4 [116,105,99,107,32] from rfl,<-Z9];simp [Xt]
 rw [e,Ei (by simp)]
 ·rfl
 ·intro w b;simp only [List.mem_cons,List.not_mem_nil,or_false] at b;rcases b with rfl|rfl
  ·exact ⟨by decide,by decide⟩
  ·exact a.2.1
def Cf (sh e s wd t n:Nat):QK:=λw M=>∃q:Nat,QJ sh e s wd t q Xb (S5 n) none w M
theorem ZX (sh e s wd t n:Nat):QK.Fit 5 (Cf sh e s wd t n) where
 lt:=λ⟨q,h⟩=>(Qq sh e s wd t q Xb _ _).lt h
 nob:=λ⟨q,h⟩=>(Qq sh e s wd t q Xb _ _).nob h
 kept:=λ⟨q,h⟩ b a c=>⟨q,(Qq sh e s wd t q Xb _ _).kept h b a c⟩
def ZK:ByteArray:=⟨#[115,112,97,119,110,32,53,50,52,50,56,56,32,49,48,52,56,53,55,54,32,53,50,52,50,56,56,32,52,48,48,48,48,32,49,48,48,48,48,48]⟩
theorem ck {sh e s wd t:Nat}{w:World}{M:Nat->Prop}(h:Cf sh e s wd t n w M):
  Calls prog 9 #[sh,.string ZK] w λr w'=>r=.returned (.string (Q4 (Lib.itoa 0)))/\Q6 (VC sh e s wd t (P0 n) 0 0 0 false (some (n:Int))) w M w':=by
 obtain ⟨q,d⟩:=h;refine (bF sh e s wd t q Xb (S5 n) M w ZK d ⟨#[53,50,52,50,56,56]⟩ ⟨#[49,48,52,56,53,55,54]⟩ ⟨#[53,50,52,50,56,56]⟩ ⟨#[52,48,48,48,48]⟩ ⟨#[49,48,48,48,48,48]⟩ 524288 1048576 524288 40000 100000 A9 (by decide) (Xo (by kernel_rfl)) lM (A5 (l:=[49,48,52,56,53,55,54]) (by decide)) lM (A5 (l:=[52,48,48,48,48]) (by decide)) (A5 (l:=[49,48,48,48,48,48]) (by decide)) (λW c g=>bT n e s wd t q W c g)).mono ?_
 rintro r w' ⟨rfl,a,k⟩;exact ⟨rfl,k.mono λM' g=>⟨Xb,S5 n,q,a,nA n,nD n,λsd b=>by obtain rfl:=pE b;exact bS n,g⟩⟩
def ZQ (c:Cl):ByteArray:=(ZB++Q4 (XW [c.1,c.2.1,c.2.2]))++⟨#[32,115,97,110,100]⟩
def U3 (x z:Int):ByteArray:=(Vn++Q4 (XW [x,z]))++⟨#[32,49]⟩
def FF (m:Nat):ByteArray:=⟨#[116,105,99,107,32]⟩++Q4 (Lib.decDigits m)
def Ek (c:Cl):Prop:=((3<=c.1/\c.1<=12)/\(3<=c.2.2/\c.2.2<=12))/\(18<=c.2.1/\c.2.1<=31)
theorem FG {l:List Int}(h:∀x∈l,-100000000<x/\x<100000000):(Q4 (XW l)).size<=10 * l.length:=by
 rw [Zn];exact GO l h
theorem cm {c:Cl}(h:Ek c):(ZQ c).size<=1000/\QD (ZQ c)=[⟨#[101,100,105,116]⟩,Q4 (Lib.itoa c.1),Q4 (Lib.itoa c.2.1),Q4 (Lib.itoa c.2.2),Q4 (XK 3)]:=by
 unfold Ek at h;refine ⟨?_,?_⟩
 ·have d:=FG (l:=[c.1,c.2.1,c.2.2]) (by intro n a;simp only [List.mem_cons,List.not_mem_nil,or_false] at a;rcases a with rfl|rfl|rfl<;>omega)
  unfold ZQ;rw [ByteArray.size_append,ByteArray.size_append];have h2:ZB.size=5:=rfl;have h3:(⟨#[32,115,97,110,100]⟩:ByteArray).size=5:=rfl;simp only [List.length_cons,List.length_nil] at d;omega
 ·rw [<-PB (x:=c.1) (y:=c.2.1) (z:=c.2.2) (by omega) (by omega) (by omega) (b:=3) ⟨by decide,by decide⟩]
  unfold ZQ;rw [show (⟨#[32,115,97,110,100]⟩:ByteArray)=CM++Q4 (XK 3) by kernel_rfl]
  simp only [ByteArray.append_assoc]
theorem MC {x z:Int}(c: -100000000<x/\x<100000000)(d: -100000000<z/\z<100000000):(U3 x z).size<=1000/\QD (U3 x z)=[⟨#[116,101,108,108]⟩,⟨#[48]⟩,Q4 (Lib.itoa x),Q4 (Lib.itoa z),jA true]:=by
 refine ⟨?_,?_⟩
 ·have b:=FG (l:=[x,z]) (by intro n a;simp only [List.mem_cons,List.not_mem_nil,or_false] at a;rcases a with rfl|rfl<;>omega)
  unfold U3;rw [ByteArray.size_append,ByteArray.size_append];have h2:Vn.size=7:=rfl;have h3:(⟨#[32,49]⟩:ByteArray).size=2:=rfl;simp only [List.length_cons,List.length_nil] at b;omega
 ·rw [<-PA c d true];unfold U3;rw [show (⟨#[32,49]⟩:ByteArray)=CM++jA true by kernel_rfl]
  simp only [ByteArray.append_assoc]
theorem cn (h:m<100000000):(FF m).size<=1000:=by
 have h1:=I0 m (by omega)
 unfold FF;rw [ByteArray.size_append];have h2:(⟨#[116,105,99,107,32]⟩:ByteArray).size=5:=rfl;omega
noncomputable def ZL (n:Nat)(cl:List Cl)(k:Nat):PW:=(cl.take k).foldl PW.set (P0 n)
theorem JQ {cl:List Cl}{c:Cl}(h:cl[k]?=some c):ZL n cl (k+1)=(ZL n cl k).set c:=by
 unfold ZL;rw [List.take_add_one,h,List.foldl_append];rfl
theorem Ji (n:Nat)(cl:List Cl):∀k,(ZL n cl k).b=A9/\(ZL n cl k).t=0:=by
 intro k;unfold ZL;generalize cl.take k=l;have key:∀(l:List Cl) (p:PW),(l.foldl PW.set p).b=p.b/\(l.foldl PW.set p).t=p.t:=by
  intro l;induction l with
  | nil=>intro p;exact ⟨rfl,rfl⟩
  | cons c l a=>intro p;exact a (p.set c)
 exact key l (P0 n)
end
section
open Go.RowKit Go.Shelf
attribute [local go_sem] Oper.semAt_some
theorem To (x y z:Int)(e:Qg x)(c:Qg y)(b:Qg z)(w:World):Calls prog 17 #[.agg #[x,y,z]] w λr w'=>r=.returned (.agg #[int i64 (3+Zb x 10),int i64 (6+Zb y 14),int i64 (3+Zb z 10)])/\Below w.heap.size w w':=by
 have U:Q0 ((w.alloc (.cells #[x,y,z] 43)).alloc (.cells #[int i64 0,int i64 0,int i64 0] 43)) w.heap.size 43 #[x,y,z]:=(Q0.new' rfl).alloc _;have o:Q0 ((w.alloc (.cells #[x,y,z] 43)).alloc (.cells #[int i64 0,int i64 0,int i64 0] 43)) (w.heap.size+1) 43 #[int i64 0,int i64 0,int i64 0]:=Q0.new' (by simp)
 obtain ⟨k0,k1,k2⟩:=U.re3;have x1:=e.1;have x2:=e.2;have y1:=c.1;have y2:=c.2;have z1:=b.1;have z2:=b.2;have p:=UH x (m:=10) (by decide)
 have q:=UI x (m:=10) (by decide)
 have h:=UH y (m:=14) (by decide)
 have n:=UI y (m:=14) (by decide)
 have k:=UH z (m:=10) (by decide)
 have c2:=UI z (m:=10) (by decide)
 have e1:IntKind.i64.wrap (3+Zb x 10)=3+Zb x 10:=pJ _ (by omega)
 have e2:IntKind.i64.wrap (6+Zb y 14)=6+Zb y 14:=pJ _ (by omega)
 have e3:IntKind.i64.wrap (3+Zb z 10)=3+Zb z 10:=pJ _ (by omega)
 clear p q h n k c2 e c b;go_enter func17,ntmps17;go_wp2_with fail;refine Qo 13 (by kernel_rfl) rfl (by kernel_rfl) ?_
 simp only [List.take_succ_cons,List.take_zero,List.drop_succ_cons,List.drop_zero];repeat (go_big_quiet_step (exact Calls.regrown_of (Ym (DA _ _ (by assumption) (by assumption) (by decide) _))))
 refine wpQuiet_nil ?_;intro w' a;obtain ⟨f,rfl⟩:=a;have R:=o.re f.d f.os;obtain ⟨r0,r1,r2,s0,s1,s2⟩:=R.c3;go_wp2_with fail;have i:=R.st3 (int i64 (3+Zb x 10)) (int i64 (6+Zb y 14)) (int i64 (3+Zb z 10));obtain ⟨l,j,g,-,-,-⟩:=i.c3;exact bodyPost_ret (v:=.agg #[int i64 (3+Zb x 10),int i64 (6+Zb y 14),int i64 (3+Zb z 10)]) (by simp [results,results17,go_sem,l,j,g]) rfl ⟨rfl,by (repeat' (first|(with_reducible exact pI _ _)|(with_reducible assumption)|(with_reducible refine Below.alloc ?_ ?_ _)|(with_reducible refine Below.drew ?_)|(with_reducible refine Below.setCell ?_ ?_ _)|(with_reducible refine after ?_ (pK _ _ _))|(refine after ?_ (by with_reducible assumption))|go_size))⟩
theorem iE (x y z:Int)(u: -100000000<x/\x<100000000)(s: -100000000<y/\y<100000000)(A: -100000000<z/\z<100000000)(w:World):Calls prog 18 #[.agg #[x,y,z]] w λr w'=>r=.returned (.string (Q4 (XW [x,y,z])))/\Below w.heap.size w w':=by
 obtain ⟨f,b⟩:=pt (w.alloc (.cells #[x,y,z] 43));obtain ⟨g,c⟩:=pt (f.alloc (.cells #[x,y,z] 3));have l:pM w f:=by rw [b];exact Q3 _ _
 have g2:pM f g:=by rw [c];exact Q3 _ _
 obtain ⟨c0,c1,c2,-,-,-⟩:=(Q0.fresh b).c3;have h:=Q0.fresh c;obtain ⟨j,m,k,-,-,-⟩:=h.c3;have a:=di [x,y,z] (by simp) (by intro n d;simp only [List.mem_cons,List.not_mem_nil,or_false] at d;rcases d with rfl|rfl|rfl<;>assumption) f.heap.size 3 g h.lt (λi n d=>by
  rcases i with _|_|_|i
  ·obtain rfl:x=n:=by simpa using d
   exact j
  ·obtain rfl:y=n:=by simpa using d
   exact m
  ·obtain rfl:z=n:=by simpa using d
   exact k
  ·simp at d)
 obtain ⟨rs,e⟩:=pt (Q4 (XW [x,y,z]));rw [<-e] at a ⊢;have q:=pp (show Calls prog 12 #[.slice (some ⟨f.heap.size,0,none⟩) 3 3] g λr w'=>r=.returned (.string rs)/\pM g w' from a)
 clear a e;have t:=pp (after l g2);clear h j m k l g2 u s A;subst c;go_enter func18,ntmps18;go_upto_region 1 with fail
 rw [<-b];clear b;go_wp2_with (go_at_call 12;refine q.o.mono ?_;rintro e_ w3 ⟨rfl,p⟩;have v:=pp (after t.o p);clear p);go_returns;exact ⟨rfl,v.o⟩
end
section
open Go.RowKit Go.Maps
attribute [local go_sem] Oper.semAt_some
theorem iF (m:Int)(w:World)(d:w.cell? ⟨0,0,none⟩=some (int i64 m)):Calls prog 11 #[] w λr w'=>r=.returned (.bool true)/\Below w.heap.size w w':=by
 have c:=nF m w d;rw [show (ci++cj:ByteArray)=⟨#[111,107,10,115,116,111,110,101,10]⟩ by kernel_rfl] at c
 have a:=pp c;clear c d;go_enter func11,ntmps11;go_wp2_with (go_at_call 26;refine a.o.mono ?_;rintro e_ w1 ⟨rfl,b⟩;replace b:=pp b);go_returns;exact ⟨rfl,b.o⟩
end
end Go.Proofs.YtmbccnioijokfaaGreatDoor