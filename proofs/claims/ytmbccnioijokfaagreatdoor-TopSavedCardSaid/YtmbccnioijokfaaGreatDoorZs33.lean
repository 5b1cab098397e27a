/- A part of the proof. -/
import Derived.Test.YtmbccnioijokfaaGreatDoorZs29
namespace Go.Proofs.YtmbccnioijokfaaGreatDoor
set_option maxRecDepth 100000
set_option maxHeartbeats 32000000
open Go.Value (int)
open Go.IntKind (i64 u8)
open Go.Proofs.Tryz
variable {base g size b:Nat}{occ':Value}
section
open Go.RowKit Go.Maps
attribute [local go_sem] Oper.semAt_some
theorem LF {w:World}{e:TypeId}{α:Type}{enc:α->List Value}{xs:List α}{cur:Array Value}(f:Q0 w g e cur)(h:base<=g)(d:∀x,(enc x).length=size)(c:xs.length<=maxLen)(b:cur.toList=xs.flatMap enc):Q5 w base e size enc (.slice (some ⟨g,0,none⟩) xs.length xs.length) xs:=by
 have a:(xs.flatMap enc).length=xs.length * size:=QV d xs;refine ⟨a,.inr ⟨g,xs.length,cur,rfl,h,f,pA _,c,?_,?_⟩⟩
 ·rw [<-a,<-b,Array.length_toList]
 ·rw [b,List.take_of_length_le (by rw [a];exact pA _)]
def Qx (c:Cl):Cl:=(c.1,c.2.1 - 1,c.2.2)
def Eb (val:Cl->Int)(c:Cl):List (Int×Int×Int×Int):=if Zz (val (Qx c)) then [(c.1,c.2.1,c.2.2,val (Qx c)),(c.1,c.2.1 - 1,c.2.2,3)] else []
def cU (w:World)(xs:List (Int×Int×Int×Int))(r:Ending)(w':World):Prop:=∃v,r=.returned v/\Q5 w' w.heap.size 307 4 Bp v xs/\Below w.heap.size w w'
theorem kB (t:Nat)(val:Cl->Int)(c:Cl)(y:UD c)(w:World)(G:Yy prog 67 (.pointer (some ⟨t,0,none⟩)) val w):
  Calls prog 317 #[E0 t,XF c] w λr w'=>cU w (Eb val c) r w':=by
 obtain ⟨W,j⟩:=pt (w.alloc (.cells #[int i64 c.1,int i64 c.2.1,int i64 c.2.2] 43));have H:pM w W:=by rw [j];exact Q3 _ _
 have C:Q0 W w.heap.size 43 #[int i64 c.1,int i64 c.2.1,int i64 c.2.2]:=Q0.fresh j;have p:=pp λk=>Dj c y k
 have e:Gn (Qx c):=by
  obtain ⟨h1,h2,h3⟩:=y;unfold Gn Qg Qx;dsimp only;omega
 have l:=pp λk (g:pM w k)=>G (Qx c) e k g
 have N:=pp C;have J:=pp H;have hat:=Kl;obtain ⟨K,I,c2,-,-,-⟩:=C.c3;unfold Eb;generalize val (Qx c)=b at *;have x:=pp λk=>av b k
 unfold Qx at l;dsimp only at l;cases hy:Zz b
 ·rw [hy] at x;clear G H C y e hy;rw [if_neg (by decide)]
  go_enter func317,ntmps317;go_upto_region 1 with fail
  rw [<-j];clear j;go_upto_region 2 with (go_at_call 186;refine (p.o _).mono ?_;rintro u m ⟨rfl,d⟩;have E:=pp (after J.o d);unfold Vf;clear d)
  obtain ⟨n,a⟩:=pt (m.alloc (.cells #[int i64 c.1,int i64 (c.2.1 - 1),int i64 c.2.2] 43));have d:pM m n:=by rw [a];exact Q3 _ _
  have s:=pp (Q0.fresh a);obtain ⟨x0,x1,x2,-,-,-⟩:=(Q0.fresh a).c3;rw [<-a];have q:=pp (after E.o d);have h:=pp (l.o n q.o);clear a d l;go_wp2_with first
   | (go_at_call 67;refine h.o.mono ?_;rintro u F ⟨rfl,i⟩;have v:=pp (after q.o i);clear i)
   | (go_at_call 194;refine (x.o _).mono ?_;rintro u M ⟨rfl,rfl⟩)
  go_returns;exact ⟨_,rfl,Q5.nil,v.o⟩
 ·rw [hy] at x;clear G H C y e hy;rw [if_pos rfl];go_enter func317,ntmps317;go_upto_region 1 with fail
  rw [<-j];clear j;go_upto_region 2 with (go_at_call 186;refine (p.o _).mono ?_;rintro u m ⟨rfl,d⟩;have E:=pp (after J.o d);have z:=pp (N.o.on d);unfold Vf;clear d)
  clear K I c2;obtain ⟨n,a⟩:=pt (m.alloc (.cells #[int i64 c.1,int i64 (c.2.1 - 1),int i64 c.2.2] 43));have d:pM m n:=by rw [a];exact Q3 _ _
  have s:=pp (Q0.fresh a);obtain ⟨x0,x1,x2,-,-,-⟩:=(Q0.fresh a).c3;rw [<-a];have q:=pp (after E.o d);have h:=pp (l.o n q.o);have D:=pp (z.o.on d);clear a d l;go_upto_region 5 with first
   | (go_at_call 67;refine h.o.mono ?_;rintro u F ⟨rfl,i⟩;have v:=pp (after q.o i);have A:=pp (D.o.on i);have B:=pp (s.o.on i);clear i)
   | (go_at_call 194;refine (x.o _).mono ?_;rintro u M ⟨rfl,rfl⟩)
  clear x0 x1 x2;obtain ⟨K,I,c2,-,-,-⟩:=A.o.c3;obtain ⟨x0,x1,x2,-,-,-⟩:=B.o.c3;go_wp2_with fail;go_returns;obtain ⟨O,f⟩:=pt (F.alloc (.cells #[int i64 c.1,int i64 c.2.1,int i64 c.2.2,int i64 b,int i64 c.1,int i64 (c.2.1 - 1),int i64 c.2.2,int i64 3] 307));have L:pM F O:=by rw [f];exact Q3 _ _
  rw [<-f];refine ⟨_,rfl,LF (xs:=[(c.1,c.2.1,c.2.2,b),(c.1,c.2.1 - 1,c.2.2,3)]) (Q0.fresh f) v.o.size Fv (by simp [maxLen]) rfl,after v.o L⟩
def Bq (val:Cl->Int)(c:Cl):List (Int×Int×Int×Int):=if Uh (val c) then Eb val c else []
theorem LG (t:Nat)(val:Cl->Int)(c:Cl)(q:UD c)(x:Yv (val c)=false)(w:World)(p:Yy prog 67 (.pointer (some ⟨t,0,none⟩)) val w):
  Calls prog 274 #[E0 t,XF c] w λr w'=>cU w (Bq val c) r w':=by
 obtain ⟨W,e⟩:=pt (w.alloc (.cells #[int i64 c.1,int i64 c.2.1,int i64 c.2.2] 43));have H:pM w W:=by rw [e];exact Q3 _ _
 have C:Q0 W w.heap.size 43 #[int i64 c.1,int i64 c.2.1,int i64 c.2.2]:=Q0.fresh e;have z:=pp (p c (Up q c List.mem_cons_self) W H);have n:=pp λh (g:pM w h)=>kB t val c q h λd B E I=>p d B E (after g I)
 have D:=pp C;have y:=pp H;obtain ⟨A,v,c2,-,-,-⟩:=C.c3;unfold Bq;generalize Eb val c=sl at *;generalize val c=b at *;have a:=pp λh=>De b h
 have k:=pp λh=>Ke b h
 rw [x] at k;clear p H C q x;cases hf:Uh b
 ·rw [hf] at a;rw [if_neg (by decide)]
  clear hf;go_enter func274,ntmps274;go_upto_region 1 with fail
  rw [<-e];clear e;go_wp2_with first
   | (go_at_call 67;refine z.o.mono ?_;rintro i s ⟨rfl,f⟩;have j:=pp (after y.o f);clear f)
   | (go_at_call 275;refine (a.o _).mono ?_;rintro i u ⟨rfl,rfl⟩)
   | (go_at_call 259;refine (k.o _).mono ?_;rintro i u ⟨rfl,rfl⟩)
  go_returns;exact ⟨_,rfl,Q5.nil,j.o⟩
 ·rw [hf] at a;rw [if_pos rfl];clear hf;go_enter func274,ntmps274;go_upto_region 1 with fail
  rw [<-e];clear e;go_upto_region 3 with first
   | (go_at_call 67;refine z.o.mono ?_;rintro i s ⟨rfl,f⟩;have j:=pp (after y.o f);have l:=pp (D.o.on f);clear f)
   | (go_at_call 275;refine (a.o _).mono ?_;rintro i u ⟨rfl,rfl⟩)
  clear A v c2;obtain ⟨A,v,c2,-,-,-⟩:=l.o.c3;have m:=pp (n.o s j.o);go_wp2_with (go_at_call 317;refine m.o.mono ?_;rintro i w2 ⟨v2,rfl,o2,g2⟩;have F:=pp (o2.lowB j.o.size);have G:=pp (after j.o g2);clear o2 g2);go_returns;exact ⟨_,rfl,F.o,G.o⟩
structure SS where
 T:TS
 k:Nat
 Q:QS
 budget:Int
 now:Int
 d:Nat
structure SimAt (w:World)(s wd t q:Nat)(occ:Value)(S:SS)(v:Value)(ds:List Cl)(Mw Mq:Nat->Prop):Prop where
 blk:Q0 w s 111 #[q,wd,int i64 S.budget,int i64 S.now,occ,v]
 row:Q5 w 0 43 3 XG v ds
 len:ds.length<=S.d
 wd:Bb wd t S.T S.k w Mw
 q:QA q S.Q w Mq
 apart:∀b,Mw b->¬Mq b
def Vi (s:Nat)(v:Value)(Mw Mq:Nat->Prop)(b:Nat):Prop:=b=s∨v.ownBlock=some b∨Mw b∨Mq b
def QQ (s wd t q:Nat)(occ:Value)(S:SS):QK:=λw M=>∃v ds Mw Mq,SimAt w s wd t q occ S v ds Mw Mq/\∀b,M b↔Vi s v Mw Mq b
def Fw (ty:TypeId):Prop:=ty=111∨ty=43∨Sk ty∨QT ty
theorem F8:¬Sk 111/\¬QT 111/\¬Sk 43/\¬QT 43:=by
 refine ⟨λh=>?_,λh=>?_,λh=>?_,λh=>?_⟩
 ·rcases h with h|h|h|h|h|h|h|h|h|h<;>revert h<;>decide
 ·rcases h with h|h<;>revert h<;>decide
 ·rcases h with h|h|h|h|h|h|h|h|h|h<;>revert h<;>decide
 ·rcases h with h|h<;>revert h<;>decide
section
variable {w w':World}{s wd t q:Nat}{occ v:Value}{S:SS}{ds:List Cl}{Mw Mq M K:Nat->Prop}
theorem SimAt.type (h:SimAt w s wd t q occ S v ds Mw Mq)(a:Vi s v Mw Mq b):b<w.heap.size/\∀ty cs,Q0 w b ty cs->Fw ty:=by
 rcases a with rfl|a|a|a
 ·exact ⟨h.blk.lt,λty cs c=>.inl (Q7 c h.blk)⟩
 ·obtain ⟨-,cur,d⟩:=QC h.row a;exact ⟨d.lt,λty cs c=>.inr (.inl (Q7 c d))⟩
 ·exact ⟨(h.wd.type a).1,λty cs c=>.inr (.inr (.inl ((h.wd.type a).2 ty cs c)))⟩
 ·exact ⟨(h.q.type a).1,λty cs c=>.inr (.inr (.inr ((h.q.type a).2 ty cs c)))⟩
theorem SimAt.kept (h:SimAt w s wd t q occ S v ds Mw Mq)(d:Kept K w w')(c:∀b,Vi s v Mw Mq b->K b)(e:∀b cs,Q0 w b 5 cs->K b):SimAt w' s wd t q occ S v ds Mw Mq where
 blk:=d.blk (c _ (.inl rfl)) h.blk
 row:=h.row.keep d λb a=>c b (.inr (.inl a))
 len:=h.len
 wd:=(XR wd t S.T S.k).kept h.wd d (λb a=>c b (.inr (.inr (.inl a)))) e
 q:=(Zs q S.Q).kept h.q d (λb a=>c b (.inr (.inr (.inr a)))) e
 apart:=h.apart
theorem SimAt.on (h:SimAt w s wd t q occ S v ds Mw Mq)(a:Below w.heap.size w w'):SimAt w' s wd t q occ S v ds Mw Mq:=h.kept ((Kept.of_below a).mono (K':=λ_=>True) λ_ _=>trivial) (λ_ _=>trivial) (λ_ _ _=>trivial)
theorem Xs (s wd t q:Nat)(occ:Value)(S:SS):QK.Fit 5 (QQ s wd t q occ S) where
 lt:=λ⟨v,ds,Mw,Mq,h,a⟩ b c=>(h.type ((a b).1 c)).1
 nob:=λ⟨v,ds,Mw,Mq,h,a⟩ b c cs g=>by
  rcases (h.type ((a b).1 c)).2 _ _ g with h|h|h|h
  ·revert h;decide
  ·revert h;decide
  ·rcases h with h|h|h|h|h|h|h|h|h|h<;>revert h<;>decide
  ·rcases h with h|h<;>revert h<;>decide
 kept:=λ⟨v,ds,Mw,Mq,h,a⟩ e d f=>⟨v,ds,Mw,Mq,h.kept e (λb c=>d b ((a b).2 c)) f,a⟩
theorem SimAt.s_no (h:SimAt w s wd t q occ S v ds Mw Mq):¬Mw s/\¬Mq s:=⟨λa=>F8.1 ((h.wd.type a).2 _ _ h.blk),λa=>F8.2.1 ((h.q.type a).2 _ _ h.blk)⟩
theorem SimAt.r_no (h:SimAt w s wd t q occ S v ds Mw Mq)(a:v.ownBlock=some b):¬Mw b/\¬Mq b/\b≠s:=by
 obtain ⟨-,cur,c⟩:=QC h.row a;exact ⟨λa=>F8.2.2.1 ((h.wd.type a).2 _ _ c),λa=>F8.2.2.2 ((h.q.type a).2 _ _ c),λe=>by rw [e] at c;exact absurd (Q7 c h.blk) (by decide)⟩
theorem SimAt.world (h:SimAt w s wd t q occ S v ds Mw Mq){i:TS}{l:Nat}(k:Q6 (Bb wd t i l) w Mw w'):Q6 (QQ s wd t q occ { S with T:=i,k:=l }) w (Vi s v Mw Mq) w':=by
 obtain ⟨d,m,g,e⟩:=k;refine ⟨Vi s v d Mq,⟨v,ds,d,Mq,⟨e.blk h.s_no.1 h.blk,h.row.keep e λb a=>(h.r_no a).1,h.len,m,(Zs q S.Q).beside h.q e (λb a c=>h.apart b c a) ((XR wd t S.T S.k).nob h.wd),λb a c=>?_⟩,λ_=>Iff.rfl⟩,λb a=>?_,e.mono λb a f=>a (.inr (.inr (.inl f)))⟩
 ·rcases g b a with j|j
  ·exact h.apart b j c
  ·have:=(h.q.type c).1;omega
 ·rcases a with a|a|a|a
  ·exact .inl (.inl a)
  ·exact .inl (.inr (.inl a))
  ·exact (g b a).imp_left λh=>.inr (.inr (.inl h))
  ·exact .inl (.inr (.inr (.inr a)))
theorem SimAt.queue (h:SimAt w s wd t q occ S v ds Mw Mq){Q':QS}(k:Q6 (QA q Q') w Mq w'):Q6 (QQ s wd t q occ { S with Q:=Q' }) w (Vi s v Mw Mq) w':=by
 obtain ⟨d,j,g,e⟩:=k;refine ⟨Vi s v Mw d,⟨v,ds,Mw,d,⟨e.blk h.s_no.2 h.blk,h.row.keep e λb a=>(h.r_no a).2.1,h.len,(XR wd t S.T S.k).beside h.wd e (λb a c=>h.apart b a c) ((Zs q S.Q).nob h.q),j,λb a c=>?_⟩,λ_=>Iff.rfl⟩,λb a=>?_,e.mono λb a f=>a (.inr (.inr (.inr f)))⟩
 ·rcases g b c with i|i
  ·exact h.apart b a i
  ·have:=(h.wd.type a).1;omega
 ·rcases a with a|a|a|a
  ·exact .inl (.inl a)
  ·exact .inl (.inr (.inl a))
  ·exact .inl (.inr (.inr (.inl a)))
  ·exact (g b a).imp_left λh=>.inr (.inr (.inr h))
theorem SimAt.self (h:SimAt w s wd t q occ S v ds Mw Mq){S':SS}(c:Kept (λb=>b≠s) w w')(l:Q0 w' s 111 #[q,wd,int i64 S'.budget,int i64 S'.now,occ',v])(j:S'.T=S.T)(f:S'.k=S.k)(i:S'.Q=S.Q)(g:S'.d=S.d):SimAt w' s wd t q occ' S' v ds Mw Mq where
 blk:=l
 row:=h.row.keep c λb a=>(h.r_no a).2.2
 len:=by rw [g];exact h.len
 wd:=by rw [j,f];exact (XR wd t S.T S.k).kept h.wd c (λb a e=>h.s_no.1 (e▸a)) λb cs a e=>by rw [e] at a;exact absurd (Q7 a h.blk) (by decide)
 q:=by rw [i];exact (Zs q S.Q).kept h.q c (λb a e=>h.s_no.2 (e▸a)) λb cs a e=>by rw [e] at a;exact absurd (Q7 a h.blk) (by decide)
 apart:=h.apart
end
end
end Go.Proofs.YtmbccnioijokfaaGreatDoor