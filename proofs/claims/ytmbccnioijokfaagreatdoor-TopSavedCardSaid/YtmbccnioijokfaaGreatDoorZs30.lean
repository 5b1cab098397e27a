/- A part of the proof. -/
import Derived.Test.YtmbccnioijokfaaGreatDoorZs26
import Derived.Test.YtmbccnioijokfaaGreatDoorZs28
namespace Go.Proofs.YtmbccnioijokfaaGreatDoor
set_option maxRecDepth 100000
set_option maxHeartbeats 32000000
open Go.Value (int)
open Go.IntKind (i64 u8)
open Go.Proofs.Tryz
section
open Go.RowKit
attribute [local go_sem] Oper.semAt_some
def NW (s:ByteArray)(n:Int):Prop:=∃b d,NumW s b d/\L9 b d=n
theorem Zk (N a:Nat)(s:ByteArray)(n:Int)(m:NW s n)(i:List ByteArray)(w:World)(h:Z8 N a (s::i) w):
  Calls prog 73 #[a] w λr w'=>r=.returned (int i64 n)/\Z8 N a i w'/\Kept (λb=>b≠a) w w':=by
 obtain ⟨b,d,c,j⟩:=m;have p:=pp (EL N a s i w h);have f:=λW=>WO s b d c W
 rw [j] at f;have g:=pp f;clear h c j f;go_enter func73,ntmps73;go_wp2_with first
  | (go_at_call 24;refine p.o.mono ?_;rintro l w1 ⟨rfl,(k:Hid _)⟩)
  | (go_at_call 114;refine (g.o _).mono ?_;rintro l w2 ⟨rfl,e⟩;replace e:=pp e)
  | (go_at_call 25;refine (AH _).mono ?_;rintro l w3 ⟨rfl,rfl⟩)
 go_returns;exact ⟨rfl,k.o.1.on e.o,k.o.2.on e.o⟩
theorem cS (N a:Nat)(s1 s2 s3:ByteArray)(x y z:Int)(B:NW s1 x)(u:NW s2 y)(D:NW s3 z)(C:List ByteArray)(w:World)(h:Z8 N a (s1::s2::s3::C) w):
  Calls prog 91 #[a] w λr w'=>r=.returned (.agg #[int i64 x,int i64 y,int i64 z])/\Z8 N a C w'/\Kept (λb=>b≠a) w w':=by
 obtain ⟨W,c⟩:=pt (w.alloc (.cells #[int i64 0,int i64 0,int i64 0] 38));have H:Below w.heap.size w W:=by rw [c];exact (pI _ _).alloc (pA _) _
 have R:Q0 W w.heap.size 38 #[int i64 0,int i64 0,int i64 0]:=by rw [c];exact Q0.new' (by simp)
 have V:=pp (h.on H);have j:N<=w.heap.size/\a<N:=h.le;have U:=pp R;have i:=pp (py j H);have q:=pp (py B (py u D));clear h H j B u D R;go_enter func91,ntmps91;go_upto_region 1 with fail
 rw [<-c];clear c;have s:=pp (show w.heap.size<=w.heap.size from pA _);generalize f:w.heap.size=g at *;have k:=pp f;clear f s;go_wp2_with first
  | (go_at_call 73;refine (Zk N a s1 x q.o.1 _ _ V.o).mono ?_;rintro F w1 ⟨rfl,G,t⟩;have M:=pp G;have Q:=pp t;clear G t)
  | (go_at_call 73;refine (Zk N a s2 y q.o.2.1 _ _ M.o).mono ?_;rintro F w2 ⟨rfl,I,E⟩;have Z:=pp I;have L:=pp (Q.o.trans E);clear I E)
  | (go_at_call 73;refine (Zk N a s3 z q.o.2.2 _ _ Z.o).mono ?_;rintro F l ⟨rfl,a3,A⟩;have Y:=pp a3;have e:=L.o.trans A;have T:=pp e;have d:=e.blk (show g≠a by have:=i.o.1;omega) U.o;have n:=pp d;obtain ⟨r0,r1,r2,f0,f1,f2⟩:=d.c3;clear a3 A e d)
 have O:=n.o.st3 (int i64 x) (int i64 y) (int i64 z);obtain ⟨X,S,J,-,-,-⟩:=O.c3;refine bodyPost_ret (v:=.agg #[int i64 x,int i64 y,int i64 z]) (by simp [results,results91,go_sem,X,S,J]) rfl ⟨rfl,Y.o.bel ?_,?_⟩
 ·have K:Below N l l:=.refl _ _;exact ((K.setCell (p:=⟨g,0,none⟩) i.o.1.1 _).setCell (p:=⟨g,1,none⟩) i.o.1.1 _).setCell (p:=⟨g,2,none⟩) i.o.1.1 _
 ·have P:Kept (λb=>b≠a) w l:=(Kept.of_below (by rw [k.o];exact i.o.2)).trans T.o
  have m:w.heap.size<=g:=by rw [k.o];exact pA _
  exact ((P.fresh (p:=⟨g,0,none⟩) m _).fresh (p:=⟨g,1,none⟩) m _).fresh (p:=⟨g,2,none⟩) m _
theorem NR (N a:Nat)(s1 s2 s3:ByteArray)(x y z:Int)(D:NW s1 x)(B:NW s2 y)(E:NW s3 z)(t:List ByteArray)(w:World)(h:Z8 N a (s1::s2::s3::t) w):
  Calls prog 98 #[a] w λr w'=>r=.returned (.agg #[int i64 x,int i64 y,int i64 z])/\Z8 N a t w'/\Kept (λb=>b≠a) w w':=by
 obtain ⟨W,c⟩:=pt (w.alloc (.cells #[int i64 0,int i64 0,int i64 0] 43));have H:Below w.heap.size w W:=by rw [c];exact (pI _ _).alloc (pA _) _
 have R:Q0 W w.heap.size 43 #[int i64 0,int i64 0,int i64 0]:=by rw [c];exact Q0.new' (by simp)
 have P:=pp (cS N a s1 s2 s3 x y z D B E t W (h.on H));have k:N<=w.heap.size/\a<N:=h.le;have O:=pp R;have j:=pp (py k H);clear h H k D B E R;go_enter func98,ntmps98;go_upto_region 1 with fail
 rw [<-c];clear c;generalize f:w.heap.size=g at *;have l:=pp f;clear f;go_upto_region 2 with (go_at_call 91;refine P.o.mono ?_;rintro e_ n ⟨rfl,F,A⟩;have J:=pp F;have C:=pp A;clear F A)
 obtain ⟨m,d⟩:=pt (n.alloc (.cells #[int i64 x,int i64 y,int i64 z] 38));have u:Below n.heap.size n m:=by rw [d];exact (pI _ _).alloc (pA _) _
 obtain ⟨c0,c1,c2,-,-,-⟩:=(Q0.fresh d).c3;have e:=(C.o.blk (show g≠a by have:=j.o.1;omega) O.o).on u
 obtain ⟨r0,r1,r2,f0,f1,f2⟩:=e.c3;have s:=pp e;have i:=pp u;rw [<-d];clear d u e;go_wp2_with fail;have K:=s.o.st3 (int i64 x) (int i64 y) (int i64 z);obtain ⟨Q,M,G,-,-,-⟩:=K.c3;refine bodyPost_ret (v:=.agg #[int i64 x,int i64 y,int i64 z]) (by simp [results,results98,go_sem,Q,M,G]) rfl ⟨rfl,(J.o.on i.o).bel ?_,?_⟩
 ·have I:Below N m m:=.refl _ _;exact ((I.setCell (p:=⟨g,0,none⟩) j.o.1.1 _).setCell (p:=⟨g,1,none⟩) j.o.1.1 _).setCell (p:=⟨g,2,none⟩) j.o.1.1 _
 ·have L:Kept (λb=>b≠a) w m:=((Kept.of_below (by rw [l.o];exact j.o.2)).trans C.o).on i.o
  have q:w.heap.size<=g:=by rw [l.o];exact pA _
  exact ((L.fresh (p:=⟨g,0,none⟩) q _).fresh (p:=⟨g,1,none⟩) q _).fresh (p:=⟨g,2,none⟩) q _
theorem kx (N a:Nat)(s1 s2:ByteArray)(x z:Int)(u:NW s1 x)(q:NW s2 z)(y:List ByteArray)(w:World)(h:Z8 N a (s1::s2::y) w):
  Calls prog 77 #[a] w λr w'=>r=.returned (.agg #[int i64 x,int i64 z])/\Z8 N a y w'/\Kept (λb=>b≠a) w w':=by
 obtain ⟨W,c⟩:=pt (w.alloc (.cells #[int i64 0,int i64 0] 123));have H:Below w.heap.size w W:=by rw [c];exact (pI _ _).alloc (pA _) _
 have R:Q0 W w.heap.size 123 #[int i64 0,int i64 0]:=by rw [c];exact Q0.new' (by simp)
 have L:=pp (h.on H);have i:N<=w.heap.size/\a<N:=h.le;have K:=pp R;have k:=pp (py i H);have A:=pp (py u q);clear h H i u q R;go_enter func77,ntmps77;go_upto_region 1 with fail
 rw [<-c];clear c;generalize f:w.heap.size=g at *;have j:=pp f;clear f;go_wp2_with first
  | (go_at_call 73;refine (Zk N a s1 x A.o.1 _ _ L.o).mono ?_;rintro Q w1 ⟨rfl,B,n⟩;have E:=pp B;have G:=pp n;clear B n)
  | (go_at_call 73;refine (Zk N a s2 z A.o.2 _ _ E.o).mono ?_;rintro Q l ⟨rfl,a3,t⟩;have P:=pp a3;have e:=G.o.trans t;have J:=pp e;have d:=e.blk (show g≠a by have:=k.o.1;omega) K.o;have m:=pp d;obtain ⟨r0,r1,f0,f1⟩:=d.pair;clear a3 t e d)
 have O:Q0 _ g 123 #[int i64 x,int i64 0]:=m.o.set_ 0 (int i64 x);have F:Q0 _ g 123 #[int i64 x,int i64 z]:=O.set_ 1 (int i64 z);obtain ⟨M,I,-,-⟩:=F.pair;refine bodyPost_ret (v:=.agg #[int i64 x,int i64 z]) (by simp [results,results77,go_sem,M,I]) rfl ⟨rfl,P.o.bel ?_,?_⟩
 ·have C:Below N l l:=.refl _ _;exact (C.setCell (p:=⟨g,0,none⟩) k.o.1.1 _).setCell (p:=⟨g,1,none⟩) k.o.1.1 _
 ·have D:Kept (λb=>b≠a) w l:=(Kept.of_below (by rw [j.o];exact k.o.2)).trans J.o
  have s:w.heap.size<=g:=by rw [j.o];exact pA _
  exact (D.fresh (p:=⟨g,0,none⟩) s _).fresh (p:=⟨g,1,none⟩) s _
theorem ky (N a:Nat)(b:Int)(f:Zi b=true)(e:List ByteArray)(w:World)(h:Z8 N a (Q4 (XK b)::e) w):
  Calls prog 96 #[a] w λr w'=>r=.returned (int i64 b)/\Z8 N a e w'/\Kept (λb=>b≠a) w w':=by
 have j:=pp (EL N a _ e w h);have d:=pp λW=>WL b f W
 clear h f;go_enter func96,ntmps96;go_wp2_with first
  | (go_at_call 24;refine j.o.mono ?_;rintro i w1 ⟨rfl,(g:Hid _)⟩)
  | (go_at_call 141;refine (d.o _).mono ?_;rintro i w2 ⟨rfl,c⟩;replace c:=pp c)
  | (go_at_call 25;refine (AH _).mono ?_;rintro i w3 ⟨rfl,rfl⟩)
 go_returns;exact ⟨rfl,g.o.1.on c.o,g.o.2.on c.o⟩
end
end Go.Proofs.YtmbccnioijokfaaGreatDoor