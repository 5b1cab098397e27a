/- A part of the proof. -/
import Derived.Test.YtmbccnioijokfaaGreatDoorZs6
import Derived.Deep.Cut
import Derived.Test.YtmbccnioijokfaaGreatDoorZs4
namespace Go.Proofs.YtmbccnioijokfaaGreatDoor
set_option maxRecDepth 100000
set_option maxHeartbeats 32000000
open Go.Value (int)
open Go.IntKind (i64 u8)
open Go.Proofs.Tryz
variable {w:World}{B:Nat}{v:Value}{F:Nat -> B8}
section
open Go.RowKit
theorem DD:(prog.info? 5).map (λi=>(i.zero,i.size,i.bytes))=some (some (int u8 0),1,1):=by kernel_rfl
theorem j9 (n:Nat)(c:0<n)(b:n<=140737488355328)(w:World):
  Calls prog 295 #[.slice none 0 0,int i64 n] w λr w'=>∃v,r=.returned v/\w'.ownsRow w.heap.size 5 1 v 0 []/\Below w.heap.size w w':=by
 obtain ⟨g,cap,W,hrun,hc,hm,a,d⟩:=Ro (P:=prog) (w:=w) (base:=w.heap.size) (F:=λ_=>0) (ty:=51) underlying51 underlying3 DD c b (pA _)
 have h1:(0:Int)<n:=by omega
 have h2:¬(n:Int)<0:=by omega
 have h3:(n:Int)<=140737488355328:=by omega
 go_enter func295,ntmps295;go_wp2_with (at_builtin;refine Lib.wpList_append_run _ rfl _ _ _ _ rfl _ _ rfl rfl _ _ hrun ?_);go_returns;exact ⟨_,rfl,a,d⟩
theorem TR {e:TypeId}(h:w.ownsRow B e 1 v 0 []):w.ownsRow B e 1 v 0 (bl F 0):=h
theorem Jt (n:Option Addr)(c o:Nat)(F:Nat->B8)(x:c<=o)(q2:Option Addr)(f c2:Nat)(G:Nat->B8)(t:f<=c2)(m:c+f<=140737488355328)(u:0<c+f)(l:Nat)(w:World)
  (k:Q0 w l 51 #[.slice n c o,.slice q2 f c2]) (q:YF w n c F) (z:YF w q2 f G):
  Calls prog 224 #[.slice (some ⟨l,0,none⟩) 2 2] w λr w'=>∃v,r=.returned v/\w'.ownsRow w.heap.size 5 1 v (c+f) (bl (XZ F c G) (c+f))/\Below w.heap.size w w':=by
 have l0:=k.cell 0;have A:=k.cell 1;have s1:(c:Int)+f<=140737488355328:=by omega
 have s2:¬(c:Int)<0:=by omega
 have s3:¬(c:Int)+f<0:=by omega
 have s:(c:Int)<=140737488355328:=by omega
 go_enter func224,ntmps224;go_upto_region 3 with fail
 refine wp_loop_rounds 3 ?_;rw [rounds_succ];go_wp2_with fail;rw [rounds_succ];go_wp2_with fail;rw [rounds_succ];go_wp2_with fail;rw [<-Int.natCast_add];refine (j9 (c+f) u m _).mono ?_;rintro e p ⟨v,rfl,b,H⟩;replace b:=TR (F:=F) b;obtain ⟨v1,y,j,a,d⟩:=Fl (P:=prog) (w:=p) (base:=w.heap.size) (ty:=51) underlying51 DD b x (q.on H) (by omega) H.size
 obtain ⟨qv,cv,rfl,-,-,-⟩:=Vs b;rw [OQ,Nat.zero_add] at a;replace d:=H.trans d;obtain ⟨v2,W2,g,h,i⟩:=Fl (P:=prog) (w:=y) (base:=w.heap.size) (ty:=51) underlying51 DD a t (z.on d) (by omega) d.size
 obtain ⟨qw,cw,rfl,-,-,-⟩:=Vs a;replace i:=d.trans i;replace l0:=(k.on H).cell 0;replace A:=(k.on d).cell 1;clear s1 s2 s3 s;go_upto_region 11 with fail
 refine wp_loop_rounds 3 ?_;rw [rounds_succ];go_wp2_with (at_builtin;refine Lib.wpList_append_run _ rfl _ _ _ _ rfl _ _ rfl rfl _ _ j ?_);rw [rounds_succ];go_wp2_with (at_builtin;refine Lib.wpList_append_run _ rfl _ _ _ _ rfl _ _ rfl rfl _ _ g ?_);rw [rounds_succ];go_wp2_with fail;go_returns;exact ⟨_,rfl,h,i⟩
theorem Nl (q:Option Addr)(n c:Nat)(F:Nat->B8)(u:n<=c)(h47:n<=140737488355328)(w:World)(p:YF w q n F):
  Calls prog 214 #[.slice q n c] w λr w'=>∃v,r=.returned v/\w'.ownsRow w.heap.size 5 1 v n (bl F n)/\Below w.heap.size w w':=by
 have hnl:∀(w:World) (a:Option Addr) (n c j k:Nat),(binOp .eql 51 (.slice a n c) (.slice none j k)).run prog w=.ok (.bool a.isNone) w:=λw a n c j k=>Lib.run_eql_slice_nil w _ _ a n c j k underlying51
 cases q with
 | none=>
  have s:n=0:=by
   rcases Nat.eq_zero_or_pos n with h|h
   ·exact h
   ·obtain ⟨g,o,t,_⟩:=p h;cases t
  subst s;go_enter func214,ntmps214;go_wp2_with fail;go_returns;exact ⟨_,rfl,Ni,pI _ _⟩
 | some a=>
  obtain ⟨i,l⟩:=pt (w.alloc (.cells #[] 5));have e:Below w.heap.size w i:=by rw [l];exact (pI _ _).alloc (pA _) _
  have f:i.ownsRow w.heap.size 5 1 (.slice (some ⟨w.heap.size,0,none⟩) 0 0) 0 (bl F 0):=
   ⟨rfl,.inr ⟨w.heap.size,0,#[],rfl,pA _,by rw [l];exact heap_alloc_new w _,pA _,by omega,rfl,rfl⟩⟩
  obtain ⟨v1,W1,d,b,m⟩:=Fl (P:=prog) (w:=i) (base:=w.heap.size) (ty:=51) underlying51 DD f u (p.on e) (by omega) e.size
  rw [OQ,Nat.zero_add] at b;rw [l] at d;go_enter func214,ntmps214;go_wp2_with (at_builtin;refine Lib.wpList_append_run _ rfl _ _ _ _ rfl _ _ rfl rfl _ _ d ?_);go_returns;exact ⟨_,rfl,b,e.trans m⟩
theorem dJ {b:Int}(a: -140737488355328<=b)(c:b<=140737488355328):Qs b 1=Qe (b - 1):=by
 unfold Qs;rw [Zm a c];rfl
theorem dK (b:Int):Qe (Qe b)=Qe b:=Zm (ZR b) (ZS b)
theorem Rq (a b c d e f:Int)(n: -140737488355328<=b)(k:b<=140737488355328)(w:World):Calls prog 185 #[.agg #[a,b,c,d,int i64 e,f]] w λr w'=>r=.returned (.agg #[int i64 (Qy a 1 0 (Qe (b - 1))),int i64 (Qy b 1 1 (Qe (b - 1))),int i64 (Qy c 1 2 (Qe (b - 1))),int i64 (Qy d 1 0 b),int i64 (Qy e 1 1 b),int i64 (Qy f 1 2 b)])/\Below w.heap.size w w':=by
 have U:Q0 ((w.alloc (.cells #[a,b,c,d,int i64 e,f] 210)).alloc (.cells #[int i64 0,int i64 0,int i64 0,int i64 0,int i64 0,int i64 0] 210)) w.heap.size 210 #[a,b,c,d,int i64 e,f]:=(Q0.new' rfl).alloc _;have s:Q0 ((w.alloc (.cells #[a,b,c,d,int i64 e,f] 210)).alloc (.cells #[int i64 0,int i64 0,int i64 0,int i64 0,int i64 0,int i64 0] 210)) (w.heap.size+1) 210 #[int i64 0,int i64 0,int i64 0,int i64 0,int i64 0,int i64 0]:=Q0.new' (by simp)
 obtain ⟨k0,k1,k2,k3,k4,k5⟩:=U.re6;obtain ⟨⟨u0,u1,u2,u3,u4,u5⟩,-,-,-,-,-,-⟩:=U.c6;have q:∀w,Calls prog 241 #[b,int i64 1] w λe w'=>e=.returned (int i64 (Qe (b - 1)))/\w=w':=λw=>by have:=Ra b 1 w;rwa [dJ n k] at this
 go_enter func185,ntmps185;go_upto_region 2 with fail
 refine Qo 10 (by kernel_rfl) rfl (by kernel_rfl) ?_
 simp only [List.take_succ_cons,List.take_zero,List.drop_succ_cons,List.drop_zero];repeat (go_big_quiet_step (first|(go_at_call 241;exact Calls.regrown_of (Ym (q _)))|exact Calls.regrown_of (Ha _ _ _ _ _ _)))
 refine wpQuiet_nil ?_;intro w' g;obtain ⟨h,rfl⟩:=g;have R:=s.re h.d h.os;obtain ⟨⟨r0,r1,r2,r3,r4,r5⟩,f0,f1,f2,f3,f4,f5⟩:=R.c6;go_wp2_with fail;have l:=R.st6 (int i64 (Qy a 1 0 (Qe (b - 1)))) (int i64 (Qy b 1 1 (Qe (b - 1)))) (int i64 (Qy c 1 2 (Qe (b - 1)))) (int i64 (Qy d 1 0 b)) (int i64 (Qy e 1 1 b)) (int i64 (Qy f 1 2 b));obtain ⟨⟨o,m,i,j,t,p⟩,-,-,-,-,-,-⟩:=l.c6;exact bodyPost_ret (v:=.agg #[int i64 (Qy a 1 0 (Qe (b - 1))),int i64 (Qy b 1 1 (Qe (b - 1))),int i64 (Qy c 1 2 (Qe (b - 1))),int i64 (Qy d 1 0 b),int i64 (Qy e 1 1 b),int i64 (Qy f 1 2 b)]) (by simp [results,results185,go_sem,o,m,i,j,t,p]) rfl ⟨rfl,by (repeat' (first|(with_reducible exact pI _ _)|(with_reducible assumption)|(with_reducible refine Below.alloc ?_ ?_ _)|(with_reducible refine Below.drew ?_)|(with_reducible refine Below.setCell ?_ ?_ _)|(with_reducible refine after ?_ (pK _ _ _))|(refine after ?_ (by with_reducible assumption))|go_size))⟩
theorem dL (a b c d e f:Int)(i: -140737488355328<=b)(g:b<=140737488355328)(w:World):Calls prog 185 #[.agg #[a,b,c,d,e,f]] w λr w'=>r=.returned (.agg #[a,int i64 (Qe (b - 1)),c,d,b,f])/\Below w.heap.size w w':=by
 have h:=Rq a b c d e f i g w;rw [show Qy a 1 0 (Qe (b - 1))=a from rfl,show Qy b 1 1 (Qe (b - 1))=Qe (b - 1) from dK _,show Qy c 1 2 (Qe (b - 1))=c from rfl,show Qy d 1 0 b=d from rfl,show Qy e 1 1 b=b from Zm i g,show Qy f 1 2 b=f from rfl] at h;exact h
end
end Go.Proofs.YtmbccnioijokfaaGreatDoor