/- A part of the proof. -/
import Derived.Test.YtmbccnioijokfaaGreatDoorRows
import Derived.Test.YtmbccnioijokfaaGreatDoorZs2
import Derived.Lib.Mul64
namespace Go.Proofs.YtmbccnioijokfaaGreatDoor
set_option maxRecDepth 100000
set_option maxHeartbeats 32000000
open Go.Value (int)
open Go.IntKind (i64 u8)
open Go.Proofs.Tryz
variable {x y z:Int}
section
open Go.RowKit
theorem rcut_c (n:Int)(w:World):Calls prog 69 #[n] w λe w'=>e=.returned (int i64 (Qe n))/\w=w':=by
 go_enter func69,ntmps69;go_wp2
 all_goals (go_returns;exact ⟨Xp (by unfold Qe;omega),rfl⟩)
theorem BK (n:Int)(w:World):Calls prog 300 #[n] w λe w'=>e=.returned (int i64 (Qe n))/\w=w':=by
 go_enter func300,ntmps300;go_wp2
 all_goals (go_returns;exact ⟨Xp (by unfold Qe;omega),rfl⟩)
theorem iP (a b:Int)(w:World):Calls prog 262 #[a,b] w λe w'=>e=.returned (int i64 (Q9 a b))/\w=w':=by
 have h1:=ZR a;have h2:=ZS a;have h3:=ZR b;have h4:=ZS b;go_enter func262,ntmps262;go_wp2_with (go_at_call 300;refine (BK _ _).mono ?_;rintro e w1 ⟨rfl,rfl⟩);go_returns;exact ⟨Xp rfl,rfl⟩
theorem Ra (a b:Int)(w:World):Calls prog 241 #[a,b] w λe w'=>e=.returned (int i64 (Qs a b))/\w=w':=by
 have h1:=ZR a;have h2:=ZS a;have h3:=ZR b;have h4:=ZS b;go_enter func241,ntmps241;go_wp2_with (go_at_call 300;refine (BK _ _).mono ?_;rintro e w1 ⟨rfl,rfl⟩);go_returns;exact ⟨Xp rfl,rfl⟩
theorem DA (n m:Int)(hn: -9223372036854775808<=n)(hn2:n<=9223372036854775807)(hm:0<m)(w:World):Calls prog 8 #[n,m] w λe w'=>e=.returned (int i64 (Zb n m))/\w=w':=by
 by_cases h:n<0
 all_goals
  go_enter func8,ntmps8;go_wp2;go_returns;exact ⟨Xp (by unfold Zb;first|rw [if_neg (by omega)]|rw [if_pos h,<-Int.neg_tmod,Int.tmod_eq_emod_of_nonneg (a:= -(n+1)) (b:=m) (by omega)]),rfl⟩
theorem Re (n:Int)(w:World):Calls prog 310 #[n] w λe w'=>e=.returned (.tuple #[.int .u64 (U7 (Qe n)),.bool (decide (Qe n<0))])/\w=w':=by
 have h1:=ZR n;have h2:=ZS n;go_enter func310,ntmps310;go_wp2_with (go_at_call 300;refine (BK _ _).mono ?_;rintro e w1 ⟨rfl,rfl⟩)
 all_goals
  go_returns;exact ⟨PI (vi (by unfold U7;omega)) (vb (by rw [eq_comm];simp;omega)),rfl⟩
def Qm (n:Int):Int:=Qe n / 65536
def X9 (n m:Int):Int:=if Qm m * 65536=m/\Qm n<Qm m then Qm m - 1 else Qm m
def Zu (n m:Int):Bool:=(n==m)&&(Qm n * 65536==n)
theorem Rf {n m:Int}(b: -140737488355328<=n)(c:m<=140737488355328)(h:n<=m):(if n=m then Qm n else Qe (Qe m+Qe (-1)) / 65536)=X9 n m:=by
 unfold X9 Qm;rw [Zm b (by omega),Zm (by omega) c,Zm (n:= -1) (by decide) (by decide)]
 by_cases a:n=m
 ·subst a;rw [if_pos rfl,if_neg (by omega)]
 ·rw [if_neg a,Zm (by omega) (by omega)]
  split<;>omega
theorem ON {n m:Int}(a: -140737488355328<=n)(b:n<=140737488355328):((n==m)&&(Qe n%65536==0))=Zu n m:=by
 unfold Zu Qm;rw [Zm a b];congr 1;rw [Bool.eq_iff_iff];simp only [beq_iff_eq];omega
theorem Gf {n m:Int}(a: -140737488355328<=n)(b:m<=140737488355328)(h:n<=m):Qm n<=X9 n m:=by
 unfold X9 Qm;rw [Zm a (by omega),Zm (by omega) b]
 split<;>omega
theorem iQ (n m a b:Int)(w:World):Calls prog 353 #[n,m,a,b] w λr w'=>r=.returned (int i64 (if n=m then a else b))/\w=w':=by
 by_cases h:n=m
 ·have c:(n==m)=true:=by simpa using h
  rw [if_pos h];clear h;go_enter func353,ntmps353;go_wp2_with fail;go_returns;exact ⟨rfl,rfl⟩
 ·have c:(n==m)=false:=by simpa using h
  rw [if_neg h];clear h;go_enter func353,ntmps353;go_wp2_with fail;go_returns;exact ⟨rfl,rfl⟩
theorem DB (a:Nat)(b:a<18446744073709551616):bits .and .u64 (a:Int) 4294967295=((a%4294967296:Nat):Int):=by
 have h:=bits_and_u64_nat a 4294967295 b (by omega)
 have e:a&&&4294967295=a%4294967296:=Nat.and_two_pow_sub_one_eq_mod a 32;rw [e] at h;exact h
theorem Rg (a:Nat):(a:Int) / 4294967296=((a / 4294967296:Nat):Int):=by omega
theorem Rh (a b:Nat):(a:Int) * (b:Int)=((a * b:Nat):Int):=(Int.natCast_mul a b).symm
theorem Ri (a b:Nat):(a:Int)+(b:Int)=((a+b:Nat):Int):=(Int.natCast_add a b).symm
theorem ZE (a:Nat)(ha:a<18446744073709551616):IntKind.u64.wrap (a:Int)=(a:Int):=by rw [IntKind.wrap_u64];omega
theorem MQ (a:Nat):IntKind.u64.wrap (a:Int)=((a%18446744073709551616:Nat):Int):=by rw [IntKind.wrap_u64];omega
theorem dD (x y:Nat)(j:x<18446744073709551616)(i:y<18446744073709551616)(w:World):
  Calls prog 312 #[.int .u64 x,.int .u64 y] w λe w'=>e=.returned (.tuple #[.int .u64 ((x * y / 18446744073709551616:Nat):Int),.int .u64 ((x * y%18446744073709551616:Nat):Int)])/\w=w':=by
 obtain ⟨bd,k,l,h⟩:=Lib.mul64_hi x y j i;have ba:=Lib.half_mul_le (a:=x / 4294967296) (b:=y / 4294967296) (by omega) (by omega)
 have bb:=Lib.half_mul_le (a:=x / 4294967296) (b:=y%4294967296) (by omega) (by omega)
 have bc:=Lib.half_mul_le (a:=x%4294967296) (b:=y / 4294967296) (by omega) (by omega)
 have f:x / 4294967296 * (y / 4294967296)<18446744073709551616:=by omega
 have c:x / 4294967296 * (y%4294967296)<18446744073709551616:=by omega
 have d:x%4294967296 * (y / 4294967296)<18446744073709551616:=by omega
 have g:x / 4294967296 * (y / 4294967296)+(x / 4294967296 * (y%4294967296)+x%4294967296 * (y%4294967296) / 4294967296) / 4294967296<18446744073709551616:=by omega
 have m:x / 4294967296 * (y / 4294967296)+(x / 4294967296 * (y%4294967296)+x%4294967296 * (y%4294967296) / 4294967296) / 4294967296+((x / 4294967296 * (y%4294967296)+x%4294967296 * (y%4294967296) / 4294967296)%4294967296+x%4294967296 * (y / 4294967296)) / 4294967296<18446744073709551616:=by omega
 go_enter func312,ntmps312;go_wp2;simp only [DB x j,DB y i,Rg,Rh,Ri,ZE _ bd,ZE _ c,ZE _ k,DB _ k,ZE _ d,ZE _ l,ZE _ f,ZE _ g,ZE _ m,MQ (x * y)];rw [h];go_ret2;exact ⟨rfl,rfl⟩
theorem TH (n:Int)(b r:Bool)(p q:Nat)(hn:0<=n)(hn2:n<=140737488355328)(w:World)(hb:w.cell? ⟨p,0,none⟩=some (.bool b))(hr:w.cell? ⟨q,0,none⟩=some (.bool r)):
  Calls prog 340 #[.int .u64 n,p,q] w λe w'=>e=.returned (.int .u64 (Jn n b r))/\w=w':=by
 cases b<;>cases r
 all_goals
  go_enter func340,ntmps340;go_wp2;go_returns;exact ⟨Xp (by simp [Jn]),rfl⟩
theorem Nc (q:Int)(rest a:Bool)(hq:0<=q)(hq2:q<=18446744073709551615)(w:World):
  Calls prog 311 #[.int .u64 q,.bool rest,.bool a] w λe w'=>e=.returned (int i64 (Iy q rest a))/\Below w.heap.size w w':=by
 have hmf:∀(b:Fn) (first cap:Array Value) (w:World),(Instr.makeFunc b first cap).run prog w=.ok (.func b first cap) w:=λ_ _ _ _=>rfl
 by_cases h:140737488355328<=q<;>cases a
 all_goals
  go_enter func311,ntmps311;go_wp2_with fail
  first
   | (go_returns;exact ⟨Xp (by simp [Iy];omega),by go_grown⟩)
   | (
    refine (TH _ _ _ _ _ (by omega) (by omega) _ (Q0.new' (by simp)).c1.1 ((Q0.new' rfl).alloc _).c1.1).mono ?_
    rintro e w1 ⟨rfl,rfl⟩;have ub:=PO 140737488355328 true false;have ub2:=PO q true rest;go_wp2_with fail;go_returns;exact ⟨Xp (by simp [Iy,h];first|rfl|(simp [Jn];done)|omega),by go_grown⟩)
theorem dE (x y:Int)(b:0<=x)(a:0<=y)(AY:x<=140737488355328)(hy2:y<=140737488355328)(w:World):
  Calls prog 312 #[.int .u64 x,.int .u64 y] w λe w'=>e=.returned (.tuple #[.int .u64 (x * y / 18446744073709551616),.int .u64 (x * y%18446744073709551616)])/\w=w':=by
 obtain ⟨x,rfl⟩:=Int.eq_ofNat_of_zero_le b;obtain ⟨y,rfl⟩:=Int.eq_ofNat_of_zero_le a;refine (dD x y (by omega) (by omega) w).mono ?_
 rintro e w' ⟨rfl,rfl⟩;exact ⟨PI (vi (by rw [Int.natCast_ediv,Int.natCast_mul];rfl)) (vi (by rw [Int.natCast_emod,Int.natCast_mul];rfl)),rfl⟩
theorem iR (a b:Int)(w:World):Calls prog 264 #[a,b] w λe w'=>e=.returned (int i64 (Tw a b))/\Below w.heap.size w w':=by
 obtain ⟨h,j⟩:=N5 (ZR a) (ZS a);obtain ⟨bx,g⟩:=N5 (ZR b) (ZS b);have l:0<=U7 (Qe a) * U7 (Qe b):=Int.mul_nonneg h bx;have i:=pp (dv (Qe a) (Qe b) _ rfl l);go_enter func264,ntmps264;go_wp2_with fail;refine (Re a _).mono ?_;rintro e c ⟨rfl,rfl⟩;go_wp2_with fail;refine (Re b _).mono ?_;rintro e c ⟨rfl,rfl⟩;go_wp2_with fail;refine (dE _ _ h bx j g _).mono ?_;rintro e c ⟨rfl,rfl⟩;generalize U7 (Qe a) * U7 (Qe b)=p at *;have l0:0<=p%18446744073709551616:=by omega
 have l1:p%18446744073709551616<=18446744073709551615:=by omega
 have H0:0<=p / 18446744073709551616:=by omega
 by_cases k:0<p / 18446744073709551616
 ·go_wp2_with fail;refine (Nc _ _ _ (by omega) (by omega) _).mono ?_;rintro e c ⟨rfl,d⟩
  go_wp2_with fail;go_returns;exact ⟨Xp (i.o.1 k _),d⟩
 ·have f:p / 18446744073709551616<=0:=by omega
  go_wp2_with fail;refine (Nc _ _ _ (by omega) (by omega) _).mono ?_;rintro e c ⟨rfl,d⟩
  go_wp2_with fail;go_returns;exact ⟨Xp (i.o.2 f),d⟩
theorem Nd (n:Int)(w:World):Calls prog 237 #[n] w λe w'=>e=.returned (int i64 (Qe n / 65536))/\w=w':=by
 have h1:=ZR n;have h2:=ZS n;go_enter func237,ntmps237;go_wp2_with (go_at_call 300;refine (BK _ _).mono ?_;rintro e w1 ⟨rfl,rfl⟩);go_returns;exact ⟨Xp rfl,rfl⟩
theorem Rj (n:Int)(w:World):Calls prog 308 #[n] w λe w'=>e=.returned (int i64 (Qe n%65536))/\w=w':=by
 have h1:=ZR n;have h2:=ZS n;go_enter func308,ntmps308;go_wp2_with (go_at_call 300;refine (BK _ _).mono ?_;rintro e w1 ⟨rfl,rfl⟩);go_returns;exact ⟨Xp (JS _),rfl⟩
def Xu (c:Int):Int:=min (max c (-2147483648)) 2147483648 * 65536
theorem iS (n:Int)(w:World):Calls prog 244 #[n] w λe w'=>e=.returned (int i64 (Xu n))/\w=w':=by
 go_enter func244,ntmps244;go_wp2
 all_goals (go_returns;exact ⟨Xp (by unfold Xu;omega),rfl⟩)
theorem nX (n v:Int)(h:Xu n=v)(w:World):Calls prog 244 #[n] w λe w'=>e=.returned (int i64 v)/\w=w':=by
 rw [<-h];exact iS n w
theorem OO (x y z:Int)(w:World):Calls prog 182 #[.agg #[x,y,z]] w λe w'=>e=.returned (.agg #[int i64 (Qm x),int i64 (Qm y),int i64 (Qm z)])/\Below w.heap.size w w':=by
 have U:Q0 ((w.alloc (.cells #[x,y,z] 38)).alloc (.cells #[int i64 0,int i64 0,int i64 0] 43)) w.heap.size 38 #[x,y,z]:=(Q0.new' rfl).alloc _;have h:Q0 ((w.alloc (.cells #[x,y,z] 38)).alloc (.cells #[int i64 0,int i64 0,int i64 0] 43)) (w.heap.size+1) 43 #[int i64 0,int i64 0,int i64 0]:=Q0.new' (by simp)
 obtain ⟨k0,k1,k2⟩:=U.re3;have g:∀(n:Int) (w:World),Calls prog 237 #[int i64 n] w λe w'=>e=.returned (int i64 (Qm n))/\w=w':=Nd
 go_enter func182,ntmps182;go_wp2_with fail;refine Qo 10 (by kernel_rfl) rfl (by kernel_rfl) ?_
 simp only [List.take_succ_cons,List.take_zero,List.drop_succ_cons,List.drop_zero];repeat (go_big_quiet_step (exact Calls.regrown_of (Ym (g _ _))))
 refine wpQuiet_nil ?_;intro w' a;obtain ⟨b,rfl⟩:=a;have R:=h.re b.d b.os;obtain ⟨r0,r1,r2,s0,s1,s2⟩:=R.c3;go_wp2_with fail;have i:=R.st3 (int i64 (Qm x)) (int i64 (Qm y)) (int i64 (Qm z));obtain ⟨c,j,f,-,-,-⟩:=i.c3;exact bodyPost_ret (v:=.agg #[int i64 (Qm x),int i64 (Qm y),int i64 (Qm z)]) (by simp [results,results182,go_sem,c,j,f]) rfl ⟨rfl,by (repeat' (first|(with_reducible exact pI _ _)|(with_reducible assumption)|(with_reducible refine Below.alloc ?_ ?_ _)|(with_reducible refine Below.drew ?_)|(with_reducible refine Below.setCell ?_ ?_ _)|(with_reducible refine after ?_ (pK _ _ _))|(refine after ?_ (by with_reducible assumption))|go_size))⟩
theorem Nf (b:Nat)(w:World):Calls prog 304 #[b] w λe w'=>e=.returned (.agg #[b,.pointer (some ⟨b,1,none⟩),.pointer (some ⟨b,2,none⟩)])/\Below w.heap.size w w':=by
 go_enter func304,ntmps304;go_wp2;go_region
 all_goals go_wp2
 all_goals go_returns
 all_goals exact ⟨rfl,by go_grown⟩
theorem iT (a b c:Option Addr)(w:World):(Instr.index 350 (.agg #[.pointer a,.pointer b,.pointer c]) (int i64 0)).run prog w=.ok (.pointer a) w:=by kernel_rfl
theorem iU (a b c:Option Addr)(w:World):(Instr.index 350 (.agg #[.pointer a,.pointer b,.pointer c]) (int i64 1)).run prog w=.ok (.pointer b) w:=by kernel_rfl
theorem iV (a b c:Option Addr)(w:World):(Instr.index 350 (.agg #[.pointer a,.pointer b,.pointer c]) (int i64 2)).run prog w=.ok (.pointer c) w:=by kernel_rfl
theorem cA (x y z:Int):Xc x y z 0=x:=rfl
theorem cB (x y z:Int):Xc x y z 1=y:=rfl
theorem cC (x y z:Int):Xc x y z 2=z:=rfl
theorem Rk {a:Int}(h:a<0∨2<a):Xc x y z a=0:=by unfold Xc;rw [if_neg (by omega),if_neg (by omega),if_neg (by omega)]
theorem BL (x y z a:Int)(w:World):Calls prog 248 #[.agg #[x,y,z],int i64 a] w λe w'=>e=.returned (int i64 (Xc x y z a))/\Below w.heap.size w w':=by
 by_cases h:a<0
 ·go_enter func248,ntmps248;go_wp2_with fail;go_returns;exact ⟨Xp (Rk (.inl (by omega))).symm,by go_grown⟩
 by_cases b:2<a
 ·go_enter func248,ntmps248;go_wp2_with fail;go_returns;exact ⟨Xp (Rk (.inr (by omega))).symm,by go_grown⟩
 have c:a=0∨a=1∨a=2:=by omega
 clear h b;have i0:=iT;have i1:=iU;have i2:=iV;rcases c with rfl|rfl|rfl
 all_goals
  go_enter func248,ntmps248;go_wp2_with fail;refine (Nf _ _).mono ?_;rintro e w1 ⟨rfl,d⟩;obtain ⟨hc,hf⟩:=lU d;go_wp2_with fail;go_returns;exact ⟨Xp rfl,by (repeat' (first|(with_reducible exact pI _ _)|(with_reducible assumption)|(with_reducible refine Below.alloc ?_ ?_ _)|(with_reducible refine Below.drew ?_)|(with_reducible refine Below.setCell ?_ ?_ _)|(with_reducible refine after ?_ (pK _ _ _))|(refine after ?_ (by with_reducible assumption))|go_size))⟩
theorem KD (x y z a v:Int)(h:Xc x y z a=v)(w:World):Calls prog 248 #[.agg #[x,y,z],int i64 a] w λe w'=>e=.returned (int i64 v)/\Below w.heap.size w w':=by
 rw [<-h];exact BL x y z a w
theorem GZ (g:FuncId)(l:Array Value)(f:Int->Int->Int)(x y z:Int)(w:World)(he:∀args w,(callFunc g args).run prog w=.ok (.enter g args) w)
  (E:∀(i n:Int) W,Below w.heap.size w W->Calls prog g (#[int i64 i,int i64 n]++l) W λe W'=>e=.returned (int i64 (f i n))/\Below W.heap.size W W'):
  Calls prog 260 #[.agg #[x,y,z],.func (.func g) #[] l] w λe w'=>e=.returned (.agg #[int i64 (f 0 x),int i64 (f 1 y),int i64 (f 2 z)])/\Below w.heap.size w w':=by
 have i0:=iT;have i1:=iU;have i2:=iV;have r:=pp E;clear E;go_enter func260,ntmps260;go_wp2_with fail;have K:Q0 ((w.alloc (.cells #[x,y,z] 38)).alloc (.cells #[int i64 0,int i64 0,int i64 0] 38)) w.heap.size 38 #[x,y,z]:=(Q0.new' rfl).alloc _;have L:Q0 ((w.alloc (.cells #[x,y,z] 38)).alloc (.cells #[int i64 0,int i64 0,int i64 0] 38)) (w.heap.size+1) 38 #[int i64 0,int i64 0,int i64 0]:=Q0.new' (by simp)
 have D:pM w ((w.alloc (.cells #[x,y,z] 38)).alloc (.cells #[int i64 0,int i64 0,int i64 0] 38)):=by go_grown
 refine (Nf _ _).mono ?_;rintro e w1 ⟨rfl,a⟩;have u:=K.on a;have O:=L.on a;have s:=after D a;clear a K L D;obtain ⟨h,b,k,d,j,c⟩:=u.c3;go_wp2_with fail;refine wp_loop_rounds 4 ?_;rw [rounds_succ];go_wp2_with fail;refine (r.o 0 x _ s).mono ?_;rintro e w2 ⟨rfl,a⟩;have C:=u.on a;have G:=O.on a;have Q:=after s a;clear a h b k d j c u O s;obtain ⟨h,b,k,d,j,c⟩:=C.c3;have t:=C.set_ 0 (int i64 (f 0 x));have P:=G.far (p:=⟨w.heap.size,0,none⟩) (by simp) (int i64 (f 0 x))
 have m:=Q.setCell (p:=⟨w.heap.size,0,none⟩) (pA _) (int i64 (f 0 x));go_wp2_with fail;rw [rounds_succ];clear h b k d j c;obtain ⟨h,b,k,d,j,c⟩:=t.c3;go_wp2_with fail;refine (r.o 1 y _ m).mono ?_;rintro e w4 ⟨rfl,a⟩;have B:=t.on a;have I:=P.on a;have H:=after m a;clear a h b k d j c t P m C G Q;obtain ⟨h,b,k,d,j,c⟩:=B.c3;have A:=B.set_ 1 (int i64 (f 1 y));have N:=I.far (p:=⟨w.heap.size,1,none⟩) (by simp) (int i64 (f 1 y))
 have q:=H.setCell (p:=⟨w.heap.size,1,none⟩) (pA _) (int i64 (f 1 y));go_wp2_with fail;rw [rounds_succ];clear h b k d j c;obtain ⟨h,b,k,d,j,c⟩:=A.c3;go_wp2_with fail;refine (r.o 2 z _ q).mono ?_;rintro e w6 ⟨rfl,a⟩;have B6:=A.on a;have F:=N.on a;have S:=after q a;clear a h b k d j c A N q B I H;obtain ⟨h,b,k,d,j,c⟩:=B6.c3;obtain ⟨R,J,c2,c3,c4,c5⟩:=F.c3;have X:=B6.set_ 2 (int i64 (f 2 z));have M:=F.far (p:=⟨w.heap.size,2,none⟩) (by simp) (int i64 (f 2 z))
 have H7:=S.setCell (p:=⟨w.heap.size,2,none⟩) (pA _) (int i64 (f 2 z));go_wp2_with fail;rw [rounds_succ];clear h b k d j c R J c2 c3 c4 c5;obtain ⟨h,b,k,d,j,c⟩:=X.c3;obtain ⟨R,J,c2,c3,c4,c5⟩:=M.c3;have V:=((M.set_ 0 (int i64 (f 0 x))).set_ 1 (int i64 (f 1 y))).set_ 2 (int i64 (f 2 z));go_wp2_with fail;obtain ⟨Y,U,T,-,-,-⟩:=V.c3;exact bodyPost_ret (v:=.agg #[int i64 (f 0 x),int i64 (f 1 y),int i64 (f 2 z)]) (by simp [results,results260,go_sem,Y,U,T]) rfl ⟨rfl,by (repeat' (first|(with_reducible exact pI _ _)|(with_reducible assumption)|(with_reducible refine Below.alloc ?_ ?_ _)|(with_reducible refine Below.drew ?_)|(with_reducible refine Below.setCell ?_ ?_ _)|(with_reducible refine after ?_ (pK _ _ _))|(refine after ?_ (by with_reducible assumption))|go_size))⟩
theorem iW (i n:Int)(w:World):Calls prog 306 #[i,n] w λe w'=>e=.returned (int i64 (Qe n))/\Below w.heap.size w w':=by
 go_enter func306,ntmps306;go_wp2_with fail;refine (BK _ _).mono ?_;rintro e w1 ⟨rfl,rfl⟩;go_wp2_with fail;go_returns;exact ⟨Xp rfl,by (repeat' (first|(with_reducible exact pI _ _)|(with_reducible assumption)|(with_reducible refine Below.alloc ?_ ?_ _)|(with_reducible refine Below.drew ?_)|(with_reducible refine Below.setCell ?_ ?_ _)|(with_reducible refine after ?_ (pK _ _ _))|(refine after ?_ (by with_reducible assumption))|go_size))⟩
theorem cutv_c (x y z:Int)(w:World):Calls prog 252 #[.agg #[int i64 x,int i64 y,int i64 z]] w λe w'=>e=.returned (.agg #[int i64 (Qe x),int i64 (Qe y),int i64 (Qe z)])/\Below w.heap.size w w':=by
 have e:=enters_of func306 (by kernel_rfl) rfl
 go_enter func252,ntmps252;go_wp2_with fail;have a:Q0 ((w.alloc (.cells #[int i64 x,int i64 y,int i64 z] 38)).alloc (.cells #[int i64 0,int i64 0,int i64 0] 38)) (w.heap.size+1) 38 #[int i64 0,int i64 0,int i64 0]:=Q0.new' (by simp)
 refine (GZ 306 #[] (λ_ n=>Qe n) _ _ _ _ e ?_).mono ?_
 ·intro i n W _;exact iW i n W
 rintro e w1 ⟨rfl,d⟩;have R:=a.on d;clear a;obtain ⟨r0,r1,r2,r3,r4,r5⟩:=R.c3;go_wp2_with fail;have f:=R.st3 (int i64 (Qe x)) (int i64 (Qe y)) (int i64 (Qe z));obtain ⟨b,g,c,-,-,-⟩:=f.c3;exact bodyPost_ret (v:=.agg #[int i64 (Qe x),int i64 (Qe y),int i64 (Qe z)]) (by simp [results,results252,go_sem,b,g,c]) rfl ⟨rfl,by (repeat' (first|(with_reducible exact pI _ _)|(with_reducible assumption)|(with_reducible refine Below.alloc ?_ ?_ _)|(with_reducible refine Below.drew ?_)|(with_reducible refine Below.setCell ?_ ?_ _)|(with_reducible refine after ?_ (pK _ _ _))|(refine after ?_ (by with_reducible assumption))|go_size))⟩
theorem dF (i n a m:Int)(w:World)(b c:Nat)(h:w.cell? ⟨b,0,none⟩=some (int i64 a))(h2:w.cell? ⟨c,0,none⟩=some (int i64 m)):Calls prog 303 #[i,n,b,c] w λe w'=>e=.returned (int i64 (Qy n a i m))/\Below w.heap.size w w':=by
 by_cases g:i=a
 ·have t:(i==a)=true:=by simpa using g
  have G:=pp g;clear g;go_enter func303,ntmps303;go_wp2_with fail;refine (BK _ _).mono ?_;rintro e w1 ⟨rfl,rfl⟩;go_wp2_with fail;go_returns;exact ⟨Xp (by unfold Qy;rw [if_pos G.o]),by (repeat' (first|(with_reducible exact pI _ _)|(with_reducible assumption)|(with_reducible refine Below.alloc ?_ ?_ _)|(with_reducible refine Below.drew ?_)|(with_reducible refine Below.setCell ?_ ?_ _)|(with_reducible refine after ?_ (pK _ _ _))|(refine after ?_ (by with_reducible assumption))|go_size))⟩
 ·have t:(i==a)=false:=by simpa using g
  have G:=pp g;clear g;go_enter func303,ntmps303;go_wp2_with fail;go_returns;exact ⟨Xp (by unfold Qy;rw [if_neg G.o]),by (repeat' (first|(with_reducible exact pI _ _)|(with_reducible assumption)|(with_reducible refine Below.alloc ?_ ?_ _)|(with_reducible refine Below.drew ?_)|(with_reducible refine Below.setCell ?_ ?_ _)|(with_reducible refine after ?_ (pK _ _ _))|(refine after ?_ (by with_reducible assumption))|go_size))⟩
theorem Ha (x y z a m:Int)(w:World):Calls prog 240 #[.agg #[int i64 x,int i64 y,int i64 z],int i64 a,int i64 m] w λe w'=>e=.returned (.agg #[int i64 (Qy x a 0 m),int i64 (Qy y a 1 m),int i64 (Qy z a 2 m)])/\Below w.heap.size w w':=by
 have e:=enters_of func303 (by kernel_rfl) rfl
 go_enter func240,ntmps240;go_wp2_with fail;have d:Q0 ((((w.alloc (.cells #[int i64 x,int i64 y,int i64 z] 38)).alloc (.cells #[int i64 a] 3)).alloc (.cells #[int i64 m] 3)).alloc (.cells #[int i64 0,int i64 0,int i64 0] 38)) (w.heap.size+1+1+1) 38 #[int i64 0,int i64 0,int i64 0]:=Q0.new' (by simp)
 have c:Q0 ((((w.alloc (.cells #[int i64 x,int i64 y,int i64 z] 38)).alloc (.cells #[int i64 a] 3)).alloc (.cells #[int i64 m] 3)).alloc (.cells #[int i64 0,int i64 0,int i64 0] 38)) (w.heap.size+1) 3 #[int i64 a]:=((Q0.new' (by simp)).alloc _).alloc _
 have f:Q0 ((((w.alloc (.cells #[int i64 x,int i64 y,int i64 z] 38)).alloc (.cells #[int i64 a] 3)).alloc (.cells #[int i64 m] 3)).alloc (.cells #[int i64 0,int i64 0,int i64 0] 38)) (w.heap.size+1+1) 3 #[int i64 m]:=(Q0.new' (by simp)).alloc _
 refine (GZ 303 _ (λi n=>Qy n a i m) _ _ _ _ e ?_).mono ?_
 ·intro i n W b;exact dF i n a m W _ _ (c.on b).c1.1 (f.on b).c1.1
 rintro e w1 ⟨rfl,h⟩;have R:=d.on h;clear d c f;obtain ⟨r0,r1,r2,r3,r4,r5⟩:=R.c3;go_wp2_with fail;have j:=R.st3 (int i64 (Qy x a 0 m)) (int i64 (Qy y a 1 m)) (int i64 (Qy z a 2 m));obtain ⟨l,k,g,-,-,-⟩:=j.c3;exact bodyPost_ret (v:=.agg #[int i64 (Qy x a 0 m),int i64 (Qy y a 1 m),int i64 (Qy z a 2 m)]) (by simp [results,results240,go_sem,l,k,g]) rfl ⟨rfl,by (repeat' (first|(with_reducible exact pI _ _)|(with_reducible assumption)|(with_reducible refine Below.alloc ?_ ?_ _)|(with_reducible refine Below.drew ?_)|(with_reducible refine Below.setCell ?_ ?_ _)|(with_reducible refine after ?_ (pK _ _ _))|(refine after ?_ (by with_reducible assumption))|go_size))⟩
theorem iX (i n x y z:Int)(w:World)(b:Nat)(h:Q0 w b 38 #[x,y,z]):Calls prog 261 #[i,n,b] w λe w'=>e=.returned (int i64 (Q9 n (Xc x y z i)))/\Below w.heap.size w w':=by
 obtain ⟨r0,r1,r2,-,-,-⟩:=h.c3;go_enter func261,ntmps261;go_wp2_with fail;refine (BL _ _ _ _ _).mono ?_;rintro e a ⟨rfl,hb⟩;go_wp2_with fail;refine (iP _ _ _).mono ?_;rintro e a ⟨rfl,rfl⟩;go_wp2_with fail;go_returns;exact ⟨Xp rfl,by (repeat' (first|(with_reducible exact pI _ _)|(with_reducible assumption)|(with_reducible refine Below.alloc ?_ ?_ _)|(with_reducible refine Below.drew ?_)|(with_reducible refine Below.setCell ?_ ?_ _)|(with_reducible refine after ?_ (pK _ _ _))|(refine after ?_ (by with_reducible assumption))|go_size))⟩
theorem Bi (x y z c b a:Int)(w:World):Calls prog 195 #[.agg #[int i64 x,int i64 y,int i64 z],.agg #[int i64 c,int i64 b,int i64 a]] w λe w'=>e=.returned (.agg #[int i64 (Q9 x c),int i64 (Q9 y b),int i64 (Q9 z a)])/\Below w.heap.size w w':=by
 have e:=enters_of func261 (by kernel_rfl) rfl
 go_enter func195,ntmps195;go_wp2_with fail;have f:Q0 (((w.alloc (.cells #[int i64 x,int i64 y,int i64 z] 38)).alloc (.cells #[int i64 c,int i64 b,int i64 a] 38)).alloc (.cells #[int i64 0,int i64 0,int i64 0] 38)) (w.heap.size+1+1) 38 #[int i64 0,int i64 0,int i64 0]:=Q0.new' (by simp)
 have d:Q0 (((w.alloc (.cells #[int i64 x,int i64 y,int i64 z] 38)).alloc (.cells #[int i64 c,int i64 b,int i64 a] 38)).alloc (.cells #[int i64 0,int i64 0,int i64 0] 38)) (w.heap.size+1) 38 #[int i64 c,int i64 b,int i64 a]:=(Q0.new' (by simp)).alloc _
 refine (GZ 261 _ (λi n=>Q9 n (Xc c b a i)) _ _ _ _ e ?_).mono ?_
 ·intro i n W j;exact iX i n c b a W _ (d.on j)
 rintro e w1 ⟨rfl,h⟩;have R:=f.on h;clear f d;obtain ⟨r0,r1,r2,r3,r4,r5⟩:=R.c3;simp only [cA,cB,cC];go_wp2_with fail;have k:=R.st3 (int i64 (Q9 x c)) (int i64 (Q9 y b)) (int i64 (Q9 z a));obtain ⟨m,l,g,-,-,-⟩:=k.c3;exact bodyPost_ret (v:=.agg #[int i64 (Q9 x c),int i64 (Q9 y b),int i64 (Q9 z a)]) (by simp [results,results195,go_sem,m,l,g]) rfl ⟨rfl,by (repeat' (first|(with_reducible exact pI _ _)|(with_reducible assumption)|(with_reducible refine Below.alloc ?_ ?_ _)|(with_reducible refine Below.drew ?_)|(with_reducible refine Below.setCell ?_ ?_ _)|(with_reducible refine after ?_ (pK _ _ _))|(refine after ?_ (by with_reducible assumption))|go_size))⟩
theorem iY (i n x y z:Int)(w:World)(b:Nat)(h:Q0 w b 38 #[x,y,z]):Calls prog 302 #[i,n,b] w λe w'=>e=.returned (int i64 (Qs n (Xc x y z i)))/\Below w.heap.size w w':=by
 obtain ⟨r0,r1,r2,-,-,-⟩:=h.c3;go_enter func302,ntmps302;go_wp2_with fail;refine (BL _ _ _ _ _).mono ?_;rintro e a ⟨rfl,hb⟩;go_wp2_with fail;refine (Ra _ _ _).mono ?_;rintro e a ⟨rfl,rfl⟩;go_wp2_with fail;go_returns;exact ⟨Xp rfl,by (repeat' (first|(with_reducible exact pI _ _)|(with_reducible assumption)|(with_reducible refine Below.alloc ?_ ?_ _)|(with_reducible refine Below.drew ?_)|(with_reducible refine Below.setCell ?_ ?_ _)|(with_reducible refine after ?_ (pK _ _ _))|(refine after ?_ (by with_reducible assumption))|go_size))⟩
theorem Fk (x y z c b a:Int)(w:World):Calls prog 239 #[.agg #[int i64 x,int i64 y,int i64 z],.agg #[int i64 c,int i64 b,int i64 a]] w λe w'=>e=.returned (.agg #[int i64 (Qs x c),int i64 (Qs y b),int i64 (Qs z a)])/\Below w.heap.size w w':=by
 have e:=enters_of func302 (by kernel_rfl) rfl
 go_enter func239,ntmps239;go_wp2_with fail;have f:Q0 (((w.alloc (.cells #[int i64 x,int i64 y,int i64 z] 38)).alloc (.cells #[int i64 c,int i64 b,int i64 a] 38)).alloc (.cells #[int i64 0,int i64 0,int i64 0] 38)) (w.heap.size+1+1) 38 #[int i64 0,int i64 0,int i64 0]:=Q0.new' (by simp)
 have d:Q0 (((w.alloc (.cells #[int i64 x,int i64 y,int i64 z] 38)).alloc (.cells #[int i64 c,int i64 b,int i64 a] 38)).alloc (.cells #[int i64 0,int i64 0,int i64 0] 38)) (w.heap.size+1) 38 #[int i64 c,int i64 b,int i64 a]:=(Q0.new' (by simp)).alloc _
 refine (GZ 302 _ (λi n=>Qs n (Xc c b a i)) _ _ _ _ e ?_).mono ?_
 ·intro i n W j;exact iY i n c b a W _ (d.on j)
 rintro e w1 ⟨rfl,h⟩;have R:=f.on h;clear f d;obtain ⟨r0,r1,r2,r3,r4,r5⟩:=R.c3;simp only [cA,cB,cC];go_wp2_with fail;have k:=R.st3 (int i64 (Qs x c)) (int i64 (Qs y b)) (int i64 (Qs z a));obtain ⟨m,l,g,-,-,-⟩:=k.c3;exact bodyPost_ret (v:=.agg #[int i64 (Qs x c),int i64 (Qs y b),int i64 (Qs z a)]) (by simp [results,results239,go_sem,m,l,g]) rfl ⟨rfl,by (repeat' (first|(with_reducible exact pI _ _)|(with_reducible assumption)|(with_reducible refine Below.alloc ?_ ?_ _)|(with_reducible refine Below.drew ?_)|(with_reducible refine Below.setCell ?_ ?_ _)|(with_reducible refine after ?_ (pK _ _ _))|(refine after ?_ (by with_reducible assumption))|go_size))⟩
theorem lW (g:FuncId)(a:Array Value)(p:Int->Bool)(w:World)(he:∀args w,(callFunc g args).run prog w=.ok (.enter g args) w)
  (m:∀(i:Int) W,Below w.heap.size w W->Calls prog g (#[int i64 i]++a) W λe W'=>e=.returned (.bool (p i))/\Below W.heap.size W W'):
  Calls prog 246 #[.func (.func g) #[] a] w λe w'=>e=.returned (.bool (p 0&&p 1&&p 2))/\Below w.heap.size w w':=by
 have f:=pp m;have C:∀(i:Int) (b:Bool) W,p i=b->pM w W->Calls prog g (#[int i64 i]++a) W λe W'=>e=.returned (.bool b)/\pM W W':=by
  intro i b W h c;rw [<-h];exact m i W c
 have f:=pp C;clear m C;cases h0:p 0
 ·have k:=pp h0;clear h0;go_enter func246,ntmps246;go_wp2_with fail;refine wp_loop_rounds 1 ?_;rw [rounds_succ];go_wp2_with fail;refine (f.o 0 false _ k.o (pI _ _)).mono ?_;rintro e j ⟨rfl,c⟩;go_wp2_with fail;go_returns;exact ⟨Cg rfl,c⟩
 cases h1:p 1
 ·have k:=pp h0;have n:=pp h1;clear h0 h1;go_enter func246,ntmps246;go_wp2_with fail;refine wp_loop_rounds 2 ?_;rw [rounds_succ];go_wp2_with fail;refine (f.o 0 true _ k.o (pI _ _)).mono ?_;rintro e j ⟨rfl,c⟩;go_wp2_with fail;rw [rounds_succ];go_wp2_with fail;refine (f.o 1 false _ n.o c).mono ?_;rintro e j ⟨rfl,d⟩;go_wp2_with fail;go_returns;exact ⟨Cg rfl,after c d⟩
 ·have k:=pp h0;have n:=pp h1;clear h0 h1;cases h2:p 2
  all_goals
   have r:=pp h2;clear h2;go_enter func246,ntmps246;go_wp2_with fail;refine wp_loop_rounds 4 ?_;rw [rounds_succ];go_wp2_with fail;refine (f.o 0 true _ k.o (pI _ _)).mono ?_;rintro e j ⟨rfl,c⟩;go_wp2_with fail;rw [rounds_succ];go_wp2_with fail;refine (f.o 1 true _ n.o c).mono ?_;rintro e j ⟨rfl,d⟩;have l:=after c d;go_wp2_with fail;rw [rounds_succ];go_wp2_with fail;refine (f.o 2 _ _ r.o l).mono ?_;rintro e j ⟨rfl,q⟩;go_wp2_with fail
   try rw [rounds_succ]
   go_wp2_with fail;go_returns;exact ⟨Cg rfl,after l q⟩
def Hc (a b c d:Int):Bool:=decide (a<d)&&decide (c<b)
theorem dG (i a b c d e f n b' m j l k:Int)(w:World)(u v:Nat)(p:Q0 w u 210 #[a,b,c,d,e,f])(q:Q0 w v 210 #[n,b',m,j,l,k]):
  Calls prog 247 #[i,u,v] w λr w'=>r=.returned (.bool (Hc (Xc a b c i) (Xc d e f i) (Xc n b' m i) (Xc j l k i)))/\Below w.heap.size w w':=by
 obtain ⟨k0,k1,k2,k3,k4,k5⟩:=p.re6;obtain ⟨l0,l1,l2,l3,l4,l5⟩:=q.re6;by_cases h:Xc a b c i<Xc j l k i
 ·go_enter func247,ntmps247;go_wp2_with fail;refine wp_region_quiet_below (by kernel_rfl) (by kernel_rfl) ?_
  repeat (go_big_quiet_step (exact Calls.regrown_of (BL _ _ _ _ _)))
  refine wpQuiet_nil ?_;intro w' g;obtain ⟨o,rfl⟩:=g;go_wp2_with fail;go_returns;exact ⟨Cg (by unfold Hc;simp [h]),by (repeat' (first|(with_reducible exact pI _ _)|(with_reducible assumption)|(with_reducible refine Below.alloc ?_ ?_ _)|(with_reducible refine Below.drew ?_)|(with_reducible refine Below.setCell ?_ ?_ _)|(with_reducible refine after ?_ (pK _ _ _))|(refine after ?_ (by with_reducible assumption))|go_size))⟩
 ·have t:decide (Xc a b c i<Xc j l k i)=false:=by simp;omega
  go_enter func247,ntmps247;go_wp2_with fail;refine wp_region_quiet_below (by kernel_rfl) (by kernel_rfl) ?_
  repeat (go_big_quiet_step (exact Calls.regrown_of (BL _ _ _ _ _)))
  refine wpQuiet_nil ?_;intro w' g;obtain ⟨o,rfl⟩:=g;go_wp2_with fail;go_returns;exact ⟨Cg (by unfold Hc;rw [t];rfl),by (repeat' (first|(with_reducible exact pI _ _)|(with_reducible assumption)|(with_reducible refine Below.alloc ?_ ?_ _)|(with_reducible refine Below.drew ?_)|(with_reducible refine Below.setCell ?_ ?_ _)|(with_reducible refine after ?_ (pK _ _ _))|(refine after ?_ (by with_reducible assumption))|go_size))⟩
abbrev U4 (a b c d e f:Int):Array Value:=#[a,b,c,d,e,f]
def OP (a b c d e f a' b' c' d' e' f':Int):Bool:=Hc a d a' d'&&Hc b e b' e'&&Hc c f c' f'
theorem iZ (a b c d e f k b' g h l j:Int)(w:World):Calls prog 190 #[.agg #[int i64 a,int i64 b,int i64 c,int i64 d,int i64 e,int i64 f],.agg #[int i64 k,int i64 b',int i64 g,int i64 h,int i64 l,int i64 j]] w λr w'=>r=.returned (.bool (OP a b c d e f k b' g h l j))/\Below w.heap.size w w':=by
 have o:=enters_of func247 (by kernel_rfl) rfl
 have hmf:∀(m:Fn) (first cap:Array Value) (w:World),(Instr.makeFunc m first cap).run prog w=.ok (.func m first cap) w:=λ_ _ _ _=>rfl
 go_enter func190,ntmps190;go_wp2_with fail;have U:Q0 ((w.alloc (.cells (U4 a b c d e f) 210)).alloc (.cells (U4 k b' g h l j) 210)) w.heap.size 210 (U4 a b c d e f):=(Q0.new' rfl).alloc _;have V:Q0 ((w.alloc (.cells (U4 a b c d e f) 210)).alloc (.cells (U4 k b' g h l j) 210)) (w.heap.size+1) 210 (U4 k b' g h l j):=Q0.new' (by simp)
 refine (lW 247 _ (λi=>Hc (Xc a b c i) (Xc d e f i) (Xc k b' g i) (Xc h l j i)) _ o ?_).mono ?_
 ·intro i W n;exact dG i a b c d e f k b' g h l j W _ _ (U.on n) (V.on n)
 rintro e w1 ⟨rfl,hb⟩;clear U V;go_wp2_with fail;go_returns;exact ⟨Cg rfl,by (repeat' (first|(with_reducible exact pI _ _)|(with_reducible assumption)|(with_reducible refine Below.alloc ?_ ?_ _)|(with_reducible refine Below.drew ?_)|(with_reducible refine Below.setCell ?_ ?_ _)|(with_reducible refine after ?_ (pK _ _ _))|(refine after ?_ (by with_reducible assumption))|go_size))⟩
end
end Go.Proofs.YtmbccnioijokfaaGreatDoor