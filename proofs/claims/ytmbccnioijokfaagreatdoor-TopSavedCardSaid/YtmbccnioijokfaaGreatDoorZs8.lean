/- A part of the proof. -/
import Derived.Test.YtmbccnioijokfaaGreatDoorZs4
import Derived.Test.YtmbccnioijokfaaGreatDoorZs5
import Derived.Deep.Cut
namespace Go.Proofs.YtmbccnioijokfaaGreatDoor
set_option maxRecDepth 100000
set_option maxHeartbeats 32000000
open Go.Value (int)
open Go.IntKind (i64 u8)
open Go.Proofs.Tryz
variable {w:World}{g:Nat}
section
open Go.RowKit
attribute [local go_sem] Oper.semAt_some
theorem He {a b:Int}(h:a<=0):a.tdiv b= -((-a) / b):=by rw [<-Int.tdiv_eq_ediv_of_nonneg (show 0<=-a by omega),Int.neg_tdiv,Int.neg_neg]
theorem D9 {a b:Int}(h:a<=0):a.tmod b= -((-a)%b):=by rw [<-Int.tmod_eq_emod_of_nonneg (show 0<=-a by omega),Int.neg_tmod,Int.neg_neg]
theorem j7 (a:Int):(a.tmod 16<0->a.tdiv 16 - 1=a / 16)/\(¬a.tmod 16<0->a.tdiv 16=a / 16):=by
 rcases Int.le_total 0 a with h|h
 ·rw [Int.tdiv_eq_ediv_of_nonneg h,Int.tmod_eq_emod_of_nonneg h];omega
 ·rw [He h,D9 h];omega
theorem j8 (a:Int):(a.tmod 16<0->a.tmod 16+16=a%16)/\(¬a.tmod 16<0->a.tmod 16=a%16):=by
 rcases Int.le_total 0 a with h|h
 ·rw [Int.tmod_eq_emod_of_nonneg h];omega
 ·rw [D9 h];omega
theorem Js {a:Int}(h:Qg a): -9223372036854775808<=a.tdiv 16 - 1/\a.tdiv 16<=9223372036854775807/\-16<a.tmod 16/\a.tmod 16<16:=by
 unfold Qg at h;rcases Int.le_total 0 a with b|b
 ·rw [Int.tdiv_eq_ediv_of_nonneg b,Int.tmod_eq_emod_of_nonneg b];omega
 ·rw [He b,D9 b];omega
theorem lX (a:Int):(a.tmod 8<0->a.tdiv 8 - 1=a / 8)/\(¬a.tmod 8<0->a.tdiv 8=a / 8):=by
 rcases Int.le_total 0 a with h|h
 ·rw [Int.tdiv_eq_ediv_of_nonneg h,Int.tmod_eq_emod_of_nonneg h];omega
 ·rw [He h,D9 h];omega
theorem lY (a:Int):(a.tmod 8<0->a.tmod 8+8=a%8)/\(¬a.tmod 8<0->a.tmod 8=a%8):=by
 rcases Int.le_total 0 a with h|h
 ·rw [Int.tmod_eq_emod_of_nonneg h];omega
 ·rw [D9 h];omega
theorem KF {a:Int}(h:Qg a): -9223372036854775808<=a.tdiv 8 - 1/\a.tdiv 8<=9223372036854775807/\-8<a.tmod 8/\a.tmod 8<8:=by
 unfold Qg at h;rcases Int.le_total 0 a with b|b
 ·rw [Int.tdiv_eq_ediv_of_nonneg b,Int.tmod_eq_emod_of_nonneg b];omega
 ·rw [He b,D9 b];omega
theorem TM (a:Int)(h:Qg a)(w:World):Calls prog 158 #[a,int i64 16] w λe w'=>e=.returned (int i64 (a / 16))/\w=w':=by
 have p:=pp (j7 a);obtain ⟨b1,b2,b3,b4⟩:=Js h;clear h;by_cases b:a.tmod 16<0
 all_goals
  go_enter func158,ntmps158;go_wp2;go_returns;exact ⟨Xp (by first|exact p.o.1 b|exact p.o.2 b),rfl⟩
theorem dH (a:Int)(h:Qg a)(w:World):Calls prog 158 #[a,int i64 8] w λe w'=>e=.returned (int i64 (a / 8))/\w=w':=by
 have p:=pp (lX a);obtain ⟨b1,b2,b3,b4⟩:=KF h;clear h;by_cases b:a.tmod 8<0
 all_goals
  go_enter func158,ntmps158;go_wp2;go_returns;exact ⟨Xp (by first|exact p.o.1 b|exact p.o.2 b),rfl⟩
theorem TN (a:Int)(h:Qg a)(w:World):Calls prog 282 #[a,int i64 16] w λe w'=>e=.returned (int i64 (a%16))/\w=w':=by
 have p:=pp (j8 a);obtain ⟨b1,b2,b3,b4⟩:=Js h;clear h;by_cases b:a.tmod 16<0
 all_goals
  go_enter func282,ntmps282;go_wp2;go_returns;exact ⟨Xp (by first|exact p.o.1 b|exact p.o.2 b),rfl⟩
theorem dI (a:Int)(h:Qg a)(w:World):Calls prog 282 #[a,int i64 8] w λe w'=>e=.returned (int i64 (a%8))/\w=w':=by
 have p:=pp (lY a);obtain ⟨b1,b2,b3,b4⟩:=KF h;clear h;by_cases b:a.tmod 8<0
 all_goals
  go_enter func282,ntmps282;go_wp2;go_returns;exact ⟨Xp (by first|exact p.o.1 b|exact p.o.2 b),rfl⟩
theorem Q0.pair {t:TypeId}{x y:Value}(h:Q0 w g t #[x,y]):w.cell? ⟨g,0,none⟩=some x/\w.cell? ⟨g,1,none⟩=some y/\w.frozen? ⟨g,0,none⟩=false/\w.frozen? ⟨g,1,none⟩=false:=⟨h.cell 0,h.cell 1,h.frz 0,h.frz 1⟩
theorem Q0.stp {t:TypeId}{x y:Value}(h:Q0 w g t #[x,y])(a b:Value):Q0 ((w.setCell ⟨g,0,none⟩ a).setCell ⟨g,1,none⟩ b) g t #[a,b]:=(h.set_ 0 a).set_ 1 b
theorem Q0.rep {t:TypeId}{a b:Value}(h:Q0 w g t #[a,b]):(∀d os,(Go.Sort.grow (redrawn w d) os).cell? ⟨g,0,none⟩=some a)/\(∀d os,(Go.Sort.grow (redrawn w d) os).cell? ⟨g,1,none⟩=some b):=⟨λd os=>(h.re d os).cell 0,λd os=>(h.re d os).cell 1⟩
theorem DC (x y z:Int)(hx:Qg x)(hz:Qg z)(w:World):Calls prog 108 #[.agg #[x,y,z]] w λe w'=>e=.returned (.agg #[int i64 (x / 16),int i64 (z / 16)])/\Below w.heap.size w w':=by
 have U:Q0 ((w.alloc (.cells #[x,y,z] 43)).alloc (.cells #[int i64 0,int i64 0] 123)) w.heap.size 43 #[x,y,z]:=(Q0.new' rfl).alloc _;have f:Q0 ((w.alloc (.cells #[x,y,z] 43)).alloc (.cells #[int i64 0,int i64 0] 123)) (w.heap.size+1) 123 #[int i64 0,int i64 0]:=Q0.new' (by simp)
 obtain ⟨k0,k1,k2⟩:=U.re3;go_enter func108,ntmps108;go_wp2_with fail;refine Qo 7 (by kernel_rfl) rfl (by kernel_rfl) ?_
 simp only [List.take_succ_cons,List.take_zero,List.drop_succ_cons,List.drop_zero];repeat (go_big_quiet_step (exact Calls.regrown_of (Ym (TM _ (by assumption) _))))
 refine wpQuiet_nil ?_;intro w' a;obtain ⟨b,rfl⟩:=a;have R:=f.re b.d b.os;obtain ⟨r0,r1,s0,s1⟩:=R.pair;go_wp2_with fail;have g:=R.stp (int i64 (x / 16)) (int i64 (z / 16));obtain ⟨c,h,-,-⟩:=g.pair;exact bodyPost_ret (v:=.agg #[int i64 (x / 16),int i64 (z / 16)]) (by simp [results,results108,go_sem,c,h]) rfl ⟨rfl,by (repeat' (first|(with_reducible exact pI _ _)|(with_reducible assumption)|(with_reducible refine Below.alloc ?_ ?_ _)|(with_reducible refine Below.drew ?_)|(with_reducible refine Below.setCell ?_ ?_ _)|(with_reducible refine after ?_ (pK _ _ _))|(refine after ?_ (by with_reducible assumption))|go_size))⟩
def YH (x y z:Int):Int:=(y * 16+z%16) * 16+x%16
def Yp (y:Int):Bool:=decide (0<=y)&&decide (y<32)
def Gi (x y z:Int):Value:=if Yp y then .tuple #[int i64 (YH x y z),.bool true] else .tuple #[int i64 0,.bool false]
theorem KG (x y z:Int)(hx:Qg x)(hz:Qg z)(w:World):Calls prog 208 #[.agg #[x,y,z]] w λe w'=>e=.returned (Gi x y z)/\Below w.heap.size w w':=by
 obtain ⟨W,a⟩:=pt (w.alloc (.cells #[x,y,z] 43));have H:pM w W:=by rw [a];go_grown
 have U:Q0 W w.heap.size 43 #[x,y,z]:=by rw [a];exact Q0.new' rfl
 obtain ⟨g,d,f⟩:=U.re3;obtain ⟨c0,c1,c2,-,-,-⟩:=U.c3;unfold Gi Yp;by_cases i:y<0
 ·rw [if_neg (by simp;omega)]
  clear U g d f;go_enter func208,ntmps208;go_upto_region 1 with fail
  rw [<-a];clear a;go_wp2_with fail;go_returns;exact ⟨rfl,H⟩
 ·by_cases h:32<=y
  ·rw [if_neg (by simp;omega)]
   clear U g d f;have c:0<=y:=by omega
   go_enter func208,ntmps208;go_upto_region 1 with fail
   rw [<-a];clear a;go_wp2_with fail;go_returns;exact ⟨rfl,H⟩
  ·rw [if_pos (by simp;omega)]
   have c:0<=y:=by omega
   have h2':y<32:=by omega
   clear i h;have hz1:0<=z%16/\z%16<16:=by omega
   have hx1:0<=x%16/\x%16<16:=by omega
   have s1:IntKind.i64.wrap (y * 16)=y * 16:=pJ _ (by omega)
   have s2:IntKind.i64.wrap (y * 16+z%16)=y * 16+z%16:=pJ _ (by omega)
   have s3:IntKind.i64.wrap ((y * 16+z%16) * 16)=(y * 16+z%16) * 16:=pJ _ (by omega)
   have s4:IntKind.i64.wrap ((y * 16+z%16) * 16+x%16)=(y * 16+z%16) * 16+x%16:=pJ _ (by omega)
   go_enter func208,ntmps208;go_upto_region 1 with fail
   rw [<-a];clear a;go_upto_region 3 with fail
   refine wp_region_quiet_below (by kernel_rfl) (by kernel_rfl) ?_
   repeat (go_big_quiet_step (exact Calls.regrown_of (Ym (TN _ (by assumption) _))))
   refine wpQuiet_nil ?_;intro w' b;obtain ⟨rg,rfl⟩:=b;go_wp2_with fail;go_returns;exact ⟨rfl,after H (pK W _ _)⟩
end
section
open Go.RowKit
def Zh (n:Int):Bool:=n== -1||n==1||n==2||n==3||n==5
def Yv (n:Int):Bool:=decide (8<=n)&&decide (n<=15)
def EG (n:Int):Bool:=n==4
theorem TO (n:Int):((n== -1)=true/\Zh n=true)∨((n== -1)=false/\(n==1)=true/\Zh n=true)∨((n== -1)=false/\(n==1)=false/\(n==2)=true/\Zh n=true)∨
  ((n== -1)=false/\(n==1)=false/\(n==2)=false/\(n==3)=true/\Zh n=true)∨((n== -1)=false/\(n==1)=false/\(n==2)=false/\(n==3)=false/\(n==5)=true/\Zh n=true)∨
  ((n== -1)=false/\(n==1)=false/\(n==2)=false/\(n==3)=false/\(n==5)=false/\Zh n=false):=by
 unfold Zh;cases (n== -1)<;>cases (n==1)<;>cases (n==2)<;>cases (n==3)<;>cases (n==5)<;>simp
theorem TP (n:Int):(decide (8<=n)=false/\Yv n=false)∨(decide (8<=n)=true/\decide (n<=15)=true/\decide (n<16)=true/\Yv n=true)∨(decide (8<=n)=true/\decide (n<=15)=false/\decide (n<16)=false/\Yv n=false):=by
 unfold Yv;by_cases a:8<=n<;>by_cases b:n<=15<;>simp [a,b]<;>omega
theorem Nk (n:Int)(w:World):Calls prog 144 #[n] w λr w'=>r=.returned (.bool (Zh n))/\w=w':=by
 rcases TO n with ⟨a,h⟩|⟨a,b,h⟩|⟨a,b,c,h⟩|⟨a,b,c,d,h⟩|⟨a,b,c,d,e,h⟩|⟨a,b,c,d,e,h⟩
 all_goals
  rw [h];clear h;go_enter func144,ntmps144;go_wp2_with fail;go_returns;exact ⟨rfl,rfl⟩
theorem TQ (n:Int)(w:World):Calls prog 313 #[n] w λr w'=>r=.returned (.bool (EG n))/\w=w':=by
 go_enter func313,ntmps313;go_wp2_with fail;go_returns;exact ⟨Cg rfl,rfl⟩
theorem Ke (n:Int)(w:World):Calls prog 259 #[n] w λr w'=>r=.returned (.bool (Yv n))/\w=w':=by
 rcases TP n with ⟨a,h⟩|⟨a,c,b,h⟩|⟨a,c,b,h⟩
 all_goals
  rw [h];clear h;go_enter func259,ntmps259;go_wp2_with fail;go_returns;exact ⟨rfl,rfl⟩
end
end Go.Proofs.YtmbccnioijokfaaGreatDoor