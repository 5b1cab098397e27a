/- A part of the proof. -/
import Derived.Test.YtmbccnioijokfaaGreatDoorZs17
import Derived.Test.YtmbccnioijokfaaGreatDoorZs15
namespace Go.Proofs.YtmbccnioijokfaaGreatDoor
set_option maxRecDepth 100000
set_option maxHeartbeats 32000000
open Go.Value (int)
open Go.IntKind (i64 u8)
open Go.Proofs.Tryz
section
open Go.RowKit
attribute [local go_sem] Oper.semAt_some
def jn (s x z:Int):Int:=IntKind.u64.wrap (IntKind.u64.wrap (IntKind.u64.wrap (IntKind.u64.wrap s * 11400714819323198485)+IntKind.u64.wrap (IntKind.u64.wrap x * 14029467366897019727))+IntKind.u64.wrap (IntKind.u64.wrap z * 1609587929392839161))
def jo (s x z:Int):Int:=IntKind.u64.wrap (bits .xor .u64 (jn s x z) (jn s x z / 536870912) * 13787848793156543929)
def Bk (s x z:Int):Int:=bits .xor .u64 (jo s x z) (jo s x z / 4294967296)
theorem ej (s x z:Int)(w:World):Calls prog 292 #[s,x,z] w λr w'=>r=.returned (.int .u64 (Bk s x z))/\w=w':=by
 go_enter func292,ntmps292;go_wp2_with fail;go_returns;exact ⟨Xp (by unfold Bk jo jn;rfl),rfl⟩
theorem Wh (n:Int):0<=IntKind.u64.wrap n/\IntKind.u64.wrap n<=18446744073709551615:=by
 rw [IntKind.wrap_u64];omega
theorem Wi (s x z:Int):0<=Bk s x z/\Bk s x z<=18446744073709551615:=Wh _
def ZI (s a b near:Int):Int:=Bk s a b%9 * near
theorem Ao (s a b c:Int)(h:0<=c/\c<=64):0<=ZI s a b c/\ZI s a b c<=8 * c:=by
 unfold ZI;have d:0<=Bk s a b%9/\Bk s a b%9<=8:=by omega
 generalize Bk s a b%9=m at *;exact ⟨Int.mul_nonneg d.1 h.1,Int.mul_le_mul_of_nonneg_right d.2 h.1⟩
theorem ek (s a b c:Int)(g:Nat)(w:World)(d:0<=c/\c<=64)(i:Q0 w g 3 #[s]):
  Calls prog 291 #[a,b,c,g] w λr w'=>r=.returned (int i64 (ZI s a b c))/\w=w':=by
 obtain ⟨k0,-⟩:=i.c1;have hh:=Wi s a b;have e:=pp (ej s a b w);have f:=pp (Ao s a b c d);unfold ZI at *;generalize Bk s a b=h at *;have h9:0<=h%9/\h%9<=8:=by omega
 have hb:=f.o;have hb1: -9223372036854775808<=h%9 * c/\h%9 * c<=9223372036854775807:=by omega
 have h10:0<=h%9/\h%9<=9223372036854775807:=by omega
 go_enter func291,ntmps291;go_wp2_with (go_at_call 292;refine e.o.mono ?_;rintro e_ w1 ⟨rfl,rfl⟩);go_returns;exact ⟨rfl,rfl⟩
def Da (s x z:Int):Int:=ZI s (x / 8) (z / 8) ((8 - x%8) * (8 - z%8))+ZI s (x / 8+1) (z / 8) (x%8 * (8 - z%8))+ZI s (x / 8) (z / 8+1) ((8 - x%8) * (z%8))+ZI s (x / 8+1) (z / 8+1) (x%8 * (z%8))
def VY (s x z:Int):Int:=6+Da s x z / 64
theorem Uw {a b:Int}(c:0<=a/\a<=8)(hb:0<=b/\b<=8):0<=a * b/\a * b<=64:=by
 obtain ⟨n,rfl⟩:=Int.eq_ofNat_of_zero_le c.1;have:n<=8:=by omega
 rcases (by omega:n=0∨n=1∨n=2∨n=3∨n=4∨n=5∨n=6∨n=7∨n=8) with rfl|rfl|rfl|rfl|rfl|rfl|rfl|rfl|rfl<;>omega
theorem Ho (s x z:Int):0<=Da s x z/\Da s x z<=512:=by
 unfold Da;have hu:0<=x%8/\x%8<8:=by omega
 have hv:0<=z%8/\z%8<8:=by omega
 generalize x%8=u at *;generalize z%8=v at *;have e:(8 - u) * (8 - v)+u * (8 - v)+(8 - u) * v+u * v=64:=by
  rw [Int.sub_mul,Int.mul_sub,Int.mul_sub,Int.sub_mul];omega
 have f:=Uw (a:=8 - u) (b:=8 - v) (by omega) (by omega)
 have p2:=Uw (a:=u) (b:=8 - v) (by omega) (by omega)
 have c:=Uw (a:=8 - u) (b:=v) (by omega) (by omega)
 have d:=Uw (a:=u) (b:=v) (by omega) (by omega)
 have q1:=Ao s (x / 8) (z / 8) _ f;have q2:=Ao s (x / 8+1) (z / 8) _ p2;have q3:=Ao s (x / 8) (z / 8+1) _ c;have q4:=Ao s (x / 8+1) (z / 8+1) _ d;omega
theorem DI (s x z:Int):6<=VY s x z/\VY s x z<=14:=by
 have:=Ho s x z;unfold VY;omega
theorem RJ (s x z:Int)(N: -1000000000000<=x/\x<=1000000000000)(J: -1000000000000<=z/\z<=1000000000000)(w:World):Calls prog 219 #[s,x,z] w λr w'=>r=.returned (int i64 (VY s x z))/\Below w.heap.size w w':=by
 obtain ⟨W,m⟩:=pt (w.alloc (.cells #[s] 3));have H:=pp (show pM w W from by rw [m];go_grown)
 have X:Q0 W w.heap.size 3 #[s]:=by rw [m];exact Q0.new' rfl
 have hN:=Ho s x z;have j:=pp λa b c B=>ek s a b c w.heap.size W B X
 have l:=pp λa b c (B:0<=c/\c<=64)=>Ao s a b c B
 have C:=pp λa (h:Qg a) (w:World)=>dH a h w
 have q:=pp λa (h:Qg a) (w:World)=>dI a h w
 have hu:0<=x%8/\x%8<8:=by omega
 have hv:0<=z%8/\z%8<8:=by omega
 have hi: -1000000000000<=x / 8/\x / 8<=1000000000000:=by omega
 have hk: -1000000000000<=z / 8/\z / 8<=1000000000000:=by omega
 have f:Qg x:=by unfold Qg;omega
 have e:Qg z:=by unfold Qg;omega
 unfold VY Da at *;obtain ⟨G,A⟩:∃G,6+(ZI s (x / 8) (z / 8) ((8 - x%8) * (8 - z%8))+ZI s (x / 8+1) (z / 8) (x%8 * (8 - z%8))+ZI s (x / 8) (z / 8+1) ((8 - x%8) * (z%8))+ZI s (x / 8+1) (z / 8+1) (x%8 * (z%8))) / 64=G:=⟨_,rfl⟩;rw [A];have y:=pp A;clear X A;go_enter func219,ntmps219;go_upto_region 1 with fail
 rw [<-m];clear m;go_wp2_with fail;refine (C.o x f _).mono ?_;rintro g d ⟨rfl,rfl⟩;go_wp2_with fail;refine (C.o z e _).mono ?_;rintro g d ⟨rfl,rfl⟩;go_wp2_with fail;refine (q.o x f _).mono ?_;rintro g d ⟨rfl,rfl⟩;go_wp2_with fail;refine (q.o z e _).mono ?_;rintro g d ⟨rfl,rfl⟩;clear f e N J;generalize x%8=u at *;generalize z%8=v at *;generalize x / 8=i at *;generalize z / 8=k at *;have t:=Uw (a:=8 - u) (b:=8 - v) (by omega) (by omega)
 have p2:=Uw (a:=u) (b:=8 - v) (by omega) (by omega)
 have n:=Uw (a:=8 - u) (b:=v) (by omega) (by omega)
 have p:=Uw (a:=u) (b:=v) (by omega) (by omega)
 have q1:=l.o i k _ t;have q2:=l.o (i+1) k _ p2;have q3:=l.o i (k+1) _ n;have q4:=l.o (i+1) (k+1) _ p;have L:=pp (j.o i k _ t);have E:=pp (j.o (i+1) k _ p2);have O:=pp (j.o i (k+1) _ n);have I:=pp (j.o (i+1) (k+1) _ p);clear j l C q;generalize ZI s i k ((8 - u) * (8 - v))=c1 at *;generalize ZI s (i+1) k (u * (8 - v))=c2 at *;generalize ZI s i (k+1) ((8 - u) * v)=c3 at *;generalize ZI s (i+1) (k+1) (u * v)=c4 at *;have D: -9223372036854775808<=(8 - u) * (8 - v)/\(8 - u) * (8 - v)<=9223372036854775807:=by omega
 have K: -9223372036854775808<=u * (8 - v)/\u * (8 - v)<=9223372036854775807:=by omega
 have F: -9223372036854775808<=(8 - u) * v/\(8 - u) * v<=9223372036854775807:=by omega
 have M: -9223372036854775808<=u * v/\u * v<=9223372036854775807:=by omega
 clear t p2 n p;go_wp2_with fail;refine L.o.mono ?_;rintro g d ⟨rfl,rfl⟩;clear D;go_wp2_with fail;refine E.o.mono ?_;rintro g d ⟨rfl,rfl⟩;clear K;go_wp2_with fail;refine O.o.mono ?_;rintro g d ⟨rfl,rfl⟩;clear F;go_wp2_with fail;refine I.o.mono ?_;rintro g d ⟨rfl,rfl⟩;clear M;go_wp2_with fail;go_returns;exact ⟨Xp y.o,H.o⟩
def BS (y g:Int):Int:=if y<0∨32<=y then 0 else if y=0∨y<g - 3 then 1 else if y<g - 1∨(y=g - 1/\9<g) then 2 else if y=g - 1 then 3 else if y<9 then 8 else 0
theorem mj (y g:Int)(hy:0<=y/\y<32)(hg:6<=g/\g<=14)(w:World):Calls prog 220 #[y,g] w λr w'=>r=.returned (int i64 (BS y g))/\w=w':=by
 have y0:decide (y<0)=false:=by simp;omega
 have y1:decide (32<=y)=false:=by simp;omega
 unfold BS;rw [if_neg (by omega)]
 by_cases b:y=0
 ·rw [if_pos (.inl b)];subst b;go_enter func220,ntmps220;go_wp2_with fail;go_returns;exact ⟨rfl,rfl⟩
 ·have e1:(y==0)=false:=by simpa using b
  by_cases c:y<g - 3
  ·rw [if_pos (.inr c)];clear b;go_enter func220,ntmps220;go_wp2_with fail;go_returns;exact ⟨rfl,rfl⟩
  ·rw [if_neg (by omega)]
   have e2:decide (y<g - 3)=false:=by simpa using c
   by_cases d:y<g - 1
   ·rw [if_pos (.inl d)];clear b c;go_enter func220,ntmps220;go_wp2_with fail;go_returns;exact ⟨rfl,rfl⟩
   ·have e3:decide (y<g - 1)=false:=by simpa using d
    by_cases a:y=g - 1
    ·have h:(y==g - 1)=true:=by simpa using a
     by_cases f:9<g
     ·rw [if_pos (.inr ⟨a,f⟩)];clear b c d a;go_enter func220,ntmps220;go_wp2_with fail;go_returns;exact ⟨rfl,rfl⟩
     ·rw [if_neg (by omega),if_pos a]
      have e5:decide (9<g)=false:=by simpa using f
      clear b c d a f;go_enter func220,ntmps220;go_wp2_with fail;go_returns;exact ⟨rfl,rfl⟩
    ·have h:(y==g - 1)=false:=by simpa using a
     rw [if_neg (by omega),if_neg a]
     by_cases e:y<9
     ·rw [if_pos e];clear b c d a;go_enter func220,ntmps220;go_wp2_with fail;go_returns;exact ⟨rfl,rfl⟩
     ·rw [if_neg e];have e6:decide (y<9)=false:=by simpa using e
      clear b c d a e;go_enter func220,ntmps220;go_wp2_with fail;go_returns;exact ⟨rfl,rfl⟩
end
end Go.Proofs.YtmbccnioijokfaaGreatDoor