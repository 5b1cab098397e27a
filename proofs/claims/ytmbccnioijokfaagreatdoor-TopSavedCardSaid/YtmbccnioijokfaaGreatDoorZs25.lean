/- A part of the proof. -/
import Derived.Test.YtmbccnioijokfaaGreatDoorZs8
import Derived.Test.YtmbccnioijokfaaGreatDoorZs13
namespace Go.Proofs.YtmbccnioijokfaaGreatDoor
set_option maxRecDepth 100000
set_option maxHeartbeats 32000000
open Go.Value (int)
open Go.IntKind (i64 u8)
open Go.Proofs.Tryz
section
open Go.RowKit
attribute [local go_sem] Oper.semAt_some
def VN:Array Value:=#[.string ⟨#[97,105,114]⟩,.string ⟨#[115,116,111,110,101]⟩,.string ⟨#[100,105,114,116]⟩,.string ⟨#[115,97,110,100]⟩,.string ⟨#[108,97,100,100,101,114]⟩,.string ⟨#[103,108,97,115,115]⟩,.string ⟨#[]⟩,.string ⟨#[]⟩,.string ⟨#[119,97,116,101,114,48]⟩,.string ⟨#[119,97,116,101,114,49]⟩,.string ⟨#[119,97,116,101,114,50]⟩,.string ⟨#[119,97,116,101,114,51]⟩,.string ⟨#[119,97,116,101,114,52]⟩,.string ⟨#[119,97,116,101,114,53]⟩,.string ⟨#[119,97,116,101,114,54]⟩,.string ⟨#[119,97,116,101,114,55]⟩]
def cK:List (List UInt8):=[[97,105,114],[115,116,111,110,101],[100,105,114,116],[115,97,110,100],[108,97,100,100,101,114],[103,108,97,115,115],[],[],[119,97,116,101,114,48],[119,97,116,101,114,49],[119,97,116,101,114,50],[119,97,116,101,114,51],[119,97,116,101,114,52],[119,97,116,101,114,53],[119,97,116,101,114,54],[119,97,116,101,114,55]]
def AZ (a b c d e f g h:ByteArray):Array Value:=#[.string ⟨#[97,105,114]⟩,.string ⟨#[115,116,111,110,101]⟩,.string ⟨#[100,105,114,116]⟩,.string ⟨#[115,97,110,100]⟩,.string ⟨#[108,97,100,100,101,114]⟩,.string ⟨#[103,108,97,115,115]⟩,.string ⟨#[]⟩,.string ⟨#[]⟩,.string a,.string b,.string c,.string d,.string e,.string f,.string g,.string h]
def YW (n:UInt8):ByteArray:=⟨#[119,97,116,101,114,n]⟩
def Hx:Nat->Array Value
 | 0=>AZ ⟨#[]⟩ ⟨#[]⟩ ⟨#[]⟩ ⟨#[]⟩ ⟨#[]⟩ ⟨#[]⟩ ⟨#[]⟩ ⟨#[]⟩
 | 1=>AZ (YW 48) ⟨#[]⟩ ⟨#[]⟩ ⟨#[]⟩ ⟨#[]⟩ ⟨#[]⟩ ⟨#[]⟩ ⟨#[]⟩
 | 2=>AZ (YW 48) (YW 49) ⟨#[]⟩ ⟨#[]⟩ ⟨#[]⟩ ⟨#[]⟩ ⟨#[]⟩ ⟨#[]⟩
 | 3=>AZ (YW 48) (YW 49) (YW 50) ⟨#[]⟩ ⟨#[]⟩ ⟨#[]⟩ ⟨#[]⟩ ⟨#[]⟩
 | 4=>AZ (YW 48) (YW 49) (YW 50) (YW 51) ⟨#[]⟩ ⟨#[]⟩ ⟨#[]⟩ ⟨#[]⟩
 | 5=>AZ (YW 48) (YW 49) (YW 50) (YW 51) (YW 52) ⟨#[]⟩ ⟨#[]⟩ ⟨#[]⟩
 | 6=>AZ (YW 48) (YW 49) (YW 50) (YW 51) (YW 52) (YW 53) ⟨#[]⟩ ⟨#[]⟩
 | 7=>AZ (YW 48) (YW 49) (YW 50) (YW 51) (YW 52) (YW 53) (YW 54) ⟨#[]⟩
 | _=>VN
theorem AK (n:Int)(k:Nat)(a:k<100)(f:n=k)(l:Array UInt8)(b:(Lib.decDigits k).toArray=l)(w:World):Calls prog 115 #[n] w λe w'=>e=.returned (.string ⟨l⟩)/\w=w':=by
 subst f b;exact (Tryz.strconv_Itoa_small k a w).mono λ_ _ ⟨d,c⟩=>⟨d,c.symm⟩
theorem NC (w:World):Calls prog 147 #[] w λr w'=>r=.returned (.agg VN)/\Below w.heap.size w w':=by
 obtain ⟨D,x⟩:=pt (((w.alloc (.cells #[.string ⟨#[]⟩,.string ⟨#[]⟩,.string ⟨#[]⟩,.string ⟨#[]⟩,.string ⟨#[]⟩,.string ⟨#[]⟩,.string ⟨#[]⟩,.string ⟨#[]⟩,.string ⟨#[]⟩,.string ⟨#[]⟩,.string ⟨#[]⟩,.string ⟨#[]⟩,.string ⟨#[]⟩,.string ⟨#[]⟩,.string ⟨#[]⟩,.string ⟨#[]⟩] 214)).alloc (.cells #[.string ⟨#[97,105,114]⟩,.string ⟨#[115,116,111,110,101]⟩,.string ⟨#[100,105,114,116]⟩,.string ⟨#[115,97,110,100]⟩,.string ⟨#[108,97,100,100,101,114]⟩,.string ⟨#[103,108,97,115,115]⟩,.string ⟨#[]⟩,.string ⟨#[]⟩,.string ⟨#[]⟩,.string ⟨#[]⟩,.string ⟨#[]⟩,.string ⟨#[]⟩,.string ⟨#[]⟩,.string ⟨#[]⟩,.string ⟨#[]⟩,.string ⟨#[]⟩] 214)));have H:Below w.heap.size w D:=by rw [x];go_grown
 have R:Q0 D w.heap.size 214 #[.string ⟨#[]⟩,.string ⟨#[]⟩,.string ⟨#[]⟩,.string ⟨#[]⟩,.string ⟨#[]⟩,.string ⟨#[]⟩,.string ⟨#[]⟩,.string ⟨#[]⟩,.string ⟨#[]⟩,.string ⟨#[]⟩,.string ⟨#[]⟩,.string ⟨#[]⟩,.string ⟨#[]⟩,.string ⟨#[]⟩,.string ⟨#[]⟩,.string ⟨#[]⟩]:=by rw [x];exact (Q0.new' rfl).alloc _
 have X:Q0 D (w.heap.size+1) 214 #[.string ⟨#[97,105,114]⟩,.string ⟨#[115,116,111,110,101]⟩,.string ⟨#[100,105,114,116]⟩,.string ⟨#[115,97,110,100]⟩,.string ⟨#[108,97,100,100,101,114]⟩,.string ⟨#[103,108,97,115,115]⟩,.string ⟨#[]⟩,.string ⟨#[]⟩,.string ⟨#[]⟩,.string ⟨#[]⟩,.string ⟨#[]⟩,.string ⟨#[]⟩,.string ⟨#[]⟩,.string ⟨#[]⟩,.string ⟨#[]⟩,.string ⟨#[]⟩]:=by rw [x];exact Q0.new' (by simp)
 have e:=pp (show w.heap.size<w.heap.size+1 by omega)
 go_enter func147,ntmps147;go_upto_region 2 with fail
 rw [<-x];clear x;generalize hg:w.heap.size+1=g at *;clear hg;go_wp2_with fail;go_loopw [4] (λL wr=>∃k:Nat,k<=8/\L=.int .i64 k/\Q0 wr g 214 (Hx k)/\Below w.heap.size w wr/\Q0 wr w.heap.size 214 #[.string ⟨#[]⟩,.string ⟨#[]⟩,.string ⟨#[]⟩,.string ⟨#[]⟩,.string ⟨#[]⟩,.string ⟨#[]⟩,.string ⟨#[]⟩,.string ⟨#[]⟩,.string ⟨#[]⟩,.string ⟨#[]⟩,.string ⟨#[]⟩,.string ⟨#[]⟩,.string ⟨#[]⟩,.string ⟨#[]⟩,.string ⟨#[]⟩,.string ⟨#[]⟩]) (λL _=>8 - (intOf L).toNat)
 case atStart=>exact ⟨0,by omega,rfl,X,H,R⟩
 case round=>
  obtain ⟨k,hk,d,c,h,b⟩:=hrel;clear X H R;rcases (by omega:k=0∨k=1∨k=2∨k=3∨k=4∨k=5∨k=6∨k=7∨k=8) with rfl|rfl|rfl|rfl|rfl|rfl|rfl|rfl|rfl
  ·obtain rfl:_=Value.int .i64 0:=d;have a:=c;simp only [Hx,AZ] at a;clear c;have c8:=a.cell 8;have f8:=a.frz 8;go_wp2_with (go_at_call 115;refine (AK 0 0 (by decide) rfl #[48] (by simp [Lib.decDigits];done) _).mono ?_;rintro j i ⟨rfl,rfl⟩)
   go_roundw
   case rel=>exact ⟨1,by omega,rfl,a.set_ 8 (.string ⟨#[119,97,116,101,114,48]⟩),h.setCell (p:=⟨g,8,none⟩) (by have:=e.o;dsimp only;omega) _,Q0.far b (p:=⟨g,8,none⟩) (by have:=e.o;dsimp only;omega) _⟩
   case measure=>simp [intOf]
  ·obtain rfl:_=Value.int .i64 1:=d;have a:=c;simp only [Hx,AZ,YW] at a;clear c;have U:=a.cell 9;have f9:=a.frz 9;go_wp2_with (go_at_call 115;refine (AK 1 1 (by decide) rfl #[49] (by simp [Lib.decDigits];done) _).mono ?_;rintro j i ⟨rfl,rfl⟩)
   go_roundw
   case rel=>exact ⟨2,by omega,rfl,a.set_ 9 (.string ⟨#[119,97,116,101,114,49]⟩),h.setCell (p:=⟨g,9,none⟩) (by have:=e.o;dsimp only;omega) _,Q0.far b (p:=⟨g,9,none⟩) (by have:=e.o;dsimp only;omega) _⟩
   case measure=>simp [intOf]
  ·obtain rfl:_=Value.int .i64 2:=d;have a:=c;simp only [Hx,AZ,YW] at a;clear c;have t:=a.cell 10;have M:=a.frz 10;go_wp2_with (go_at_call 115;refine (AK 2 2 (by decide) rfl #[50] (by simp [Lib.decDigits];done) _).mono ?_;rintro j i ⟨rfl,rfl⟩)
   go_roundw
   case rel=>exact ⟨3,by omega,rfl,a.set_ 10 (.string ⟨#[119,97,116,101,114,50]⟩),h.setCell (p:=⟨g,10,none⟩) (by have:=e.o;dsimp only;omega) _,Q0.far b (p:=⟨g,10,none⟩) (by have:=e.o;dsimp only;omega) _⟩
   case measure=>simp [intOf]
  ·obtain rfl:_=Value.int .i64 3:=d;have a:=c;simp only [Hx,AZ,YW] at a;clear c;have y:=a.cell 11;have K:=a.frz 11;go_wp2_with (go_at_call 115;refine (AK 3 3 (by decide) rfl #[51] (by simp [Lib.decDigits];done) _).mono ?_;rintro j i ⟨rfl,rfl⟩)
   go_roundw
   case rel=>exact ⟨4,by omega,rfl,a.set_ 11 (.string ⟨#[119,97,116,101,114,51]⟩),h.setCell (p:=⟨g,11,none⟩) (by have:=e.o;dsimp only;omega) _,Q0.far b (p:=⟨g,11,none⟩) (by have:=e.o;dsimp only;omega) _⟩
   case measure=>simp [intOf]
  ·obtain rfl:_=Value.int .i64 4:=d;have a:=c;simp only [Hx,AZ,YW] at a;clear c;have l:=a.cell 12;have I:=a.frz 12;go_wp2_with (go_at_call 115;refine (AK 4 4 (by decide) rfl #[52] (by simp [Lib.decDigits];done) _).mono ?_;rintro j i ⟨rfl,rfl⟩)
   go_roundw
   case rel=>exact ⟨5,by omega,rfl,a.set_ 12 (.string ⟨#[119,97,116,101,114,52]⟩),h.setCell (p:=⟨g,12,none⟩) (by have:=e.o;dsimp only;omega) _,Q0.far b (p:=⟨g,12,none⟩) (by have:=e.o;dsimp only;omega) _⟩
   case measure=>simp [intOf]
  ·obtain rfl:_=Value.int .i64 5:=d;have a:=c;simp only [Hx,AZ,YW] at a;clear c;have A:=a.cell 13;have S:=a.frz 13;go_wp2_with (go_at_call 115;refine (AK 5 5 (by decide) rfl #[53] (by simp [Lib.decDigits];done) _).mono ?_;rintro j i ⟨rfl,rfl⟩)
   go_roundw
   case rel=>exact ⟨6,by omega,rfl,a.set_ 13 (.string ⟨#[119,97,116,101,114,53]⟩),h.setCell (p:=⟨g,13,none⟩) (by have:=e.o;dsimp only;omega) _,Q0.far b (p:=⟨g,13,none⟩) (by have:=e.o;dsimp only;omega) _⟩
   case measure=>simp [intOf]
  ·obtain rfl:_=Value.int .i64 6:=d;have a:=c;simp only [Hx,AZ,YW] at a;clear c;have q:=a.cell 14;have E:=a.frz 14;go_wp2_with (go_at_call 115;refine (AK 6 6 (by decide) rfl #[54] (by simp [Lib.decDigits];done) _).mono ?_;rintro j i ⟨rfl,rfl⟩)
   go_roundw
   case rel=>exact ⟨7,by omega,rfl,a.set_ 14 (.string ⟨#[119,97,116,101,114,54]⟩),h.setCell (p:=⟨g,14,none⟩) (by have:=e.o;dsimp only;omega) _,Q0.far b (p:=⟨g,14,none⟩) (by have:=e.o;dsimp only;omega) _⟩
   case measure=>simp [intOf]
  ·obtain rfl:_=Value.int .i64 7:=d;have a:=c;simp only [Hx,AZ,YW] at a;clear c;have z:=a.cell 15;have N:=a.frz 15;go_wp2_with (go_at_call 115;refine (AK 7 7 (by decide) rfl #[55] (by simp [Lib.decDigits];done) _).mono ?_;rintro j i ⟨rfl,rfl⟩)
   go_roundw
   case rel=>exact ⟨8,by omega,rfl,a.set_ 15 (.string ⟨#[119,97,116,101,114,55]⟩),h.setCell (p:=⟨g,15,none⟩) (by have:=e.o;dsimp only;omega) _,Q0.far b (p:=⟨g,15,none⟩) (by have:=e.o;dsimp only;omega) _⟩
   case measure=>simp [intOf]
  ·obtain rfl:_=Value.int .i64 8:=d;have a:Q0 wr g 214 VN:=c;clear c;unfold VN at a;have c0:=a.cell 0;have c1:=a.cell 1;have c2:=a.cell 2;have c3:=a.cell 3;have c4:=a.cell 4;have c5:=a.cell 5;have c6:=a.cell 6;have c7:=a.cell 7;have c8:=a.cell 8;have U:=a.cell 9;have t:=a.cell 10;have y:=a.cell 11;have l:=a.cell 12;have A:=a.cell 13;have q:=a.cell 14;have z:=a.cell 15;have r0:=b.cell 0;have f0:=b.frz 0;have r1:=b.cell 1;have f1:=b.frz 1;have r2:=b.cell 2;have f2:=b.frz 2;have r3:=b.cell 3;have f3:=b.frz 3;have r4:=b.cell 4;have f4:=b.frz 4;have r5:=b.cell 5;have f5:=b.frz 5;have r6:=b.cell 6;have f6:=b.frz 6;have r7:=b.cell 7;have f7:=b.frz 7;have r8:=b.cell 8;have f8:=b.frz 8;have r9:=b.cell 9;have f9:=b.frz 9;have G:=b.cell 10;have M:=b.frz 10;have O:=b.cell 11;have K:=b.frz 11;have Q:=b.cell 12;have I:=b.frz 12;have J:=b.cell 13;have S:=b.frz 13;have P:=b.cell 14;have E:=b.frz 14;have F:=b.cell 15;have N:=b.frz 15;simp only [List.getElem?_toArray,List.getElem?_cons_zero,List.getElem?_cons_succ] at c0 r0 c1 r1 c2 r2 c3 r3 c4 r4 c5 r5 c6 r6 c7 r7 c8 r8 U r9 t G y O l Q A J q P z F;clear a;go_wp2_with fail;have f:=((((((((((((((((b.set_ 0 (.string ⟨#[97,105,114]⟩)).set_ 1 (.string ⟨#[115,116,111,110,101]⟩)).set_ 2 (.string ⟨#[100,105,114,116]⟩)).set_ 3 (.string ⟨#[115,97,110,100]⟩)).set_ 4 (.string ⟨#[108,97,100,100,101,114]⟩)).set_ 5 (.string ⟨#[103,108,97,115,115]⟩)).set_ 6 (.string ⟨#[]⟩)).set_ 7 (.string ⟨#[]⟩)).set_ 8 (.string ⟨#[119,97,116,101,114,48]⟩)).set_ 9 (.string ⟨#[119,97,116,101,114,49]⟩)).set_ 10 (.string ⟨#[119,97,116,101,114,50]⟩)).set_ 11 (.string ⟨#[119,97,116,101,114,51]⟩)).set_ 12 (.string ⟨#[119,97,116,101,114,52]⟩)).set_ 13 (.string ⟨#[119,97,116,101,114,53]⟩)).set_ 14 (.string ⟨#[119,97,116,101,114,54]⟩)).set_ 15 (.string ⟨#[119,97,116,101,114,55]⟩));have Y:=f.cell 0;have d1:=f.cell 1;have T:=f.cell 2;have d3:=f.cell 3;have d4:=f.cell 4;have Z:=f.cell 5;have W:=f.cell 6;have V:=f.cell 7;have d8:=f.cell 8;have d9:=f.cell 9;have B:=f.cell 10;have s:=f.cell 11;have u:=f.cell 12;have n:=f.cell 13;have m:=f.cell 14;have C:=f.cell 15;simp only [List.setIfInBounds_toArray,List.set_cons_zero,List.set_cons_succ,List.getElem?_toArray,List.getElem?_cons_zero,List.getElem?_cons_succ] at Y d1 T d3 d4 Z W V d8 d9 B s u n m C;refine bodyPost_ret (v:=.agg VN) (by simp [VN,results,results147,go_sem,Y,d1,T,d3,d4,Z,W,V,d8,d9,B,s,u,n,m,C]) rfl ⟨rfl,?_⟩
   have h0:=e.o;repeat (refine Below.setCell ?_ (by dsimp only;omega) _)
   exact h
def XK (b:Int):List UInt8:=if 0<=b then (cK[b.toNat]?).getD [] else []
def Zi (b:Int):Bool:=!(XK b).isEmpty
theorem oe (w:World):(Instr.index 214 (.agg VN) (int i64 0)).run prog w=.ok (.string ⟨#[97,105,114]⟩) w:=by kernel_rfl
theorem og (w:World):(Instr.index 214 (.agg VN) (int i64 1)).run prog w=.ok (.string ⟨#[115,116,111,110,101]⟩) w:=by kernel_rfl
theorem oh (w:World):(Instr.index 214 (.agg VN) (int i64 2)).run prog w=.ok (.string ⟨#[100,105,114,116]⟩) w:=by kernel_rfl
theorem ol (w:World):(Instr.index 214 (.agg VN) (int i64 3)).run prog w=.ok (.string ⟨#[115,97,110,100]⟩) w:=by kernel_rfl
theorem om (w:World):(Instr.index 214 (.agg VN) (int i64 4)).run prog w=.ok (.string ⟨#[108,97,100,100,101,114]⟩) w:=by kernel_rfl
theorem oo (w:World):(Instr.index 214 (.agg VN) (int i64 5)).run prog w=.ok (.string ⟨#[103,108,97,115,115]⟩) w:=by kernel_rfl
theorem ot (w:World):(Instr.index 214 (.agg VN) (int i64 6)).run prog w=.ok (.string ⟨#[]⟩) w:=by kernel_rfl
theorem ou (w:World):(Instr.index 214 (.agg VN) (int i64 7)).run prog w=.ok (.string ⟨#[]⟩) w:=by kernel_rfl
theorem ov (w:World):(Instr.index 214 (.agg VN) (int i64 8)).run prog w=.ok (.string ⟨#[119,97,116,101,114,48]⟩) w:=by kernel_rfl
theorem ow (w:World):(Instr.index 214 (.agg VN) (int i64 9)).run prog w=.ok (.string ⟨#[119,97,116,101,114,49]⟩) w:=by kernel_rfl
theorem mt (w:World):(Instr.index 214 (.agg VN) (int i64 10)).run prog w=.ok (.string ⟨#[119,97,116,101,114,50]⟩) w:=by kernel_rfl
theorem mu (w:World):(Instr.index 214 (.agg VN) (int i64 11)).run prog w=.ok (.string ⟨#[119,97,116,101,114,51]⟩) w:=by kernel_rfl
theorem mv (w:World):(Instr.index 214 (.agg VN) (int i64 12)).run prog w=.ok (.string ⟨#[119,97,116,101,114,52]⟩) w:=by kernel_rfl
theorem mw (w:World):(Instr.index 214 (.agg VN) (int i64 13)).run prog w=.ok (.string ⟨#[119,97,116,101,114,53]⟩) w:=by kernel_rfl
theorem my (w:World):(Instr.index 214 (.agg VN) (int i64 14)).run prog w=.ok (.string ⟨#[119,97,116,101,114,54]⟩) w:=by kernel_rfl
theorem mz (w:World):(Instr.index 214 (.agg VN) (int i64 15)).run prog w=.ok (.string ⟨#[119,97,116,101,114,55]⟩) w:=by kernel_rfl
theorem L8 (b:Int)(h0:0<=b)(h1:b<16)(w:World):(Instr.index 214 (.agg VN) (int i64 b)).run prog w=.ok (.string ⟨(XK b).toArray⟩) w:=by
 rcases (by omega:b=0∨b=1∨b=2∨b=3∨b=4∨b=5∨b=6∨b=7∨b=8∨b=9∨b=10∨b=11∨b=12∨b=13∨b=14∨b=15) with rfl|rfl|rfl|rfl|rfl|rfl|rfl|rfl|rfl|rfl|rfl|rfl|rfl|rfl|rfl|rfl
 ·exact oe w
 ·exact og w
 ·exact oh w
 ·exact ol w
 ·exact om w
 ·exact oo w
 ·exact ot w
 ·exact ou w
 ·exact ov w
 ·exact ow w
 ·exact mt w
 ·exact mu w
 ·exact mv w
 ·exact mw w
 ·exact my w
 ·exact mz w
theorem DP {b:Int}(h:b<0∨16<=b):XK b=[]:=by
 unfold XK;split
 ·rw [List.getElem?_eq_none (by show cK.length<=_;rw [show cK.length=16 from rfl];omega)];rfl
 ·rfl
theorem ND (b:Int)(w:World):Calls prog 101 #[b] w λr w'=>r=.returned (.string ⟨(XK b).toArray⟩)/\Below w.heap.size w w':=by
 by_cases d:b<0
 ·rw [DP (.inl d)];go_enter func101,ntmps101;go_wp2_with fail;go_returns;exact ⟨rfl,pI _ _⟩
 ·by_cases c:16<=b
  ·rw [DP (.inr c)];go_enter func101,ntmps101;go_wp2_with fail;go_returns;exact ⟨rfl,pI _ _⟩
  ·have hx:=L8 b (by omega) (by omega)
   have h0':0<=b:=by omega
   have h1':b<16:=by omega
   generalize XK b=l at *;go_enter func101,ntmps101;go_wp2_with (go_at_call 147;refine (NC _).mono ?_;rintro e_ w1 ⟨rfl,a⟩;replace a:=pp a);go_returns;exact ⟨rfl,a.o⟩
theorem Dd (b:Int)(w:World):Calls prog 142 #[b] w λr w'=>r=.returned (.bool (Zi b))/\Below w.heap.size w w':=by
 unfold Zi;have d:=pp (ND b w);generalize XK b=l at *;cases l with
 | nil=>
  go_enter func142,ntmps142;go_wp2_with (go_at_call 101;refine d.o.mono ?_;rintro f e ⟨rfl,c⟩;replace c:=pp c);go_returns;exact ⟨rfl,c.o⟩
 | cons a l=>
  go_enter func142,ntmps142;go_wp2_with (go_at_call 101;refine d.o.mono ?_;rintro f e ⟨rfl,c⟩;replace c:=pp c);go_returns;exact ⟨rfl,c.o⟩
def Uh (n:Int):Bool:=n==3
theorem De (n:Int)(w:World):Calls prog 275 #[n] w λr w'=>r=.returned (.bool (Uh n))/\w=w':=by
 go_enter func275,ntmps275;go_wp2_with fail;go_returns;exact ⟨Cg rfl,rfl⟩
theorem WK:∀k:Nat,k<16->∀n:Nat,n<16->XK (k:Int)=XK (n:Int)->(!(XK (n:Int)).isEmpty)=true->k=n:=by decide
theorem WL (b:Int)(d:Zi b=true)(w:World):Calls prog 141 #[.string ⟨(XK b).toArray⟩] w λr w'=>r=.returned (.tuple #[b,.bool true])/\Below w.heap.size w w':=by
 have c:0<=b/\b<16:=by
  refine Classical.byContradiction λh=>?_
  unfold Zi at d;rw [DP (by omega)] at d
  cases d
 obtain ⟨n,rfl⟩:=Int.eq_ofNat_of_zero_le c.1;have i:n<16:=by omega
 have l:=pp d;clear d c;go_enter func141,ntmps141;go_wp2_with (go_at_call 147;refine (NC _).mono ?_;rintro e_ g ⟨rfl,e⟩;replace e:=pp e);go_loopw [7] (λf wr=>∃k:Nat,k<=n/\f=.int .i64 k/\wr=g) (λf _=>n - (intOf f).toNat)
 case atStart=>exact ⟨0,pC _,rfl,rfl⟩
 case round=>
  obtain ⟨k,hk,rfl,rfl⟩:=hrel;have hi:=L8 (k:Int) (by omega) (by omega)
  have h16:(k:Int)<16:=by omega
  have j:(!(XK (n:Int)).isEmpty)=true:=l.o;by_cases a:k=n
  ·subst a;go_wp2_with fail;go_returns;exact ⟨rfl,e.o⟩
  ·have hne:¬XK (k:Int)=XK (n:Int):=λh=>a (WK k (by omega) n i h j)
   go_wp2_with fail;go_roundw
   case rel=>exact ⟨k+1,by omega,by go_num,trivial⟩
   case measure=>simp [intOf];omega
end
end Go.Proofs.YtmbccnioijokfaaGreatDoor