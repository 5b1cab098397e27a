/- A part of the proof. -/
import Derived.Test.YtmbccnioijokfaaGreatDoorZs41
import Derived.Test.YtmbccnioijokfaaGreatDoorZs40
namespace Go.Proofs.YtmbccnioijokfaaGreatDoor
set_option maxRecDepth 100000
set_option maxHeartbeats 32000000
open Go.Value (int)
open Go.IntKind (i64 u8)
open Go.Proofs.Tryz
section
open Go.ChangeShapes Go.WideShapes Go.ChangeAt Go.RowKit Go.Sort
theorem MK (os:Os)(args:Array Value):laidMet prog Rows.topSavedRow.laid ((CN os).forCall (λ_ _=>0) ⟨#[],args,[]⟩).memory:=
 laidMet_of_run' 10 (by kernel_rfl) (by kernel_rfl)
abbrev AP:OpenSpec:=OpenSpec.ofChange Rows.topSavedSpec
theorem Iu (os:Os){H:Type}(enc:TypeId×Value->H):
  AP.preRow enc prog Tryz.f6 Rows.topSavedRow.domain false Rows.topSavedRow.laid ((CN os).forCall (λ_ _=>0) ⟨#[],#[.int .i64 0,.slice none 0 0,.agg #[.int .i64 0,.int .i64 0,.bool false],.int .i64 0,.int .i64 0],[]⟩).memory #[.int .i64 0,.slice none 0 0,.agg #[.int .i64 0,.int .i64 0,.bool false],.int .i64 0,.int .i64 0]:=by
 have b:(DataW.whole enc prog ((CN os).forCall (λ_ _=>0) ⟨#[],#[.int .i64 0,.slice none 0 0,.agg #[.int .i64 0,.int .i64 0,.bool false],.int .i64 0,.int .i64 0],[]⟩).memory Tryz.f6.params.toList AP.vars false #[Value.int .i64 0,Value.slice none 0 0,Value.agg #[.int .i64 0,.int .i64 0,.bool false],Value.int .i64 0,Value.int .i64 0].toList 8).map (λx=>(x.1,x.2.1))=
   some ([.lit (.int .i64 0),.nil,.agg [.lit (.int .i64 0),.lit (.int .i64 0),.lit (.bool false)],.lit (.int .i64 0),.lit (.int .i64 0)],[]):=by kernel_rfl
 obtain ⟨⟨x1,x2,x3⟩,d,a⟩:=Option.map_eq_some_iff.1 b;simp only [Prod.mk.injEq] at a;obtain ⟨rfl,rfl⟩:=a;exact OpenSpec.preRow_of_cond 8 d (by kernel_rfl) (λk c=>by cases c) (by kernel_rfl) (MK os _)
theorem Iv (os:Os)(b:os.Started)(H:Type)(enc:TypeId×Value->H)(F:Stop.Interp):
  ReturnsInHanded {} Tryz.checked os 6 .any (AP.preRow enc prog Tryz.f6 Rows.topSavedRow.domain false Rows.topSavedRow.laid) ((AP.at F).post enc prog Tryz.f6 false true false false):=by
 refine returnsInHanded_of_row (C:=Tryz.checked) (s:=AP) own b (by kernel_rfl) func6
  (witness_row_atRef (enc:=enc) (C:=Tryz.checked) false (CN os) #[.int .i64 0,.slice none 0 0,.agg #[.int .i64 0,.int .i64 0,.bool false],.int .i64 0,.int .i64 0] rfl (by kernel_rfl) (by kernel_rfl) (by kernel_rfl) (Iu os enc)) ?_
 intro W base args ds gs before c h _ _ _ y g _;have a:∀(j:Nat) t v,Tryz.f6.params[j]?=some t->args[j]?=some v->Value.okWide prog W .any base t v:=c;have d:=h;obtain ⟨p,q,f,E,rfl,hfz,hnd⟩:=h;have i:DataW.TrodAll enc prog W 0 (λ_=>true) true Tryz.f6.params.toList args.toList ds p:=f
 rw [params6] at i a;obtain ⟨v0,w,v2,v3,v4,d0,d1,d2,d3,d4,p0,p1,p2,p3,p4,rfl,rfl,rfl,L,M,l,A,u⟩:=Lt i;obtain ⟨rfl,rfl⟩:=trodVars_none E;obtain ⟨a0,rfl,rfl,rfl,w0⟩:=open_int underlying3 (a 0 3 v0 rfl rfl) L;obtain ⟨o,S,G,P,rfl,I,O,B,r⟩:=aB underlying47 underlying43 (by kernel_rfl) (by kernel_rfl) underlying3 (a 1 47 w rfl rfl) M
 obtain ⟨Q,z,J,rfl,x,N⟩:=fu underlying33 (by kernel_rfl) (by kernel_rfl) underlying3 underlying4 (a 2 33 v2 rfl rfl) l
 obtain ⟨a3,rfl,rfl,rfl,K⟩:=open_int underlying3 (a 3 3 v3 rfl rfl) A;obtain ⟨a4,rfl,rfl,rfl,k⟩:=open_int underlying3 (a 4 3 v4 rfl rfl) u;obtain ⟨m,R⟩:∃m,W.cell? ⟨0,0,none⟩=some (.int .i64 m):=Tryz.laysM146.s1_3 W g;refine (PE a0 (Ys w0).1 (Ys w0).2 o S G P I O r Q z x N J a3 a4 (Ys K) (Ys k) m W B R (lP y)).mono λe W' ⟨D,n⟩=>?_
 subst D;exact ⟨_,rfl,TJ Ng (by kernel_rfl) rfl (by kernel_rfl) underlying4 d rfl rfl rfl n⟩
end
end Go.Proofs.YtmbccnioijokfaaGreatDoor