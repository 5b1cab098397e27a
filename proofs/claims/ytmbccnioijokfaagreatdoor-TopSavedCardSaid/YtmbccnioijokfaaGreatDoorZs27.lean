/- A part of the proof. -/
import Derived.Deep.Slices
import Derived.Test.YtmbccnioijokfaaGreatDoorZs8
namespace Go.Proofs.YtmbccnioijokfaaGreatDoor
set_option maxRecDepth 100000
set_option maxHeartbeats 32000000
open Go.Value (int)
open Go.IntKind (i64 u8)
open Go.Proofs.Tryz
section
open Go
set_option maxRecDepth 100000
theorem Ql {a b:Bool}(c:a=true)(d:b=true):(a&&b)=true:=by rw [c,d];rfl
theorem JY:(Rows.topSavedRow.wf (OpenSpec.ofChange (OpenSpec.ofChange Rows.topSavedSpec).bare))=true:=by kernel_rfl
theorem ES:(laidOutB Tryz.pinned.checked.prog)=true:=by kernel_rfl
theorem DQ:(mapsRowed Tryz.pinned.checked.prog)=true:=by kernel_rfl
theorem FI:(Tryz.f6.params.all (Tryz.pinned.checked.prog.readableRec ·))=true:=by kernel_rfl
theorem Ew:(namedTie Tryz.pinned.checked.prog Rows.topSavedRow.named (OpenSpec.ofChange Rows.topSavedSpec).bare.vars)=true:=by kernel_rfl
theorem Gs:((Rows.topSavedRow.stops==[]))=true:=by kernel_rfl
theorem FJ:((Tryz.pinned.checked.prog.stops==[]))=true:=by kernel_rfl
theorem Gt:((Rows.topSavedRow.knobs==[]))=true:=by kernel_rfl
theorem FK:((Tryz.pinned.checked.prog.stopKnobs==[]))=true:=by kernel_rfl
theorem ET:((Rows.topSavedRow.inPlace==Tryz.pinned.checked.prog.inPlace 6))=true:=by kernel_rfl
theorem Df:((Rows.topSavedRow.unfollowed==Tryz.pinned.checked.prog.unfollowed 6))=true:=by kernel_rfl
theorem Ex:((Rows.topSavedRow.recurses==Tryz.pinned.checked.prog.recurses 6))=true:=by kernel_rfl
theorem Gu:((Rows.topSavedRow.named==Tryz.pinned.checked.prog.varsNamed 6))=true:=by kernel_rfl
theorem I1:((Rows.topSavedRow.maps==(Tryz.f6.params.toList++(OpenSpec.ofChange Rows.topSavedSpec).bare.plain.varTypes Tryz.pinned.checked.prog).any (Tryz.pinned.checked.prog.mapsRec ·)))=true:=by kernel_rfl
theorem FL:((Rows.topSavedRow.ifaces==(Tryz.f6.params.toList++(OpenSpec.ofChange Rows.topSavedSpec).bare.plain.varTypes Tryz.pinned.checked.prog).any (Tryz.pinned.checked.prog.ifacesRec ·)))=true:=by kernel_rfl
theorem EU:((Rows.topSavedRow.mapsOut==Tryz.pinned.checked.prog.mapsAmong Tryz.f6.resultTypes.toList))=true:=by kernel_rfl
theorem Gv:((Rows.topSavedRow.loops==(Tryz.f6.params.toList++(OpenSpec.ofChange Rows.topSavedSpec).bare.plain.varTypes Tryz.pinned.checked.prog).any (Tryz.pinned.checked.prog.loopsFrom ·)))=true:=by kernel_rfl
theorem I2:((Rows.topSavedRow.wideKeys==(Tryz.f6.params.toList++(OpenSpec.ofChange Rows.topSavedSpec).bare.plain.varTypes Tryz.pinned.checked.prog++Tryz.f6.resultTypes.toList).any (Tryz.pinned.checked.prog.wideKeysFrom ·)))=true:=by kernel_rfl
theorem I3:((OpenSpec.ofChange Rows.topSavedSpec).bare.vars.all (Tryz.pinned.checked.prog.varReadable ·))=true:=by kernel_rfl
theorem EV:(Tryz.f6.resultTypes.all (λt=>Tryz.pinned.checked.prog.readableRec t&&decide (t<Tryz.pinned.checked.prog.types.size)))=true:=by kernel_rfl
theorem DR:((Rows.topSavedRow.ifacesOut==Tryz.f6.resultTypes.toList.any (Tryz.pinned.checked.prog.ifacesRec ·)))=true:=by kernel_rfl
theorem Ey:((Rows.topSavedRow.loopsOut==Tryz.f6.resultTypes.toList.any (Tryz.pinned.checked.prog.loopsFrom ·)))=true:=by kernel_rfl
theorem DT:((Rows.topSavedRow.plainKeys==Tryz.pinned.checked.prog.plainKeys))=true:=by kernel_rfl
theorem Gw:(Rows.topSavedRow.shortTexts.isNone)=true:=by kernel_rfl
theorem Gx:(Tryz.pinned.checked.prog.stopsHeard)=true:=by kernel_rfl
theorem Ez:(Tryz.pinned.checked.prog.mayEnter)=true:=by kernel_rfl
theorem Gy:((Rows.topSavedRow.lifted==Tryz.pinned.checked.prog.liftsFinal))=true:=by kernel_rfl
theorem I4:((Tryz.pinned.checked.prog.make==some Rows.topSavedRow.make))=true:=by kernel_rfl
theorem Gz:((Rows.topSavedRow.kinds==(if Rows.topSavedRow.domain.isEmpty then [] else Tryz.f6.params.toList.map λt=>match Tryz.pinned.checked.prog.underlying t with|some (.int k)=>some k|_=>none)))=true:=by kernel_rfl
theorem FM:((Rows.topSavedRow.pinned==Rows.topSavedRow.pinnedBy))=true:=by kernel_rfl
theorem FN:((Rows.topSavedRow.veiled==(Tryz.f6.params.toList++(OpenSpec.ofChange Rows.topSavedSpec).bare.plain.varTypes Tryz.pinned.checked.prog++Tryz.f6.resultTypes.toList).any (Tryz.pinned.checked.prog.veiledRec ·)))=true:=by kernel_rfl
theorem Dg:(Rows.topSavedRow.veiledFits Tryz.pinned.checked.prog Tryz.f6.params.toList (Tryz.f6.params.toList++(OpenSpec.ofChange Rows.topSavedSpec).bare.plain.varTypes Tryz.pinned.checked.prog++Tryz.f6.resultTypes.toList))=true:=by kernel_rfl
theorem I5:joinedFacts Tryz.pinned.checked.prog 6 Tryz.f6 (OpenSpec.ofChange Rows.topSavedSpec).bare Rows.topSavedRow=true:=
 Ql (Ql (Ql (Ql (Ql (Ql (Ql (Ql (Ql (Ql (Ql (Ql (Ql (Ql (Ql (Ql (Ql (Ql (Ql (Ql (Ql (Ql (Ql (Ql (Ql (Ql (Ql (Ql (Ql (Ql (Ql (JY) ES) DQ) FI) Ew) Gs) FJ) Gt) FK) ET) Df) Ex) Gu) I1) FL) EU) Gv) I2) I3) EV) DR) Ey) DT) Gw) Gx) Ez) Gy) I4) Gz) FM) FN) Dg
theorem Dh:Tryz.pinned.checked.prog.funcNamed Rows.topSavedRow.func=some 6:=by kernel_rfl
end
end Go.Proofs.YtmbccnioijokfaaGreatDoor