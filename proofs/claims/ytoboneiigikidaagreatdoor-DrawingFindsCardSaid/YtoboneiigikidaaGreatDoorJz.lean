/- Drawings: closed facts of the program. -/
import Derived.Test.YtoboneiigikidaaGreatDoorCards
import Derived.JoinedOf
import Derived.KernelRfl
namespace Go.Proofs.YtoboneiigikidaaGreatDoor
open Go.ChangeShapes Go.WideShapes
theorem jz1:laidOutB Tryz.prog=true:=by kernel_rfl
theorem jz2:mapsRowed Tryz.prog=true:=by kernel_rfl
theorem jz3:Tryz.prog.stopsHeard=true:=by kernel_rfl
theorem jz4:Tryz.prog.mayEnter=true:=by kernel_rfl
end Go.Proofs.YtoboneiigikidaaGreatDoor
namespace Go.Proofs.YtoboneiigikidaaGreatDoor
open Go.ChangeShapes Go.WideShapes
namespace DrawingFinds
theorem j1:(Rows.drawingFindsRow.inPlace==Tryz.prog.inPlace 7)=true:=by kernel_rfl
theorem j2:(Rows.drawingFindsRow.unfollowed==Tryz.prog.unfollowed 7)=true:=by kernel_rfl
theorem j3:(Rows.drawingFindsRow.recurses==Tryz.prog.recurses 7)=true:=by kernel_rfl
theorem j4:(Rows.drawingFindsRow.named==Tryz.prog.varsNamed 7)=true:=by kernel_rfl
theorem j5:(Rows.drawingFindsRow.lifted==Tryz.prog.liftsFinal)=true:=by kernel_rfl
theorem j6:(Rows.drawingFindsRow.plainKeys==Tryz.prog.plainKeys)=true:=by kernel_rfl
theorem joined:joinedFacts Tryz.prog 7 Tryz.f7 Rows.drawingFindsSpec Rows.drawingFindsRow=true:=by
 unfold joinedFacts
 repeat' with_reducible refine(Bool.and_eq_true _ _).mpr ⟨?_,?_⟩
 all_goals first | with_reducible exact jz1 | with_reducible exact jz2 | with_reducible exact jz3 | with_reducible exact jz4 | with_reducible exact j1 | with_reducible exact j2 | with_reducible exact j3 | with_reducible exact j4 | with_reducible exact j5 | with_reducible exact j6 | kernel_rfl
end DrawingFinds
end Go.Proofs.YtoboneiigikidaaGreatDoor
