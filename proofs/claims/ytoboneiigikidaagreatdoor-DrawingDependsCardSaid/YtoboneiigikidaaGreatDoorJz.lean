/- Drawings: closed facts of the program. -/
import Derived.Test.YtoboneiigikidaaGreatDoorCards
import Derived.JoinedOf
import Derived.KernelRfl
namespace Go.Proofs.YtoboneiigikidaaGreatDoor
open Go.ChangeShapes Go.WideShapes
theorem jz1:laidOutB Tryz.prog=true:=by kernel_rfl
theorem jz2:mapsRowed Tryz.prog=true:=by kernel_rfl
theorem jz3:Tryz.prog.stopsHeard=true:=by kernel_rfl
theorem jz4:Tryz.prog.mayEnter=true:=by kernel_rfl
end Go.Proofs.YtoboneiigikidaaGreatDoor
namespace Go.Proofs.YtoboneiigikidaaGreatDoor
open Go.ChangeShapes Go.WideShapes
namespace DrawingDepends
theorem j1:(Rows.drawingDependsRow.inPlace==Tryz.prog.inPlace 5)=true:=by kernel_rfl
theorem j2:(Rows.drawingDependsRow.unfollowed==Tryz.prog.unfollowed 5)=true:=by kernel_rfl
theorem j3:(Rows.drawingDependsRow.recurses==Tryz.prog.recurses 5)=true:=by kernel_rfl
theorem j4:(Rows.drawingDependsRow.named==Tryz.prog.varsNamed 5)=true:=by kernel_rfl
theorem j5:(Rows.drawingDependsRow.lifted==Tryz.prog.liftsFinal)=true:=by kernel_rfl
theorem j6:(Rows.drawingDependsRow.plainKeys==Tryz.prog.plainKeys)=true:=by kernel_rfl
theorem joined:joinedFacts Tryz.prog 5 Tryz.f5 Rows.drawingDependsSpec Rows.drawingDependsRow=true:=by
 unfold joinedFacts
 repeat' with_reducible refine(Bool.and_eq_true _ _).mpr ⟨?_,?_⟩
 all_goals first | with_reducible exact jz1 | with_reducible exact jz2 | with_reducible exact jz3 | with_reducible exact jz4 | with_reducible exact j1 | with_reducible exact j2 | with_reducible exact j3 | with_reducible exact j4 | with_reducible exact j5 | with_reducible exact j6 | kernel_rfl
end DrawingDepends
end Go.Proofs.YtoboneiigikidaaGreatDoor
