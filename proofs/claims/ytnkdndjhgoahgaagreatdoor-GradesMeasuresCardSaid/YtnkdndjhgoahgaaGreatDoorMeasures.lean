/- GradesMeasures: the runs. -/
import Derived.Test.YtnkdndjhgoahgaaGreatDoorBase
namespace Go.Proofs.Tryz
open Go.Ab

def sizes : List (Int × Int) := [(-9223372036854775808, 0), (1, 3000), (3001, 6000), (6001, 10000), (10001, 18000), (18001, 30000), (30001, 50000), (50001, 80000), (80001, 100000), (100001, 9223372036854775807)]
def gradesI : List (Int × Int) := [(-9223372036854775808, 4), (5, 5), (6, 6), (7, 7), (8, 8), (9, 9), (10, 10), (11, 11), (12, 12), (13, 9223372036854775807)]

theorem measuresRun (a b : Int) : (sizes.all fun p => gradesI.all fun q => good ((run prog known 100).call 6 [cell .i64 a p.1 p.2, cell .i64 b q.1 q.2] (Bg 9))) = true := by kernel_rfl

theorem measures (a b : Int) (W : World) (hG : prog.globals.size ≤ W.heap.size) (ha : -9223372036854775808 ≤ a ∧ a ≤ 9223372036854775807) (hb : -9223372036854775808 ≤ b ∧ b ≤ 9223372036854775807) :
    Calls prog 6 #[.int .i64 a, .int .i64 b] W fun e W' => e = .returned (.bool true) ∧ RowKit.Below W.heap.size W W' := by
  obtain ⟨p, hp, p1, p2⟩ := covers_sound (l := sizes) (by decide +kernel) ha.1 ha.2
  obtain ⟨q, hq, q1, q2⟩ := covers_sound (l := gradesI) (by decide +kernel) hb.1 hb.2
  have h := List.all_eq_true.1 (List.all_eq_true.1 (measuresRun a b) p hp) q hq
  rw [← gsz] at h
  refine law_of_good hmix hnum (known_ok hG) hG h (by simp [belowL, cell_below]) (iotaG 0) _ ?_
  simp only [VRL]
  exact ⟨_, _, rfl, cell_VR _ p1 p2, _, _, rfl, cell_VR _ q1 q2, rfl⟩
#print axioms measures
end Go.Proofs.Tryz
