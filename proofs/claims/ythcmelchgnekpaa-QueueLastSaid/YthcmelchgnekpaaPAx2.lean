-- Written by a program of this session (wip/tools/xprint.py), which drives the kit's print.
import Derived.Test.YthcmelchgnekpaaPAx0
import Derived.Test.YthcmelchgnekpaaPAx1
namespace Go.Proofs.Ythcmelchgnekpaa.PA
open Go.RowKit Go.Proofs.YthcmelchgnekpaaW.PrintWords Go.Proofs.YthcmelchgnekpaaW.PrintLast Go.Proofs.YthcmelchgnekpaaW.PrintMore
attribute [local go_sem] max2_int min2_int max_two min_two max_three min_three max_four min_four   -- for this text's walks alone
set_option linter.unusedVariables false
set_option linter.unusedSimpArgs false

theorem eqA33 (d : Nat) (w : World) (x0 y0 : ByteArray) (x1 y1 : Bool) (x2 y2 : Int) (x3 y3 : Int) (x4 y4 : Int) (x5 y5 : ByteArray) :
    (Op.equalIn (d + 3) 33 (.agg #[.string x0, .bool x1, .int .i64 x2, .int .i64 x3, .int .i64 x4, .string x5]) (.agg #[.string y0, .bool y1, .int .i64 y2, .int .i64 y3, .int .i64 y4, .string y5])).run Try.prog w = .ok (x0.toList == y0.toList && (x1 == y1 && ((x2 == y2 && (x3 == y3 && (x4 == y4 && (x5.toList == y5.toList))))))) w := by
  refine eqA_of Try.underlying33 (by kernel_rfl) ?_
  refine eqf_cons (by rfl) (by go_simp; rfl) (by go_simp; rfl) (by go_simp) ?_
  refine eqf_cons (by rfl) (by go_simp; rfl) (by go_simp; rfl) (by go_simp) ?_
  exact eqf_last (by rfl) (by go_simp) (by go_simp) (eqA31 (d + 0) w _ _ _ _ _ _ _ _)
end Go.Proofs.Ythcmelchgnekpaa.PA
