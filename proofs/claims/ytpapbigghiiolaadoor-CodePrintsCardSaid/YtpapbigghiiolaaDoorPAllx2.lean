-- Written by the kit's print.py over this seat's translation, all its laws in one namespace (a program of this session calls it so); nothing in it is typed by hand
import Derived.Test.YtpapbigghiiolaaDoorPAllx0
namespace Go.Proofs.YtpapbigghiiolaaDoor.PAll
open Go.RowKit Go.Proofs.YtpapbigghiiolaaDoorW.PrintWords Go.Proofs.YtpapbigghiiolaaDoorW.PrintLast Go.Proofs.YtpapbigghiiolaaDoorW.PrintMore
attribute [local go_sem] max2_int min2_int max_two min_two max_three min_three max_four min_four   -- for this text's walks alone
set_option linter.unusedVariables false
set_option linter.unusedSimpArgs false

theorem eqA66 (d : Nat) (w : World) (x0 y0 : Int) (x1 y1 : Int) :
    (Op.equalIn (d + 2) 66 (.agg #[.int .i64 x0, .int .i64 x1]) (.agg #[.int .i64 y0, .int .i64 y1])).run Tryd.prog w = .ok (x0 == y0 && (x1 == y1)) w := by
  refine eqA_of Tryd.underlying66 (by kernel_rfl) ?_
  refine eqf_cons (by rfl) (by go_simp; rfl) (by go_simp; rfl) (by go_simp) ?_
  exact eqf_last (by rfl) (by go_simp; rfl) (by go_simp; rfl) (by go_simp)
end Go.Proofs.YtpapbigghiiolaaDoor.PAll
