import Derived.Test.YtikdhkmcdmnadaaGreatFmtKV3b
import Derived.Test.YtikdhkmcdmnadaaGreatFmtKV3c
import Derived.Test.YtikdhkmcdmnadaaGreatFmtKV3d
import Derived.Test.YtikdhkmcdmnadaaGreatFmtKV3e
set_option linter.unusedVariables false
set_option linter.unusedSimpArgs false
namespace Go.Proofs.YtikdhkmcdmnadaaGreatFmt
open Go.RowKit
theorem rends_calls (lo hi : Nat) (b : Bool) (hl : lo < 18446744073709551616) (hh : hi < 18446744073709551616) (w : World) :
    Calls Tryz.prog 13 #[.agg #[.int .u64 lo, .int .u64 hi, .bool b]] w fun e w' => ∃ (n1 n2 : Bool) (A1 A2 : Option Addr) (l1 l2 c1 c2 : Nat) (x1 x2 : Int), e = .returned (.tuple #[.agg #[.bool n1, .slice A1 l1 c1, .int .i64 x1], .agg #[.bool n2, .slice A2 l2 c2, .int .i64 x2], .bool (goodB lo hi b)]) ∧ NumC 1074 w' w.heap.size (numV lo) n1 A1 l1 c1 x1 ∧ NumC 1074 w' w.heap.size (numV hi) n2 A2 l2 c2 x2 ∧ Below w.heap.size w w' := by
  cases fl : fin lo with
  | false => exact ends_a lo hi b hl hh fl w
  | true =>
    cases fh : fin hi with
    | false => exact ends_b lo hi b hl hh fl fh w
    | true =>
      cases b with
      | true => exact ends_c lo hi hl hh fl fh w
      | false => exact ends_d lo hi hl hh fl fh w
end Go.Proofs.YtikdhkmcdmnadaaGreatFmt
