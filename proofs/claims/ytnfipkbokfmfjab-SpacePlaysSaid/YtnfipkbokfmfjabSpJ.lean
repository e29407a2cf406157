import Derived.Test.YtnfipkbokfmfjabSpH
import Derived.Test.YtnfipkbokfmfjabSpI
namespace Go.Proofs.Ytnfipkbokfmfjab
open Go.RowKit
theorem walk_SpacePlays (n : Int) (a : Option Addr) (len cap : Nat) (D N : Nat → Int) (w : World) (w0 : (Lit.int .i64 n).wf = true) (w1 : IsPairs w a len D N) :
    Calls Try.prog 7 #[.int .i64 n, .slice a len cap] w fun e w' => e = .returned (.bool true) ∧ Below w.heap.size w w' := by
  have h0 := bounds_i64 w0
  exact spacePlays_any n a len cap D N w h0.1 h0.2 w1.1 w1.2
end Go.Proofs.Ytnfipkbokfmfjab
