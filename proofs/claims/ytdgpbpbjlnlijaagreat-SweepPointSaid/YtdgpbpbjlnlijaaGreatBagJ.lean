/- the reference's SameRows, Multiplicity; annalistlaw0.FewRows -/
import Derived.Test.YtdgpbpbjlnlijaaGreatBagI
namespace Go.Proofs.YtdgpbpbjlnlijaaGreat
open Go.RowKit

/-- rows that a law takes -/
def few (n : Nat) (l : List Row) : Prop := l.length ≤ n ∧ ∀ r ∈ l, r.vals.length ≤ 6 ∧ r.lin.length ≤ 6
theorem few_fit {n : Nat} {l : List Row} (h : few n l) (hn : n ≤ 1048576) : fitRows l :=
  ⟨Nat.le_trans h.1 hn, fun r hr => ⟨by have := (h.2 r hr).1; omega, by have := (h.2 r hr).2; omega⟩⟩

end Go.Proofs.YtdgpbpbjlnlijaaGreat
