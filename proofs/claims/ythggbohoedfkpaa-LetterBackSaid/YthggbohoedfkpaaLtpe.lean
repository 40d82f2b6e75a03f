/- Letters: what the reference opens. -/
import Derived.Test.YthggbohoedfkpaaLtpa
import Derived.Test.YthggbohoedfkpaaLtpb
import Derived.Test.YthggbohoedfkpaaLtpc
import Derived.Test.YthggbohoedfkpaaLtpd
namespace Go.Proofs.Ythggbohoedfkpaa
open Go.RowKit Pk
set_option linter.unusedVariables false
set_option linter.unusedSimpArgs false
set_option maxRecDepth 100000
namespace Lt
section
variable {w w1 : World}
theorem ropen_letter (s : ByteArray) (hs : s.size ≤ 10000) (w : World) : Calls Try.prog 18 #[.string s] w fun e w' => ∃ r : Option Ltr, e = ropened r ∧ Frm0 w w' ∧ OSpec s r := by
  by_cases h1 : (rN (rN (s, false)).2).1 = 1
  · exact ropen_k1 s hs h1 w
  by_cases h2 : (rN (rN (s, false)).2).1 = 2
  · exact ropen_k2 s hs h2 w
  by_cases h3 : (rN (rN (s, false)).2).1 = 3
  · exact ropen_k3 s hs h3 w
  exact ropen_k4 s hs ⟨h1, h2, h3⟩ w
end
end Lt
end Go.Proofs.Ythggbohoedfkpaa
