/- A queue that was made is right. -/
import Derived.Test.YtopmdgheacjkcaaP3
import Derived.Test.YtopmdgheacjkcaaT30
set_option linter.unusedVariables false
set_option linter.unusedSimpArgs false
namespace Go.Proofs.Ytopmdgheacjkcaa
theorem MadeQ.right {q : Qu} (h : MadeQ q) : RightQ q := by
  have h3 := h.inv.q3
  have hl := h.len
  refine ⟨by omega, by omega, fun k n hn => ?_, fun k j hj => ?_, fun k hk => ?_⟩
  · have := h.inv.quos n (List.mem_of_getElem? hn)
    omega
  · obtain ⟨g1, g2, g3, g4, g5, g6, g7, g8⟩ := h.inv.jobs k j hj
    exact ⟨⟨g1, g2, g3, g4, g5, g6⟩, fun hs => ⟨fun i y hi hy hys => h.inv.dev i k y j hi hy hj hys hs, g7 hs⟩, g8⟩
  · exact h.inv.use (k : Int) (by omega) (by omega)
end Go.Proofs.Ytopmdgheacjkcaa
