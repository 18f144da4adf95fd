/- Graphs as they come in. -/
import Derived.Test.YtgdeekghngpcfaaPure
namespace Go.Proofs.Ytgdeekghngpcfaa
/-- The integers of a graph are Go ints, its lists are no longer than Go's own. -/
def WideG (g : Gr) : Prop := g.length ≤ 9223372036854775807 ∧ ∀ i (h : i < g.length), g[i].next.length ≤ 9223372036854775807 ∧ (-9223372036854775808 ≤ g[i].k ∧ g[i].k ≤ 9223372036854775807) ∧
  ∀ j (h2 : j < g[i].next.length), -9223372036854775808 ≤ g[i].next[j] ∧ g[i].next[j] ≤ 9223372036854775807
theorem WideG.fits {g : Gr} (h : WideG g) (hs : SmallG g) : FitsG g := ⟨hs.1, fun i hi => ⟨hs.2 i hi, (h.2 i hi).2⟩⟩

end Go.Proofs.Ytgdeekghngpcfaa
