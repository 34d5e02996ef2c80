/-
  Properties of slots for drawn regions: 'reads as these numbers'.
-/
import Derived.Test.YtjfponhdlfhmbaaMem
import Derived.Test.YtjfponhdlfhmbaaMono
namespace Go.Proofs.Ytjfponhdlfhmbaa
open Go.RowKit

/-- The slot reads as these numbers. -/
def readsP (k : IntKind) (xs : List Int) : Mono.Prp := ⟨fun v w => Mem.Reads k w v xs, fun _ _ _ h hb => h.below hb⟩
end Go.Proofs.Ytjfponhdlfhmbaa
