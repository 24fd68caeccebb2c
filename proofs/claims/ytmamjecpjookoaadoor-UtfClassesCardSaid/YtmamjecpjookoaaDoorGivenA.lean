/- Small words that the printed texts use beside the kit's. -/
import Derived.Test.YtmamjecpjookoaaDoorWMore
namespace Go.Proofs.YtmamjecpjookoaaDoor.G
theorem beq_nil_E (l : List UInt8) : (l == ([] : List UInt8)) = l.isEmpty := by cases l <;> rfl
end Go.Proofs.YtmamjecpjookoaaDoor.G
