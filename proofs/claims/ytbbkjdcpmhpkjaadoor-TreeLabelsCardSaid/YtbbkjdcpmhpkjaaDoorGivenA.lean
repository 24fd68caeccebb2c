/- Small words that the printed texts use beside the kit's. -/
import Derived.Test.YtbbkjdcpmhpkjaaDoorWMore
namespace Go.Proofs.YtbbkjdcpmhpkjaaDoor.G
theorem beq_nil_E (l : List UInt8) : (l == ([] : List UInt8)) = l.isEmpty := by cases l <;> rfl
theorem lit_size (l : List UInt8) : (⟨l.toArray⟩ : ByteArray).size = l.length := by simp [ByteArray.size]
end Go.Proofs.YtbbkjdcpmhpkjaaDoor.G
