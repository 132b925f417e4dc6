import Derived.Test.YthkkfkiiopfkjaaCBase
import Derived.Test.YthkkfkiiopfkjaaShelf
set_option linter.unusedVariables false
namespace Go.Proofs.Ythkkfkiiopfkjaa.PCondSigns
open Go.RowKit Go.Proofs.YthkkfkiiopfkjaaW.PrintWords Go.Proofs.Ythkkfkiiopfkjaa.L4

def palinoderef04_Mark.f (a0 : Int) : Option ByteArray := if 0 ≤ a0 ∧ a0 ≤ 255 then some (strOfNums (mkL a0)) else none
theorem palinoderef04_Mark.calls (a0 : Int) (r : ByteArray) (w : World) (h : palinoderef04_Mark.f a0 = some r) :
    Calls Try.prog 14 #[.int .u8 a0] w fun e w' => e = .returned (.string r) ∧ Below w.heap.size w w' := by
  unfold palinoderef04_Mark.f at h
  split at h
  · rename_i hc
    cases h
    exact refMark_any a0 hc.1 hc.2 w
  · cases h
def strings_IndexByte.f (a0 : ByteArray) (a1 : Int) : Option Int := some (Lib.indexByte a0.data.toList a1.toNat.toUInt8)
theorem strings_IndexByte.calls (a0 : ByteArray) (a1 : Int) (r : Int) (w : World) (h : strings_IndexByte.f a0 a1 = some r) :
    Calls Try.prog 46 #[.string a0, .int .u8 a1] w fun e w' => e = .returned (.int .i64 r) ∧ Drawn0 w w' := by
  cases h
  refine (Try.strings_IndexByte a0 a1 w).mono ?_
  rintro e w' ⟨rfl, rfl⟩
  exact ⟨rfl, Drawn0.refl _⟩
end Go.Proofs.Ythkkfkiiopfkjaa.PCondSigns
