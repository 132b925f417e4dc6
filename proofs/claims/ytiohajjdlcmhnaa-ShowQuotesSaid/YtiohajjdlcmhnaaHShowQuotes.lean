import Derived.Test.YtiohajjdlcmhnaaAwake04
import Derived.Test.YtiohajjdlcmhnaaRefMark
set_option linter.unusedVariables false
namespace Go.Proofs.Ytiohajjdlcmhnaa.PShowQuotes
open Go.RowKit Go.Proofs.YtiohajjdlcmhnaaW.PrintWords Go.Proofs.Ytiohajjdlcmhnaa.L4

def show_mark.f (a0 : Int) : Option ByteArray := if 0 ≤ a0 ∧ a0 ≤ 255 then some (strOfNums (mkL a0)) else none
theorem show_mark.calls (a0 : Int) (r : ByteArray) (w : World) (h : show_mark.f a0 = some r) :
    Calls Try.prog 13 #[.int .u8 a0] w fun e w' => e = .returned (.string r) ∧ Below w.heap.size w w' := by
  unfold show_mark.f at h
  split at h
  · rename_i hc
    cases h
    exact mark_any a0 hc.1 hc.2 w
  · cases h
def palinoderef04_Mark.f (a0 : Int) : Option ByteArray := if 0 ≤ a0 ∧ a0 ≤ 255 then some (strOfNums (mkL a0)) else none
theorem palinoderef04_Mark.calls (a0 : Int) (r : ByteArray) (w : World) (h : palinoderef04_Mark.f a0 = some r) :
    Calls Try.prog 16 #[.int .u8 a0] w fun e w' => e = .returned (.string r) ∧ Below w.heap.size w w' := by
  unfold palinoderef04_Mark.f at h
  split at h
  · rename_i hc
    cases h
    exact refMark_any a0 hc.1 hc.2 w
  · cases h
def show_Quote.f (l0 : List Int) : Option ByteArray := if l0.all (fun x => decide (0 ≤ x ∧ x ≤ 255)) = true ∧ l0.length ≤ 1099511627776 then some (strOfNums (quL l0)) else none
theorem show_Quote.calls (A0 : Option Addr) (c0 : Nat) (l0 : List Int) (r : ByteArray) (w : World) (hr0 : Kd.C (Kd.int .u8) w A0 l0.length l0) (hc0 : l0.length ≤ c0) (h : show_Quote.f l0 = some r) :
    Calls Try.prog 5 #[.slice A0 l0.length c0] w fun e w' => e = .returned (.string r) ∧ Below w.heap.size w w' := by
  unfold show_Quote.f at h
  split at h
  · rename_i hc
    cases h
    exact quote_any A0 c0 l0 w hr0 (fun x hx => of_decide_eq_true (List.all_eq_true.1 hc.1 x hx)) hc.2
  · cases h
def strings_Join.f (l0 : List ByteArray) (a1 : ByteArray) : Option ByteArray := if l0.length ≤ 140737488355328 ∧ (Lib.join (l0.map (·.data.toList)) a1.data.toList).length ≤ 140737488355328 then some (joinS l0 a1) else none
theorem strings_Join.calls (A0 : Option Addr) (c0 : Nat) (l0 : List ByteArray) (a1 : ByteArray) (r : ByteArray) (w : World) (hr0 : Kd.C Kd.string w A0 l0.length l0) (hc0 : l0.length ≤ c0) (h : strings_Join.f l0 a1 = some r) :
    Calls Try.prog 17 #[.slice A0 l0.length c0, .string a1] w fun e w' => e = .returned (.string r) ∧ Below w.heap.size w w' := by
  unfold strings_Join.f at h
  split at h
  · rename_i hc
    cases h
    exact join_any A0 c0 l0 a1 w hr0 hc0 hc.1 hc.2
  · cases h
def strings_IndexByte.f (a0 : ByteArray) (a1 : Int) : Option Int := some (Lib.indexByte a0.data.toList a1.toNat.toUInt8)
theorem strings_IndexByte.calls (a0 : ByteArray) (a1 : Int) (r : Int) (w : World) (h : strings_IndexByte.f a0 a1 = some r) :
    Calls Try.prog 19 #[.string a0, .int .u8 a1] w fun e w' => e = .returned (.int .i64 r) ∧ Drawn0 w w' := by
  cases h
  refine (Try.strings_IndexByte a0 a1 w).mono ?_
  rintro e w' ⟨rfl, rfl⟩
  exact ⟨rfl, Drawn0.refl _⟩
def palinodelaw04_awake.f : Option Bool := some true
theorem palinodelaw04_awake.calls (r : Bool) (w : World) (h : palinodelaw04_awake.f = some r) :
    Calls Try.prog 4 #[] w fun e w' => e = .returned (.bool r) ∧ Below w.heap.size w w' := by
  cases h
  exact awake_any w
end Go.Proofs.Ytiohajjdlcmhnaa.PShowQuotes
