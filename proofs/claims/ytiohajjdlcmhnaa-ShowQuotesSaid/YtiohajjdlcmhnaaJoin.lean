import Derived.Test.YtiohajjdlcmhnaaShelf
import Derived.Test.YtiohajjdlcmhnaaWWords
import Derived.WalkKit
namespace Go.Proofs.Ytiohajjdlcmhnaa.L4
open Go.RowKit Go.Proofs.YtiohajjdlcmhnaaW.PrintWords

/-- words, joined -/
def joinS (l : List ByteArray) (sep : ByteArray) : ByteArray := ⟨(Lib.join (l.map (·.data.toList)) sep.data.toList).toArray⟩

theorem strs_cells {w : World} {A : Option Addr} {l : List ByteArray} (h : Kd.C Kd.string w A l.length l) (hn : 0 < l.length) :
    ∃ b o, A = some ⟨b, o, none⟩ ∧ b < w.heap.size ∧ ∀ (j : Nat) x, l[j]? = some x → w.cell? ⟨b, o + j, none⟩ = some (.string x) := by
  obtain ⟨ad, rfl, h0⟩ := Kd.at_string h 0 (by omega) (by omega)
  have hlt := World.block_lt_of_cell? w _ h0
  obtain ⟨b, o, sp⟩ := ad
  have hsp : sp = none := by
    cases sp with
    | none => rfl
    | some q =>
      exfalso
      simp only [Int.toNat_zero, Addr.add, if_pos] at h0
      unfold World.cell? at h0
      split at h0
      · simp at h0
      · simp at h0
  subst hsp
  refine ⟨b, o, rfl, by simpa [Addr.add] using hlt, fun j x hj => ?_⟩
  obtain ⟨hjl, hjx⟩ := List.getElem?_eq_some_iff.1 hj
  obtain ⟨ad, e, hc⟩ := Kd.at_string h (j : Int) (by omega) (by omega)
  cases e
  rw [Int.toNat_natCast] at hc
  have ha : (⟨b, o, none⟩ : Addr).add j = ⟨b, o + j, none⟩ := by unfold Addr.add; split <;> simp_all
  rw [ha] at hc
  rw [hc, rdOf]
  simp [List.getD_eq_getElem?_getD, hj]

theorem join_any (A : Option Addr) (c : Nat) (l : List ByteArray) (sep : ByteArray) (w : World) (hr : Kd.C Kd.string w A l.length l) (hc : l.length ≤ c) (hN : l.length ≤ 140737488355328)
    (hlen : (Lib.join (l.map (·.data.toList)) sep.data.toList).length ≤ 140737488355328) :
    Calls Try.prog 17 #[.slice A l.length c, .string sep] w fun e w' => e = .returned (.string (joinS l sep)) ∧ Below w.heap.size w w' := by
  by_cases hn : 0 < l.length
  · obtain ⟨b, o, rfl, hb, hcells⟩ := strs_cells hr hn
    exact Try.strings_Join b o c l sep w hcells hb hN hc hlen
  · obtain rfl : l = [] := List.eq_nil_of_length_eq_zero (by omega)
    refine (Try.strings_Join_none A c sep w).mono ?_
    rintro e w' ⟨rfl, rfl⟩
    exact ⟨rfl, Below.refl _ _⟩

theorem row_any (A : Option Addr) (c : Nat) (l : List ByteArray) (w : World) (hr : Kd.C Kd.string w A l.length l) (hc : l.length ≤ c) (hN : l.length ≤ 140737488355328)
    (hlen : (Lib.join (l.map (·.data.toList)) [32]).length ≤ 140737488355328) :
    Calls Try.prog 10 #[.slice A l.length c] w fun e w' => e = .returned (.string (joinS l ⟨#[32]⟩)) ∧ Below w.heap.size w w' := by
  go_enter Try.func10, Try.ntmps10
  go_wp2_with (go_at_call 17; refine (join_any A c l ⟨#[32]⟩ _ hr hc hN hlen).mono ?_; rintro e w1 ⟨rfl, hb⟩)
  go_ret
  exact ⟨rfl, hb⟩
end Go.Proofs.Ytiohajjdlcmhnaa.L4
