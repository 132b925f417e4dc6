import Derived.Test.YtiohajjdlcmhnaaQuote
import Derived.Test.YtiohajjdlcmhnaaJoin
import Derived.Test.YtiohajjdlcmhnaaWMore
import Derived.Deep.QuietTactic
import Derived.BigQuiet
import Derived.Lib.SlBytesConst
namespace Go.Proofs.Ytiohajjdlcmhnaa.L4
open Go.RowKit Go.Proofs.YtiohajjdlcmhnaaW.PrintWords Go.Proofs.YtiohajjdlcmhnaaW.PrintLast Go.Proofs.YtiohajjdlcmhnaaW.PrintMore

theorem cell1 (w : World) (t : TypeId) (fr : Nat × Nat) (a : Value) : (w.alloc (.cells #[a] t fr)).cell? ⟨w.heap.size, 0, none⟩ = some a := by
  simp only [World.cell?]
  rw [show (w.alloc (.cells #[a] t fr)).heap[w.heap.size]? = some (.cells #[a] t fr) by show (w.heap.push _)[w.heap.size]? = _; simp]
  rfl
theorem cell2 (w : World) (t : TypeId) (fr : Nat × Nat) (a b : Value) (i : Nat) : (w.alloc (.cells #[a, b] t fr)).cell? ⟨w.heap.size, i, none⟩ = #[a, b][i]? := by
  simp only [World.cell?]
  rw [show (w.alloc (.cells #[a, b] t fr)).heap[w.heap.size]? = some (.cells #[a, b] t fr) by show (w.heap.push _)[w.heap.size]? = _; simp]
  rfl

set_option maxHeartbeats 1000000 in
set_option maxRecDepth 100000 in
theorem list_nl (b : Nat) (w : World) (hc : w.cell? ⟨b, 0, none⟩ = some (.int .u8 10)) :
    Calls Try.prog 9 #[.slice (some ⟨b, 0, none⟩) 1 1, .int .i64 0] w fun e w' => ∃ v, e = .returned v ∧ w'.ownsRow w.heap.size 5 1 v 3 (nums .u8 [92, 110, 36]) ∧ Below w.heap.size w w' := by
  obtain ⟨i0, hi, hz0, hz1, hz2⟩ := info_parts infoByte
  go_enter Try.func9, Try.ntmps9
  go_wp2_with fail
  refine wp_loop_rounds 2 ?_
  rw [rounds_succ]
  go_wp2_with (first
    | (go_at_call 13; refine (mark_any 10 (by decide) (by decide) _).mono ?_; rintro e w3 ⟨rfl, hb3⟩)
    | (at_builtin; refine Lib.wpList_append_own_string _ rfl _ _ 22 9 rfl w.heap.size 5 i0 Try.underlying22 Try.underlying9 hi hz0 hz1 hz2 _ _ _ rfl (own_nil w3 w.heap.size 5 1) (strOfNums (mkL 10)) rfl ?c3 ?c4 ?c5 ?_))
  case c3 => have h : (strOfNums (mkL 10)).size = 2 := rfl; rw [h]; unfold maxLen; omega
  case c4 => have h : (strOfNums (mkL 10)).size = 2 := rfl; rw [h]; omega
  case c5 => exact hb3.size
  intro v1 w4 hown4 hgrow4 hiff
  clear hiff
  have hsz3 := hb3.size
  have hb4 : Below w.heap.size w w4 := hb3.grown hgrow4 hb3.size (fun k hk => by simp [Value.ownBlock] at hk)
  have hsz4 := hb4.size
  have hown4' : w4.ownsRow w.heap.size 5 1 v1 2 (nums .u8 [92, 110]) := hown4
  clear hown4
  go_wp2_with fail
  rw [rounds_succ]
  go_wp2_with (at_builtin; refine wpList_append_own _ rfl _ _ 22 rfl w.heap.size 5 i0 (.int .u8 0) 1 1 Try.underlying22 hi hz0 hz1 hz2 rfl (by decide) _ _ _ rfl (hown4'.alloc _) ⟨w4.heap.size, 0, none⟩ 1 1 [.int .u8 36] rfl rfl ?c1 ?c2 ?c3 ?c4 ?c5 ?_)
  case c1 =>
    intro j u hj
    match j, hj with
    | 0, hj => simp at hj; subst hj; simp [Addr.add]
  case c2 => intro u hu; simp at hu; subst hu; rfl
  case c3 => unfold maxLen; omega
  case c4 => omega
  case c5 => simp; omega
  intro v2 w5 hown5 hgrow5 hiff
  clear hiff
  go_wp2_with fail
  go_ret
  exact ⟨v2, rfl, hown5, (hb4.alloc hb4.size _).grown hgrow5 (by simp; omega) (fun k hk => (hown4'.lt k hk).1)⟩

/-- a slice literal of two, read -/
theorem reads2 {α : Type} (enc : α → Value) (d : α) (h1 : ∀ x, (enc x).oneCell' = true) (w : World) (t : TypeId) (fr : Nat × Nat) (x y : α) :
    (Kd.scalar enc h1).C (w.alloc (.cells #[enc x, enc y] t fr)) (some ⟨w.heap.size, 0, none⟩) [x, y].length [x, y] := by
  refine Kd.C_of_reads (d := d) ⟨rfl, by simp, fun _ => ⟨_, rfl, fun i hi => ?_⟩⟩
  have hi' : i < 2 := by simpa using hi
  rw [add_plain, cell2]
  obtain rfl | rfl : i = 0 ∨ i = 1 := by omega
  all_goals rfl

set_option maxHeartbeats 2000000 in
set_option maxRecDepth 100000 in
theorem awake_any (w : World) :
    Calls Try.prog 4 #[] w fun e w' => e = .returned (.bool true) ∧ Below w.heap.size w w' := by
  have kc := fun (w : World) (C : Array Value) (n c : Nat) => Lib.run_convert_bytes_const (P := Try.prog) w 22 5 C n c Try.underlying22 Try.underlying5
  have e1 : ((strOfNums [92, 110, 36]).toList == ([92, 110, 36] : List UInt8)) = true := by decide +kernel
  have e2 : ((strOfNums (quL [97, 34])).toList == ([34, 97, 92, 34, 34] : List UInt8)) = true := by decide +kernel
  have e3 : ((joinS [⟨#[97]⟩, ⟨#[98]⟩] ⟨#[32]⟩).toList == ([97, 32, 98] : List UInt8)) = true := by decide +kernel
  go_enter Try.func4, Try.ntmps4
  go_wp2_with (first
    | (go_at_call 9; refine (list_nl _ _ (by exact cell1 _ _ _ _)).mono ?_; rintro e w1 ⟨v, rfl, hown, hb1⟩; have hcv := own_string (P := Try.prog) Try.underlying22 Try.underlying5 Try.underlying9 hown; clear hown; simp only [World.size_alloc] at hb1; have hsz1 := hb1.size; simp only [World.size_alloc] at hsz1)
    | (go_at_call 5; refine (quote_any _ 2 [97, 34] _ (by exact reads2 (Value.int .u8) 0 (fun _ => rfl) _ _ _ 97 34) (by decide) (by decide)).mono ?_; rintro e w2 ⟨rfl, hb2⟩; simp only [World.size_alloc] at hb2; have hsz2 := hb2.size; simp only [World.size_alloc] at hsz2)
    | (go_at_call 10; refine (row_any _ 2 [⟨#[97]⟩, ⟨#[98]⟩] _ (by exact reads2 Value.string ByteArray.empty (fun _ => rfl) _ _ _ ⟨#[97]⟩ ⟨#[98]⟩) (by decide) (by decide) (by decide)).mono ?_; rintro e w3 ⟨rfl, hb3⟩; simp only [World.size_alloc] at hb3; have hsz3 := hb3.size; simp only [World.size_alloc] at hsz3)
    | fail)
  go_ret
  refine ⟨rfl, ?_⟩
  have g1 := ((Below.refl w.heap.size w).alloc (Nat.le_refl _) (.cells #[.int .u8 10] 5 (1, 2))).trans (hb1.mono (by omega))
  have g2 := (g1.alloc (by omega) (.cells #[.int .u8 97, .int .u8 34] 5 (2, 3))).trans (hb2.mono (by omega))
  exact (g2.alloc (by omega) _).trans (hb3.mono (by omega))
end Go.Proofs.Ytiohajjdlcmhnaa.L4
