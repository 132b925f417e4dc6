import Derived.Test.YthkkfkiiopfkjaaCSign
import Derived.Lib.IndexMore
set_option linter.unusedVariables false
set_option linter.unusedSimpArgs false
namespace Go.Proofs.Ythkkfkiiopfkjaa.L4
open Go.RowKit Go.Proofs.YthkkfkiiopfkjaaW.PrintWords

theorem pq_facts (len y z : Nat) (hk : len ≤ 100) : ∃ P M R Q K : Nat, (P ≤ Q ∧ Q ≤ len) ∧ (y : Int) % ((len : Int) + 1) = (P : Int) ∧ wrap64 ((len : Int) - (P : Int)) = (K : Int) ∧ wrap64 ((K : Int) + 1) = (M : Int) ∧ (z : Int) % (M : Int) = (R : Int) ∧ wrap64 ((P : Int) + (R : Int)) = (Q : Int) ∧ M ≠ 0 := by
  have h1 : y % (len + 1) < len + 1 := Nat.mod_lt _ (by omega)
  have e1 : (y : Int) % ((len : Int) + 1) = ((y % (len + 1) : Nat) : Int) := by rw [Int.natCast_emod]; rfl
  generalize y % (len + 1) = P at *
  have h2 : z % (len - P + 1) < len - P + 1 := Nat.mod_lt _ (by omega)
  have e2 : (z : Int) % ((len - P + 1 : Nat) : Int) = ((z % (len - P + 1) : Nat) : Int) := (Int.natCast_emod _ _).symm
  generalize z % (len - P + 1) = R at *
  refine ⟨P, len - P + 1, R, P + R, len - P, ⟨by omega, by omega⟩, e1, ?_, ?_, e2, ?_, by omega⟩
  all_goals unfold wrap64; omega
theorem bytesIn_C {w : World} {A : Option Addr} {l : List Int} (h : Kd.C (Kd.int .u8) w A l.length l) : Lib.BytesIn w A l.length l := by
  intro hn
  obtain ⟨ad, e, hc⟩ := (Kd.reads_of_C (enc := Value.int .u8) (d := (0 : Int)) (h1 := fun _ => rfl) h).2.2 hn
  subst e
  exact (Lib.BytesIn.of_cells (xs := l) hc) hn
theorem bytesIn_at {G b : Nat} {w : World} {l : List Int} (h : BytesAt G w b l) : Lib.BytesIn w (some ⟨b, 0, none⟩) l.length l :=
  Lib.BytesIn.of_cells fun i hi => by rw [add_plain]; exact h.2 i hi
theorem part_in (U : List UInt8) (p q : Nat) (hp : p ≤ q) (hq : q ≤ U.length) : Lib.contains U ((U.take q).drop p) = true := by
  unfold Lib.contains
  rw [decide_eq_true_eq]
  rcases Lib.index_spec U ((U.take q).drop p) with ⟨h1, h2⟩ | ⟨i, h1, _⟩
  · exfalso
    have := h2 p (by omega)
    unfold Lib.occAt at this
    rw [← Bool.not_eq_true, List.isPrefixOf_iff_prefix] at this
    refine this ?_
    rw [List.drop_take]
    exact List.take_prefix _ _
  · rw [h1]; omega
theorem lib_bytesOf_part (l : List Int) (p q : Nat) : Lib.bytesOf ((l.take q).drop p) = ((Lib.bytesOf l).take q).drop p := by
  simp [Lib.bytesOf, List.map_take, List.map_drop]

theorem is_says {w : World} {G : Nat} {v : Value} {l : List Int} (hl : ∀ x ∈ l, 0 ≤ x ∧ x ≤ 255) (h : TxtC G 62 w v (fnV 37) (strOfNums l)) {B1 B2 : Nat} {x : Int} {pv : Value} {A : Option Addr} {c : Nat} (hS : StC w B2 x pv (.slice A l.length c)) (hC : Kd.C (Kd.int .u8) w A l.length l) : Hv w v B1 B2 true := by
  refine is_Hv (A := A) (n := l.length) (c := c) h Try.func37 (by kernel_rfl) (by kernel_rfl) (fun w1 hb => hold_get (hS.below hb)) ?_
  intro w1 b3 c2 hb h1 h2
  rw [bytesOf_strOfNums l hl] at h2
  rw [strOfNums_size]
  refine (Try.bytes_Equal_all A (some ⟨b3, 0, none⟩) l.length c l.length c2 l l w1 rfl rfl (bytesIn_C (Kd.C_below hC hb)) (bytesIn_at h2)).mono ?_
  rintro e w' ⟨rfl, rfl⟩
  exact ⟨by simp, Below.refl _ _⟩
theorem has_says {w : World} {G : Nat} {v : Value} {l : List Int} (hl : ∀ x ∈ l, 0 ≤ x ∧ x ≤ 255) (hn : l.length ≤ 100) (p q : Nat) (hp : p ≤ q) (hq : q ≤ l.length) (h : TxtC G 60 w v (fnV 37) (strOfNums ((l.take q).drop p))) {B1 B2 : Nat} {x : Int} {pv : Value} {A : Option Addr} {c : Nat} (hS : StC w B2 x pv (.slice A l.length c)) (hC : Kd.C (Kd.int .u8) w A l.length l) (hc : l.length ≤ c) (hMx : Mx w) : Hv w v B1 B2 true := by
  have hsub : ∀ x ∈ (l.take q).drop p, 0 ≤ x ∧ x ≤ 255 := fun x hx => hl x (List.mem_of_mem_take (List.mem_of_mem_drop hx))
  have hsl : ((l.take q).drop p).length = q - p := by rw [List.length_drop, List.length_take]; omega
  refine has_Hv (A := A) (n := l.length) (c := c) h Try.func37 (by kernel_rfl) (by kernel_rfl) (fun w1 hb => hold_get (hS.below hb)) ?_
  intro w1 b3 c2 hb h1 h2
  rw [bytesOf_strOfNums _ hsub] at h2
  rw [strOfNums_size]
  by_cases hz : q - p = 0
  · rw [hsl, hz]
    refine (Try.bytes_Contains_none A (some ⟨b3, 0, none⟩) l.length c c2 w1).mono ?_
    rintro e w' ⟨rfl, rfl⟩
    exact ⟨rfl, Below.refl _ _⟩
  · obtain ⟨ad, rfl, hcell⟩ := (Kd.reads_of_C (enc := Value.int .u8) (d := (0 : Int)) (h1 := fun _ => rfl) (Kd.C_below hC hb)).2.2 (by omega)
    obtain ⟨m, hm⟩ := hMx.below hb
    refine (Try.bytes_Contains_at ad ⟨b3, 0, none⟩ l.length c _ c2 l ((l.take q).drop p) m w1 rfl rfl (fun x hx => by have := hl x hx; omega) (fun x hx => by have := hsub x hx; omega) hcell (fun i hi => by rw [add_plain]; exact h2.2 i hi) hc (by omega) (by omega) hm).mono ?_
    rintro e w' ⟨rfl, k, rfl⟩
    refine ⟨?_, below_dn _ _⟩
    rw [lib_bytesOf_part, part_in _ p q hp (by simpa [Lib.bytesOf] using hq)]
theorem chg_says {w : World} {v : Value} {l1 l2 : List Int} (h : ChgC w v (fnV 37)) {B1 B2 : Nat} {x1 x2 : Int} {p1 p2 : Value} {A1 A2 : Option Addr} {c1 c2 : Nat} (hS1 : StC w B1 x1 p1 (.slice A1 l1.length c1)) (hS2 : StC w B2 x2 p2 (.slice A2 l2.length c2)) (h1 : Kd.C (Kd.int .u8) w A1 l1.length l1) (h2 : Kd.C (Kd.int .u8) w A2 l2.length l2) :
    Hv w v B1 B2 (!(Lib.bytesOf l1 == Lib.bytesOf l2)) := by
  refine chg_Hv h hS1 hS2 (fun w1 hb => ?_)
  refine (Try.bytes_Equal_all A1 A2 l1.length c1 l2.length c2 l1 l2 w1 rfl rfl (bytesIn_C (Kd.C_below h1 hb)) (bytesIn_C (Kd.C_below h2 hb))).mono ?_
  rintro e w' ⟨rfl, rfl⟩
  exact ⟨rfl, Below.refl _ _⟩
end Go.Proofs.Ythkkfkiiopfkjaa.L4
