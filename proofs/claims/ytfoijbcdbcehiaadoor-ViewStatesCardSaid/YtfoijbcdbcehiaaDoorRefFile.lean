import Derived.Test.YtfoijbcdbcehiaaDoorFile
set_option linter.unusedVariables false
namespace Go.Proofs.YtfoijbcdbcehiaaDoor.L4
open Go.RowKit Go.Proofs.YtfoijbcdbcehiaaDoorW.PrintWords Go.Proofs.YtfoijbcdbcehiaaDoor.PViewStates

theorem at_loop (l : List Fl) (nm : ByteArray) (hn : l.length ≤ 10000) (d : Nat) : ∀ (k i : Nat), i ≤ l.length → l.length - i = d → d < k → (∀ j, j < i → (l.getD j zFl).f0.toList ≠ nm.toList) → palinoderef03_At.l0 k l nm i = some (idxF l nm) := by
  induction d with
  | zero =>
    intro k i hi hd hk hb
    obtain ⟨k, rfl⟩ : ∃ m, k = m + 1 := ⟨k - 1, by omega⟩
    obtain rfl : i = l.length := by omega
    simp only [palinoderef03_At.l0]
    rw [if_neg (by omega), idxF_miss hb]
  | succ d ih =>
    intro k i hi hd hk hb
    obtain ⟨k, rfl⟩ : ∃ m, k = m + 1 := ⟨k - 1, by omega⟩
    have hlt : i < l.length := by omega
    have hrd : rd_T43 l i = l.getD i zFl := by simp [rd_T43]
    simp only [palinoderef03_At.l0]
    rw [if_pos (by omega), if_pos (by omega), hrd]
    by_cases h : (l.getD i zFl).f0.toList = nm.toList
    · rw [if_pos h, idxF_hit hlt h hb]
    · rw [if_neg h, wrap_succ i (by omega)]
      refine ih k (i + 1) (by omega) (by omega) (by omega) ?_
      intro j hj
      rcases Nat.lt_or_ge j i with h1 | h1
      · exact hb j h1
      · obtain rfl : j = i := by omega
        exact h
theorem at_f (l : List Fl) (nm : ByteArray) (hn : l.length ≤ 10000) : palinoderef03_At.f 20001 l nm = some (idxF l nm) := by
  unfold palinoderef03_At.f
  exact at_loop l nm hn l.length 20001 0 (by omega) (by omega) (by omega) (fun j hj => absurd hj (Nat.not_lt_zero j))
theorem refFile_f (s : Sv) (nm : ByteArray) (w : World) (hs : s.Ok w) (hm : Sm s) : palinoderef30_File.f 20001 s.l0 s.l1 s.x2 s.x3 s.x4 s.x5 s.x6 s.x7 s.x8 s.x9 s.l10 s.l11 s.x12 s.l13 s.x14 s.x15 s.x16 s.x17 s.x18 s.x19 s.x20 s.x21 s.x22 s.l23 s.l24 s.l25 s.l26 nm = some ((fileS s nm).1, (fileS s nm).2) := by
  have hn := hm.l25
  unfold palinoderef30_File.f
  rw [at_f _ _ hn]
  simp only [Option.bind_some]
  rcases idxF_cases s.l25 nm with hi | ⟨k, hi, hk⟩
  · have hf : fileS s nm = (⟨#[]⟩, false) := by unfold fileS; rw [hi]; rfl
    rw [hi, if_pos (by omega), hf]
  · have hf : fileS s nm = (quo (s.l25.getD k zFl).f1, true) := by unfold fileS; rw [hi, if_neg (by omega)]; rfl
    have hrd : rd_T43 s.l25 k = s.l25.getD k zFl := by simp [rd_T43]
    have hmem : s.l25.getD k zFl ∈ s.l25 := by simp [List.getD_eq_getElem?_getD, List.getElem?_eq_getElem hk]
    have h1 := (hm.w25 _ hmem).1
    rw [hi, if_neg (by omega), if_pos (by omega), if_pos (by omega), hrd, refQuote_f _ (hs.b25 _ hmem) (by omega), hf]
    rfl
theorem refFile_any (s : Sv) (nm : ByteArray) (w : World) (hs : s.Ok w) (hm : Sm s) :
    Calls Tryd.prog 12 #[s.v, .string nm] w fun e w' => e = .returned (.tuple #[.string (fileS s nm).1, .bool (fileS s nm).2]) ∧ Below w.heap.size w w' :=
  palinoderef30_File.calls 20001 s.a0 s.c0 s.l0 s.a1 s.c1 s.l1 s.x2 s.x3 s.x4 s.x5 s.x6 s.x7 s.x8 s.x9 s.a10 s.c10 s.l10 s.a11 s.c11 s.l11 s.x12 s.a13 s.c13 s.l13 s.x14 s.x15 s.x16 s.x17 s.x18 s.x19 s.x20 s.x21 s.x22 s.a23 s.c23 s.l23 s.a24 s.c24 s.l24 s.a25 s.c25 s.l25 s.a26 s.c26 s.l26 nm _ _ w hs.r0 hs.m0 hs.r1 hs.m1 hs.r10 hs.m10 hs.r11 hs.m11 hs.r13 hs.m13 hs.r23 hs.m23 hs.r24 hs.m24 hs.r25 hs.m25 hs.r26 hs.m26 (refFile_f s nm w hs hm)
end Go.Proofs.YtfoijbcdbcehiaaDoor.L4
