import Derived.Test.YtfoijbcdbcehiaaDoorSeam
import Derived.Test.YtfoijbcdbcehiaaDoorShow4
set_option linter.unusedVariables false
set_option linter.unusedSimpArgs false
namespace Go.Proofs.YtfoijbcdbcehiaaDoor.L4
open Go.RowKit Go.Proofs.YtfoijbcdbcehiaaDoorW.PrintWords

/-- the place of the first file of a name -/
def idxF (l : List Fl) (nm : ByteArray) : Int := if l.findIdx (fun x => x.f0.toList == nm.toList) < l.length then (l.findIdx (fun x => x.f0.toList == nm.toList) : Int) else -1
theorem idxF_hit {l : List Fl} {nm : ByteArray} {k : Nat} (hk : k < l.length) (h : (l.getD k zFl).f0.toList = nm.toList) (hb : ∀ j, j < k → (l.getD j zFl).f0.toList ≠ nm.toList) : idxF l nm = k := by
  have e : l.findIdx (fun x => x.f0.toList == nm.toList) = k := by
    rw [List.findIdx_eq hk]
    refine ⟨by simpa [List.getD_eq_getElem?_getD, List.getElem?_eq_getElem hk] using h, fun j hj => ?_⟩
    have := hb j hj
    simpa [List.getD_eq_getElem?_getD, List.getElem?_eq_getElem (show j < l.length by omega)] using this
  unfold idxF
  rw [e, if_pos hk]
theorem idxF_miss {l : List Fl} {nm : ByteArray} (hb : ∀ j, j < l.length → (l.getD j zFl).f0.toList ≠ nm.toList) : idxF l nm = -1 := by
  have e : l.findIdx (fun x => x.f0.toList == nm.toList) = l.length := by
    rw [List.findIdx_eq_length]
    intro x hx
    obtain ⟨j, hj, rfl⟩ := List.getElem_of_mem hx
    have := hb j hj
    simpa [List.getD_eq_getElem?_getD, List.getElem?_eq_getElem hj] using this
  unfold idxF
  rw [e, if_neg (by omega)]
theorem idxF_cases (l : List Fl) (nm : ByteArray) : idxF l nm = -1 ∨ ∃ k : Nat, idxF l nm = k ∧ k < l.length := by
  unfold idxF
  split
  · rename_i h; exact .inr ⟨_, rfl, h⟩
  · exact .inl rfl
/-- what is said of a file -/
def fileS (s : Sv) (nm : ByteArray) : ByteArray × Bool := if idxF s.l25 nm < 0 then (⟨#[]⟩, false) else (quo (s.l25.getD (idxF s.l25 nm).toNat zFl).f1, true)

set_option maxRecDepth 100000 in
theorem file1_any (x : Fl) (nm : ByteArray) (A1 : Option Addr) (c1 b : Nat) (w : World) (hb : w.cell? ⟨b, 0, none⟩ = some (.string nm)) :
    Calls Tryd.prog 26 #[.agg #[.string x.f0, .slice A1 x.f1.length c1], .pointer (some ⟨b, 0, none⟩)] w fun e w' => e = .returned (.bool (x.f0.toList == nm.toList)) ∧ Below w.heap.size w w' := by
  have hlt := World.block_lt_of_cell? w _ hb
  have hc := carryA (o := .cells #[.string x.f0, .slice A1 x.f1.length c1] 43) hlt hb
  have kB := (Below.refl w.heap.size w).alloc (Nat.le_refl _) (.cells #[.string x.f0, .slice A1 x.f1.length c1] 43)
  have d0 : (w.alloc (.cells #[.string x.f0, .slice A1 x.f1.length c1] 43)).cell? ⟨w.heap.size, 0, none⟩ = some (.string x.f0) := by rw [cell2]; rfl
  go_enter Tryd.func26, Tryd.ntmps26
  go_wp2_with fail
  go_ret
  exact ⟨rfl, kB⟩

set_option maxRecDepth 100000 in
set_option maxHeartbeats 4000000 in
theorem indexFunc_any (A : Option Addr) (c : Nat) (l : List Fl) (nm : ByteArray) (b : Nat) (w : World) (hr : Kd.C kFl w A l.length l) (hn : l.length ≤ 10000) (hb : w.cell? ⟨b, 0, none⟩ = some (.string nm)) :
    Calls Tryd.prog 25 #[.slice A l.length c, .func (Fn.func 26) #[] #[.pointer (some ⟨b, 0, none⟩)]] w fun e w' => e = .returned (.int .i64 (idxF l nm)) ∧ Below w.heap.size w w' := by
  have hlt := World.block_lt_of_cell? w _ hb
  have HR := Aside0.mk hr
  clear hr
  go_enter Tryd.func25, Tryd.ntmps25
  go_wp2_with fail
  go_loopw [8] (fun i wr => ∃ k : Nat, k ≤ l.length ∧ i = .int .i64 k ∧ Aside0 (∀ j, j < k → (l.getD j zFl).f0.toList ≠ nm.toList) ∧ Aside0 (Below w.heap.size w wr)) (fun i _ => l.length - (intOf i).toNat)
  case atStart => exact ⟨0, Nat.zero_le _, rfl, ⟨fun j hj => absurd hj (Nat.not_lt_zero j)⟩, ⟨Below.refl _ _⟩⟩
  case round =>
    obtain ⟨k, hk, rfl, hN, hB⟩ := hrel
    by_cases hlt2 : k < l.length
    · obtain ⟨ad, A1, c1, e1, hx0, hx1, hl1, hr1⟩ := at_Fl HR.out k hlt2
      have hsplit0 : ¬ (l.getD k zFl).f0.toList = nm.toList → ∀ j, j < k + 1 → (l.getD j zFl).f0.toList ≠ nm.toList := by
        intro h1 j hj
        rcases Nat.lt_or_ge j k with h | h
        · exact hN.out j h
        · obtain rfl : j = k := by omega
          exact h1
      have hsplit := Aside0.mk hsplit0
      clear hsplit0
      have hhit := Aside0.mk (fun (h1 : (l.getD k zFl).f0.toList = nm.toList) => idxF_hit hlt2 h1 hN.out)
      generalize l.getD k zFl = x at *
      replace hx0 := (hB.out.cell (World.block_lt_of_cell? w _ hx0)).trans hx0
      replace hx1 := (hB.out.cell (World.block_lt_of_cell? w _ hx1)).trans hx1
      have hbr := carry hB.out hlt hb
      rw [e1]
      clear e1 hr1
      by_cases hm : x.f0.toList = nm.toList
      · have hmb : (x.f0.toList == nm.toList) = true := beq_iff_eq.mpr hm
        have hres := hhit.out hm
        clear hm hsplit hhit
        go_wp2_with (refine (file1_any x nm A1 c1 b _ hbr).mono ?_; rintro e W3 ⟨rfl, hb3⟩; have kb := hB.out.trans (hb3.mono hB.out.size); clear hb3)
        go_ret
        exact ⟨by rw [hres]; rfl, kb⟩
      · have hmb : (x.f0.toList == nm.toList) = false := beq_eq_false_iff_ne.mpr hm
        have hres := Aside0.mk (hsplit.out hm)
        clear hm hsplit hhit
        go_wp2_with (refine (file1_any x nm A1 c1 b _ hbr).mono ?_; rintro e W3 ⟨rfl, hb3⟩; have kb := hB.out.trans (hb3.mono hB.out.size); clear hb3)
        go_roundw
        case rel => exact ⟨k + 1, by omega, by go_num, hres, ⟨kb⟩⟩
        case measure => simp [intOf]; omega
    · obtain rfl : k = l.length := by omega
      have hres := idxF_miss hN.out
      go_wp2_with fail
      go_ret
      exact ⟨by rw [hres]; rfl, hB.out⟩

set_option maxRecDepth 100000 in
set_option maxHeartbeats 4000000 in
theorem file_any (s : Sv) (nm : ByteArray) (w : World) (hs : s.Ok w) (hm : Sm s) :
    Calls Tryd.prog 11 #[s.v, .string nm] w fun e w' => e = .returned (.tuple #[.string (fileS s nm).1, .bool (fileS s nm).2]) ∧ Below w.heap.size w w' := by
  have HI := InB.new s w
  have hc : ((w.alloc (.cells s.cells 34)).alloc (.cells #[.string nm] 9)).cell? ⟨w.heap.size, 25, none⟩ = some (.slice s.a25 s.l25.length s.c25) := carryA (by simp) (HI.cell 25)
  have hb : ((w.alloc (.cells s.cells 34)).alloc (.cells #[.string nm] 9)).cell? ⟨(w.alloc (.cells s.cells 34)).heap.size, 0, none⟩ = some (.string nm) := cell1 _ _ _ _
  have kB := ((Below.refl w.heap.size w).alloc (Nat.le_refl _) (.cells s.cells 34)).alloc (by simp) (.cells #[.string nm] 9)
  have kl : w.heap.size < ((w.alloc (.cells s.cells 34)).alloc (.cells #[.string nm] 9)).heap.size := by simp; omega
  have HR := Aside0.mk hs.r25
  have hr := Kd.C_below hs.r25 kB
  have hn := hm.l25
  have HM := Aside0.mk hm
  have HX := Aside0.mk hs.b25
  clear HI hs hm
  unfold Sv.v
  simp only [World.size_alloc] at hb
  generalize s.cells = cs at *
  rcases idxF_cases s.l25 nm with hi | ⟨k, hi, hk⟩
  · have hf : fileS s nm = (⟨#[]⟩, false) := by unfold fileS; rw [hi]; rfl
    rw [hf]
    go_enter Tryd.func11, Tryd.ntmps11
    go_wp2_with (go_at_call 25; refine (indexFunc_any s.a25 s.c25 s.l25 nm _ _ hr hn hb).mono ?_; rintro e W3 ⟨rfl, hb3⟩; rw [hi]; have kb := kB.trans (hb3.mono kB.size); clear hb3)
    go_ret2
    exact ⟨rfl, kb⟩
  · have hf : fileS s nm = (quo (s.l25.getD k zFl).f1, true) := by unfold fileS; rw [hi, if_neg (by omega)]; rfl
    rw [hf]
    obtain ⟨ad, A1, c1, e1, hx0, hx1, hl1, hr1⟩ := at_Fl HR.out k hk
    have hmem : s.l25.getD k zFl ∈ s.l25 := by simp [List.getD_eq_getElem?_getD, List.getElem?_eq_getElem hk]
    have hsm := (HM.out.w25 _ hmem).1
    have hBx := HX.out _ hmem
    clear hmem
    generalize s.l25.getD k zFl = x at *
    have H1 := Aside0.mk hx1
    have HR1 := Aside0.mk hr1
    clear hx0 hx1 hr1 hf
    rw [e1] at hr hc
    go_enter Tryd.func11, Tryd.ntmps11
    go_wp2_with (first
      | (go_at_call 25; refine (indexFunc_any (some ad) s.c25 s.l25 nm _ _ hr hn hb).mono ?_; rintro e W3 ⟨rfl, hb3⟩; rw [hi]; have kb := kB.trans (hb3.mono kB.size); have c25 := carry hb3 kl hc; have d1 := (kb.cell (World.block_lt_of_cell? w _ H1.out)).trans H1.out; clear hb3 hc hb kB)
      | (go_at_call 19; refine (quote_any _ _ x.f1 _ (Kd.C_below HR1.out kb) hBx (by omega)).mono ?_; rintro e W4 ⟨rfl, hb4⟩; have kb4 := kb.trans (hb4.mono kb.size); clear hb4))
    go_ret2
    exact ⟨rfl, kb4⟩
end Go.Proofs.YtfoijbcdbcehiaaDoor.L4
