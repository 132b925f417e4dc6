import Derived.Test.YtfoijbcdbcehiaaDoorParts
import Derived.Deep.AppendLies
import Derived.Lib.ConvBytes
set_option linter.unusedVariables false
set_option linter.unusedSimpArgs false
namespace Go.Proofs.YtfoijbcdbcehiaaDoor.L4
open Go.RowKit Go.Proofs.YtfoijbcdbcehiaaDoorW.PrintWords

theorem infoStr : (Tryd.prog.info? 9).map (fun i => (i.zero, i.size, i.bytes)) = some (some (.string ⟨#[]⟩), 1, 16) := by kernel_rfl
theorem quote_bytes (s : ByteArray) (hs : s.size ≤ 1000000) (A : Option Addr) (c : Nat) (w : World) (hr : ReadsInt w .u8 A s.size (bytesOf s)) :
    Calls Tryd.prog 19 #[.slice A s.size c] w fun e w' => e = .returned (.string (strOfNums (quL (bytesOf s)))) ∧ Below w.heap.size w w' := by
  have h := quote_any A c (bytesOf s) w (by rw [bytesOf_length]; exact Kd.C_of_reads (d := (0 : Int)) hr) (bytesOf_range s) (by rw [bytesOf_length]; omega)
  rw [bytesOf_length] at h
  exact h

theorem quL_length' (l : List Int) : (quL l).length ≤ 4 * l.length + 2 := by
  have := flat_length l
  simp only [quL, List.length_cons, List.length_append, List.length_nil]; omega
def sp : ByteArray := ⟨#[32]⟩
def tableW (x : Fl) : List ByteArray := [strOfNums (quL (bytesOf x.f0)), txt x.f1.length]
def tableS (s : Sv) : List ByteArray := s.l25.map fun x => joinS (tableW x) sp

/-- what is small -/
structure Sm (s : Sv) : Prop where
  l0 : s.l0.length ≤ 10000
  l1 : s.l1.length ≤ 10000
  l10 : s.l10.length ≤ 10000
  l11 : s.l11.length ≤ 10000
  l13 : s.l13.length ≤ 10000
  l24 : s.l24.length ≤ 10000
  l25 : s.l25.length ≤ 10000
  w24 : ∀ x ∈ s.l24, x.f1.length ≤ 10000
  w25 : ∀ x ∈ s.l25, x.f1.length ≤ 10000 ∧ x.f0.size ≤ 10000

theorem heldF {w a b : World} {G : Nat} {v0 v1 : Value} (hb : Below a.heap.size a b) (h : Below w.heap.size w a ∧ G < a.heap.size ∧ a.cell? ⟨G, 0, none⟩ = some v0 ∧ a.cell? ⟨G, 1, none⟩ = some v1) :
    Below w.heap.size w b ∧ G < b.heap.size ∧ b.cell? ⟨G, 0, none⟩ = some v0 ∧ b.cell? ⟨G, 1, none⟩ = some v1 :=
  ⟨h.1.trans (hb.mono h.1.size), Nat.lt_of_lt_of_le h.2.1 hb.size, carry hb h.2.1 h.2.2.1, carry hb h.2.1 h.2.2.2⟩

set_option maxRecDepth 100000 in
set_option maxHeartbeats 4000000 in
theorem table_any (s : Sv) (w : World) (hs : s.Ok w) (hm : Sm s) (ht : Tb w) :
    Calls Tryd.prog 22 #[s.v] w fun e w' => ∃ v, e = .returned v ∧ Kd.R Kd.string 9 w' w.heap.size (fun _ => True) v (tableS s) ∧ Below w.heap.size w w' := by
  have HI := InB.new s w
  have HT := ht.alloc (.cells s.cells 34)
  have HB := (Below.refl w.heap.size w).alloc (Nat.le_refl _) (.cells s.cells 34)
  have hsz : w.heap.size < (w.alloc (.cells s.cells 34)).heap.size := by simp
  have hc25 : (w.alloc (.cells s.cells 34)).cell? ⟨w.heap.size, 25, none⟩ = some (.slice s.a25 s.l25.length s.c25) := HI.cell 25
  have hr25 := hs.r25
  have hB25 := hs.b25
  clear HI
  unfold Sv.v
  generalize s.cells = cs at *
  go_enter Tryd.func22, Tryd.ntmps22
  go_wp2_with fail
  generalize w.alloc (.cells cs 34) = w1 at *
  have HR := Aside0.mk hr25
  have HX := Aside0.mk hB25
  have HM := Aside0.mk hm
  clear hr25 hB25 hs hm
  obtain ⟨i0, hi, hz0, hz1, hz2⟩ := info_parts infoStr
  go_loopw [3, 9] (fun v i wr => ∃ k : Nat, k ≤ s.l25.length ∧ i = .int .i64 k ∧ Aside0 (wr.ownsRow w.heap.size 9 1 v k (encs Value.string ((tableS s).take k))) ∧ Aside0 (Below w.heap.size w wr) ∧ Aside0 (Tb wr)) (fun _ i _ => s.l25.length - (intOf i).toNat)
  case atStart => exact ⟨0, Nat.zero_le _, rfl, ⟨own_nil _ _ _ _⟩, ⟨HB⟩, ⟨HT⟩⟩
  case round =>
    obtain ⟨k, hk, rfl, hO, hb, hT⟩ := hrel
    by_cases hlt : k < s.l25.length
    · obtain ⟨ad, A1, c1, e1, hx0, hx1, hl1, hr1⟩ := at_Fl HR.out k hlt
      have hmem : s.l25.getD k zFl ∈ s.l25 := by simp [List.getD_eq_getElem?_getD, List.getElem?_eq_getElem hlt]
      have hsm := HM.out.w25 _ hmem
      have hrow : (tableS s).take (k + 1) = (tableS s).take k ++ [joinS (tableW (s.l25.getD k zFl)) sp] := by
        rw [List.take_succ_eq_append_getElem (by simpa [tableS] using hlt)]
        congr 2
        simp [tableS, List.getD_eq_getElem?_getD, List.getElem?_eq_getElem hlt]
      have hn25 := HM.out.l25
      have hjl : (Lib.join ([strOfNums (quL (bytesOf (s.l25.getD k zFl).f0)), txt (s.l25.getD k zFl).f1.length].map (·.data.toList)) [32]).length ≤ 140737488355328 := by
        refine Nat.le_trans (join_length 50000 sp _ ?_) (by simp [sp, ByteArray.size])
        intro y hy
        simp only [List.mem_cons, List.not_mem_nil, or_false] at hy
        rcases hy with rfl | rfl
        · rw [strOfNums_size]
          have := quL_length' (bytesOf (s.l25.getD k zFl).f0)
          rw [bytesOf_length] at this
          omega
        · have := txt_size ((s.l25.getD k zFl).f1.length : Int) (by omega) (by omega); omega
      have HW := Aside0.mk hrow
      clear hrow hmem
      generalize s.l25.getD k zFl = x at *
      replace hx0 := (hb.out.cell (World.block_lt_of_cell? w _ hx0)).trans hx0
      replace hx1 := (hb.out.cell (World.block_lt_of_cell? w _ hx1)).trans hx1
      rw [e1]
      have HE := Lib.hid e1
      clear e1
      go_wp2_with fail
      have hO2 := hO.out.alloc (.cells #[.string x.f0, .slice A1 x.f1.length c1] 43)
      have hT2 := hT.out.alloc (.cells #[.string x.f0, .slice A1 x.f1.length c1] 43)
      have hB2 := hb.out.alloc hb.out.size (.cells #[.string x.f0, .slice A1 x.f1.length c1] 43)
      have hbk : (wr.alloc (.cells #[.string x.f0, .slice A1 x.f1.length c1] 43)).heap[wr.heap.size]? = some (.cells #[.string x.f0, .slice A1 x.f1.length c1] 43 (0, 0)) := heap_alloc_new _ _
      have hg0 : w.heap.size ≤ wr.heap.size := hb.out.size
      clear hx0 hx1 hr1 hb hO hT
      generalize wr.alloc (.cells #[.string x.f0, .slice A1 x.f1.length c1] 43) = W at *
      generalize wr.heap.size = G at *
      have d0 : W.cell? ⟨G, 0, none⟩ = some (.string x.f0) := by rw [blk_cell hbk]; rfl
      have d1 : W.cell? ⟨G, 1, none⟩ = some (.slice A1 x.f1.length c1) := by rw [blk_cell hbk]; rfl
      have hGW : G < W.heap.size := blk_lt hbk
      have hgO := own_ne hO2 hbk (by decide)
      have HK := Lib.hid hbk
      clear hbk
      have kb := fun W' => print_bytes (P := Tryd.prog) 9 22 5 Tryd.underlying9 Tryd.underlying22 Tryd.underlying5 x.f0 W'
      refine wp_region_held (S := fun w' => w'.cell? ⟨G, 0, none⟩ = some (.string x.f0) ∧ w'.cell? ⟨G, 1, none⟩ = some (.slice A1 x.f1.length c1)) (by kernel_rfl) ?_
      have hbd : Below W.heap.size W W.drew := below_drew (Below.refl W.heap.size W)
      have hsd : W.drew.heap.size = W.heap.size := rfl
      change wpAnyH _ _ _ _ _ _ _ _ W.drew
      have d0' : W.drew.cell? ⟨G, 0, none⟩ = some (.string x.f0) := d0
      have d1' : W.drew.cell? ⟨G, 1, none⟩ = some (.slice A1 x.f1.length c1) := d1
      generalize W.drew = Wd at *
      have hS : (fun w' : World => w'.cell? ⟨G, 0, none⟩ = some (.string x.f0) ∧ w'.cell? ⟨G, 1, none⟩ = some (.slice A1 x.f1.length c1)) Wd := ⟨d0', d1'⟩
      refine take_ (i := 0) (N := some 13) (oi := _) (v := ?_) rfl rfl (by kernel_rfl) (by kernel_rfl) (by kernel_rfl) (fun _ _ _ h => h) (Or.inl ⟨by rfl, ?_⟩) hS ?_
      rotate_left
      · (intro w hSw; obtain ⟨q0, q1⟩ := hSw; go_simp; try with_reducible rfl)
      simp only [Act.put, List.setIfInBounds_toArray, List.set_cons_zero, List.set_cons_succ]
      refine take_ (i := 1) (N := some 14) (oi := _) (v := ?_) rfl rfl (by kernel_rfl) (by kernel_rfl) (by kernel_rfl) (fun _ _ _ h => h) (Or.inl ⟨by rfl, ?_⟩) hS ?_
      rotate_left
      · (intro w hSw; obtain ⟨q0, q1⟩ := hSw; go_simp; try with_reducible rfl)
      simp only [Act.put, List.setIfInBounds_toArray, List.set_cons_zero, List.set_cons_succ]
      refine take_ (i := 2) (N := some 15) (oi := _) (v := ?_) rfl rfl (by kernel_rfl) (by kernel_rfl) (by kernel_rfl) (fun _ _ _ h => h) (Or.inl ⟨by rfl, ?_⟩) hS ?_
      rotate_left
      · (intro w hSw; obtain ⟨q0, q1⟩ := hSw; go_simp; try with_reducible rfl)
      simp only [Act.put, List.setIfInBounds_toArray, List.set_cons_zero, List.set_cons_succ]
      refine take_ (i := 5) (N := some 18) (oi := _) (v := ?_) rfl rfl (by kernel_rfl) (by kernel_rfl) (by kernel_rfl) (fun _ _ _ h => h) (Or.inl ⟨by rfl, ?_⟩) hS ?_
      rotate_left
      · (intro w hSw; obtain ⟨q0, q1⟩ := hSw; go_simp; try with_reducible rfl)
      simp only [Act.put, List.setIfInBounds_toArray, List.set_cons_zero, List.set_cons_succ]
      refine take_ (i := 6) (N := some 19) (oi := _) (v := ?_) rfl rfl (by kernel_rfl) (by kernel_rfl) (by kernel_rfl) (fun _ _ _ h => h) (Or.inl ⟨by rfl, ?_⟩) hS ?_
      rotate_left
      · (intro w hSw; obtain ⟨q0, q1⟩ := hSw; go_simp; try with_reducible rfl)
      simp only [Act.put, List.setIfInBounds_toArray, List.set_cons_zero, List.set_cons_succ]
      refine take_ (i := 7) (N := some 20) (oi := _) (v := ?_) rfl rfl (by kernel_rfl) (by kernel_rfl) (by kernel_rfl) (fun _ _ _ h => h) (Or.inl ⟨by rfl, ?_⟩) hS ?_
      rotate_left
      · (intro w hSw; obtain ⟨q0, q1⟩ := hSw; go_simp; try with_reducible rfl)
      simp only [Act.put, List.setIfInBounds_toArray, List.set_cons_zero, List.set_cons_succ]
      have hGd : G < Wd.heap.size := by omega
      -- the name as bytes
      have hbw : Below Wd.heap.size Wd (Lib.bytesWorld Wd 5 x.f0) := bytes_below (Below.refl _ _) (Nat.le_refl _) 5 x.f0
      have hrd := bytes_reads Wd 5 x.f0 (by omega)
      have hkb := kb Wd
      clear kb
      refine wpAnyH_one (i := 3) (by kernel_rfl) ?_
      generalize Lib.bytesWorld Wd 5 x.f0 = W2 at *
      generalize grownCap Wd x.f0.size 0 5 = gc at *
      refine wpOp_ok (w1 := W2) (v := .slice (some ⟨Wd.heap.size, 0, none⟩) x.f0.size gc) rfl rfl (by go_simp) ⟨⟨carry hbw hGd d0', carry hbw hGd d1'⟩, ?_⟩
      simp only [Act.put, List.setIfInBounds_toArray, List.set_cons_zero, List.set_cons_succ]
      clear hkb
      -- its quote
      refine wpAnyH_one (i := 4) (by kernel_rfl) ?_
      refine wpOp_call (f := 19) (args := #[.slice (some ⟨Wd.heap.size, 0, none⟩) x.f0.size gc]) (w1 := W2) rfl rfl (by go_simp) ?_
      refine (quote_bytes x.f0 (by omega) _ _ _ hrd).mono ?_
      rintro e W3 ⟨rfl, hb3⟩
      refine ⟨_, rfl, ⟨carry hb3 (Nat.lt_of_lt_of_le hGd hbw.size) (carry hbw hGd d0'), carry hb3 (Nat.lt_of_lt_of_le hGd hbw.size) (carry hbw hGd d1')⟩, ?_⟩
      simp only [Act.put, List.setIfInBounds_toArray, List.set_cons_zero, List.set_cons_succ]
      have k3 : Below W.heap.size W W3 := (hbd.trans (hbw.mono (by omega))).trans (hb3.mono (by have := hbw.size; omega))
      have c0 := carry k3 hGW d0
      have c1' := carry k3 hGW d1
      have l3 : G < W3.heap.size := Nat.lt_of_lt_of_le hGW k3.size
      clear hrd hb3 hbw hS d0' d1' hbd
      -- how many bytes
      refine wpAnyH_one (i := 8) (by kernel_rfl) ?_
      refine wpOp_call (f := 13) (args := #[.int .i64 x.f1.length]) (w1 := W3) rfl rfl (by go_simp) ?_
      refine (textI _ ⟨by omega, by omega⟩ _ (hT2.below k3)).mono ?_
      rintro e W4 ⟨rfl, hb4⟩
      refine ⟨_, rfl, ⟨carry hb4 l3 c0, carry hb4 l3 c1'⟩, ?_⟩
      simp only [Act.put, List.setIfInBounds_toArray, List.set_cons_zero, List.set_cons_succ]
      have k4 : Below W.heap.size W W4 := k3.trans (hb4.mono k3.size)
      have l4 : G < W4.heap.size := Nat.lt_of_lt_of_le hGW k4.size
      replace c0 := carry k4 hGW d0
      replace c1' := carry k4 hGW d1
      clear k3 l3 hb4
      -- both words
      refine wpAnyH_one (i := 9) (by kernel_rfl) ?_
      refine wpOp_ok (w1 := W4.alloc (.cells #[.string (strOfNums (quL (bytesOf x.f0))), .string (txt x.f1.length)] 9)) (v := .slice (some ⟨W4.heap.size, 0, none⟩) 2 2) rfl rfl (by go_simp) ⟨⟨carryA l4 c0, carryA l4 c1'⟩, ?_⟩
      simp only [Act.put, List.setIfInBounds_toArray, List.set_cons_zero, List.set_cons_succ]
      have hrow := reads2 Value.string ByteArray.empty (fun _ => rfl) W4 9 (0, 0) (strOfNums (quL (bytesOf x.f0))) (txt x.f1.length)
      have k5 : Below W.heap.size W (W4.alloc (.cells #[.string (strOfNums (quL (bytesOf x.f0))), .string (txt x.f1.length)] 9)) := k4.alloc k4.size _
      have hs4 : W4.heap.size < (W4.alloc (.cells #[.string (strOfNums (quL (bytesOf x.f0))), .string (txt x.f1.length)] 9)).heap.size := by simp
      generalize W4.alloc (.cells #[.string (strOfNums (quL (bytesOf x.f0))), .string (txt x.f1.length)] 9) = W5 at *
      have l5 : G < W5.heap.size := Nat.lt_of_lt_of_le hGW k5.size
      replace c0 := carry k5 hGW d0
      replace c1' := carry k5 hGW d1
      refine wpAnyH_one (i := 10) (by kernel_rfl) ?_
      refine wpOp_call (f := 15) (args := #[.slice (some ⟨W4.heap.size, 0, none⟩) 2 2]) (w1 := W5) rfl rfl (by go_simp) ?_
      refine (row_any _ 2 [strOfNums (quL (bytesOf x.f0)), txt x.f1.length] W5 hrow (by simp) (by simp) hjl).mono ?_
      rintro e W6 ⟨rfl, hb6⟩
      refine ⟨_, rfl, ⟨carry hb6 l5 c0, carry hb6 l5 c1'⟩, ?_⟩
      simp only [Act.put, List.setIfInBounds_toArray, List.set_cons_zero, List.set_cons_succ]
      have k6 : Below W.heap.size W W6 := k5.trans (hb6.mono k5.size)
      replace c0 := carry k6 hGW d0
      replace c1' := carry k6 hGW d1
      have l6 : G < W6.heap.size := Nat.lt_of_lt_of_le hGW k6.size
      clear hb6 hrow k5 k4 l4 l5 hs4
      -- the row
      refine wpAnyH_one (i := 11) (by kernel_rfl) ?_
      refine wpOp_ok (w1 := W6.alloc (.cells #[.string (joinS (tableW x) sp)] 9)) (v := .slice (some ⟨W6.heap.size, 0, none⟩) 1 1) rfl rfl (by go_simp; try rfl) ⟨⟨carryA l6 c0, carryA l6 c1'⟩, ?_⟩
      simp only [Act.put, List.setIfInBounds_toArray, List.set_cons_zero, List.set_cons_succ]
      have k7 : Below W.heap.size W (W6.alloc (.cells #[.string (joinS (tableW x) sp)] 9)) := k6.alloc k6.size _
      have hnew : ∀ j u, [Value.string (joinS (tableW x) sp)][j]? = some u → (W6.alloc (.cells #[.string (joinS (tableW x) sp)] 9)).cell? ((⟨W6.heap.size, 0, none⟩ : Addr).add j) = some u := by
        intro j u hj
        rw [add_plain]
        obtain rfl : j = 0 := by
          rcases Nat.lt_or_ge j 1 with h | h
          · omega
          · rw [List.getElem?_eq_none (by simpa using h)] at hj; cases hj
        rw [cell1]
        simpa using hj
      have hO7 := pw_own_below hO2 k7
      have hs6 : (W6.alloc (.cells #[.string (joinS (tableW x) sp)] 9)).heap.size = W6.heap.size + 1 := by simp
      clear l6
      generalize W6.alloc (.cells #[.string (joinS (tableW x) sp)] 9) = W7 at *
      have l7 : G < W7.heap.size := Nat.lt_of_lt_of_le hGW k7.size
      replace c0 := carry k7 hGW d0
      replace c1' := carry k7 hGW d1
      refine wpAnyH_one (i := 12) (by kernel_rfl) ?_
      refine wpOp_wp rfl rfl ?_
      refine wp_append_lies W7 (.tmp 13) (.tmp 24) 38 rfl w.heap.size 9 i0 (.string ⟨#[]⟩) 1 16 Tryd.underlying38 hi hz0 hz1 hz2 rfl (by decide) u3 k (encs Value.string (List.take k (tableS s))) rfl hO7
        ⟨W6.heap.size, 0, none⟩ 1 1 [.string (joinS (tableW x) sp)] rfl rfl hnew (by simp [Value.oneCell']) (by decide) (by unfold maxLen; omega) (by omega) (by have := k7.size; have := hB2.size; omega) W7.heap.size rfl ?_
      intro g cap W8 hown8 hg8 hat8 hlt8
      have kB8 : Below w.heap.size w W8 := (hB2.trans (k7.mono hB2.size)).grown hg8 (Nat.le_trans hB2.size k7.size) (fun q hq => (hO2.lt q hq).1)
      have hc8 : ∀ j, W8.cell? ⟨G, j, none⟩ = W7.cell? ⟨G, j, none⟩ := fun j => World.cell?_of_block (w := W7) (hg8.block G l7 hgO)
      refine ⟨⟨(hc8 0).trans c0, (hc8 1).trans c1'⟩, ?_⟩
      simp only [Act.put, List.setIfInBounds_toArray, List.set_cons_zero, List.set_cons_succ]
      refine wpAnyH_one (i := 13) (by kernel_rfl) ?_
      refine wpOp_ok (w1 := W8) (v := .slice (some ⟨g, 0, none⟩) (k + 1) cap) rfl rfl (by go_simp; try rfl) ⟨⟨(hc8 0).trans c0, (hc8 1).trans c1'⟩, ?_⟩
      simp only [Act.put, List.setIfInBounds_toArray, List.set_cons_zero, List.set_cons_succ]
      refine wpAnyH_done (by kernel_rfl) ?_ _
      have hT8 : Tb W8 := ht.below kB8
      have H8 := Aside0.mk hown8
      clear hown8 hnew hO7 hO2 hjl hc8 hat8 c0 c1' d0 d1
      go_wp2_with fail
      go_roundw
      case rel =>
        refine ⟨k + 1, by omega, by go_num, ⟨?_⟩, ⟨kB8⟩, ⟨hT8⟩⟩
        have := H8.out
        rw [HW.out]
        simpa [encs] using this
      case measure => simp [intOf]; omega
    · obtain rfl : k = s.l25.length := by omega
      have hO3 := Aside0.mk hO.out
      go_wp2_with fail
      go_ret
      refine ⟨u3, rfl, ?_, hb.out⟩
      have h1 := hO.out
      have hl : (tableS s).length = s.l25.length := by simp [tableS]
      rw [← hl, List.take_length] at h1
      exact Kd.R_of_own (enc := Value.string) (h1 := fun _ => rfl) h1 (fun _ _ => trivial)
end Go.Proofs.YtfoijbcdbcehiaaDoor.L4
