import Derived.Test.YtfoijbcdbcehiaaDoorRefShow3
set_option linter.unusedVariables false
set_option linter.unusedSimpArgs false
namespace Go.Proofs.YtfoijbcdbcehiaaDoor.L4
open Go.RowKit Go.Proofs.YtfoijbcdbcehiaaDoorW.PrintWords

theorem refQuote_bytes (s : ByteArray) (hs : s.size ≤ 20000) (A : Option Addr) (c : Nat) (w : World) (hc : s.size ≤ c) (hr : ReadsInt w .u8 A s.size (bytesOf s)) :
    Calls Tryd.prog 23 #[.slice A s.size c] w fun e w' => e = .returned (.string (strOfNums (quL (bytesOf s)))) ∧ Below w.heap.size w w' := by
  have h := refQuote_any A c (bytesOf s) w (by rw [bytesOf_length]; exact Kd.C_of_reads (d := (0 : Int)) hr) (by rw [bytesOf_length]; exact hc) (bytesOf_range s) (by rw [bytesOf_length]; exact hs)
  rw [bytesOf_length] at h
  exact h

set_option maxRecDepth 100000 in
set_option maxHeartbeats 20000000 in
theorem refShow_files (s : Sv) (w : World) (hs : s.Ok w) (hm : Sm s) : Calls Tryd.prog 9 #[s.v, .string (⟨#[102, 105, 108, 101, 115]⟩ : ByteArray)] w (Shown w (tableS s)) := by
  have HI := InB.new s w
  unfold InB at HI
  have HC := Lib.hid (fun (W : World) (h : W.heap[w.heap.size]? = some (.cells s.cells 34 (0, 0))) => (show W.cell? ⟨w.heap.size, 25, none⟩ = some (.slice s.a25 s.l25.length s.c25) from InB.cell (s := s) h 25))
  have kB := Aside0.mk ((Below.refl w.heap.size w).alloc (Nat.le_refl _) (.cells s.cells 34))
  have HR := Aside0.mk hs.r25
  have HM := Aside0.mk hm
  clear hs hm
  obtain ⟨i0, hi, hz0, hz1, hz2⟩ := info_parts infoStr
  unfold Sv.v
  generalize s.cells = cs at *
  go_enter Tryd.func9, Tryd.ntmps9
  go_wp2_with fail
  generalize w.alloc (.cells cs 34) = w1 at *
  go_loopw [6, 10] (fun v i wr => ∃ k : Nat, k ≤ s.l25.length ∧ i = .int .i64 k ∧ Aside0 (Kd.R Kd.string 9 wr w.heap.size (fun _ => True) v ((tableS s).take k)) ∧ Aside0 (Below w.heap.size w wr) ∧ Aside0 (wr.heap[w.heap.size]? = some (.cells cs 34 (0, 0)))) (fun _ i _ => s.l25.length - (intOf i).toNat)
  case atStart => exact ⟨0, Nat.zero_le _, rfl, ⟨Kd.R_nil _ _ _ _ _⟩, kB, ⟨HI⟩⟩
  case round =>
    clear kB HI
    obtain ⟨k, hk, rfl, hO, hb, hI⟩ := hrel
    have hn25 := HM.out.l25
    have c25 := HC.out _ hI.out
    by_cases hlt : k < s.l25.length
    · obtain ⟨ad, A1, c1, e1, hx0, hx1, hl1, hr1⟩ := at_Fl HR.out k hlt
      have hmem : s.l25.getD k zFl ∈ s.l25 := by simp [List.getD_eq_getElem?_getD, List.getElem?_eq_getElem hlt]
      have hsm := HM.out.w25 _ hmem
      have hrow : (tableS s).take (k + 1) = (tableS s).take k ++ [joinS (tableW (s.l25.getD k zFl)) sp] := by
        rw [List.take_succ_eq_append_getElem (by simpa [tableS] using hlt)]
        congr 2
        simp [tableS, List.getD_eq_getElem?_getD, List.getElem?_eq_getElem hlt]
      have hq := quL_length' (bytesOf (s.l25.getD k zFl).f0)
      rw [bytesOf_length, ← strOfNums_size] at hq
      have HW := Aside0.mk hrow
      clear hrow hmem
      generalize s.l25.getD k zFl = x at *
      have hI64 : -9223372036854775808 ≤ (x.f1.length : Int) ∧ (x.f1.length : Int) ≤ 9223372036854775807 := by omega
      have hz := numS_size _ hI64
      have hTs : (strOfNums (quL (bytesOf x.f0))).size + (numS x.f1.length).size ≤ 9223372036854775807 := by omega
      have hlen : ((tableS s).take k).length ≤ 10000 := Nat.le_trans (List.length_take_le _ _) (by omega)
      have lt0 := World.block_lt_of_cell? w _ hx0
      have lt1 := World.block_lt_of_cell? w _ hx1
      rw [e1] at c25
      have kl : w.heap.size < wr.heap.size := blk_lt hI.out
      clear hr1
      go_wp2_with fail
      have kb_ := fun W' => print_bytes (P := Tryd.prog) 9 22 5 Tryd.underlying9 Tryd.underlying22 Tryd.underlying5 x.f0 W'
      refine wp_region_held (S := fun w' => Below w.heap.size w w' ∧ w'.cell? ⟨w.heap.size, 25, none⟩ = some (.slice (some ad) s.l25.length s.c25)) (by kernel_rfl) ?_
      change wpAnyH _ _ _ _ _ _ _ _ wr.drew
      have kO : Kd.R Kd.string 9 wr.drew w.heap.size (fun _ => True) u6 ((tableS s).take k) := Kd.R_drew hO.out
      have kb : Below w.heap.size w wr.drew := below_drew hb.out
      have kI : wr.drew.heap[w.heap.size]? = some (.cells cs 34 (0, 0)) := hI.out
      replace c25 : wr.drew.cell? ⟨w.heap.size, 25, none⟩ = some (.slice (some ad) s.l25.length s.c25) := c25
      replace kl : w.heap.size < wr.drew.heap.size := kl
      have hgc : x.f0.size ≤ grownCap wr.drew x.f0.size 0 5 := grownCap_ge _ _ _ _
      clear hO hb hI
      generalize wr.drew = Wd at *
      refine take_ (i := 0) (N := some 133) (oi := _) (v := u6) rfl rfl (by kernel_rfl) (by kernel_rfl) (by kernel_rfl) (fun _ _ _ h => h) (Or.inl ⟨by rfl, ?_⟩) ⟨kb, c25⟩ ?_
      · intro w2 hSw; obtain ⟨hb2, q25⟩ := hSw; go_simp
      simp only [Act.put, List.setIfInBounds_toArray, List.set_cons_zero, List.set_cons_succ]
      refine take_ (i := 1) (N := some 134) (oi := _) (v := .pointer (some ⟨w.heap.size, 25, none⟩)) rfl rfl (by kernel_rfl) (by kernel_rfl) (by kernel_rfl) (fun _ _ _ h => h) (Or.inl ⟨by rfl, ?_⟩) ⟨kb, c25⟩ ?_
      · intro w2 hSw; obtain ⟨hb2, q25⟩ := hSw; go_simp
      simp only [Act.put, List.setIfInBounds_toArray, List.set_cons_zero, List.set_cons_succ]
      refine take_ (i := 2) (N := some 135) (oi := _) (v := .slice (some ad) s.l25.length s.c25) rfl rfl (by kernel_rfl) (by kernel_rfl) (by kernel_rfl) (fun _ _ _ h => h) (Or.inl ⟨by rfl, ?_⟩) ⟨kb, c25⟩ ?_
      · intro w2 hSw; obtain ⟨hb2, q25⟩ := hSw; go_simp
      simp only [Act.put, List.setIfInBounds_toArray, List.set_cons_zero, List.set_cons_succ]
      refine take_ (i := 3) (N := some 136) (oi := _) (v := .int .i64 k) rfl rfl (by kernel_rfl) (by kernel_rfl) (by kernel_rfl) (fun _ _ _ h => h) (Or.inl ⟨by rfl, ?_⟩) ⟨kb, c25⟩ ?_
      · intro w2 hSw; obtain ⟨hb2, q25⟩ := hSw; go_simp
      simp only [Act.put, List.setIfInBounds_toArray, List.set_cons_zero, List.set_cons_succ]
      refine take_ (i := 4) (N := some 137) (oi := _) (v := .pointer (some (ad.add (k * 2)))) rfl rfl (by kernel_rfl) (by kernel_rfl) (by kernel_rfl) (fun _ _ _ h => h) (Or.inl ⟨by rfl, ?_⟩) ⟨kb, c25⟩ ?_
      · intro w2 hSw; obtain ⟨hb2, q25⟩ := hSw; go_simp
      simp only [Act.put, List.setIfInBounds_toArray, List.set_cons_zero, List.set_cons_succ]
      refine take_ (i := 5) (N := some 138) (oi := _) (v := .pointer (some (ad.add (k * 2)))) rfl rfl (by kernel_rfl) (by kernel_rfl) (by kernel_rfl) (fun _ _ _ h => h) (Or.inl ⟨by rfl, ?_⟩) ⟨kb, c25⟩ ?_
      · intro w2 hSw; obtain ⟨hb2, q25⟩ := hSw; go_simp
      simp only [Act.put, List.setIfInBounds_toArray, List.set_cons_zero, List.set_cons_succ]
      refine take_ (i := 6) (N := some 139) (oi := _) (v := .string x.f0) rfl rfl (by kernel_rfl) (by kernel_rfl) (by kernel_rfl) (fun _ _ _ h => h) (Or.inl ⟨by rfl, ?_⟩) ⟨kb, c25⟩ ?_
      · intro w2 hSw; obtain ⟨hb2, q25⟩ := hSw; have d0 := (hb2.cell lt0).trans hx0; go_simp
      simp only [Act.put, List.setIfInBounds_toArray, List.set_cons_zero, List.set_cons_succ]
      refine take_ (i := 9) (N := some 142) (oi := _) (v := .pointer (some ⟨w.heap.size, 25, none⟩)) rfl rfl (by kernel_rfl) (by kernel_rfl) (by kernel_rfl) (fun _ _ _ h => h) (Or.inl ⟨by rfl, ?_⟩) ⟨kb, c25⟩ ?_
      · intro w2 hSw; obtain ⟨hb2, q25⟩ := hSw; go_simp
      simp only [Act.put, List.setIfInBounds_toArray, List.set_cons_zero, List.set_cons_succ]
      refine take_ (i := 10) (N := some 143) (oi := _) (v := .slice (some ad) s.l25.length s.c25) rfl rfl (by kernel_rfl) (by kernel_rfl) (by kernel_rfl) (fun _ _ _ h => h) (Or.inl ⟨by rfl, ?_⟩) ⟨kb, c25⟩ ?_
      · intro w2 hSw; obtain ⟨hb2, q25⟩ := hSw; go_simp
      simp only [Act.put, List.setIfInBounds_toArray, List.set_cons_zero, List.set_cons_succ]
      refine take_ (i := 11) (N := some 144) (oi := _) (v := .int .i64 k) rfl rfl (by kernel_rfl) (by kernel_rfl) (by kernel_rfl) (fun _ _ _ h => h) (Or.inl ⟨by rfl, ?_⟩) ⟨kb, c25⟩ ?_
      · intro w2 hSw; obtain ⟨hb2, q25⟩ := hSw; go_simp
      simp only [Act.put, List.setIfInBounds_toArray, List.set_cons_zero, List.set_cons_succ]
      refine take_ (i := 12) (N := some 145) (oi := _) (v := .pointer (some (ad.add (k * 2)))) rfl rfl (by kernel_rfl) (by kernel_rfl) (by kernel_rfl) (fun _ _ _ h => h) (Or.inl ⟨by rfl, ?_⟩) ⟨kb, c25⟩ ?_
      · intro w2 hSw; obtain ⟨hb2, q25⟩ := hSw; go_simp
      simp only [Act.put, List.setIfInBounds_toArray, List.set_cons_zero, List.set_cons_succ]
      refine take_ (i := 13) (N := some 146) (oi := _) (v := .pointer (some ⟨(ad.add (k * 2)).block, (ad.add (k * 2)).off + 1, none⟩)) rfl rfl (by kernel_rfl) (by kernel_rfl) (by kernel_rfl) (fun _ _ _ h => h) (Or.inl ⟨by rfl, ?_⟩) ⟨kb, c25⟩ ?_
      · intro w2 hSw; obtain ⟨hb2, q25⟩ := hSw; go_simp
      simp only [Act.put, List.setIfInBounds_toArray, List.set_cons_zero, List.set_cons_succ]
      refine take_ (i := 14) (N := some 147) (oi := _) (v := .slice A1 x.f1.length c1) rfl rfl (by kernel_rfl) (by kernel_rfl) (by kernel_rfl) (fun _ _ _ h => h) (Or.inl ⟨by rfl, ?_⟩) ⟨kb, c25⟩ ?_
      · intro w2 hSw; obtain ⟨hb2, q25⟩ := hSw; have d1 := (hb2.cell (p := ⟨(ad.add (k * 2)).block, (ad.add (k * 2)).off + 1, none⟩) lt1).trans hx1; go_simp
      simp only [Act.put, List.setIfInBounds_toArray, List.set_cons_zero, List.set_cons_succ]
      refine take_ (i := 15) (N := some 148) (oi := _) (v := .int .i64 x.f1.length) rfl rfl (by kernel_rfl) (by kernel_rfl) (by kernel_rfl) (fun _ _ _ h => h) (Or.inl ⟨by rfl, ?_⟩) ⟨kb, c25⟩ ?_
      · intro w2 hSw; obtain ⟨hb2, q25⟩ := hSw; go_simp
      simp only [Act.put, List.setIfInBounds_toArray, List.set_cons_zero, List.set_cons_succ]
      have hbw : Below Wd.heap.size Wd (Lib.bytesWorld Wd 5 x.f0) := bytes_below (Below.refl _ _) (Nat.le_refl _) 5 x.f0
      have hrd := bytes_reads Wd 5 x.f0 (by omega)
      have hkb := kb_ Wd
      clear kb_
      refine wpAnyH_one (i := 7) (by kernel_rfl) ?_
      generalize Lib.bytesWorld Wd 5 x.f0 = W2 at *
      generalize grownCap Wd x.f0.size 0 5 = gc at *
      have kb2 := kb.trans (hbw.mono kb.size)
      have c25b := carry hbw kl c25
      have kl2 := Nat.lt_of_lt_of_le kl hbw.size
      have kO2 := Kd.R_below kO hbw
      have kI2 := (hbw.block _ (blk_lt kI)).trans kI
      refine wpOp_ok (w1 := W2) (v := .slice (some ⟨Wd.heap.size, 0, none⟩) x.f0.size gc) rfl rfl (by go_simp) ⟨⟨kb2, c25b⟩, ?_⟩
      simp only [Act.put, List.setIfInBounds_toArray, List.set_cons_zero, List.set_cons_succ]
      clear hkb hbw kO kI
      refine wpAnyH_one (i := 8) (by kernel_rfl) ?_
      refine wpOp_call (f := 23) (args := #[.slice (some ⟨Wd.heap.size, 0, none⟩) x.f0.size gc]) (w1 := W2) rfl rfl (by go_simp) ?_
      refine (refQuote_bytes x.f0 (by omega) _ _ _ hgc hrd).mono ?_
      rintro e W3 ⟨rfl, hb3⟩
      have kb3 := kb2.trans (hb3.mono kb2.size)
      have c25c := carry hb3 kl2 c25b
      have kl3 := Nat.lt_of_lt_of_le kl2 hb3.size
      have kO3 := Kd.R_below kO2 hb3
      have kI3 := (hb3.block _ (blk_lt kI2)).trans kI2
      refine ⟨_, rfl, ⟨kb3, c25c⟩, ?_⟩
      simp only [Act.put, List.setIfInBounds_toArray, List.set_cons_zero, List.set_cons_succ]
      clear hrd hb3 kO2 kI2 kb2 c25b
      refine wpAnyH_one (i := 16) (by kernel_rfl) ?_
      refine wpOp_call (f := 16) (args := #[.int .i64 x.f1.length]) (w1 := W3) rfl rfl (by go_simp) ?_
      refine (num_any _ hI64 _).mono ?_
      rintro e W4 ⟨rfl, hb4⟩
      have kb4 := kb3.trans (hb4.mono kb3.size)
      have c25d := carry hb4 kl3 c25c
      have kl4 := Nat.lt_of_lt_of_le kl3 hb4.size
      have kO4 := Kd.R_below kO3 hb4
      have kI4 := (hb4.block _ (blk_lt kI3)).trans kI3
      refine ⟨_, rfl, ⟨kb4, c25d⟩, ?_⟩
      simp only [Act.put, List.setIfInBounds_toArray, List.set_cons_zero, List.set_cons_succ]
      clear hb4 kO3 kI3 kb3 c25c
      obtain ⟨T, hT⟩ : ∃ T : ByteArray, T = strOfNums (quL (bytesOf x.f0)) ++ numS x.f1.length := ⟨_, rfl⟩
      refine take_ (i := 17) (N := some 150) (oi := _) (v := .string T) rfl rfl (by kernel_rfl) (by kernel_rfl) (by kernel_rfl) (fun _ _ _ h => h) (Or.inl ⟨by rfl, ?_⟩) ⟨kb4, c25d⟩ ?_
      · intro w2 hSw; rw [hT]; exact run_add_str rfl rfl rfl hTs
      simp only [Act.put, List.setIfInBounds_toArray, List.set_cons_zero, List.set_cons_succ]
      refine wpAnyH_one (i := 18) (by kernel_rfl) ?_
      refine wpOp_ok (w1 := W4.alloc (.cells #[.string T] 9)) (v := .slice (some ⟨W4.heap.size, 0, none⟩) 1 1) rfl rfl (by go_simp; try rfl) ⟨⟨kb4.alloc kb4.size _, carryA kl4 c25d⟩, ?_⟩
      simp only [Act.put, List.setIfInBounds_toArray, List.set_cons_zero, List.set_cons_succ]
      have kb5 := kb4.alloc kb4.size (.cells #[.string T] 9)
      have hO5 := own_alloc (Kd.own_of_R kO4) (.cells #[.string T] 9)
      have kI5 := blk_alloc kI4 (.cells #[.string T] 9)
      have hnew : ∀ j u, [Value.string T][j]? = some u → (W4.alloc (.cells #[.string T] 9)).cell? ((⟨W4.heap.size, 0, none⟩ : Addr).add j) = some u := by
        intro j u hj
        rw [add_plain]
        obtain rfl : j = 0 := by
          rcases Nat.lt_or_ge j 1 with h | h
          · omega
          · rw [List.getElem?_eq_none (by simpa using h)] at hj; cases hj
        rw [cell1]; simpa using hj
      have hs5 : (W4.alloc (.cells #[.string T] 9)).heap.size = W4.heap.size + 1 := by simp
      generalize W4.alloc (.cells #[.string T] 9) = W5 at *
      refine wpAnyH_one (i := 19) (by kernel_rfl) ?_
      refine wpOp_wp rfl rfl ?_
      refine wp_append_lies W5 (.tmp 133) (.tmp 151) 38 rfl w.heap.size 9 i0 (.string ⟨#[]⟩) 1 16 Tryd.underlying38 hi hz0 hz1 hz2 rfl (by decide) u6 _ _ rfl hO5
        ⟨W4.heap.size, 0, none⟩ 1 1 [.string T] rfl rfl hnew (by simp [Value.oneCell']) (by decide) (by unfold maxLen; omega) (by omega) kb5.size W5.heap.size rfl ?_
      intro g cap W8 hown8 hg8 hat8 hlt8
      have kb8 : Below w.heap.size w W8 := kb5.grown hg8 kb5.size (fun q hq => own_base hO5 q hq)
      have kI8 := blk_grown kI5 hg8 (own_ne hO5 kI5 (by decide))
      have c25e := HC.out _ kI8
      rw [e1] at c25e
      refine ⟨⟨kb8, c25e⟩, ?_⟩
      simp only [Act.put, List.setIfInBounds_toArray, List.set_cons_zero, List.set_cons_succ]
      refine wpAnyH_one (i := 20) (by kernel_rfl) ?_
      refine wpOp_ok (w1 := W8) (v := .slice (some ⟨g, 0, none⟩) (((tableS s).take k).length + 1) cap) rfl rfl (by go_simp; try rfl) ⟨⟨kb8, c25e⟩, ?_⟩
      simp only [Act.put, List.setIfInBounds_toArray, List.set_cons_zero, List.set_cons_succ]
      refine wpAnyH_done (by kernel_rfl) ?_ _
      have H8 := Aside0.mk hown8
      clear hown8 hO5 hnew hg8 hat8 c25e c25d kO4 kI4
      go_wp2_with fail
      go_roundw
      case rel =>
        refine ⟨k + 1, by omega, by go_num, ⟨?_⟩, ⟨kb8⟩, ⟨kI8⟩⟩
        rw [HW.out, table_say, ← hT]
        refine Kd.R_of_own (enc := Value.string) (h1 := fun _ => rfl) ?_ (fun _ _ => trivial)
        have := H8.out
        simpa [encs] using this
      case measure => simp [intOf]; omega
    · obtain rfl : k = s.l25.length := by omega
      go_wp2_with fail
      have h1 := hO.out
      have hl : (tableS s).length = s.l25.length := by simp [tableS]
      rw [← hl, List.take_length] at h1
      have hfin : Shown w (tableS s) (.returned (.tuple #[u6, .bool true])) wr := ⟨_, rfl, h1, hb.out⟩
      go_ret2
      exact hfin
end Go.Proofs.YtfoijbcdbcehiaaDoor.L4
