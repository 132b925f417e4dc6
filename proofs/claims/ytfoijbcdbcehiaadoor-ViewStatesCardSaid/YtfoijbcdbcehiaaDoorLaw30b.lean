import Derived.Test.YtfoijbcdbcehiaaDoorLaw30a
import Derived.Test.YtfoijbcdbcehiaaDoorParts
set_option linter.unusedVariables false
set_option linter.unusedSimpArgs false
namespace Go.Proofs.YtfoijbcdbcehiaaDoor.L4
open Go.RowKit Go.Proofs.YtfoijbcdbcehiaaDoorW.PrintWords

/-- what is asked of Show -/
def names9 (what : ByteArray) : List ByteArray := [what, ⟨#[112, 97, 116, 116, 101, 114, 110]⟩, ⟨#[104, 111, 108, 100]⟩, ⟨#[114, 101, 115, 116]⟩, ⟨#[111, 117, 116]⟩, ⟨#[112, 108, 97, 99, 101]⟩, ⟨#[114, 101, 103, 115]⟩, ⟨#[119, 97, 105, 116, 115]⟩, ⟨#[102, 105, 108, 101, 115]⟩]
theorem own_C {w : World} {base : Nat} {e : TypeId} {v : Value} {l : List ByteArray} (h : w.ownsRow base e 1 v l.length (encs Value.string l)) : ∃ A c, v = .slice A l.length c ∧ l.length ≤ c ∧ Kd.C Kd.string w A l.length l := by
  have hR : Kd.R Kd.string e w base (fun _ => True) v l := Kd.R_of_own (enc := Value.string) (h1 := fun _ => rfl) h (fun _ _ => trivial)
  exact Kd.R_reads hR
theorem showS_len (s : Sv) (hm : Sm s) (q : List UInt8) : ((showS s q).getD []).length ≤ 10000 := by
  have h24 := hm.l24
  have h25 := hm.l25
  unfold showS
  repeat' split
  all_goals simp [waitsS, tableS]
  all_goals omega

set_option maxRecDepth 100000 in
set_option maxHeartbeats 20000000 in
theorem law_main (s : Sv) (n : Int) (what : ByteArray) (w : World) (hs : s.Ok w) (hm : Sm s) (hn : I64 n) (ht : Tb w) (hw : what.size ≤ 300)
    (hg : Calls Tryd.prog 4 #[s.v] (w.alloc (.cells s.cells 34)) fun e w' => e = .returned (.bool false) ∧ Below (w.alloc (.cells s.cells 34)).heap.size (w.alloc (.cells s.cells 34)) w') :
    Calls Tryd.prog 3 #[s.v, .int .i64 n, .string what] w fun e w' => e = .returned (.bool true) ∧ Below w.heap.size w w' := by
  have HI := InB.new s w
  unfold InB at HI
  have kB := Aside0.mk ((Below.refl w.heap.size w).alloc (Nat.le_refl _) (.cells s.cells 34))
  have hz : (Tryd.prog.info? 34).map (·.size) = some s.cells.size := by kernel_rfl
  have HZ := Lib.hid hz
  clear hz
  have HWH := Lib.hid (fun (W : World) (hb : Below w.heap.size w W) => where_any n s W hn (hs.below hb) (ht.below hb))
  have HRW := Lib.hid (fun (W : World) (hb : Below w.heap.size w W) => refWhere_upto n s W hn (hs.below hb) (fun e w' => e = .returned (.string (joinS (whereW n s) sp)) ∧ Below W.heap.size W w') (fun W5 h5 => ⟨by rw [where_say], h5⟩))
  have HSH := Lib.hid (fun (W : World) (y : ByteArray) (hb : Below w.heap.size w W) (hy : y.size ≤ 9223372036854775807) => show_any s y W (hs.below hb) hm (ht.below hb) hy)
  have HRS := Lib.hid (fun (W : World) (y : ByteArray) (hb : Below w.heap.size w W) => refShow_any s y W (hs.below hb) hm)
  have HF := Lib.hid (fun (W : World) (y : ByteArray) (hb : Below w.heap.size w W) => file_any s y W (hs.below hb) hm)
  have HRF := Lib.hid (fun (W : World) (y : ByteArray) (hb : Below w.heap.size w W) => refFile_any s y W (hs.below hb) hm)
  have HAW := Lib.hid (fun (W : World) (hb : Below w.heap.size w W) => awake_any W (ht.below hb))
  have HLEN := Lib.hid (showS_len s hm)
  have HR25 := Aside0.mk hs.r25
  have HC25 := Lib.hid (fun (W : World) (h : W.heap[w.heap.size]? = some (.cells s.cells 34 (0, 0))) => (show W.cell? ⟨w.heap.size, 25, none⟩ = some (.slice s.a25 s.l25.length s.c25) from InB.cell (s := s) h 25))
  have HM := Aside0.mk hm
  clear hs hm ht
  unfold Sv.v at *
  generalize joinS (whereW n s) sp = T at *
  generalize s.cells = cs at *
  have HH := Lib.hid HI
  clear HI
  go_enter Tryd.func3, Tryd.ntmps3
  go_wp2_with (first
    | ((with_reducible refine gate_dst (N := 20) rfl ?_); refine wpList_load_row rfl 34 (.tmp 3) rfl w.heap.size rfl 34 cs (0, 0) _ HH.out Tryd.underlying34 rfl HZ.out ?_)
    | (go_at_call 4; refine hg.mono ?_; rintro e w2 ⟨rfl, hb⟩; have kb := kB.out.trans (hb.mono kB.out.size); have kI := (hb.block _ (blk_lt HH.out)).trans HH.out; clear hb))
  clear HH hg kB
  refine wp_region_held (S := fun w' => w'.heap[w.heap.size]? = some (.cells cs 34 (0, 0))) (by kernel_rfl) ?_
  change wpAnyH _ _ _ _ _ _ _ _ w2.drew
  have gI : w2.drew.heap[w.heap.size]? = some (.cells cs 34 (0, 0)) := kI
  have gb : Below w.heap.size w w2.drew := below_drew kb
  clear kI kb
  generalize w2.drew = w2d at *
  refine take_ (i := 0) (N := some 28) (oi := _) (v := .int .i64 n) rfl rfl (by kernel_rfl) (by kernel_rfl) (by kernel_rfl) (fun _ _ _ h => h) (Or.inl ⟨by rfl, ?_⟩) gI ?_
  · intro w3 qI; go_simp
  simp only [Act.put, List.setIfInBounds_toArray, List.set_cons_zero, List.set_cons_succ]
  refine take_ (i := 1) (N := some 29) (oi := _) (v := .agg cs) rfl rfl (by kernel_rfl) (by kernel_rfl) (by kernel_rfl) (fun _ _ _ h => h) (Or.inl ⟨by rfl, ?_⟩) gI ?_
  · intro w3 qI; exact run_load_state rfl rfl qI Tryd.underlying34 rfl HZ.out
  simp only [Act.put, List.setIfInBounds_toArray, List.set_cons_zero, List.set_cons_succ]
  refine take_ (i := 3) (N := some 31) (oi := _) (v := .int .i64 n) rfl rfl (by kernel_rfl) (by kernel_rfl) (by kernel_rfl) (fun _ _ _ h => h) (Or.inl ⟨by rfl, ?_⟩) gI ?_
  · intro w3 qI; go_simp
  simp only [Act.put, List.setIfInBounds_toArray, List.set_cons_zero, List.set_cons_succ]
  refine take_ (i := 4) (N := some 32) (oi := _) (v := .agg cs) rfl rfl (by kernel_rfl) (by kernel_rfl) (by kernel_rfl) (fun _ _ _ h => h) (Or.inl ⟨by rfl, ?_⟩) gI ?_
  · intro w3 qI; exact run_load_state rfl rfl qI Tryd.underlying34 rfl HZ.out
  simp only [Act.put, List.setIfInBounds_toArray, List.set_cons_zero, List.set_cons_succ]
  refine wpAnyH_one (i := 2) (by kernel_rfl) ?_
  refine wpOp_callN (N := some 30) (f := 6) (args := #[.int .i64 n, .agg cs]) (w1 := w2d) rfl rfl rfl (by go_simp) ?_
  refine (HWH.out w2d gb).mono ?_
  rintro e w3 ⟨rfl, hb⟩
  replace gI := (hb.block _ (blk_lt gI)).trans gI
  replace gb := gb.trans (hb.mono gb.size)
  refine ⟨_, rfl, gI, ?_⟩
  simp only [Act.put, List.setIfInBounds_toArray, List.set_cons_zero, List.set_cons_succ]
  clear hb
  refine wpAnyH_one (i := 5) (by kernel_rfl) ?_
  refine wpOp_callN (N := some 33) (f := 7) (args := #[.int .i64 n, .agg cs]) (w1 := w3) rfl rfl rfl (by go_simp) ?_
  refine (HRW.out w3 gb).mono ?_
  rintro e w4 ⟨rfl, hb⟩
  replace gI := (hb.block _ (blk_lt gI)).trans gI
  replace gb := gb.trans (hb.mono gb.size)
  refine ⟨_, rfl, gI, ?_⟩
  simp only [Act.put, List.setIfInBounds_toArray, List.set_cons_zero, List.set_cons_succ]
  clear hb
  refine take_ (i := 6) (N := some 34) (oi := _) (v := ?_) rfl rfl (by kernel_rfl) (by kernel_rfl) (by kernel_rfl) (fun _ _ _ h => h) (Or.inl ⟨by rfl, ?_⟩) gI ?_
  rotate_left
  · intro w5 qI; go_simp; try with_reducible rfl
  simp only [Act.put, List.setIfInBounds_toArray, List.set_cons_zero, List.set_cons_succ]
  refine wpAnyH_done (by kernel_rfl) ?_ _
  go_wp2_with fail
  have hO5 : (w4.alloc (.cells #[.string what, .string ⟨#[112, 97, 116, 116, 101, 114, 110]⟩, .string ⟨#[104, 111, 108, 100]⟩, .string ⟨#[114, 101, 115, 116]⟩, .string ⟨#[111, 117, 116]⟩, .string ⟨#[112, 108, 97, 99, 101]⟩, .string ⟨#[114, 101, 103, 115]⟩, .string ⟨#[119, 97, 105, 116, 115]⟩, .string ⟨#[102, 105, 108, 101, 115]⟩] 9)).ownsRow w.heap.size 9 1 (.slice (some ⟨w4.heap.size, 0, none⟩) (names9 what).length (names9 what).length) (names9 what).length (encs Value.string (names9 what)) := own_lit_of w4 w.heap.size 9 (names9 what) gb.size (by simp [names9])
  have gI5 := blk_alloc gI (.cells #[.string what, .string ⟨#[112, 97, 116, 116, 101, 114, 110]⟩, .string ⟨#[104, 111, 108, 100]⟩, .string ⟨#[114, 101, 115, 116]⟩, .string ⟨#[111, 117, 116]⟩, .string ⟨#[112, 108, 97, 99, 101]⟩, .string ⟨#[114, 101, 103, 115]⟩, .string ⟨#[119, 97, 105, 116, 115]⟩, .string ⟨#[102, 105, 108, 101, 115]⟩] 9)
  have gb5 := gb.alloc gb.size (.cells #[.string what, .string ⟨#[112, 97, 116, 116, 101, 114, 110]⟩, .string ⟨#[104, 111, 108, 100]⟩, .string ⟨#[114, 101, 115, 116]⟩, .string ⟨#[111, 117, 116]⟩, .string ⟨#[112, 108, 97, 99, 101]⟩, .string ⟨#[114, 101, 103, 115]⟩, .string ⟨#[119, 97, 105, 116, 115]⟩, .string ⟨#[102, 105, 108, 101, 115]⟩] 9)
  generalize w4.alloc (.cells #[.string what, .string ⟨#[112, 97, 116, 116, 101, 114, 110]⟩, .string ⟨#[104, 111, 108, 100]⟩, .string ⟨#[114, 101, 115, 116]⟩, .string ⟨#[111, 117, 116]⟩, .string ⟨#[112, 108, 97, 99, 101]⟩, .string ⟨#[114, 101, 103, 115]⟩, .string ⟨#[119, 97, 105, 116, 115]⟩, .string ⟨#[102, 105, 108, 101, 115]⟩] 9) = w5 at *
  obtain ⟨A5, c5, e5, m5, hC5⟩ := own_C hO5
  cases e5
  have hC := Aside0.mk hC5
  clear hC5 hO5 gI gb m5
  generalize hNN : names9 what = NN at hC
  have hlen9 : NN.length = 9 := by rw [← hNN]; rfl
  have hsz9 : ∀ x ∈ NN, x.size ≤ 300 := by
    intro x hx
    rw [← hNN] at hx
    simp only [names9, List.mem_cons, List.not_mem_nil, or_false] at hx
    rcases hx with rfl | rfl | rfl | rfl | rfl | rfl | rfl | rfl | rfl
    · exact hw
    all_goals exact Nat.le_of_lt (by decide)
  clear hNN
  generalize (⟨w4.heap.size, 0, none⟩ : Addr) = ad at *
  have HSH5 := Lib.hid (fun (W : World) (y : ByteArray) (h : Below w5.heap.size w5 W) (hy : y.size ≤ 9223372036854775807) => HSH.out W y (gb5.trans (h.mono gb5.size)) hy)
  have HRS5 := Lib.hid (fun (W : World) (y : ByteArray) (h : Below w5.heap.size w5 W) (hy : y.size ≤ 9223372036854775807) => HRS.out W y (gb5.trans (h.mono gb5.size)))
  go_loopw [8] (fun i wr => ∃ k : Nat, k ≤ 9 ∧ i = .int .i64 k ∧ Aside0 (Below w5.heap.size w5 wr)) (fun i _ => 9 - (intOf i).toNat)
  case atStart => exact ⟨0, Nat.zero_le _, rfl, ⟨Below.refl _ _⟩⟩
  case round =>
    obtain ⟨k, hk, rfl, hB⟩ := hrel
    by_cases hlt : k < 9
    · obtain ⟨ad', e', hcell⟩ := Kd.at_string hC.out (k : Int) (by omega) (by rw [hlen9]; omega)
      cases e'
      simp only [Int.toNat_natCast] at hcell
      have hy : (rdOf ByteArray.empty NN (k : Int)).size ≤ 300 := by
        refine hsz9 _ ?_
        have hl : k < NN.length := by omega
        simp [rdOf, List.getD_eq_getElem?_getD, List.getElem?_eq_getElem hl]
      generalize rdOf ByteArray.empty NN (k : Int) = y at *
      have kd := (hB.out.cell (World.block_lt_of_cell? _ _ hcell)).trans hcell
      have kI := (hB.out.block _ (blk_lt gI5)).trans gI5
      have kb := hB.out
      clear hB hcell
      go_wp2_with fail
      refine wp_region_held (S := fun w' => w'.heap[w.heap.size]? = some (.cells cs 34 (0, 0)) ∧ w'.cell? (ad.add k) = some (.string y)) (by kernel_rfl) ?_
      change wpAnyH _ _ _ _ _ _ _ _ wr.drew
      have gI : wr.drew.heap[w.heap.size]? = some (.cells cs 34 (0, 0)) := kI
      have gd : wr.drew.cell? (ad.add k) = some (.string y) := kd
      have gb : Below w5.heap.size w5 wr.drew := below_drew kb
      generalize wr.drew = Wad at *
      refine take_ (i := 0) (N := some 44) (oi := _) (v := .agg cs) rfl rfl (by kernel_rfl) (by kernel_rfl) (by kernel_rfl) (fun _ _ _ h => h) (Or.inl ⟨by rfl, ?_⟩) ⟨gI, gd⟩ ?_
      · intro w2 hSw; obtain ⟨qI, qd⟩ := hSw; exact run_load_state rfl rfl qI Tryd.underlying34 rfl HZ.out
      simp only [Act.put, List.setIfInBounds_toArray, List.set_cons_zero, List.set_cons_succ]
      refine take_ (i := 1) (N := some 45) (oi := _) (v := .slice (some ad) 9 9) rfl rfl (by kernel_rfl) (by kernel_rfl) (by kernel_rfl) (fun _ _ _ h => h) (Or.inl ⟨by rfl, ?_⟩) ⟨gI, gd⟩ ?_
      · intro w2 hSw; obtain ⟨qI, qd⟩ := hSw; go_simp
      simp only [Act.put, List.setIfInBounds_toArray, List.set_cons_zero, List.set_cons_succ]
      refine take_ (i := 2) (N := some 46) (oi := _) (v := .int .i64 k) rfl rfl (by kernel_rfl) (by kernel_rfl) (by kernel_rfl) (fun _ _ _ h => h) (Or.inl ⟨by rfl, ?_⟩) ⟨gI, gd⟩ ?_
      · intro w2 hSw; obtain ⟨qI, qd⟩ := hSw; go_simp
      simp only [Act.put, List.setIfInBounds_toArray, List.set_cons_zero, List.set_cons_succ]
      refine take_ (i := 3) (N := some 47) (oi := _) (v := .pointer (some (ad.add k))) rfl rfl (by kernel_rfl) (by kernel_rfl) (by kernel_rfl) (fun _ _ _ h => h) (Or.inl ⟨by rfl, ?_⟩) ⟨gI, gd⟩ ?_
      · intro w2 hSw; obtain ⟨qI, qd⟩ := hSw; go_simp
      simp only [Act.put, List.setIfInBounds_toArray, List.set_cons_zero, List.set_cons_succ]
      refine take_ (i := 4) (N := some 48) (oi := _) (v := .string y) rfl rfl (by kernel_rfl) (by kernel_rfl) (by kernel_rfl) (fun _ _ _ h => h) (Or.inl ⟨by rfl, ?_⟩) ⟨gI, gd⟩ ?_
      · intro w2 hSw; obtain ⟨qI, qd⟩ := hSw; go_simp
      simp only [Act.put, List.setIfInBounds_toArray, List.set_cons_zero, List.set_cons_succ]
      refine wpAnyH_one (i := 5) (by kernel_rfl) ?_
      refine wpOp_callN (N := some 49) (f := 8) (args := #[.agg cs, .string y]) (w1 := Wad) rfl rfl rfl (by go_simp) ?_
      refine (HSH5.out Wad y gb (by omega)).mono ?_
      rintro e Wa ⟨u9, rfl, hR9, hb⟩
      replace kI := (hb.block _ (blk_lt gI)).trans gI
      replace kd := (hb.cell (World.block_lt_of_cell? _ _ gd)).trans gd
      replace kb := gb.trans (hb.mono gb.size)
      refine ⟨_, rfl, ⟨kI, kd⟩, ?_⟩
      simp only [Act.put, List.setIfInBounds_toArray, List.set_cons_zero, List.set_cons_succ]
      clear gI gd gb hb
      refine take_ (i := 6) (N := some 43) (oi := _) (v := .tuple #[u9, .bool (showS s y.data.toList).isSome]) rfl rfl (by kernel_rfl) (by kernel_rfl) (by kernel_rfl) (fun _ _ _ h => h) (Or.inl ⟨by rfl, ?_⟩) ⟨kI, kd⟩ ?_
      · intro w2 hSw; go_simp
      simp only [Act.put, List.setIfInBounds_toArray, List.set_cons_zero, List.set_cons_succ]
      refine take_ (i := 7) (N := some 50) (oi := _) (v := u9) rfl rfl (by kernel_rfl) (by kernel_rfl) (by kernel_rfl) (fun _ _ _ h => h) (Or.inl ⟨by rfl, ?_⟩) ⟨kI, kd⟩ ?_
      · intro w2 hSw; go_simp; try with_reducible rfl
      simp only [Act.put, List.setIfInBounds_toArray, List.set_cons_zero, List.set_cons_succ]
      refine take_ (i := 8) (N := some 51) (oi := _) (v := .bool (showS s y.data.toList).isSome) rfl rfl (by kernel_rfl) (by kernel_rfl) (by kernel_rfl) (fun _ _ _ h => h) (Or.inl ⟨by rfl, ?_⟩) ⟨kI, kd⟩ ?_
      · intro w2 hSw; go_simp; try with_reducible rfl
      simp only [Act.put, List.setIfInBounds_toArray, List.set_cons_zero, List.set_cons_succ]
      refine take_ (i := 9) (N := some 9) (oi := _) (v := u9) rfl rfl (by kernel_rfl) (by kernel_rfl) (by kernel_rfl) (fun _ _ _ h => h) (Or.inl ⟨by rfl, ?_⟩) ⟨kI, kd⟩ ?_
      · intro w2 hSw; go_simp
      simp only [Act.put, List.setIfInBounds_toArray, List.set_cons_zero, List.set_cons_succ]
      refine take_ (i := 10) (N := some 10) (oi := _) (v := .bool (showS s y.data.toList).isSome) rfl rfl (by kernel_rfl) (by kernel_rfl) (by kernel_rfl) (fun _ _ _ h => h) (Or.inl ⟨by rfl, ?_⟩) ⟨kI, kd⟩ ?_
      · intro w2 hSw; go_simp
      simp only [Act.put, List.setIfInBounds_toArray, List.set_cons_zero, List.set_cons_succ]
      refine wpAnyH_done (by kernel_rfl) ?_ _
      go_wp2_with fail
      have kR := hR9
      clear hR9
      refine wp_region_held (S := fun w' => w'.heap[w.heap.size]? = some (.cells cs 34 (0, 0)) ∧ w'.cell? (ad.add k) = some (.string y)) (by kernel_rfl) ?_
      change wpAnyH _ _ _ _ _ _ _ _ Wa.drew
      have gI : Wa.drew.heap[w.heap.size]? = some (.cells cs 34 (0, 0)) := kI
      have gd : Wa.drew.cell? (ad.add k) = some (.string y) := kd
      have gb : Below w5.heap.size w5 Wa.drew := below_drew kb
      have gR := Kd.R_drew kR
      generalize Wa.drew = Wbd at *
      refine take_ (i := 0) (N := some 53) (oi := _) (v := .agg cs) rfl rfl (by kernel_rfl) (by kernel_rfl) (by kernel_rfl) (fun _ _ _ h => h) (Or.inl ⟨by rfl, ?_⟩) ⟨gI, gd⟩ ?_
      · intro w2 hSw; obtain ⟨qI, qd⟩ := hSw; exact run_load_state rfl rfl qI Tryd.underlying34 rfl HZ.out
      simp only [Act.put, List.setIfInBounds_toArray, List.set_cons_zero, List.set_cons_succ]
      refine take_ (i := 1) (N := some 54) (oi := _) (v := .slice (some ad) 9 9) rfl rfl (by kernel_rfl) (by kernel_rfl) (by kernel_rfl) (fun _ _ _ h => h) (Or.inl ⟨by rfl, ?_⟩) ⟨gI, gd⟩ ?_
      · intro w2 hSw; obtain ⟨qI, qd⟩ := hSw; go_simp
      simp only [Act.put, List.setIfInBounds_toArray, List.set_cons_zero, List.set_cons_succ]
      refine take_ (i := 2) (N := some 55) (oi := _) (v := .int .i64 k) rfl rfl (by kernel_rfl) (by kernel_rfl) (by kernel_rfl) (fun _ _ _ h => h) (Or.inl ⟨by rfl, ?_⟩) ⟨gI, gd⟩ ?_
      · intro w2 hSw; obtain ⟨qI, qd⟩ := hSw; go_simp
      simp only [Act.put, List.setIfInBounds_toArray, List.set_cons_zero, List.set_cons_succ]
      refine take_ (i := 3) (N := some 56) (oi := _) (v := .pointer (some (ad.add k))) rfl rfl (by kernel_rfl) (by kernel_rfl) (by kernel_rfl) (fun _ _ _ h => h) (Or.inl ⟨by rfl, ?_⟩) ⟨gI, gd⟩ ?_
      · intro w2 hSw; obtain ⟨qI, qd⟩ := hSw; go_simp
      simp only [Act.put, List.setIfInBounds_toArray, List.set_cons_zero, List.set_cons_succ]
      refine take_ (i := 4) (N := some 57) (oi := _) (v := .string y) rfl rfl (by kernel_rfl) (by kernel_rfl) (by kernel_rfl) (fun _ _ _ h => h) (Or.inl ⟨by rfl, ?_⟩) ⟨gI, gd⟩ ?_
      · intro w2 hSw; obtain ⟨qI, qd⟩ := hSw; go_simp
      simp only [Act.put, List.setIfInBounds_toArray, List.set_cons_zero, List.set_cons_succ]
      refine wpAnyH_one (i := 5) (by kernel_rfl) ?_
      refine wpOp_callN (N := some 58) (f := 9) (args := #[.agg cs, .string y]) (w1 := Wbd) rfl rfl rfl (by go_simp) ?_
      refine (HRS5.out Wbd y gb (by omega)).mono ?_
      rintro e Wb ⟨u11, rfl, hR11, hb⟩
      replace kI := (hb.block _ (blk_lt gI)).trans gI
      replace kd := (hb.cell (World.block_lt_of_cell? _ _ gd)).trans gd
      replace kb := gb.trans (hb.mono gb.size)
      have kR9 := Kd.R_below gR hb
      refine ⟨_, rfl, ⟨kI, kd⟩, ?_⟩
      simp only [Act.put, List.setIfInBounds_toArray, List.set_cons_zero, List.set_cons_succ]
      clear gI gd gb hb
      refine take_ (i := 6) (N := some 52) (oi := _) (v := .tuple #[u11, .bool (showS s y.data.toList).isSome]) rfl rfl (by kernel_rfl) (by kernel_rfl) (by kernel_rfl) (fun _ _ _ h => h) (Or.inl ⟨by rfl, ?_⟩) ⟨kI, kd⟩ ?_
      · intro w2 hSw; go_simp
      simp only [Act.put, List.setIfInBounds_toArray, List.set_cons_zero, List.set_cons_succ]
      refine take_ (i := 7) (N := some 59) (oi := _) (v := u11) rfl rfl (by kernel_rfl) (by kernel_rfl) (by kernel_rfl) (fun _ _ _ h => h) (Or.inl ⟨by rfl, ?_⟩) ⟨kI, kd⟩ ?_
      · intro w2 hSw; go_simp; try with_reducible rfl
      simp only [Act.put, List.setIfInBounds_toArray, List.set_cons_zero, List.set_cons_succ]
      refine take_ (i := 8) (N := some 60) (oi := _) (v := .bool (showS s y.data.toList).isSome) rfl rfl (by kernel_rfl) (by kernel_rfl) (by kernel_rfl) (fun _ _ _ h => h) (Or.inl ⟨by rfl, ?_⟩) ⟨kI, kd⟩ ?_
      · intro w2 hSw; go_simp; try with_reducible rfl
      simp only [Act.put, List.setIfInBounds_toArray, List.set_cons_zero, List.set_cons_succ]
      refine take_ (i := 9) (N := some 11) (oi := _) (v := u11) rfl rfl (by kernel_rfl) (by kernel_rfl) (by kernel_rfl) (fun _ _ _ h => h) (Or.inl ⟨by rfl, ?_⟩) ⟨kI, kd⟩ ?_
      · intro w2 hSw; go_simp
      simp only [Act.put, List.setIfInBounds_toArray, List.set_cons_zero, List.set_cons_succ]
      refine take_ (i := 10) (N := some 12) (oi := _) (v := .bool (showS s y.data.toList).isSome) rfl rfl (by kernel_rfl) (by kernel_rfl) (by kernel_rfl) (fun _ _ _ h => h) (Or.inl ⟨by rfl, ?_⟩) ⟨kI, kd⟩ ?_
      · intro w2 hSw; go_simp
      simp only [Act.put, List.setIfInBounds_toArray, List.set_cons_zero, List.set_cons_succ]
      refine wpAnyH_done (by kernel_rfl) ?_ _
      have hln := HLEN.out y.data.toList
      generalize (showS s y.data.toList).getD [] = rows at *
      generalize (showS s y.data.toList).isSome = bb at *
      have hbb : (bb != bb) = false := by cases bb <;> rfl
      obtain ⟨A9, c9, e9, m9, r9⟩ := Kd.R_reads kR9
      obtain ⟨A11, c11, e11, m11, r11⟩ := Kd.R_reads hR11
      subst e9 e11
      clear kR9 hR11
      go_wp2_with (go_at_call 10; refine (same_any A9 A11 c9 c11 rows Wb r9 m9 r11 m11 (by omega)).mono ?_; rintro e W6 ⟨rfl, hd⟩; have kb6 := kb.trans (hd.below.mono kb.size); clear hd)
      go_roundw
      case rel => exact ⟨k + 1, by omega, by go_num, ⟨kb6⟩⟩
      case measure => simp [intOf]; omega
    · go_wp2_with fail
      obtain ⟨wz, rfl⟩ : ∃ z, z = wr := ⟨_, rfl⟩
      have kb := gb5.trans (hB.out.mono gb5.size)
      have kI := (hB.out.block _ (blk_lt gI5)).trans gI5
      clear hB gI5 gb5 hC HSH5 HRS5 hsz9 hlen9 HSH HRS hlt HLEN
      have hO6 : Kd.R Kd.string 9 (wz.alloc (.cells #[.string what] 9)) wz.heap.size (fun _ => True) (.slice (some ⟨wz.heap.size, 0, none⟩) 1 1) [what] := Kd.R_of_own (enc := Value.string) (h1 := fun _ => rfl) (own_lit_of wz wz.heap.size 9 [what] (Nat.le_refl _) (by simp)) (fun _ _ => trivial)
      have gb6 := kb.alloc kb.size (.cells #[.string what] 9)
      have gI6 := blk_alloc kI (.cells #[.string what] 9)
      have hb6 : Below wz.heap.size wz (wz.alloc (.cells #[.string what] 9)) := below_alloc (Below.refl _ _) _
      generalize wz.alloc (.cells #[.string what] 9) = w6 at *
      have HO6 := Aside0.mk hO6
      clear hO6
      have hn25 := HM.out.l25
      go_loopw [13, 14] (fun v i wq => ∃ k : Nat, k ≤ s.l25.length ∧ i = .int .i64 k ∧ Aside0 (Kd.R Kd.string 9 wq wz.heap.size (fun _ => True) v (what :: (s.l25.take k).map (·.f0))) ∧ Aside0 (Below wz.heap.size wz wq)) (fun _ i _ => s.l25.length - (intOf i).toNat)
      case atStart => exact ⟨0, Nat.zero_le _, rfl, HO6, ⟨hb6⟩⟩
      case round =>
        obtain ⟨k, hk, rfl, hO, hB⟩ := hrel
        clear HO6 hb6
        have kI2 := (hB.out.block _ (blk_lt kI)).trans kI
        have c25 := HC25.out _ kI2
        by_cases hlt : k < s.l25.length
        · obtain ⟨ad2, A1, c1, e1, hx0, hx1, hl1, hr1⟩ := at_Fl HR25.out k hlt
          have hrow : what :: (s.l25.take (k + 1)).map (·.f0) = (what :: (s.l25.take k).map (·.f0)) ++ [(s.l25.getD k zFl).f0] := by
            have e : (s.l25.take (k + 1)).map (·.f0) = (s.l25.take k).map (·.f0) ++ [(s.l25.getD k zFl).f0] := by
              rw [List.take_succ_eq_append_getElem hlt, List.map_append, List.getD_eq_getElem?_getD, List.getElem?_eq_getElem hlt]; rfl
            rw [e]; rfl
          have hlen : (what :: (s.l25.take k).map (·.f0)).length ≤ 10001 := by
            rw [List.length_cons, List.length_map]
            have := List.length_take_le k s.l25
            omega
          have HW := Aside0.mk hrow
          clear hrow hx1 hl1 hr1
          generalize s.l25.getD k zFl = x at *
          generalize (what :: (s.l25.take k).map (·.f0)) = L at *
          have kbw := kb.trans (hB.out.mono kb.size)
          replace hx0 := (kbw.cell (World.block_lt_of_cell? w _ hx0)).trans hx0
          rw [e1] at c25
          clear e1
          go_wp2_with ((with_reducible refine gate_dst (N := 87) rfl ?_); refine Kd.R_append Kd.string (w0 := wz) wz.heap.size rfl (.tmp 79) (.tmp 86) 38 9 (.string ⟨#[]⟩) 16 rfl Tryd.underlying38 infoStr rfl (by decide) (by omega) u13 L x.f0 [.string x.f0] (fun _ => True) (fun _ => False) rfl rfl ?aP (fun _ hk => hk.elim) (fun _ _ => trivial) hO.out hB.out hB.out.size ?aL ?_; (case aP => exact rfl); (case aL => omega); intro v1 W4 hO4 hb4 hg4 hat4; clear hg4 hat4)
          go_roundw
          case rel =>
            refine ⟨k + 1, by omega, by go_num, ⟨?_⟩, ⟨hb4⟩⟩
            rw [HW.out]
            exact hO4
          case measure => simp [intOf]; omega
        · obtain rfl : k = s.l25.length := by omega
          obtain ⟨A13, c13, e13, m13, hC13⟩ := Kd.R_reads hO.out
          subst e13
          obtain ⟨wq, rfl⟩ : ∃ z, z = wr := ⟨_, rfl⟩
          have hC := Aside0.mk hC13
          have kb7 := kb.trans (hB.out.mono kb.size)
          clear hC13 hO hB hk hlt kb kI gb6 gI6
          have hln : (what :: (s.l25.take s.l25.length).map (·.f0)).length ≤ 10001 := by
            rw [List.take_length, List.length_cons, List.length_map]; omega
          generalize (what :: (s.l25.take s.l25.length).map (·.f0)) = NN at *
          have HF7 := Lib.hid (fun (W : World) (y : ByteArray) (h : Below wq.heap.size wq W) => HF.out W y (kb7.trans (h.mono kb7.size)))
          have HRF7 := Lib.hid (fun (W : World) (y : ByteArray) (h : Below wq.heap.size wq W) => HRF.out W y (kb7.trans (h.mono kb7.size)))
          go_wp2_with fail
          go_loopw [15] (fun i wr => ∃ k : Nat, k ≤ NN.length ∧ i = .int .i64 k ∧ Aside0 (Below wq.heap.size wq wr)) (fun i _ => NN.length - (intOf i).toNat)
          case atStart => exact ⟨0, Nat.zero_le _, rfl, ⟨Below.refl _ _⟩⟩
          case round =>
            obtain ⟨k3, hk3, rfl, hB3⟩ := hrel
            by_cases hlt3 : k3 < NN.length
            · obtain ⟨ad3, e3, hcell⟩ := Kd.at_string hC.out (k3 : Int) (by omega) (by omega)
              subst e3
              simp only [Int.toNat_natCast] at hcell
              generalize rdOf ByteArray.empty NN (k3 : Int) = y at *
              have kd := (hB3.out.cell (World.block_lt_of_cell? _ _ hcell)).trans hcell
              have kI := (hB3.out.block _ (blk_lt kI2)).trans kI2
              have kb := hB3.out
              clear hB3 hcell
              go_wp2_with fail
              refine wp_region_held (S := fun w' => w'.heap[w.heap.size]? = some (.cells cs 34 (0, 0)) ∧ w'.cell? (ad3.add k3) = some (.string y)) (by kernel_rfl) ?_
              change wpAnyH _ _ _ _ _ _ _ _ wr.drew
              have gI : wr.drew.heap[w.heap.size]? = some (.cells cs 34 (0, 0)) := kI
              have gd : wr.drew.cell? (ad3.add k3) = some (.string y) := kd
              have gb : Below wq.heap.size wq wr.drew := below_drew kb
              generalize wr.drew = Wad at *
              refine take_ (i := 0) (N := some 95) (oi := _) (v := .agg cs) rfl rfl (by kernel_rfl) (by kernel_rfl) (by kernel_rfl) (fun _ _ _ h => h) (Or.inl ⟨by rfl, ?_⟩) ⟨gI, gd⟩ ?_
              · intro w2 hSw; obtain ⟨qI, qd⟩ := hSw; exact run_load_state rfl rfl qI Tryd.underlying34 rfl HZ.out
              simp only [Act.put, List.setIfInBounds_toArray, List.set_cons_zero, List.set_cons_succ]
              refine take_ (i := 1) (N := some 96) (oi := _) (v := .slice (some ad3) NN.length c13) rfl rfl (by kernel_rfl) (by kernel_rfl) (by kernel_rfl) (fun _ _ _ h => h) (Or.inl ⟨by rfl, ?_⟩) ⟨gI, gd⟩ ?_
              · intro w2 hSw; obtain ⟨qI, qd⟩ := hSw; go_simp
              simp only [Act.put, List.setIfInBounds_toArray, List.set_cons_zero, List.set_cons_succ]
              refine take_ (i := 2) (N := some 97) (oi := _) (v := .int .i64 k3) rfl rfl (by kernel_rfl) (by kernel_rfl) (by kernel_rfl) (fun _ _ _ h => h) (Or.inl ⟨by rfl, ?_⟩) ⟨gI, gd⟩ ?_
              · intro w2 hSw; obtain ⟨qI, qd⟩ := hSw; go_simp
              simp only [Act.put, List.setIfInBounds_toArray, List.set_cons_zero, List.set_cons_succ]
              refine take_ (i := 3) (N := some 98) (oi := _) (v := .pointer (some (ad3.add k3))) rfl rfl (by kernel_rfl) (by kernel_rfl) (by kernel_rfl) (fun _ _ _ h => h) (Or.inl ⟨by rfl, ?_⟩) ⟨gI, gd⟩ ?_
              · intro w2 hSw; obtain ⟨qI, qd⟩ := hSw; go_simp
              simp only [Act.put, List.setIfInBounds_toArray, List.set_cons_zero, List.set_cons_succ]
              refine take_ (i := 4) (N := some 99) (oi := _) (v := .string y) rfl rfl (by kernel_rfl) (by kernel_rfl) (by kernel_rfl) (fun _ _ _ h => h) (Or.inl ⟨by rfl, ?_⟩) ⟨gI, gd⟩ ?_
              · intro w2 hSw; obtain ⟨qI, qd⟩ := hSw; go_simp
              simp only [Act.put, List.setIfInBounds_toArray, List.set_cons_zero, List.set_cons_succ]
              refine wpAnyH_one (i := 5) (by kernel_rfl) ?_
              refine wpOp_callN (N := some 100) (f := 11) (args := #[.agg cs, .string y]) (w1 := Wad) rfl rfl rfl (by go_simp) ?_
              refine (HF7.out Wad y gb).mono ?_
              rintro e Wa ⟨rfl, hb⟩
              replace kI := (hb.block _ (blk_lt gI)).trans gI
              replace kd := (hb.cell (World.block_lt_of_cell? _ _ gd)).trans gd
              replace kb := gb.trans (hb.mono gb.size)
              refine ⟨_, rfl, ⟨kI, kd⟩, ?_⟩
              simp only [Act.put, List.setIfInBounds_toArray, List.set_cons_zero, List.set_cons_succ]
              clear gI gd gb hb
              refine take_ (i := 6) (N := some 94) (oi := _) (v := .tuple #[.string (fileS s y).1, .bool (fileS s y).2]) rfl rfl (by kernel_rfl) (by kernel_rfl) (by kernel_rfl) (fun _ _ _ h => h) (Or.inl ⟨by rfl, ?_⟩) ⟨kI, kd⟩ ?_
              · intro w2 hSw; go_simp
              simp only [Act.put, List.setIfInBounds_toArray, List.set_cons_zero, List.set_cons_succ]
              refine take_ (i := 7) (N := some 101) (oi := _) (v := .string (fileS s y).1) rfl rfl (by kernel_rfl) (by kernel_rfl) (by kernel_rfl) (fun _ _ _ h => h) (Or.inl ⟨by rfl, ?_⟩) ⟨kI, kd⟩ ?_
              · intro w2 hSw; go_simp; try with_reducible rfl
              simp only [Act.put, List.setIfInBounds_toArray, List.set_cons_zero, List.set_cons_succ]
              refine take_ (i := 8) (N := some 102) (oi := _) (v := .bool (fileS s y).2) rfl rfl (by kernel_rfl) (by kernel_rfl) (by kernel_rfl) (fun _ _ _ h => h) (Or.inl ⟨by rfl, ?_⟩) ⟨kI, kd⟩ ?_
              · intro w2 hSw; go_simp; try with_reducible rfl
              simp only [Act.put, List.setIfInBounds_toArray, List.set_cons_zero, List.set_cons_succ]
              refine take_ (i := 9) (N := some 16) (oi := _) (v := .string (fileS s y).1) rfl rfl (by kernel_rfl) (by kernel_rfl) (by kernel_rfl) (fun _ _ _ h => h) (Or.inl ⟨by rfl, ?_⟩) ⟨kI, kd⟩ ?_
              · intro w2 hSw; go_simp
              simp only [Act.put, List.setIfInBounds_toArray, List.set_cons_zero, List.set_cons_succ]
              refine take_ (i := 10) (N := some 17) (oi := _) (v := .bool (fileS s y).2) rfl rfl (by kernel_rfl) (by kernel_rfl) (by kernel_rfl) (fun _ _ _ h => h) (Or.inl ⟨by rfl, ?_⟩) ⟨kI, kd⟩ ?_
              · intro w2 hSw; go_simp
              simp only [Act.put, List.setIfInBounds_toArray, List.set_cons_zero, List.set_cons_succ]
              refine wpAnyH_done (by kernel_rfl) ?_ _
              go_wp2_with fail
              refine wp_region_held (S := fun w' => w'.heap[w.heap.size]? = some (.cells cs 34 (0, 0)) ∧ w'.cell? (ad3.add k3) = some (.string y)) (by kernel_rfl) ?_
              change wpAnyH _ _ _ _ _ _ _ _ Wa.drew
              have gI : Wa.drew.heap[w.heap.size]? = some (.cells cs 34 (0, 0)) := kI
              have gd : Wa.drew.cell? (ad3.add k3) = some (.string y) := kd
              have gb : Below wq.heap.size wq Wa.drew := below_drew kb
              generalize Wa.drew = Wbd at *
              refine take_ (i := 0) (N := some 104) (oi := _) (v := .agg cs) rfl rfl (by kernel_rfl) (by kernel_rfl) (by kernel_rfl) (fun _ _ _ h => h) (Or.inl ⟨by rfl, ?_⟩) ⟨gI, gd⟩ ?_
              · intro w2 hSw; obtain ⟨qI, qd⟩ := hSw; exact run_load_state rfl rfl qI Tryd.underlying34 rfl HZ.out
              simp only [Act.put, List.setIfInBounds_toArray, List.set_cons_zero, List.set_cons_succ]
              refine take_ (i := 1) (N := some 105) (oi := _) (v := .slice (some ad3) NN.length c13) rfl rfl (by kernel_rfl) (by kernel_rfl) (by kernel_rfl) (fun _ _ _ h => h) (Or.inl ⟨by rfl, ?_⟩) ⟨gI, gd⟩ ?_
              · intro w2 hSw; obtain ⟨qI, qd⟩ := hSw; go_simp
              simp only [Act.put, List.setIfInBounds_toArray, List.set_cons_zero, List.set_cons_succ]
              refine take_ (i := 2) (N := some 106) (oi := _) (v := .int .i64 k3) rfl rfl (by kernel_rfl) (by kernel_rfl) (by kernel_rfl) (fun _ _ _ h => h) (Or.inl ⟨by rfl, ?_⟩) ⟨gI, gd⟩ ?_
              · intro w2 hSw; obtain ⟨qI, qd⟩ := hSw; go_simp
              simp only [Act.put, List.setIfInBounds_toArray, List.set_cons_zero, List.set_cons_succ]
              refine take_ (i := 3) (N := some 107) (oi := _) (v := .pointer (some (ad3.add k3))) rfl rfl (by kernel_rfl) (by kernel_rfl) (by kernel_rfl) (fun _ _ _ h => h) (Or.inl ⟨by rfl, ?_⟩) ⟨gI, gd⟩ ?_
              · intro w2 hSw; obtain ⟨qI, qd⟩ := hSw; go_simp
              simp only [Act.put, List.setIfInBounds_toArray, List.set_cons_zero, List.set_cons_succ]
              refine take_ (i := 4) (N := some 108) (oi := _) (v := .string y) rfl rfl (by kernel_rfl) (by kernel_rfl) (by kernel_rfl) (fun _ _ _ h => h) (Or.inl ⟨by rfl, ?_⟩) ⟨gI, gd⟩ ?_
              · intro w2 hSw; obtain ⟨qI, qd⟩ := hSw; go_simp
              simp only [Act.put, List.setIfInBounds_toArray, List.set_cons_zero, List.set_cons_succ]
              refine wpAnyH_one (i := 5) (by kernel_rfl) ?_
              refine wpOp_callN (N := some 109) (f := 12) (args := #[.agg cs, .string y]) (w1 := Wbd) rfl rfl rfl (by go_simp) ?_
              refine (HRF7.out Wbd y gb).mono ?_
              rintro e Wb ⟨rfl, hb⟩
              replace kI := (hb.block _ (blk_lt gI)).trans gI
              replace kd := (hb.cell (World.block_lt_of_cell? _ _ gd)).trans gd
              replace kb := gb.trans (hb.mono gb.size)
              refine ⟨_, rfl, ⟨kI, kd⟩, ?_⟩
              simp only [Act.put, List.setIfInBounds_toArray, List.set_cons_zero, List.set_cons_succ]
              clear gI gd gb hb
              refine take_ (i := 6) (N := some 103) (oi := _) (v := .tuple #[.string (fileS s y).1, .bool (fileS s y).2]) rfl rfl (by kernel_rfl) (by kernel_rfl) (by kernel_rfl) (fun _ _ _ h => h) (Or.inl ⟨by rfl, ?_⟩) ⟨kI, kd⟩ ?_
              · intro w2 hSw; go_simp
              simp only [Act.put, List.setIfInBounds_toArray, List.set_cons_zero, List.set_cons_succ]
              refine take_ (i := 7) (N := some 110) (oi := _) (v := .string (fileS s y).1) rfl rfl (by kernel_rfl) (by kernel_rfl) (by kernel_rfl) (fun _ _ _ h => h) (Or.inl ⟨by rfl, ?_⟩) ⟨kI, kd⟩ ?_
              · intro w2 hSw; go_simp; try with_reducible rfl
              simp only [Act.put, List.setIfInBounds_toArray, List.set_cons_zero, List.set_cons_succ]
              refine take_ (i := 8) (N := some 111) (oi := _) (v := .bool (fileS s y).2) rfl rfl (by kernel_rfl) (by kernel_rfl) (by kernel_rfl) (fun _ _ _ h => h) (Or.inl ⟨by rfl, ?_⟩) ⟨kI, kd⟩ ?_
              · intro w2 hSw; go_simp; try with_reducible rfl
              simp only [Act.put, List.setIfInBounds_toArray, List.set_cons_zero, List.set_cons_succ]
              refine take_ (i := 9) (N := some 18) (oi := _) (v := .string (fileS s y).1) rfl rfl (by kernel_rfl) (by kernel_rfl) (by kernel_rfl) (fun _ _ _ h => h) (Or.inl ⟨by rfl, ?_⟩) ⟨kI, kd⟩ ?_
              · intro w2 hSw; go_simp
              simp only [Act.put, List.setIfInBounds_toArray, List.set_cons_zero, List.set_cons_succ]
              refine take_ (i := 10) (N := some 19) (oi := _) (v := .bool (fileS s y).2) rfl rfl (by kernel_rfl) (by kernel_rfl) (by kernel_rfl) (fun _ _ _ h => h) (Or.inl ⟨by rfl, ?_⟩) ⟨kI, kd⟩ ?_
              · intro w2 hSw; go_simp
              simp only [Act.put, List.setIfInBounds_toArray, List.set_cons_zero, List.set_cons_succ]
              refine wpAnyH_done (by kernel_rfl) ?_ _
              generalize (fileS s y).1 = tt at *
              generalize (fileS s y).2 = bb at *
              have hbb : (bb != bb) = false := by cases bb <;> rfl
              go_wp2_with fail
              go_roundw
              case rel => exact ⟨k3 + 1, by omega, by go_num, ⟨kb⟩⟩
              case measure => simp [intOf]; omega
            · have kb9 := kb7.trans (hB3.out.mono kb7.size)
              go_wp2_with (go_at_call 5; refine (HAW.out _ kb9).mono ?_; rintro e W9 ⟨rfl, hb9⟩; have kb10 := kb9.trans (hb9.mono kb9.size); clear hb9)
              go_ret
              exact ⟨rfl, kb10⟩
end Go.Proofs.YtfoijbcdbcehiaaDoor.L4
