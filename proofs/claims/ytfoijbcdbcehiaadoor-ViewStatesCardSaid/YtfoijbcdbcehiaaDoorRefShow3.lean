import Derived.Test.YtfoijbcdbcehiaaDoorRefShow1
import Derived.Test.YtfoijbcdbcehiaaDoorSay
set_option linter.unusedVariables false
set_option linter.unusedSimpArgs false
namespace Go.Proofs.YtfoijbcdbcehiaaDoor.L4
open Go.RowKit Go.Proofs.YtfoijbcdbcehiaaDoorW.PrintWords

theorem waits_file (x : Wt) (h : x.f0 = 1) : joinS (waitsW x) sp = (⟨#[102, 105, 108, 101, 32]⟩ : ByteArray) ++ strOfNums (quL x.f1) := by
  apply ba_list
  rw [joinS_list]
  simp [waitsW, h, ByteArray.data_append, join_cons2, Lib.join_one]
theorem waits_text (x : Wt) (h : x.f0 ≠ 1) : joinS (waitsW x) sp = (⟨#[116, 101, 120, 116, 32]⟩ : ByteArray) ++ strOfNums (quL x.f1) := by
  apply ba_list
  rw [joinS_list]
  simp [waitsW, h, ByteArray.data_append, join_cons2, Lib.join_one]
theorem table_say (x : Fl) : joinS (tableW x) sp = strOfNums (quL (bytesOf x.f0)) ++ numS x.f1.length := by
  apply ba_list
  rw [joinS_list]
  simp [tableW, ByteArray.data_append, join_cons2, Lib.join_one, numS_list]

set_option maxRecDepth 100000 in
set_option maxHeartbeats 4000000 in
theorem refShow_waits (s : Sv) (w : World) (hs : s.Ok w) (hm : Sm s) : Calls Tryd.prog 9 #[s.v, .string (⟨#[119, 97, 105, 116, 115]⟩ : ByteArray)] w (Shown w (waitsS s)) := by
  have HI := InB.new s w
  unfold InB at HI
  have HC := Lib.hid (fun (W : World) (h : W.heap[w.heap.size]? = some (.cells s.cells 34 (0, 0))) => (show W.cell? ⟨w.heap.size, 24, none⟩ = some (.slice s.a24 s.l24.length s.c24) from InB.cell (s := s) h 24))
  have kB := Aside0.mk ((Below.refl w.heap.size w).alloc (Nat.le_refl _) (.cells s.cells 34))
  have HR := Aside0.mk hs.r24
  have HX := Aside0.mk hs.b24
  have HM := Aside0.mk hm
  clear hs hm
  unfold Sv.v
  generalize s.cells = cs at *
  go_enter Tryd.func9, Tryd.ntmps9
  go_wp2_with fail
  generalize w.alloc (.cells cs 34) = w1 at *
  go_loopw [6, 8] (fun v i wr => ∃ k : Nat, k ≤ s.l24.length ∧ i = .int .i64 k ∧ Aside0 (Kd.R Kd.string 9 wr w.heap.size (fun _ => True) v ((waitsS s).take k)) ∧ Aside0 (Below w.heap.size w wr) ∧ Aside0 (wr.heap[w.heap.size]? = some (.cells cs 34 (0, 0)))) (fun _ i _ => s.l24.length - (intOf i).toNat)
  case atStart => exact ⟨0, Nat.zero_le _, rfl, ⟨Kd.R_nil _ _ _ _ _⟩, kB, ⟨HI⟩⟩
  case round =>
    clear kB HI
    obtain ⟨k, hk, rfl, hO, hb, hI⟩ := hrel
    have hn24 := HM.out.l24
    have c24 := HC.out _ hI.out
    by_cases hlt : k < s.l24.length
    · obtain ⟨ad, A1, c1, e1, hx0, hx1, hl1, hr1⟩ := at_Wt HR.out k hlt
      have hmem : s.l24.getD k zWt ∈ s.l24 := by simp [List.getD_eq_getElem?_getD, List.getElem?_eq_getElem hlt]
      have hsm := HM.out.w24 _ hmem
      have hBx := (HX.out _ hmem).1
      have hrow : (waitsS s).take (k + 1) = (waitsS s).take k ++ [joinS (waitsW (s.l24.getD k zWt)) sp] := by
        rw [List.take_succ_eq_append_getElem (by simpa [waitsS] using hlt)]
        congr 2
        simp [waitsS, List.getD_eq_getElem?_getD, List.getElem?_eq_getElem hlt]
      have hq := quL_length' (s.l24.getD k zWt).f1
      have HW := Aside0.mk hrow
      clear hrow hmem
      generalize s.l24.getD k zWt = x at *
      have hqs : (strOfNums (quL x.f1)).size ≤ 50000 := by rw [strOfNums_size]; omega
      replace hx0 := (hb.out.cell (World.block_lt_of_cell? w _ hx0)).trans hx0
      replace hx1 := (hb.out.cell (World.block_lt_of_cell? w _ hx1)).trans hx1
      have hr2 := Kd.C_below hr1 hb.out
      have hlen : ((waitsS s).take k).length ≤ 10000 := Nat.le_trans (List.length_take_le _ _) (by omega)
      rw [e1] at c24
      clear e1 hr1
      by_cases hkind : x.f0 = 1
      all_goals
        first
          | (have hkb : (x.f0 == 1) = true := beq_iff_eq.mpr hkind
             have hsay := waits_file x hkind)
          | (have hkb : (x.f0 == 1) = false := beq_eq_false_iff_ne.mpr hkind
             have hsay := waits_text x hkind)
        have HS := Aside0.mk hsay
        clear hsay hkind
        go_wp2_with (first
          | (go_at_call 23; refine (refQuote_any _ _ x.f1 _ hr2 hl1 hBx (by omega)).mono ?_; rintro e W3 ⟨rfl, hb3⟩; have kO := Kd.R_below hO.out hb3; have kb := hb.out.trans (hb3.mono hb.out.size); have kI := (hb3.block _ (blk_lt hI.out)).trans hI.out; clear hb3)
          | ((with_reducible refine gate_dst (N := 122) rfl ?_); refine Kd.R_append Kd.string (w0 := w) w.heap.size rfl (.tmp 111) (.tmp 121) 38 9 (.string ⟨#[]⟩) 16 rfl Tryd.underlying38 infoStr rfl (by decide) (by omega) u6 ((waitsS s).take k) ((⟨#[102, 105, 108, 101, 32]⟩ : ByteArray) ++ strOfNums (quL x.f1)) [.string ((⟨#[102, 105, 108, 101, 32]⟩ : ByteArray) ++ strOfNums (quL x.f1))] (fun _ => True) (fun _ => False) rfl rfl ?aP (fun _ hk => hk.elim) (fun _ _ => trivial) kO kb kb.size ?aL ?_; (case aP => exact rfl); (case aL => omega); intro v1 W4 hO4 hb4 hg4 hat4; have kI4 := blk_grown kI hg4 (Kd.R_ne kO kI (by decide)); clear kO kb kI hg4 hat4)
          | ((with_reducible refine gate_dst (N := 122) rfl ?_); refine Kd.R_append Kd.string (w0 := w) w.heap.size rfl (.tmp 111) (.tmp 121) 38 9 (.string ⟨#[]⟩) 16 rfl Tryd.underlying38 infoStr rfl (by decide) (by omega) u6 ((waitsS s).take k) ((⟨#[116, 101, 120, 116, 32]⟩ : ByteArray) ++ strOfNums (quL x.f1)) [.string ((⟨#[116, 101, 120, 116, 32]⟩ : ByteArray) ++ strOfNums (quL x.f1))] (fun _ => True) (fun _ => False) rfl rfl ?aP (fun _ hk => hk.elim) (fun _ _ => trivial) kO kb kb.size ?aL ?_; (case aP => exact rfl); (case aL => omega); intro v1 W4 hO4 hb4 hg4 hat4; have kI4 := blk_grown kI hg4 (Kd.R_ne kO kI (by decide)); clear kO kb kI hg4 hat4))
        go_roundw
        case rel =>
          refine ⟨k + 1, by omega, by go_num, ⟨?_⟩, ⟨hb4⟩, ⟨kI4⟩⟩
          rw [HW.out, HS.out]
          exact hO4
        case measure => simp [intOf]; omega
    · obtain rfl : k = s.l24.length := by omega
      go_wp2_with fail
      have h1 := hO.out
      have hl : (waitsS s).length = s.l24.length := by simp [waitsS]
      rw [← hl, List.take_length] at h1
      have hfin : Shown w (waitsS s) (.returned (.tuple #[u6, .bool true])) wr := ⟨_, rfl, h1, hb.out⟩
      go_ret2
      exact hfin
end Go.Proofs.YtfoijbcdbcehiaaDoor.L4
