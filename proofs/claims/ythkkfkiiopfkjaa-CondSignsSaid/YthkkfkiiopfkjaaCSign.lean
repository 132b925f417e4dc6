import Derived.Test.YthkkfkiiopfkjaaCAwk
set_option linter.unusedVariables false
set_option linter.unusedSimpArgs false
namespace Go.Proofs.Ythkkfkiiopfkjaa.L4
open Go.RowKit Go.Proofs.YthkkfkiiopfkjaaW.PrintWords Go.Proofs.YthkkfkiiopfkjaaW.PrintLast

set_option maxRecDepth 100000 in
set_option maxHeartbeats 4000000 in
/-- what the law's closure says of a sign -/
theorem sign_any (m la lb n : Nat) (hm : m < 6) (hn : n < 65536) (hla : la ≤ 1) (hlb : lb ≤ 1) (sign : ByteArray) (hsg : bytesOf sign = List.replicate la 32 ++ (bytesOf (sgs.getD m ⟨#[]⟩) ++ List.replicate lb 32))
    (w : World) (bn bk bs : Nat) (x : Int) (hv : Value) (hN : Cell1 w bn 22 (.int .u16 n)) (hk : w.heap[bk]? = some (.cells (stCs (.slice none 0 0) (.slice none 0 0) 0) 36 (0, 0))) (hs : w.heap[bs]? = some (.cells (stCs (.slice none 0 0) hv x) 36 (0, 0))) :
    Calls Try.prog 5 #[.string sign, ptr bn, ptr bk, ptr bs] w fun e w' => e = .returned (.bool (sgR m x n)) ∧ Below w.heap.size w w' := by
  have hd := PCondSigns.palinodelaw27_digits.calls 65537 (n : Int) (digs n) w (digits_ev n hn)
  have hz0 := size_of hsg
  simp only [List.length_append, List.length_replicate] at hz0
  have hz1 : (bytesOf (sgs.getD m ⟨#[]⟩)).length ≤ 2 := by
    obtain rfl | rfl | rfl | rfl | rfl | rfl : m = 0 ∨ m = 1 ∨ m = 2 ∨ m = 3 ∨ m = 4 ∨ m = 5 := by omega
    all_goals decide
  have hdl : (digs n).length ≤ 5 := digs_len5 n hn
  have htxt : bytesOf ((wLine ++ sign) ++ strOfNums (digs n)) = [108, 105, 110, 101] ++ (List.replicate la 32 ++ (bytesOf (sgs.getD m ⟨#[]⟩) ++ (List.replicate lb 32 ++ digs n))) := by
    rw [bytesOf_append, bytesOf_append, hsg, bytesOf_strOfNums _ (fun c hc => by have := digs_range n c hc; omega), show bytesOf wLine = [108, 105, 110, 101] from rfl]
    simp
  have hsz := size_of htxt
  simp only [List.length_append, List.length_replicate, List.length_cons, List.length_nil] at hsz
  have hp := parse_line ((wLine ++ sign) ++ strOfNums (digs n)) m n hm hn la lb hla hlb (by omega) htxt
  unfold ParseTo at hp
  have hss : (strOfNums (digs n)).size ≤ 5 := by rw [strOfNums_size]; exact hdl
  have hls : (wLine ++ sign).size ≤ 8 := by rw [size_of (bytesOf_append wLine sign), List.length_append, bytesOf_length, bytesOf_length]; have : wLine.size = 4 := rfl; omega
  have hq0 : sign.size ≤ 4 := by omega
  have hq1 : (9223372036854775807 < 4 + sign.size) = False := eq_false (by omega)
  have hcn := hN.at
  have HZ := Lib.hid (show (Try.prog.info? 36).map (·.size) = some (stCs (.slice none 0 0) (.slice none 0 0) 0).size by kernel_rfl)
  have HZ2 := Lib.hid (show (Try.prog.info? 36).map (·.size) = some (stCs (.slice none 0 0) hv x).size by kernel_rfl)
  clear htxt hsz hz0 hz1 hsg
  unfold wLine at *
  go_enter Try.func5, Try.ntmps5
  go_wp2_with fail
  refine hd.mono ?_
  rintro e w1 ⟨v, rfl, hR, hb1⟩
  obtain ⟨A, cc, rfl, hl, hC⟩ := Kd.R_reads hR
  have hcv := Kd.C_string (P := Try.prog) (src := 23) (dst := 9) (e := 5) (c := cc) Try.underlying23 Try.underlying5 Try.underlying9 hC
  clear hd hR hC
  generalize hD : strOfNums (digs n) = D at *
  have hq2 : (9223372036854775807 < 4 + sign.size + D.size) = False := eq_false (by omega)
  go_wp2_with fail
  refine (hp w1).mono ?_
  rintro e w2 ⟨G, b, K, caps, rfl, hb2, hR2, hB2⟩
  have hBB := hb1.trans (hB2.mono hb1.size)
  have HK := Aside0.mk (blk_below hk hBB)
  have HS := Aside0.mk (blk_below hs hBB)
  have HR := Aside0.mk hR2
  have HB := Aside0.mk hb2
  clear hp hcv hk hs hR2 hb2 hN hcn
  go_wp2_with (first
    | ((with_reducible refine gate_dst (N := 25) rfl ?_); refine gate_guard (by rfl) ?_; refine wpList_load_row rfl 36 (.tmp 2) rfl bk rfl 36 _ (0, 0) _ HK.out Try.underlying36 rfl HZ.out ?_)
    | ((with_reducible refine gate_dst (N := 26) rfl ?_); refine gate_guard (by rfl) ?_; refine wpList_load_row rfl 36 (.tmp 3) rfl bs rfl 36 _ (0, 0) _ HS.out Try.underlying36 rfl HZ2.out ?_))
  refine (holds_Hv (r := sgR m x n) HB.out (stCs (.slice none 0 0) (.slice none 0 0) 0) (stCs (.slice none 0 0) hv x) ?_).mono ?_
  · intro w3 h3 _ e2
    exact num_Hv hm (NumC.below HR.out h3) (StC.of e2)
  rintro e w4 ⟨rfl, hb4⟩
  go_wp2_with fail
  go_ret
  exact ⟨rfl, hBB.trans (hb4.mono hBB.size)⟩
end Go.Proofs.Ythkkfkiiopfkjaa.L4
