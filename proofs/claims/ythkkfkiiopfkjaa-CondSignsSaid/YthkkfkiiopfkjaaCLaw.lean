import Derived.Test.YthkkfkiiopfkjaaCEnd
set_option linter.unusedVariables false
set_option linter.unusedSimpArgs false
namespace Go.Proofs.Ythkkfkiiopfkjaa.L4
open Go.RowKit Go.Proofs.YthkkfkiiopfkjaaW.PrintWords Go.Proofs.YthkkfkiiopfkjaaW.PrintLast

theorem u8info_ex : ∃ i, Try.prog.info? 5 = some i ∧ i.size = 1 := by
  have h : (Try.prog.info? 5).map (·.size) = some 1 := by kernel_rfl
  obtain ⟨i, h1, h2⟩ := Option.map_eq_some_iff.1 h
  exact ⟨i, h1, h2⟩
/-- a goal that the walk leaves as it stands -/
structure Hold_ (p : Prop) : Prop where mk :: (out : p)
theorem wpList_ok {P : Program} {ops rest : _} {o : Oper} {a : Act} {w w1 : World} {v : Value} {N : Option Tmp} {Q : Exit → Act → World → Prop} (hN : o.dst = N) (hg : o.guard = none) (hrun : (execOp a.eval o).run P w = .ok (.value v) w1) (h : wpList P ops Q rest (a.put N v) w1) : wpList P ops Q (o :: rest) a w :=
  wpList_plain hg fun K hK => by
    subst hN
    unfold Oper.wp
    rw [hrun]
    exact hK _ _ h
theorem hold_ {p : Prop} (h : Hold_ p) : p := h.out

set_option maxRecDepth 100000 in
set_option maxHeartbeats 4000000 in
theorem law_long (x n y z : Nat) (A : Option Addr) (k c : Nat) (w : World) (hMx : Mx w) (hk : 100 < k) :
    Calls Try.prog 3 #[.int .u16 x, .int .u16 n, .slice A k c, .int .u8 y, .int .u8 z] w fun e w' => e = .returned (.bool true) ∧ Below w.heap.size w w' := by
  have hb := below_alloc (Below.refl w.heap.size w) (.cells #[.int .u16 n] 22)
  have hm1 := hMx.below hb
  have q1 : ((k : Int) > 100) = True := eq_true (by omega)
  have q2 : ((100 : Int) < (k : Int)) = True := eq_true (by omega)
  have q3 : (100 < k) = True := eq_true hk
  go_enter Try.func3, Try.ntmps3
  go_wp2_with fail
  refine (awake_any _ hm1).mono ?_
  rintro e w2 ⟨rfl, hb2⟩
  go_wp2_with fail
  go_ret
  exact ⟨rfl, hb.trans (hb2.mono hb.size)⟩

set_option maxRecDepth 100000 in
set_option maxHeartbeats 16000000 in
theorem law_main (x n y z : Nat) (hx : x < 65536) (hn : n < 65536) (hy : y < 256) (hz : z < 256) (A : Option Addr) (l : List Int) (c : Nat) (w : World) (hMx : Mx w) (hk : l.length ≤ 100) (hc : l.length ≤ c) (hC : Kd.C (Kd.int .u8) w A l.length l) (hl : ∀ v ∈ l, 0 ≤ v ∧ v ≤ 255) :
    Calls Try.prog 3 #[.int .u16 x, .int .u16 n, .slice A l.length c, .int .u8 y, .int .u8 z] w fun e w' => e = .returned (.bool true) ∧ Below w.heap.size w w' := by
  have q1 : ((l.length : Int) > 100) = False := eq_false (by omega)
  have q2 : ((100 : Int) < (l.length : Int)) = False := eq_false (by omega)
  have q3 : (100 < l.length) = False := eq_false (by omega)
  go_enter Try.func3, Try.ntmps3
  go_wp2_with ((with_reducible refine gate_dst (N := 39) rfl ?_); refine hold_ ?_)
  have hBW : Below w.heap.size w ((w.alloc (.cells #[.int .u16 n] 22)).alloc (.cells #[.slice none 0 0, .slice A l.length c, .bool false, .int .i64 x, .bool false, .int .i64 0, .int .i64 0, .int .i64 0, .int .i64 0, .int .i64 0, .slice none 0 0, .slice none 0 0, .bool false, .slice none 0 0, .bool false, .int .i64 0, .int .i64 0, .int .i64 0, .int .i64 0, .int .i64 0, .bool false, .bool false, .bool false, .slice none 0 0, .slice none 0 0, .slice none 0 0, .slice none 0 0] 36)) := below_alloc (below_alloc (Below.refl w.heap.size w) _) _
  have hbn : Cell1 ((w.alloc (.cells #[.int .u16 n] 22)).alloc (.cells #[.slice none 0 0, .slice A l.length c, .bool false, .int .i64 x, .bool false, .int .i64 0, .int .i64 0, .int .i64 0, .int .i64 0, .int .i64 0, .slice none 0 0, .slice none 0 0, .bool false, .slice none 0 0, .bool false, .int .i64 0, .int .i64 0, .int .i64 0, .int .i64 0, .int .i64 0, .bool false, .bool false, .bool false, .slice none 0 0, .slice none 0 0, .slice none 0 0, .slice none 0 0] 36)) w.heap.size 22 (.int .u16 n) := (Cell1.new w _ _).alloc _
  have hbs : ((w.alloc (.cells #[.int .u16 n] 22)).alloc (.cells #[.slice none 0 0, .slice A l.length c, .bool false, .int .i64 x, .bool false, .int .i64 0, .int .i64 0, .int .i64 0, .int .i64 0, .int .i64 0, .slice none 0 0, .slice none 0 0, .bool false, .slice none 0 0, .bool false, .int .i64 0, .int .i64 0, .int .i64 0, .int .i64 0, .int .i64 0, .bool false, .bool false, .bool false, .slice none 0 0, .slice none 0 0, .slice none 0 0, .slice none 0 0] 36)).heap[w.heap.size + 1]? = some (.cells (stCs (.slice none 0 0) (.slice A l.length c) x) 36 (0, 0)) := by
    have := heap_alloc_new (w.alloc (.cells #[.int .u16 n] 22)) (.cells #[.slice none 0 0, .slice A l.length c, .bool false, .int .i64 x, .bool false, .int .i64 0, .int .i64 0, .int .i64 0, .int .i64 0, .int .i64 0, .slice none 0 0, .slice none 0 0, .bool false, .slice none 0 0, .bool false, .int .i64 0, .int .i64 0, .int .i64 0, .int .i64 0, .int .i64 0, .bool false, .bool false, .bool false, .slice none 0 0, .slice none 0 0, .slice none 0 0, .slice none 0 0] 36)
    simp only [World.size_alloc] at this
    exact this
  generalize ((w.alloc (.cells #[.int .u16 n] 22)).alloc (.cells #[.slice none 0 0, .slice A l.length c, .bool false, .int .i64 x, .bool false, .int .i64 0, .int .i64 0, .int .i64 0, .int .i64 0, .int .i64 0, .slice none 0 0, .slice none 0 0, .bool false, .slice none 0 0, .bool false, .int .i64 0, .int .i64 0, .int .i64 0, .int .i64 0, .int .i64 0, .bool false, .bool false, .bool false, .slice none 0 0, .slice none 0 0, .slice none 0 0, .slice none 0 0] 36)) = W at *
  generalize hb1 : w.heap.size = bn at *
  refine Hold_.mk ?_
  have hBz : Below bn w (W.alloc (.cells #[.slice none 0 0, .slice none 0 0, .bool false, .int .i64 0, .bool false, .int .i64 0, .int .i64 0, .int .i64 0, .int .i64 0, .int .i64 0, .slice none 0 0, .slice none 0 0, .bool false, .slice none 0 0, .bool false, .int .i64 0, .int .i64 0, .int .i64 0, .int .i64 0, .int .i64 0, .bool false, .bool false, .bool false, .slice none 0 0, .slice none 0 0, .slice none 0 0, .slice none 0 0] 36)) := hBW.alloc (hb1 ▸ hBW.size) _
  have hbk := heap_alloc_new W (.cells #[.slice none 0 0, .slice none 0 0, .bool false, .int .i64 0, .bool false, .int .i64 0, .int .i64 0, .int .i64 0, .int .i64 0, .int .i64 0, .slice none 0 0, .slice none 0 0, .bool false, .slice none 0 0, .bool false, .int .i64 0, .int .i64 0, .int .i64 0, .int .i64 0, .int .i64 0, .bool false, .bool false, .bool false, .slice none 0 0, .slice none 0 0, .slice none 0 0, .slice none 0 0] 36)
  have hbn2 := hbn.alloc (.cells #[.slice none 0 0, .slice none 0 0, .bool false, .int .i64 0, .bool false, .int .i64 0, .int .i64 0, .int .i64 0, .int .i64 0, .int .i64 0, .slice none 0 0, .slice none 0 0, .bool false, .slice none 0 0, .bool false, .int .i64 0, .int .i64 0, .int .i64 0, .int .i64 0, .int .i64 0, .bool false, .bool false, .bool false, .slice none 0 0, .slice none 0 0, .slice none 0 0, .slice none 0 0] 36)
  have hbs2 := blk_alloc hbs (.cells #[.slice none 0 0, .slice none 0 0, .bool false, .int .i64 0, .bool false, .int .i64 0, .int .i64 0, .int .i64 0, .int .i64 0, .int .i64 0, .slice none 0 0, .slice none 0 0, .bool false, .slice none 0 0, .bool false, .int .i64 0, .int .i64 0, .int .i64 0, .int .i64 0, .int .i64 0, .bool false, .bool false, .bool false, .slice none 0 0, .slice none 0 0, .slice none 0 0, .slice none 0 0] 36)
  have HZ0 := Lib.hid (show (Try.prog.info? 36).map (·.size) = some ((#[.slice none 0 0, .slice none 0 0, .bool false, .int .i64 0, .bool false, .int .i64 0, .int .i64 0, .int .i64 0, .int .i64 0, .int .i64 0, .slice none 0 0, .slice none 0 0, .bool false, .slice none 0 0, .bool false, .int .i64 0, .int .i64 0, .int .i64 0, .int .i64 0, .int .i64 0, .bool false, .bool false, .bool false, .slice none 0 0, .slice none 0 0, .slice none 0 0, .slice none 0 0] : Array Value)).size by kernel_rfl)
  have HK0 := Aside0.mk hbk
  clear hbk
  refine wpList_ok (N := some 39) (v := .agg #[.slice none 0 0, .slice none 0 0, .bool false, .int .i64 0, .bool false, .int .i64 0, .int .i64 0, .int .i64 0, .int .i64 0, .int .i64 0, .slice none 0 0, .slice none 0 0, .bool false, .slice none 0 0, .bool false, .int .i64 0, .int .i64 0, .int .i64 0, .int .i64 0, .int .i64 0, .bool false, .bool false, .bool false, .slice none 0 0, .slice none 0 0, .slice none 0 0, .slice none 0 0]) (w1 := W) rfl rfl (by go_simp) ?_
  simp only [Act.put, List.setIfInBounds_toArray, List.set_cons_zero, List.set_cons_succ]
  refine wpList_ok (N := some 12) (v := ptr W.heap.size) (w1 := W.alloc (.cells #[.slice none 0 0, .slice none 0 0, .bool false, .int .i64 0, .bool false, .int .i64 0, .int .i64 0, .int .i64 0, .int .i64 0, .int .i64 0, .slice none 0 0, .slice none 0 0, .bool false, .slice none 0 0, .bool false, .int .i64 0, .int .i64 0, .int .i64 0, .int .i64 0, .int .i64 0, .bool false, .bool false, .bool false, .slice none 0 0, .slice none 0 0, .slice none 0 0, .slice none 0 0] 36)) rfl rfl (by go_simp) ?_
  simp only [Act.put, List.setIfInBounds_toArray, List.set_cons_zero, List.set_cons_succ]
  refine wpList_store_row rfl 36 (.tmp 12) (.tmp 39) rfl W.heap.size #[.slice none 0 0, .slice none 0 0, .bool false, .int .i64 0, .bool false, .int .i64 0, .int .i64 0, .int .i64 0, .int .i64 0, .int .i64 0, .slice none 0 0, .slice none 0 0, .bool false, .slice none 0 0, .bool false, .int .i64 0, .int .i64 0, .int .i64 0, .int .i64 0, .int .i64 0, .bool false, .bool false, .bool false, .slice none 0 0, .slice none 0 0, .slice none 0 0, .slice none 0 0] rfl rfl 36 #[.slice none 0 0, .slice none 0 0, .bool false, .int .i64 0, .bool false, .int .i64 0, .int .i64 0, .int .i64 0, .int .i64 0, .int .i64 0, .slice none 0 0, .slice none 0 0, .bool false, .slice none 0 0, .bool false, .int .i64 0, .int .i64 0, .int .i64 0, .int .i64 0, .int .i64 0, .bool false, .bool false, .bool false, .slice none 0 0, .slice none 0 0, .slice none 0 0, .slice none 0 0] HK0.out HZ0.out rfl (by kernel_rfl) ?_
  rw [setRow_self _ _ _ _ _ HK0.out]
  simp only [Act.put, List.setIfInBounds_toArray, List.set_cons_zero, List.set_cons_succ]
  clear hbn hbs hBW
  generalize W.alloc (.cells #[.slice none 0 0, .slice none 0 0, .bool false, .int .i64 0, .bool false, .int .i64 0, .int .i64 0, .int .i64 0, .int .i64 0, .int .i64 0, .slice none 0 0, .slice none 0 0, .bool false, .slice none 0 0, .bool false, .int .i64 0, .int .i64 0, .int .i64 0, .int .i64 0, .int .i64 0, .bool false, .bool false, .bool false, .slice none 0 0, .slice none 0 0, .slice none 0 0, .slice none 0 0] 36) = W2 at *
  generalize W.heap.size = bk at *
  have HN := hbn2
  have HKb := Aside0.mk (show W2.heap[bk]? = some (.cells (stCs (.slice none 0 0) (.slice none 0 0) 0) 36 (0, 0)) from HK0.out)
  have HSb := Aside0.mk hbs2
  have HBz := Aside0.mk hBz
  clear hbn2 HK0 hbs2 hBz HZ0
  go_wp2_with fail
  refine (sign_any 4 0 0 n (by decide) hn (by decide) (by decide) ⟨#[60]⟩ rfl W2 bn bk (bn + 1) x (.slice A l.length c) HN HKb.out HSb.out).mono ?_
  rintro e w3 ⟨rfl, hb⟩
  replace HN := HN.below hb
  replace HKb := Aside0.mk (blk_below HKb.out hb)
  replace HSb := Aside0.mk (blk_below HSb.out hb)
  replace HBz := Aside0.mk (HBz.out.trans (hb.mono (hb1 ▸ HBz.out.size)))
  clear hb
  go_wp2_with fail
  refine (sign_any 3 1 1 n (by decide) hn (by decide) (by decide) ⟨#[32, 61, 32]⟩ rfl w3 bn bk (bn + 1) x (.slice A l.length c) HN HKb.out HSb.out).mono ?_
  rintro e w4 ⟨rfl, hb⟩
  replace HN := HN.below hb
  replace HKb := Aside0.mk (blk_below HKb.out hb)
  replace HSb := Aside0.mk (blk_below HSb.out hb)
  replace HBz := Aside0.mk (HBz.out.trans (hb.mono (hb1 ▸ HBz.out.size)))
  clear hb
  go_wp2_with fail
  refine (sign_any 5 1 0 n (by decide) hn (by decide) (by decide) ⟨#[32, 62]⟩ rfl w4 bn bk (bn + 1) x (.slice A l.length c) HN HKb.out HSb.out).mono ?_
  rintro e w5 ⟨rfl, hb⟩
  replace HN := HN.below hb
  replace HKb := Aside0.mk (blk_below HKb.out hb)
  replace HSb := Aside0.mk (blk_below HSb.out hb)
  replace HBz := Aside0.mk (HBz.out.trans (hb.mono (hb1 ▸ HBz.out.size)))
  clear hb
  have tri : ∃ a b d : Bool, (a = decide (x < n) ∧ b = decide (x = n) ∧ d = decide (n < x)) ∧ ((a = true ∧ b = false ∧ d = false) ∨ (a = false ∧ b = true ∧ d = false) ∨ (a = false ∧ b = false ∧ d = true)) := by
    refine ⟨_, _, _, ⟨rfl, rfl, rfl⟩, ?_⟩
    simp only [decide_eq_true_eq, decide_eq_false_iff_not]
    omega
  obtain ⟨a, b, d, ⟨ha, hb', hd⟩, tri⟩ := tri
  have s4 : sgR 4 (x : Int) (n : Int) = a := by rw [ha]; simp [sgR]
  have s3 : sgR 3 (x : Int) (n : Int) = b := by rw [hb']; simp [sgR]; omega
  have s5 : sgR 5 (x : Int) (n : Int) = d := by rw [hd]; simp [sgR]
  have s1 : sgR 1 (x : Int) (n : Int) = !d := by
    rw [hd]; unfold sgR
    by_cases h : n < x
    · rw [decide_eq_true h]; exact decide_eq_false (by omega)
    · rw [decide_eq_false h]; exact decide_eq_true (by omega)
  have s2 : sgR 2 (x : Int) (n : Int) = !a := by
    rw [ha]; unfold sgR
    by_cases h : x < n
    · rw [decide_eq_true h]; exact decide_eq_false (by omega)
    · rw [decide_eq_false h]; exact decide_eq_true (by omega)
  have s0 : sgR 0 (x : Int) (n : Int) = !b := by rw [hb']; simp [sgR]; omega
  have t1 : decide ((x : Int) < (n : Int)) = a := by rw [ha]; simp
  have t2 : ((x : Int) == (n : Int)) = b := by rw [hb']; by_cases h : x = n <;> simp [h]; omega
  have t3 : decide ((n : Int) < (x : Int)) = d := by rw [hd]; simp
  have t1' : decide (x < n) = a := ha.symm
  have t3' : decide (n < x) = d := hd.symm
  have t2' : (x == n) = b := by rw [hb']; by_cases h : x = n <;> simp [h]
  clear ha hb' hd
  have hcn := HN.at
  obtain ⟨P, M, Rr, Q, Kk, hPQ, g1, g2, g3, g4, g5, hM0⟩ := pq_facts l.length y z hk
  have g6 : ((M : Int) = 0) = False := eq_false (by omega)
  have g7 : (M = 0) = False := eq_false hM0
  have HPQ := Aside0.mk hPQ
  clear hPQ hM0 tri
  go_wp2_with fail
  refine (sign_any 1 0 0 n (by decide) hn (by decide) (by decide) ⟨#[60, 61]⟩ rfl w5 bn bk (bn + 1) x (.slice A l.length c) HN HKb.out HSb.out).mono ?_
  rintro e w6 ⟨rfl, hb⟩
  replace HN := HN.below hb
  replace HKb := Aside0.mk (blk_below HKb.out hb)
  replace HSb := Aside0.mk (blk_below HSb.out hb)
  replace HBz := Aside0.mk (HBz.out.trans (hb.mono (hb1 ▸ HBz.out.size)))
  clear hb
  go_wp2_with fail
  refine (sign_any 2 0 1 n (by decide) hn (by decide) (by decide) ⟨#[62, 61, 32]⟩ rfl w6 bn bk (bn + 1) x (.slice A l.length c) HN HKb.out HSb.out).mono ?_
  rintro e w7 ⟨rfl, hb⟩
  replace HN := HN.below hb
  replace HKb := Aside0.mk (blk_below HKb.out hb)
  replace HSb := Aside0.mk (blk_below HSb.out hb)
  replace HBz := Aside0.mk (HBz.out.trans (hb.mono (hb1 ▸ HBz.out.size)))
  clear hb
  go_wp2_with fail
  refine (sign_any 0 0 0 n (by decide) hn (by decide) (by decide) ⟨#[33, 61]⟩ rfl w7 bn bk (bn + 1) x (.slice A l.length c) HN HKb.out HSb.out).mono ?_
  rintro e w8 ⟨rfl, hb⟩
  replace HN := HN.below hb
  replace HKb := Aside0.mk (blk_below HKb.out hb)
  replace HSb := Aside0.mk (blk_below HSb.out hb)
  replace HBz := Aside0.mk (HBz.out.trans (hb.mono (hb1 ▸ HBz.out.size)))
  clear hb
  go_wp2_with fail
  have hB8 : Below w.heap.size w w8 := by rw [hb1]; exact HBz.out
  have hC8 := Kd.C_below hC hB8
  have hMx8 := Aside0.mk (hMx.below hB8)
  have hp1 := parse_is l hl hk
  have hlen1 := quL_len l
  obtain ⟨hPQ1, hPQ2⟩ := HPQ.out
  obtain ⟨iu, hiu1, hiu2⟩ := u8info_ex
  obtain ⟨A', hrun, hreads, hcap'⟩ := print_mid_int (P := Try.prog) (k := .u8) 23 5 Try.underlying23 hiu1 hiu2 A c l (P : Int) (Q : Int) (by omega) (by omega) (by omega) hc
  simp only [Int.toNat_natCast] at hrun hreads hcap'
  have hsub : ∀ x ∈ (l.take Q).drop P, 0 ≤ x ∧ x ≤ 255 := fun x hx => hl x (List.mem_of_mem_take (List.mem_of_mem_drop hx))
  have hsl : ((l.take Q).drop P).length ≤ 100 := by rw [List.length_drop, List.length_take]; omega
  have hp2 := parse_has _ hsub hsl
  have hp3 := parse_changed
  have hlen2 := quL_len ((l.take Q).drop P)
  have hq2 := Pure.refQuote_ev _ hsub (by omega) 300 (by omega)
  have hhas := fun (w' : World) (G : Nat) (v : Value) (B1 B2 : Nat) (pv : Value) => @has_says w' G v l hl hk P Q hPQ1 hPQ2
  have HHas := Aside0.mk hhas
  have HRd := Aside0.mk hreads
  clear hhas hPQ1 hPQ2 hreads hiu1 hiu2
  generalize hsb : (l.take Q).drop P = sb at *
  refine (PCondSigns.palinoderef04_Quote.calls 300 A c l _ w8 hC8 hc (Pure.refQuote_ev l hl (by omega) 300 (by omega))).mono ?_
  rintro e w9 ⟨rfl, hb9⟩
  have hsz1 : (strOfNums (quL l)).size ≤ 402 := by rw [strOfNums_size]; omega
  unfold ParseTo fIs at hp1
  generalize strOfNums (quL l) = D1 at *
  have hz1 : (9223372036854775807 < 7 + D1.size) = False := eq_false (by omega)
  go_wp2_with fail
  refine (hp1 w9).mono ?_
  rintro e w10 ⟨G1, b1, K1, caps1, rfl, hbi, hRi, hb10⟩
  have hB10 := (hB8.trans (hb9.mono hB8.size)).trans (hb10.mono (Nat.le_trans hB8.size hb9.size))
  have hC10 := Kd.C_below hC hB10
  have hCs : Kd.C (Kd.int .u8) w10 A' sb.length sb := Kd.C_of_reads (d := (0 : Int)) (h1 := fun _ => rfl) (HRd.out w10 (Kd.reads_of_C (enc := Value.int .u8) (d := (0 : Int)) (h1 := fun _ => rfl) hC10))
  have HBi := Aside0.mk hbi
  have HRi := Aside0.mk hRi
  have HKb2 := Aside0.mk (blk_below HKb.out (hb9.trans (hb10.mono hb9.size)))
  have HSb2 := Aside0.mk (blk_below HSb.out (hb9.trans (hb10.mono hb9.size)))
  clear hp1 hbi hRi hC8 hz1 hsz1 HN hcn HKb HSb hb9 hb10 hB8 hMx8
  go_wp2_with fail
  refine (PCondSigns.palinoderef04_Quote.calls 300 A' (c - P) sb _ w10 hCs hcap' hq2).mono ?_
  rintro e w11 ⟨rfl, hb11⟩
  have hsz2 : (strOfNums (quL sb)).size ≤ 402 := by rw [strOfNums_size]; omega
  unfold ParseTo fHas at hp2
  generalize strOfNums (quL sb) = D2 at *
  have hz2 : (9223372036854775807 < 9 + D2.size) = False := eq_false (by omega)
  clear hrun hCs hq2 HRd hcap'
  go_wp2_with fail
  refine (hp2 w11).mono ?_
  rintro e w12 ⟨G2, b2, K2, caps2, rfl, hbh, hRh, hb12⟩
  have HBh := Aside0.mk hbh
  have HRh := Aside0.mk hRh
  clear hp2 hbh hRh hz2 hsz2
  unfold ParseTo at hp3
  go_wp2_with fail
  refine (hp3 w12).mono ?_
  rintro e w13 ⟨G3, b3, K3, caps3, rfl, hbc, hRc, hb13⟩
  have g12 : Below w10.heap.size w10 w13 := (hb11.trans (hb12.mono hb11.size)).trans (hb13.mono (Nat.le_trans hb11.size hb12.size))
  have HB13 := Aside0.mk (hB10.trans (g12.mono hB10.size))
  have HI := Aside0.mk (And.intro (blk_below HBi.out g12) (TxtC.below HRi.out g12))
  have HH := Aside0.mk (And.intro (blk_below HBh.out hb13) (TxtC.below HRh.out hb13))
  have HCc := Aside0.mk (And.intro hbc hRc)
  have HK := Aside0.mk (blk_below HKb2.out g12)
  have HS := Aside0.mk (blk_below HSb2.out g12)
  have HC := Aside0.mk (Kd.C_below hC10 g12)
  have HM := Aside0.mk (hMx.below (hB10.trans (g12.mono hB10.size)))
  have HZ1 := Lib.hid (show (Try.prog.info? 36).map (·.size) = some (stCs (.slice none 0 0) (.slice none 0 0) 0).size by kernel_rfl)
  have HZ2 := Lib.hid (show (Try.prog.info? 36).map (·.size) = some (stCs (.slice none 0 0) (.slice A l.length c) x).size by kernel_rfl)
  clear hp3 hbc hRc hb11 hb12 hb13 g12 hB10 hC10 HBi HRi HBh HRh HKb2 HSb2 hMx hC HBz HPQ
  go_wp2_with (first
    | ((with_reducible refine gate_dst (N := 139) rfl ?_); refine gate_guard (by rfl) ?_; refine wpList_load_row rfl 36 (.tmp 12) rfl bk rfl 36 _ (0, 0) _ HK.out Try.underlying36 rfl HZ1.out ?_)
    | ((with_reducible refine gate_dst (N := 140) rfl ?_); refine gate_guard (by rfl) ?_; refine wpList_load_row rfl 36 (.tmp 11) rfl (bn + 1) rfl 36 _ (0, 0) _ HS.out Try.underlying36 rfl HZ2.out ?_))
  refine (holds_Hv (r := true) HI.out.1 (stCs (.slice none 0 0) (.slice none 0 0) 0) (stCs (.slice none 0 0) (.slice A l.length c) x) ?_).mono ?_
  · intro v2 h2 _ e2
    exact is_says hl (TxtC.below HI.out.2 h2) (StC.of e2) (Kd.C_below HC.out h2)
  rintro e w14 ⟨rfl, hb⟩
  replace HB13 := Aside0.mk (HB13.out.trans (hb.mono HB13.out.size))
  replace HI := Aside0.mk (And.intro (blk_below HI.out.1 hb) (TxtC.below HI.out.2 hb))
  replace HH := Aside0.mk (And.intro (blk_below HH.out.1 hb) (TxtC.below HH.out.2 hb))
  replace HCc := Aside0.mk (And.intro (blk_below HCc.out.1 hb) (ChgC.below HCc.out.2 hb))
  replace HK := Aside0.mk (blk_below HK.out hb)
  replace HS := Aside0.mk (blk_below HS.out hb)
  replace HC := Aside0.mk (Kd.C_below HC.out hb)
  replace HM := Aside0.mk (HM.out.below hb)
  clear hb
  go_wp2_with (first
    | ((with_reducible refine gate_dst (N := 145) rfl ?_); refine gate_guard (by rfl) ?_; refine wpList_load_row rfl 36 (.tmp 12) rfl bk rfl 36 _ (0, 0) _ HK.out Try.underlying36 rfl HZ1.out ?_)
    | ((with_reducible refine gate_dst (N := 146) rfl ?_); refine gate_guard (by rfl) ?_; refine wpList_load_row rfl 36 (.tmp 11) rfl (bn + 1) rfl 36 _ (0, 0) _ HS.out Try.underlying36 rfl HZ2.out ?_))
  refine (holds_Hv (r := true) HH.out.1 (stCs (.slice none 0 0) (.slice none 0 0) 0) (stCs (.slice none 0 0) (.slice A l.length c) x) ?_).mono ?_
  · intro v2 h2 _ e2
    exact HHas.out v2 G2 _ 0 0 (.slice none 0 0) (TxtC.below HH.out.2 h2) (StC.of e2) (Kd.C_below HC.out h2) hc (HM.out.below h2)
  rintro e w15 ⟨rfl, hb⟩
  replace HB13 := Aside0.mk (HB13.out.trans (hb.mono HB13.out.size))
  replace HI := Aside0.mk (And.intro (blk_below HI.out.1 hb) (TxtC.below HI.out.2 hb))
  replace HH := Aside0.mk (And.intro (blk_below HH.out.1 hb) (TxtC.below HH.out.2 hb))
  replace HCc := Aside0.mk (And.intro (blk_below HCc.out.1 hb) (ChgC.below HCc.out.2 hb))
  replace HK := Aside0.mk (blk_below HK.out hb)
  replace HS := Aside0.mk (blk_below HS.out hb)
  replace HC := Aside0.mk (Kd.C_below HC.out hb)
  replace HM := Aside0.mk (HM.out.below hb)
  clear hb
  obtain ⟨rr, hrr⟩ : ∃ rr, (!(Lib.bytesOf ([] : List Int) == Lib.bytesOf l)) = rr := ⟨_, rfl⟩
  have hr1 : decide (0 < l.length) = rr := by
    rw [← hrr]
    cases l with
    | nil => rfl
    | cons v l => rfl
  have hr2 : decide ((0 : Int) < (l.length : Int)) = rr := by rw [← hr1]; simp
  go_wp2_with (first
    | ((with_reducible refine gate_dst (N := 151) rfl ?_); refine gate_guard (by rfl) ?_; refine wpList_load_row rfl 36 (.tmp 12) rfl bk rfl 36 _ (0, 0) _ HK.out Try.underlying36 rfl HZ1.out ?_)
    | ((with_reducible refine gate_dst (N := 152) rfl ?_); refine gate_guard (by rfl) ?_; refine wpList_load_row rfl 36 (.tmp 11) rfl (bn + 1) rfl 36 _ (0, 0) _ HS.out Try.underlying36 rfl HZ2.out ?_))
  refine (holds_Hv (r := rr) HCc.out.1 (stCs (.slice none 0 0) (.slice none 0 0) 0) (stCs (.slice none 0 0) (.slice A l.length c) x) ?_).mono ?_
  · intro v2 h2 e1 e2
    rw [← hrr]
    exact chg_says (l1 := []) (l2 := l) (ChgC.below HCc.out.2 h2) (StC.of e1) (StC.of e2) (Kd.C_nil _ _) (Kd.C_below HC.out h2)
  rintro e w16 ⟨rfl, hb⟩
  replace HB13 := Aside0.mk (HB13.out.trans (hb.mono HB13.out.size))
  replace HI := Aside0.mk (And.intro (blk_below HI.out.1 hb) (TxtC.below HI.out.2 hb))
  replace HH := Aside0.mk (And.intro (blk_below HH.out.1 hb) (TxtC.below HH.out.2 hb))
  replace HCc := Aside0.mk (And.intro (blk_below HCc.out.1 hb) (ChgC.below HCc.out.2 hb))
  replace HK := Aside0.mk (blk_below HK.out hb)
  replace HS := Aside0.mk (blk_below HS.out hb)
  replace HC := Aside0.mk (Kd.C_below HC.out hb)
  replace HM := Aside0.mk (HM.out.below hb)
  clear hb
  go_wp2_with (first
    | ((with_reducible refine gate_dst (N := 161) rfl ?_); refine gate_guard (by rfl) ?_; refine wpList_load_row rfl 36 (.tmp 11) rfl (bn + 1) rfl 36 _ (0, 0) _ HS.out Try.underlying36 rfl HZ2.out ?_)
    | ((with_reducible refine gate_dst (N := 162) rfl ?_); refine gate_guard (by rfl) ?_; refine wpList_load_row rfl 36 (.tmp 11) rfl (bn + 1) rfl 36 _ (0, 0) _ HS.out Try.underlying36 rfl HZ2.out ?_))
  refine (holds_Hv (r := false) HCc.out.1 (stCs (.slice none 0 0) (.slice A l.length c) x) (stCs (.slice none 0 0) (.slice A l.length c) x) ?_).mono ?_
  · intro v2 h2 e1 e2
    have := chg_says (l1 := l) (l2 := l) (ChgC.below HCc.out.2 h2) (StC.of e1) (StC.of e2) (Kd.C_below HC.out h2) (Kd.C_below HC.out h2)
    simpa using this
  rintro e w17 ⟨rfl, hb⟩
  replace HB13 := Aside0.mk (HB13.out.trans (hb.mono HB13.out.size))
  replace HI := Aside0.mk (And.intro (blk_below HI.out.1 hb) (TxtC.below HI.out.2 hb))
  replace HH := Aside0.mk (And.intro (blk_below HH.out.1 hb) (TxtC.below HH.out.2 hb))
  replace HCc := Aside0.mk (And.intro (blk_below HCc.out.1 hb) (ChgC.below HCc.out.2 hb))
  replace HK := Aside0.mk (blk_below HK.out hb)
  replace HS := Aside0.mk (blk_below HS.out hb)
  replace HC := Aside0.mk (Kd.C_below HC.out hb)
  replace HM := Aside0.mk (HM.out.below hb)
  clear hb
  go_wp2_with fail
  refine (awake_any _ HM.out).mono ?_
  rintro e w18 ⟨rfl, hb18⟩
  go_wp2_with fail
  go_ret
  exact ⟨rfl, HB13.out.trans (hb18.mono HB13.out.size)⟩
end Go.Proofs.Ythkkfkiiopfkjaa.L4
