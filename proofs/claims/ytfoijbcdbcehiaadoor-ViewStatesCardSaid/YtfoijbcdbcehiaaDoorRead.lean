/- A state that is read: each cell of its 27, its slices as rows, its lengths within the reach. -/
import Derived.Test.YtfoijbcdbcehiaaDoorGreat
import Derived.Deep.Slices
import Derived.ChangeArms
import Derived.SizedLaws
import Derived.WideLaws
namespace Go.Proofs.YtfoijbcdbcehiaaDoor.L4
open Go.RowKit Go.ChangeShapes Go.WideShapes Go.Deep Go.Proofs.YtfoijbcdbcehiaaDoorW.PrintWords
section
variable {H : Type} {enc : TypeId × Value → H} {w : World} {base : Nat} {spare : Nat → Bool} {held : Bool}

/-- Each weight of a reading is within the reach. -/
def Light (t : TypeId) (d : DataW H) : Prop := ∀ m ∈ d.weights Tryd.prog t, m ≤ reachBytes
theorem reach_eq : reachBytes = 140737488351232 := rfl
theorem all_mem {P : Program} {e : TypeId} : ∀ {l : List (DataW H)} {d : DataW H}, d ∈ l → ∀ n ∈ d.weights P e, n ∈ DataW.weightsAll P e l
  | d' :: r, d, hd, n, hn => by
    simp only [DataW.weightsAll, List.mem_append]
    rcases List.mem_cons.1 hd with rfl | h
    · exact Or.inl hn
    · exact Or.inr (all_mem h n hn)
theorem light_field {t : TypeId} {fs : Array Field} {xs : List (DataW H × List MemPlace)} (hu : Tryd.prog.underlying t = some (.struct fs)) (h : Light (H := H) t (.agg (xs.map (·.1)))) {i : Nat} {f : Field} {y : DataW H × List MemPlace} (hf : fs[i]? = some f) (hy : xs[i]? = some y) : Light (H := H) f.type y.1 := by
  intro m hm
  refine h m ?_
  simp only [DataW.weights, hu]
  exact DataW.weights_mem_each (j := i) (t := f.type) (d := y.1) (by rw [List.getElem?_map, Array.getElem?_toList, hf]; rfl) (by rw [List.getElem?_map, hy]; rfl) m hm

theorem rd_slice {α : Type} (d : Kd α) (good : α → Prop) {t e : TypeId} (ht : Tryd.prog.underlying t = some (.slice e)) (hc : Tryd.prog.cellsOf e = d.sz)
    (one : ∀ (n : Nat) (cs : List Value) (y : DataW H × List MemPlace), cs.length = d.sz → DataW.trod enc Tryd.prog w base spare held n e cs = some y → Light (H := H) e y.1 → ∃ x, d.K w x cs ∧ good x)
    {fuel : Nat} {cs : List Value} {x : DataW H × List MemPlace} (h : DataW.trod enc Tryd.prog w base spare held fuel t cs = some x) (hw : Light (H := H) t x.1) :
    ∃ A c xs, cs = [.slice A xs.length c] ∧ xs.length ≤ c ∧ d.C w A xs.length xs ∧ (∀ x ∈ xs, good x) ∧ xs.length * Tryd.prog.bytesOf e ≤ 140737488351232 := by
  rcases open_slice ht h with ⟨rfl, rfl⟩ | ⟨a, len, cap, m, n, D, Pl, rfl, hb, hl, hm, hmm, rfl, hi⟩
  · exact ⟨none, 0, [], rfl, Nat.le_refl _, ⟨rfl, by simp, fun h => absurd h (by simp)⟩, (fun _ h => nomatch h), by simp⟩
  · have hlm : len ≤ m := by rw [hmm]; split <;> omega
    have hwe : ∀ i, i < len → Light (H := H) e (D i) := by
      intro i hi q hq
      refine hw q ?_
      simp only [DataW.weights, ht, List.mem_cons, List.mem_append]
      exact Or.inr (Or.inl (all_mem (List.mem_map.2 ⟨i, List.mem_range.2 hi, rfl⟩) q hq))
    have hlen : len * Tryd.prog.bytesOf e ≤ 140737488351232 := by
      have h1 : ((List.range len).map D).length + ((List.range (m - len)).map fun j => D (len + j)).length = len + (m - len) := by simp
      have := hw (((((List.range len).map D).length + ((List.range (m - len)).map fun j => D (len + j)).length) * Tryd.prog.bytesOf e)) (by simp only [DataW.weights, ht, List.mem_cons, true_or])
      rw [h1, reach_eq] at this
      exact Nat.le_trans (Nat.mul_le_mul_right _ (by omega)) this
    have hx : ∀ i, i < len → ∃ y cs', d.K w y cs' ∧ good y ∧ cs'.length = d.sz ∧ ∀ j u, cs'[j]? = some u → w.cell? (a.add (i * d.sz + j)) = some u := by
      intro i hi'
      obtain ⟨cs', h1, h2⟩ := hi i (by omega)
      rw [hc] at h1
      obtain ⟨_, hcl, hat⟩ := World.cells?_some h1
      obtain ⟨y, hk, hg⟩ := one n cs' _ hcl h2 (hwe i hi')
      refine ⟨y, cs', hk, hg, hcl, fun j u hj => ?_⟩
      have hjl : j < d.sz := by rw [← hcl]; exact (List.getElem?_eq_some_iff.1 hj).1
      rw [← Go.Deep.add_add, hat j hjl, hj]
    refine ⟨some a, cap, List.ofFn (fun i : Fin len => Classical.choose (hx i.1 i.2)), by rw [List.length_ofFn], by rw [List.length_ofFn]; exact hl, ?_, ?_, by rw [List.length_ofFn]; exact hlen⟩
    · refine ⟨rfl, ?_, fun _ => ⟨a, rfl, fun j p hp => ?_⟩⟩
      · rw [List.length_ofFn]
        have : maxLen ≤ 9223372036854775807 := by simp only [maxLen]; omega
        omega
      · rw [List.getElem?_ofFn] at hp
        split at hp
        · rename_i hjl
          obtain ⟨cs', hk, hg, hcl, hat⟩ := Classical.choose_spec (hx j hjl)
          rw [← Option.some.inj hp]
          exact ⟨cs', hcl, hk, hat⟩
        · cases hp
    · intro y hy
      obtain ⟨i, rfl⟩ := (List.mem_ofFn ..).1 hy
      obtain ⟨cs', hk, hg, _⟩ := Classical.choose_spec (hx i.1 i.2)
      exact hg

/-! what a cell is -/
def IsB (c : Value) : Prop := ∃ b, c = .bool b
def IsI (c : Value) : Prop := ∃ n, c = .int .i64 n ∧ I64 n
def IsBs (w : World) (c : Value) : Prop := ∃ A n l, c = .slice A l.length n ∧ l.length ≤ n ∧ (Kd.int .u8).C w A l.length l ∧ Bs l ∧ l.length ≤ 140737488351232

theorem wf_i64 {n : Int} (h : (Lit.int .i64 n).wf = true) : I64 n := by
  simp only [Lit.wf, Bool.and_eq_true, decide_eq_true_eq] at h
  exact ⟨h.1, h.2⟩
theorem wf_u8 {n : Int} (h : (Lit.int .u8 n).wf = true) : 0 ≤ n ∧ n ≤ 255 := by
  simp only [Lit.wf, Bool.and_eq_true, decide_eq_true_eq] at h
  exact ⟨h.1, h.2⟩
theorem rd_b {fuel : Nat} {c : Value} {x : DataW H × List MemPlace} (h : DataW.trod enc Tryd.prog w base spare held fuel 4 [c] = some x) : IsB c := by
  obtain ⟨b, h1, _⟩ := DataW.trod_bool Tryd.underlying4 h
  exact ⟨b, by simpa using h1⟩
theorem rd_i {fuel : Nat} {t : TypeId} {c : Value} {x : DataW H × List MemPlace} (ht : Tryd.prog.underlying t = some (.int .i64)) (h : DataW.trod enc Tryd.prog w base spare held fuel t [c] = some x) : IsI c := by
  obtain ⟨n, h1, _, h2⟩ := DataW.trod_int ht h
  exact ⟨n, by simpa using h1, wf_i64 h2⟩
theorem rd_bs {fuel : Nat} {c : Value} {x : DataW H × List MemPlace} (h : DataW.trod enc Tryd.prog w base spare held fuel 22 [c] = some x) (hl : Light (H := H) 22 x.1) : IsBs w c := by
  obtain ⟨A, n, l, h1, h2, h3, h4, h5⟩ := rd_slice (Kd.int .u8) (fun x => 0 ≤ x ∧ x ≤ 255) Tryd.underlying22 (by kernel_rfl) (fun n cs y hc hy _ => by
    obtain ⟨n, rfl, _, hw⟩ := DataW.trod_int Tryd.underlying5 hy
    exact ⟨n, rfl, wf_u8 hw⟩) h hl
  have hb : Tryd.prog.bytesOf 5 = 1 := by kernel_rfl
  rw [hb] at h5
  exact ⟨A, n, l, by simpa using h1, h2, h3, h4, by omega⟩
theorem rd_bools {fuel : Nat} {c : Value} {x : DataW H × List MemPlace} (h : DataW.trod enc Tryd.prog w base spare held fuel 30 [c] = some x) (hl : Light (H := H) 30 x.1) :
    ∃ A n l, c = .slice A l.length n ∧ l.length ≤ n ∧ Kd.bool.C w A l.length l ∧ l.length ≤ 140737488351232 := by
  obtain ⟨A, n, l, h1, h2, h3, h4, h5⟩ := rd_slice Kd.bool (fun _ => True) Tryd.underlying30 (by kernel_rfl) (fun n cs y hc hy _ => by
    obtain ⟨b, rfl, _⟩ := DataW.trod_bool Tryd.underlying4 hy
    exact ⟨b, rfl, trivial⟩) h hl
  have hb : Tryd.prog.bytesOf 4 = 1 := by kernel_rfl
  rw [hb] at h5
  exact ⟨A, n, l, by simpa using h1, h2, h3, by omega⟩
theorem rd_waits {fuel : Nat} {c : Value} {x : DataW H × List MemPlace} (h : DataW.trod enc Tryd.prog w base spare held fuel 31 [c] = some x) (hl : Light (H := H) 31 x.1) :
    ∃ A n l, c = .slice A l.length n ∧ l.length ≤ n ∧ kWt.C w A l.length l ∧ ∀ x ∈ l, (Bs x.f1 ∧ I64 x.f0) ∧ x.f1.length ≤ 140737488351232 := by
  obtain ⟨A, n, l, h1, h2, h3, h4, h5⟩ := rd_slice kWt (fun x => (Bs x.f1 ∧ I64 x.f0) ∧ x.f1.length ≤ 140737488351232) Tryd.underlying31 (by kernel_rfl) (fun n cs y hc hy hg => by
    obtain ⟨xs, m, _, rfl, hcl, hxl, hf⟩ := DataW.trod_struct Tryd.underlying48 hy
    match cs, hc, xs, hxl with
    | [c0, c1], _, [y0, y1], _ =>
      have z0 : Tryd.prog.cellsOf 3 = 1 := by kernel_rfl
      have z1 : Tryd.prog.cellsOf 22 = 1 := by kernel_rfl
      have g0 : DataW.trod enc Tryd.prog w base spare held m 3 (([c0, c1].drop 0).take (Tryd.prog.cellsOf 3)) = some y0 := hf 0 _ rfl
      have g1 : DataW.trod enc Tryd.prog w base spare held m 22 (([c0, c1].drop 1).take (Tryd.prog.cellsOf 22)) = some y1 := hf 1 _ rfl
      rw [z0] at g0
      rw [z1] at g1
      replace g0 : DataW.trod enc Tryd.prog w base spare held m 3 [c0] = some y0 := g0
      replace g1 : DataW.trod enc Tryd.prog w base spare held m 22 [c1] = some y1 := g1
      obtain ⟨n0, rfl, hn⟩ := rd_i Tryd.underlying3 g0
      obtain ⟨A1, k1, l1, rfl, e1, e2, e3, e4⟩ := rd_bs g1 (light_field Tryd.underlying48 hg (i := 1) rfl rfl)
      exact ⟨⟨n0, l1⟩, PViewStates.k48_mk w ⟨n0, l1⟩ e1 e2, ⟨e3, hn⟩, e4⟩) h hl
  exact ⟨A, n, l, by simpa using h1, h2, h3, h4⟩
theorem rd_files {fuel : Nat} {c : Value} {x : DataW H × List MemPlace} (h : DataW.trod enc Tryd.prog w base spare held fuel 32 [c] = some x) (hl : Light (H := H) 32 x.1) :
    ∃ A n l, c = .slice A l.length n ∧ l.length ≤ n ∧ kFl.C w A l.length l ∧ ∀ x ∈ l, Bs x.f1 ∧ x.f1.length ≤ 140737488351232 ∧ x.f0.size ≤ 140737488351232 := by
  obtain ⟨A, n, l, h1, h2, h3, h4, h5⟩ := rd_slice kFl (fun x => Bs x.f1 ∧ x.f1.length ≤ 140737488351232 ∧ x.f0.size ≤ 140737488351232) Tryd.underlying32 (by kernel_rfl) (fun n cs y hc hy hg => by
    obtain ⟨xs, m, _, rfl, hcl, hxl, hf⟩ := DataW.trod_struct Tryd.underlying43 hy
    match cs, hc, xs, hxl with
    | [c0, c1], _, [y0, y1], _ =>
      have z0 : Tryd.prog.cellsOf 9 = 1 := by kernel_rfl
      have z1 : Tryd.prog.cellsOf 22 = 1 := by kernel_rfl
      have g0 : DataW.trod enc Tryd.prog w base spare held m 9 (([c0, c1].drop 0).take (Tryd.prog.cellsOf 9)) = some y0 := hf 0 _ rfl
      have g1 : DataW.trod enc Tryd.prog w base spare held m 22 (([c0, c1].drop 1).take (Tryd.prog.cellsOf 22)) = some y1 := hf 1 _ rfl
      rw [z0] at g0
      rw [z1] at g1
      replace g0 : DataW.trod enc Tryd.prog w base spare held m 9 [c0] = some y0 := g0
      replace g1 : DataW.trod enc Tryd.prog w base spare held m 22 [c1] = some y1 := g1
      have hg0 : Light (H := H) _ y0.1 := light_field Tryd.underlying43 hg (i := 0) rfl rfl
      obtain ⟨s, hs, hx0, _⟩ := DataW.trod_string Tryd.underlying9 g0
      obtain rfl : c0 = .string s := by simpa using hs
      have hz : s.size ≤ 140737488351232 := by
        have := hg0 s.data.toList.length (by rw [hx0]; simp [DataW.weights])
        rw [reach_eq, Array.length_toList] at this
        exact this
      obtain ⟨A1, k1, l1, rfl, e1, e2, e3, e4⟩ := rd_bs g1 (light_field Tryd.underlying43 hg (i := 1) rfl rfl)
      exact ⟨⟨s, l1⟩, PViewStates.k43_mk w ⟨s, l1⟩ e1 e2, e3, e4, hz⟩) h hl
  exact ⟨A, n, l, by simpa using h1, h2, h3, h4⟩
/-- One cell out of a list. -/
theorem one_at {cs : List Value} {i : Nat} {c : Value} (h : cs[i]? = some c) : (cs.drop i).take 1 = [c] := by
  obtain ⟨hi, rfl⟩ := List.getElem?_eq_some_iff.1 h
  rw [List.drop_eq_getElem_cons hi]
  rfl

theorem rd_state {v : Value} {d : DataW H} {p : List MemPlace} {r : Reach} {b0 : Nat} (hv : Value.okWide Tryd.prog w r b0 34 v) (h : DataW.Trod enc Tryd.prog w base spare held 34 v d p) (hl : Light (H := H) 34 d) :
    ∃ s : Sv, v = s.v ∧ s.Ok w ∧ Lim s := by
  obtain ⟨cs, rfl, hsz⟩ := okWide_struct Tryd.underlying34 hv
  obtain ⟨l⟩ := cs
  have hC : Tryd.prog.cellsOf 34 = 27 := by kernel_rfl
  have y3 : Tryd.prog.cellsOf 3 = 1 := by kernel_rfl
  have y4 : Tryd.prog.cellsOf 4 = 1 := by kernel_rfl
  have y22 : Tryd.prog.cellsOf 22 = 1 := by kernel_rfl
  have y24 : Tryd.prog.cellsOf 24 = 6 := by kernel_rfl
  have y26 : Tryd.prog.cellsOf 26 = 5 := by kernel_rfl
  have y28 : Tryd.prog.cellsOf 28 = 4 := by kernel_rfl
  have y29 : Tryd.prog.cellsOf 29 = 1 := by kernel_rfl
  have y30 : Tryd.prog.cellsOf 30 = 1 := by kernel_rfl
  have y31 : Tryd.prog.cellsOf 31 = 1 := by kernel_rfl
  have y32 : Tryd.prog.cellsOf 32 = 1 := by kernel_rfl
  match l, hsz.trans hC with
  | [v0, v1, v2, v3, v4, v5, v6, v7, v8, v9, v10, v11, v12, v13, v14, v15, v16, v17, v18, v19, v20, v21, v22, v23, v24, v25, v26], _ =>
    obtain ⟨fuel, hf⟩ := h
    have hf : DataW.trod enc Tryd.prog w base spare held fuel 34 [v0, v1, v2, v3, v4, v5, v6, v7, v8, v9, v10, v11, v12, v13, v14, v15, v16, v17, v18, v19, v20, v21, v22, v23, v24, v25, v26] = some (d, p) := hf
    obtain ⟨xs, n, _, hx, _, hlen, hg⟩ := DataW.trod_struct Tryd.underlying34 hf
    obtain rfl : d = .agg (xs.map (·.1)) := (Prod.mk.inj hx).1
    match xs, hlen with
    | [q0, q1, q2, q3, q4, q5, q6, q7, q8, q9, q10, q11, q12, q13, q14], _ =>
      have g0 : DataW.trod enc Tryd.prog w base spare held n 24 (([v0, v1, v2, v3, v4, v5, v6, v7, v8, v9, v10, v11, v12, v13, v14, v15, v16, v17, v18, v19, v20, v21, v22, v23, v24, v25, v26].drop 0).take (Tryd.prog.cellsOf 24)) = some q0 := hg 0 _ rfl
      rw [y24] at g0
      replace g0 : DataW.trod enc Tryd.prog w base spare held n 24 [v0, v1, v2, v3, v4, v5] = some q0 := g0
      have g1 : DataW.trod enc Tryd.prog w base spare held n 26 (([v0, v1, v2, v3, v4, v5, v6, v7, v8, v9, v10, v11, v12, v13, v14, v15, v16, v17, v18, v19, v20, v21, v22, v23, v24, v25, v26].drop 6).take (Tryd.prog.cellsOf 26)) = some q1 := hg 1 _ rfl
      rw [y26] at g1
      replace g1 : DataW.trod enc Tryd.prog w base spare held n 26 [v6, v7, v8, v9, v10] = some q1 := g1
      have g2 : DataW.trod enc Tryd.prog w base spare held n 28 (([v0, v1, v2, v3, v4, v5, v6, v7, v8, v9, v10, v11, v12, v13, v14, v15, v16, v17, v18, v19, v20, v21, v22, v23, v24, v25, v26].drop 11).take (Tryd.prog.cellsOf 28)) = some q2 := hg 2 _ rfl
      rw [y28] at g2
      replace g2 : DataW.trod enc Tryd.prog w base spare held n 28 [v11, v12, v13, v14] = some q2 := g2
      have g3 : DataW.trod enc Tryd.prog w base spare held n 3 (([v0, v1, v2, v3, v4, v5, v6, v7, v8, v9, v10, v11, v12, v13, v14, v15, v16, v17, v18, v19, v20, v21, v22, v23, v24, v25, v26].drop 15).take (Tryd.prog.cellsOf 3)) = some q3 := hg 3 _ rfl
      rw [y3] at g3
      replace g3 : DataW.trod enc Tryd.prog w base spare held n 3 [v15] = some q3 := g3
      have g4 : DataW.trod enc Tryd.prog w base spare held n 3 (([v0, v1, v2, v3, v4, v5, v6, v7, v8, v9, v10, v11, v12, v13, v14, v15, v16, v17, v18, v19, v20, v21, v22, v23, v24, v25, v26].drop 16).take (Tryd.prog.cellsOf 3)) = some q4 := hg 4 _ rfl
      rw [y3] at g4
      replace g4 : DataW.trod enc Tryd.prog w base spare held n 3 [v16] = some q4 := g4
      have g5 : DataW.trod enc Tryd.prog w base spare held n 3 (([v0, v1, v2, v3, v4, v5, v6, v7, v8, v9, v10, v11, v12, v13, v14, v15, v16, v17, v18, v19, v20, v21, v22, v23, v24, v25, v26].drop 17).take (Tryd.prog.cellsOf 3)) = some q5 := hg 5 _ rfl
      rw [y3] at g5
      replace g5 : DataW.trod enc Tryd.prog w base spare held n 3 [v17] = some q5 := g5
      have g6 : DataW.trod enc Tryd.prog w base spare held n 3 (([v0, v1, v2, v3, v4, v5, v6, v7, v8, v9, v10, v11, v12, v13, v14, v15, v16, v17, v18, v19, v20, v21, v22, v23, v24, v25, v26].drop 18).take (Tryd.prog.cellsOf 3)) = some q6 := hg 6 _ rfl
      rw [y3] at g6
      replace g6 : DataW.trod enc Tryd.prog w base spare held n 3 [v18] = some q6 := g6
      have g7 : DataW.trod enc Tryd.prog w base spare held n 29 (([v0, v1, v2, v3, v4, v5, v6, v7, v8, v9, v10, v11, v12, v13, v14, v15, v16, v17, v18, v19, v20, v21, v22, v23, v24, v25, v26].drop 19).take (Tryd.prog.cellsOf 29)) = some q7 := hg 7 _ rfl
      rw [y29] at g7
      replace g7 : DataW.trod enc Tryd.prog w base spare held n 29 [v19] = some q7 := g7
      have g8 : DataW.trod enc Tryd.prog w base spare held n 4 (([v0, v1, v2, v3, v4, v5, v6, v7, v8, v9, v10, v11, v12, v13, v14, v15, v16, v17, v18, v19, v20, v21, v22, v23, v24, v25, v26].drop 20).take (Tryd.prog.cellsOf 4)) = some q8 := hg 8 _ rfl
      rw [y4] at g8
      replace g8 : DataW.trod enc Tryd.prog w base spare held n 4 [v20] = some q8 := g8
      have g9 : DataW.trod enc Tryd.prog w base spare held n 4 (([v0, v1, v2, v3, v4, v5, v6, v7, v8, v9, v10, v11, v12, v13, v14, v15, v16, v17, v18, v19, v20, v21, v22, v23, v24, v25, v26].drop 21).take (Tryd.prog.cellsOf 4)) = some q9 := hg 9 _ rfl
      rw [y4] at g9
      replace g9 : DataW.trod enc Tryd.prog w base spare held n 4 [v21] = some q9 := g9
      have g10 : DataW.trod enc Tryd.prog w base spare held n 4 (([v0, v1, v2, v3, v4, v5, v6, v7, v8, v9, v10, v11, v12, v13, v14, v15, v16, v17, v18, v19, v20, v21, v22, v23, v24, v25, v26].drop 22).take (Tryd.prog.cellsOf 4)) = some q10 := hg 10 _ rfl
      rw [y4] at g10
      replace g10 : DataW.trod enc Tryd.prog w base spare held n 4 [v22] = some q10 := g10
      have g11 : DataW.trod enc Tryd.prog w base spare held n 30 (([v0, v1, v2, v3, v4, v5, v6, v7, v8, v9, v10, v11, v12, v13, v14, v15, v16, v17, v18, v19, v20, v21, v22, v23, v24, v25, v26].drop 23).take (Tryd.prog.cellsOf 30)) = some q11 := hg 11 _ rfl
      rw [y30] at g11
      replace g11 : DataW.trod enc Tryd.prog w base spare held n 30 [v23] = some q11 := g11
      have g12 : DataW.trod enc Tryd.prog w base spare held n 31 (([v0, v1, v2, v3, v4, v5, v6, v7, v8, v9, v10, v11, v12, v13, v14, v15, v16, v17, v18, v19, v20, v21, v22, v23, v24, v25, v26].drop 24).take (Tryd.prog.cellsOf 31)) = some q12 := hg 12 _ rfl
      rw [y31] at g12
      replace g12 : DataW.trod enc Tryd.prog w base spare held n 31 [v24] = some q12 := g12
      have g13 : DataW.trod enc Tryd.prog w base spare held n 32 (([v0, v1, v2, v3, v4, v5, v6, v7, v8, v9, v10, v11, v12, v13, v14, v15, v16, v17, v18, v19, v20, v21, v22, v23, v24, v25, v26].drop 25).take (Tryd.prog.cellsOf 32)) = some q13 := hg 13 _ rfl
      rw [y32] at g13
      replace g13 : DataW.trod enc Tryd.prog w base spare held n 32 [v25] = some q13 := g13
      have g14 : DataW.trod enc Tryd.prog w base spare held n 30 (([v0, v1, v2, v3, v4, v5, v6, v7, v8, v9, v10, v11, v12, v13, v14, v15, v16, v17, v18, v19, v20, v21, v22, v23, v24, v25, v26].drop 26).take (Tryd.prog.cellsOf 30)) = some q14 := hg 14 _ rfl
      rw [y30] at g14
      replace g14 : DataW.trod enc Tryd.prog w base spare held n 30 [v26] = some q14 := g14
      have w0 : Light (H := H) 24 q0.1 := light_field Tryd.underlying34 hl (i := 0) rfl rfl
      have w1 : Light (H := H) 26 q1.1 := light_field Tryd.underlying34 hl (i := 1) rfl rfl
      have w2 : Light (H := H) 28 q2.1 := light_field Tryd.underlying34 hl (i := 2) rfl rfl
      have w11 : Light (H := H) 30 q11.1 := light_field Tryd.underlying34 hl (i := 11) rfl rfl
      have w12 : Light (H := H) 31 q12.1 := light_field Tryd.underlying34 hl (i := 12) rfl rfl
      have w13 : Light (H := H) 32 q13.1 := light_field Tryd.underlying34 hl (i := 13) rfl rfl
      have w14 : Light (H := H) 30 q14.1 := light_field Tryd.underlying34 hl (i := 14) rfl rfl
      obtain ⟨i0, m0, _, e0, _, u0, o0⟩ := DataW.trod_struct Tryd.underlying24 g0
      rw [e0] at w0
      obtain ⟨i0_0, i0_1, i0_2, i0_3, i0_4, i0_5, rfl⟩ : ∃ i0_0 i0_1 i0_2 i0_3 i0_4 i0_5, i0 = [i0_0, i0_1, i0_2, i0_3, i0_4, i0_5] := by
        match i0, u0 with
        | [i0_0, i0_1, i0_2, i0_3, i0_4, i0_5], _ => exact ⟨i0_0, i0_1, i0_2, i0_3, i0_4, i0_5, rfl⟩
      have o0_0 : DataW.trod enc Tryd.prog w base spare held m0 22 (([v0, v1, v2, v3, v4, v5].drop 0).take (Tryd.prog.cellsOf 22)) = some i0_0 := o0 0 _ rfl
      rw [y22] at o0_0
      replace o0_0 : DataW.trod enc Tryd.prog w base spare held m0 22 [v0] = some i0_0 := o0_0
      have o0_1 : DataW.trod enc Tryd.prog w base spare held m0 22 (([v0, v1, v2, v3, v4, v5].drop 1).take (Tryd.prog.cellsOf 22)) = some i0_1 := o0 1 _ rfl
      rw [y22] at o0_1
      replace o0_1 : DataW.trod enc Tryd.prog w base spare held m0 22 [v1] = some i0_1 := o0_1
      have o0_2 : DataW.trod enc Tryd.prog w base spare held m0 4 (([v0, v1, v2, v3, v4, v5].drop 2).take (Tryd.prog.cellsOf 4)) = some i0_2 := o0 2 _ rfl
      rw [y4] at o0_2
      replace o0_2 : DataW.trod enc Tryd.prog w base spare held m0 4 [v2] = some i0_2 := o0_2
      have o0_3 : DataW.trod enc Tryd.prog w base spare held m0 3 (([v0, v1, v2, v3, v4, v5].drop 3).take (Tryd.prog.cellsOf 3)) = some i0_3 := o0 3 _ rfl
      rw [y3] at o0_3
      replace o0_3 : DataW.trod enc Tryd.prog w base spare held m0 3 [v3] = some i0_3 := o0_3
      have o0_4 : DataW.trod enc Tryd.prog w base spare held m0 4 (([v0, v1, v2, v3, v4, v5].drop 4).take (Tryd.prog.cellsOf 4)) = some i0_4 := o0 4 _ rfl
      rw [y4] at o0_4
      replace o0_4 : DataW.trod enc Tryd.prog w base spare held m0 4 [v4] = some i0_4 := o0_4
      have o0_5 : DataW.trod enc Tryd.prog w base spare held m0 3 (([v0, v1, v2, v3, v4, v5].drop 5).take (Tryd.prog.cellsOf 3)) = some i0_5 := o0 5 _ rfl
      rw [y3] at o0_5
      replace o0_5 : DataW.trod enc Tryd.prog w base spare held m0 3 [v5] = some i0_5 := o0_5
      have k0 := rd_bs o0_0 (light_field Tryd.underlying24 w0 (i := 0) rfl rfl)
      have k1 := rd_bs o0_1 (light_field Tryd.underlying24 w0 (i := 1) rfl rfl)
      have k2 := rd_b o0_2
      have k3 := rd_i Tryd.underlying3 o0_3
      have k4 := rd_b o0_4
      have k5 := rd_i Tryd.underlying3 o0_5
      obtain ⟨i1, m1, _, e1, _, u1, o1⟩ := DataW.trod_struct Tryd.underlying26 g1
      rw [e1] at w1
      obtain ⟨i1_0, i1_1, i1_2, i1_3, i1_4, rfl⟩ : ∃ i1_0 i1_1 i1_2 i1_3 i1_4, i1 = [i1_0, i1_1, i1_2, i1_3, i1_4] := by
        match i1, u1 with
        | [i1_0, i1_1, i1_2, i1_3, i1_4], _ => exact ⟨i1_0, i1_1, i1_2, i1_3, i1_4, rfl⟩
      have o1_0 : DataW.trod enc Tryd.prog w base spare held m1 3 (([v6, v7, v8, v9, v10].drop 0).take (Tryd.prog.cellsOf 3)) = some i1_0 := o1 0 _ rfl
      rw [y3] at o1_0
      replace o1_0 : DataW.trod enc Tryd.prog w base spare held m1 3 [v6] = some i1_0 := o1_0
      have o1_1 : DataW.trod enc Tryd.prog w base spare held m1 3 (([v6, v7, v8, v9, v10].drop 1).take (Tryd.prog.cellsOf 3)) = some i1_1 := o1 1 _ rfl
      rw [y3] at o1_1
      replace o1_1 : DataW.trod enc Tryd.prog w base spare held m1 3 [v7] = some i1_1 := o1_1
      have o1_2 : DataW.trod enc Tryd.prog w base spare held m1 3 (([v6, v7, v8, v9, v10].drop 2).take (Tryd.prog.cellsOf 3)) = some i1_2 := o1 2 _ rfl
      rw [y3] at o1_2
      replace o1_2 : DataW.trod enc Tryd.prog w base spare held m1 3 [v8] = some i1_2 := o1_2
      have o1_3 : DataW.trod enc Tryd.prog w base spare held m1 3 (([v6, v7, v8, v9, v10].drop 3).take (Tryd.prog.cellsOf 3)) = some i1_3 := o1 3 _ rfl
      rw [y3] at o1_3
      replace o1_3 : DataW.trod enc Tryd.prog w base spare held m1 3 [v9] = some i1_3 := o1_3
      have o1_4 : DataW.trod enc Tryd.prog w base spare held m1 22 (([v6, v7, v8, v9, v10].drop 4).take (Tryd.prog.cellsOf 22)) = some i1_4 := o1 4 _ rfl
      rw [y22] at o1_4
      replace o1_4 : DataW.trod enc Tryd.prog w base spare held m1 22 [v10] = some i1_4 := o1_4
      have k6 := rd_i Tryd.underlying3 o1_0
      have k7 := rd_i Tryd.underlying3 o1_1
      have k8 := rd_i Tryd.underlying3 o1_2
      have k9 := rd_i Tryd.underlying3 o1_3
      have k10 := rd_bs o1_4 (light_field Tryd.underlying26 w1 (i := 4) rfl rfl)
      obtain ⟨i2, m2, _, e2, _, u2, o2⟩ := DataW.trod_struct Tryd.underlying28 g2
      rw [e2] at w2
      obtain ⟨i2_0, i2_1, i2_2, i2_3, rfl⟩ : ∃ i2_0 i2_1 i2_2 i2_3, i2 = [i2_0, i2_1, i2_2, i2_3] := by
        match i2, u2 with
        | [i2_0, i2_1, i2_2, i2_3], _ => exact ⟨i2_0, i2_1, i2_2, i2_3, rfl⟩
      have o2_0 : DataW.trod enc Tryd.prog w base spare held m2 22 (([v11, v12, v13, v14].drop 0).take (Tryd.prog.cellsOf 22)) = some i2_0 := o2 0 _ rfl
      rw [y22] at o2_0
      replace o2_0 : DataW.trod enc Tryd.prog w base spare held m2 22 [v11] = some i2_0 := o2_0
      have o2_1 : DataW.trod enc Tryd.prog w base spare held m2 4 (([v11, v12, v13, v14].drop 1).take (Tryd.prog.cellsOf 4)) = some i2_1 := o2 1 _ rfl
      rw [y4] at o2_1
      replace o2_1 : DataW.trod enc Tryd.prog w base spare held m2 4 [v12] = some i2_1 := o2_1
      have o2_2 : DataW.trod enc Tryd.prog w base spare held m2 22 (([v11, v12, v13, v14].drop 2).take (Tryd.prog.cellsOf 22)) = some i2_2 := o2 2 _ rfl
      rw [y22] at o2_2
      replace o2_2 : DataW.trod enc Tryd.prog w base spare held m2 22 [v13] = some i2_2 := o2_2
      have o2_3 : DataW.trod enc Tryd.prog w base spare held m2 4 (([v11, v12, v13, v14].drop 3).take (Tryd.prog.cellsOf 4)) = some i2_3 := o2 3 _ rfl
      rw [y4] at o2_3
      replace o2_3 : DataW.trod enc Tryd.prog w base spare held m2 4 [v14] = some i2_3 := o2_3
      have k11 := rd_bs o2_0 (light_field Tryd.underlying28 w2 (i := 0) rfl rfl)
      have k12 := rd_b o2_1
      have k13 := rd_bs o2_2 (light_field Tryd.underlying28 w2 (i := 2) rfl rfl)
      have k14 := rd_b o2_3
      have k15 := rd_i Tryd.underlying3 g3
      have k16 := rd_i Tryd.underlying3 g4
      have k17 := rd_i Tryd.underlying3 g5
      have k18 := rd_i Tryd.underlying3 g6
      have k19 := rd_i Tryd.underlying29 g7
      have k20 := rd_b g8
      have k21 := rd_b g9
      have k22 := rd_b g10
      have k23 := rd_bools g11 w11
      have k24 := rd_waits g12 w12
      have k25 := rd_files g13 w13
      have k26 := rd_bools g14 w14
      obtain ⟨a0, c0, l0, rfl, m0, r0, b0, z0⟩ := k0
      obtain ⟨a1, c1, l1, rfl, m1, r1, b1, z1⟩ := k1
      obtain ⟨x2, rfl⟩ := k2
      obtain ⟨x3, rfl, n3⟩ := k3
      obtain ⟨x4, rfl⟩ := k4
      obtain ⟨x5, rfl, n5⟩ := k5
      obtain ⟨x6, rfl, n6⟩ := k6
      obtain ⟨x7, rfl, n7⟩ := k7
      obtain ⟨x8, rfl, n8⟩ := k8
      obtain ⟨x9, rfl, n9⟩ := k9
      obtain ⟨a10, c10, l10, rfl, m10, r10, b10, z10⟩ := k10
      obtain ⟨a11, c11, l11, rfl, m11, r11, b11, z11⟩ := k11
      obtain ⟨x12, rfl⟩ := k12
      obtain ⟨a13, c13, l13, rfl, m13, r13, b13, z13⟩ := k13
      obtain ⟨x14, rfl⟩ := k14
      obtain ⟨x15, rfl, n15⟩ := k15
      obtain ⟨x16, rfl, n16⟩ := k16
      obtain ⟨x17, rfl, n17⟩ := k17
      obtain ⟨x18, rfl, n18⟩ := k18
      obtain ⟨x19, rfl, n19⟩ := k19
      obtain ⟨x20, rfl⟩ := k20
      obtain ⟨x21, rfl⟩ := k21
      obtain ⟨x22, rfl⟩ := k22
      obtain ⟨a23, c23, l23, rfl, m23, r23, z23⟩ := k23
      obtain ⟨a24, c24, l24, rfl, m24, r24, z24⟩ := k24
      obtain ⟨a25, c25, l25, rfl, m25, r25, z25⟩ := k25
      obtain ⟨a26, c26, l26, rfl, m26, r26, z26⟩ := k26
      exact ⟨⟨a0, c0, l0, a1, c1, l1, x2, x3, x4, x5, x6, x7, x8, x9, a10, c10, l10, a11, c11, l11, x12, a13, c13, l13, x14, x15, x16, x17, x18, x19, x20, x21, x22, a23, c23, l23, a24, c24, l24, a25, c25, l25, a26, c26, l26⟩, rfl,
        ⟨r0, m0, r1, m1, r10, m10, r11, m11, r13, m13, r23, m23, r24, m24, r25, m25, r26, m26, n3, n5, n6, n7, n8, n9, n15, n16, n17, n18, n19, b0, b1, b10, b11, b13, fun x hx => (z24 x hx).1, fun x hx => (z25 x hx).1⟩,
        ⟨z0, z1, z10, z11, z13, z23, z26, fun x hx => (z24 x hx).2, fun x hx => (z25 x hx).2⟩⟩
end
end Go.Proofs.YtfoijbcdbcehiaaDoor.L4
