import Derived.Test.YthkkfkiiopfkjaaCTxt
set_option linter.unusedVariables false
set_option linter.unusedSimpArgs false
namespace Go.Proofs.Ythkkfkiiopfkjaa.L4
open Go.RowKit Go.Proofs.YthkkfkiiopfkjaaW.PrintWords Go.Proofs.YthkkfkiiopfkjaaW.PrintLast

set_option maxRecDepth 100000 in
set_option maxHeartbeats 4000000 in
theorem holds_any {w : World} {K : Nat} {caps : Array Value} {fg : Func} (hf1 : Try.prog.funcs[K]? = some fg) (hf2 : (fg.name == "runtime.NumGoroutine") = false) (hf3 : fg.body.isSome = true) {b : Nat} {s : ByteArray}
    (hb : w.heap[b]? = some (.cells #[.func (Fn.func K) #[] caps, .string s] 57 (0, 0))) (cs1 cs2 : Array Value) {r : Bool}
    (hcc : Calls Try.prog K (#[ptr w.heap.size, ptr (w.heap.size + 1)] ++ caps) ((w.alloc (.cells cs1 36)).alloc (.cells cs2 36)) fun e w' => e = .returned (.bool r) ∧ Below ((w.alloc (.cells cs1 36)).alloc (.cells cs2 36)).heap.size ((w.alloc (.cells cs1 36)).alloc (.cells cs2 36)) w') :
    Calls Try.prog 8 #[ptr b, .agg cs1, .agg cs2] w fun e w' => e = .returned (.bool r) ∧ Below w.heap.size w w' := by
  have he := fun args w => enters_ hf1 hf2 hf3 args w
  have hb2 := below_alloc (below_alloc (Below.refl w.heap.size w) (.cells cs1 36)) (.cells cs2 36)
  have hd := blk_cell (blk_below hb hb2) 0
  have hlt := blk_lt hb
  have hd0 : w.cell? ⟨b, 0, none⟩ = some (.func (Fn.func K) #[] caps) := blk_cell hb 0
  clear hb hf1 hf2 hf3
  go_enter Try.func8, Try.ntmps8
  go_wp2_with fail
  refine hcc.mono ?_
  rintro e w2 ⟨rfl, hb3⟩
  go_wp2_with fail
  go_ret
  exact ⟨rfl, hb2.trans (hb3.mono hb2.size)⟩

/-- A closure that says r of two states. -/
def Hv (w : World) (v : Value) (B1 B2 : Nat) (r : Bool) : Prop :=
  ∃ K caps fg, v = .func (Fn.func K) #[] caps ∧ Try.prog.funcs[K]? = some fg ∧ (fg.name == "runtime.NumGoroutine") = false ∧ fg.body.isSome = true ∧
    ∀ w1, Below w.heap.size w w1 → Calls Try.prog K (#[ptr B1, ptr B2] ++ caps) w1 fun e w' => e = .returned (.bool r) ∧ Below w1.heap.size w1 w'
theorem Hv.below {w w1 : World} {v : Value} {B1 B2 : Nat} {r : Bool} (h : Hv w v B1 B2 r) (hb : Below w.heap.size w w1) : Hv w1 v B1 B2 r :=
  let ⟨K, caps, fg, e, f1, f2, f3, h4⟩ := h
  ⟨K, caps, fg, e, f1, f2, f3, fun w2 h2 => h4 w2 (hb.trans (h2.mono hb.size))⟩
theorem num_Hv {w : World} {v : Value} {n : Int} {m : Nat} (hm : m < 6) (h : NumC w v (fnV 32) n (sgs.getD m ⟨#[]⟩)) {B1 B2 : Nat} {x : Int} {pv hv : Value} (hS : StC w B2 x pv hv) : Hv w v B1 B2 (sgR m x n) := by
  obtain ⟨b1, b2, b3, rfl, h1, h2, h3⟩ := h
  refine ⟨_, _, _, rfl, Try.func57, by kernel_rfl, by kernel_rfl, fun w1 hb => ?_⟩
  obtain ⟨K, caps, e, hc⟩ := num_holds (B1 := B1) hm ⟨b1, b2, b3, rfl, h1.below hb, h2.below hb, h3.below hb⟩ (hS.below hb)
  cases e
  exact hc
theorem has_Hv {w : World} {G : Nat} {v : Value} {q : ByteArray} {g : Nat} (h : TxtC G 60 w v (fnV g) q) {B1 B2 : Nat} {A : Option Addr} {n c : Nat} {r : Bool} {fg : Func} (hf1 : Try.prog.funcs[g]? = some fg) (hf2 : (fg.name == "runtime.NumGoroutine") = false) (hf3 : fg.body.isSome = true)
    (hget : ∀ w1, Below w.heap.size w w1 → Calls Try.prog g #[ptr B2] w1 fun e w' => e = .returned (.slice A n c) ∧ w' = w1)
    (hcon : ∀ w1 b3 c2, Below w.heap.size w w1 → q.size ≤ c2 → BytesAt G w1 b3 (bytesOf q) → Calls Try.prog 61 #[.slice A n c, .slice (some ⟨b3, 0, none⟩) q.size c2] w1 fun e w' => e = .returned (.bool r) ∧ Below w1.heap.size w1 w') : Hv w v B1 B2 r := by
  have h' := h
  obtain ⟨b1, b2, b3, c2, rfl, _⟩ := h
  refine ⟨_, _, _, rfl, Try.func60, by kernel_rfl, by kernel_rfl, fun w1 hb => ?_⟩
  obtain ⟨K, caps, e, hc⟩ := txt_has_holds (B1 := B1) (h'.below hb) hf1 hf2 hf3 (fun w2 h2 => hget w2 (hb.trans (h2.mono hb.size))) (fun w2 b c h2 => hcon w2 b c (hb.trans (h2.mono hb.size)))
  cases e
  exact hc
theorem is_Hv {w : World} {G : Nat} {v : Value} {q : ByteArray} {g : Nat} (h : TxtC G 62 w v (fnV g) q) {B1 B2 : Nat} {A : Option Addr} {n c : Nat} {r : Bool} {fg : Func} (hf1 : Try.prog.funcs[g]? = some fg) (hf2 : (fg.name == "runtime.NumGoroutine") = false) (hf3 : fg.body.isSome = true)
    (hget : ∀ w1, Below w.heap.size w w1 → Calls Try.prog g #[ptr B2] w1 fun e w' => e = .returned (.slice A n c) ∧ w' = w1)
    (hcon : ∀ w1 b3 c2, Below w.heap.size w w1 → q.size ≤ c2 → BytesAt G w1 b3 (bytesOf q) → Calls Try.prog 59 #[.slice A n c, .slice (some ⟨b3, 0, none⟩) q.size c2] w1 fun e w' => e = .returned (.bool r) ∧ Below w1.heap.size w1 w') : Hv w v B1 B2 r := by
  have h' := h
  obtain ⟨b1, b2, b3, c2, rfl, _⟩ := h
  refine ⟨_, _, _, rfl, Try.func62, by kernel_rfl, by kernel_rfl, fun w1 hb => ?_⟩
  obtain ⟨K, caps, e, hc⟩ := txt_is_holds (B1 := B1) (h'.below hb) hf1 hf2 hf3 (fun w2 h2 => hget w2 (hb.trans (h2.mono hb.size))) (fun w2 b c h2 => hcon w2 b c (hb.trans (h2.mono hb.size)))
  cases e
  exact hc
theorem chg_Hv {w : World} {v : Value} (h : ChgC w v (fnV 37)) {B1 B2 : Nat} {x1 x2 : Int} {p1 p2 : Value} {A1 A2 : Option Addr} {n1 c1 n2 c2 : Nat} {r : Bool} (hS1 : StC w B1 x1 p1 (.slice A1 n1 c1)) (hS2 : StC w B2 x2 p2 (.slice A2 n2 c2))
    (hcon : ∀ w1, Below w.heap.size w w1 → Calls Try.prog 59 #[.slice A1 n1 c1, .slice A2 n2 c2] w1 fun e w' => e = .returned (.bool r) ∧ Below w1.heap.size w1 w') : Hv w v B1 B2 (!r) := by
  have h' := h
  obtain ⟨b1, rfl, _⟩ := h
  refine ⟨_, _, _, rfl, Try.func58, by kernel_rfl, by kernel_rfl, fun w1 hb => ?_⟩
  obtain ⟨K, caps, e, hc⟩ := chg_holds (h'.below hb) (hS1.below hb) (hS2.below hb) (hcon w1.drew (below_drew hb))
  cases e
  exact hc

set_option maxRecDepth 100000 in
set_option maxHeartbeats 2000000 in
theorem not_Hv {w : World} {v : Value} {R : World → Value → Prop} {B1 B2 : Nat} {r : Bool} (h : NotC w v R) (hR : ∀ x, R w x → Hv w x B1 B2 r) : Hv w v B1 B2 (!r) := by
  obtain ⟨b, x, rfl, h1, h2⟩ := h
  obtain ⟨K, caps, fg, rfl, f1, f2, f3, hc⟩ := hR _ h2
  refine ⟨_, _, _, rfl, Try.func49, by kernel_rfl, by kernel_rfl, fun w1 hb => ?_⟩
  have he := fun args w => enters_ f1 f2 f3 args w
  have hd := (h1.below hb).at
  have hcc := hc w1 hb
  clear hc h1 h2 hR f1 f2 f3
  show Calls Try.prog 49 #[ptr B1, ptr B2, ptr b] w1 _
  go_enter Try.func49, Try.ntmps49
  go_wp2_with fail
  refine hcc.mono ?_
  rintro e w2 ⟨rfl, hb3⟩
  go_wp2_with fail
  go_ret
  exact ⟨rfl, hb3⟩

set_option maxRecDepth 100000 in
set_option maxHeartbeats 2000000 in
theorem and_Hv {w : World} {v : Value} {R1 R2 : World → Value → Prop} {B1 B2 : Nat} {r1 r2 : Bool} (h : AndC w v R1 R2) (hR1 : ∀ x, R1 w x → Hv w x B1 B2 r1) (hR2 : ∀ x, R2 w x → r1 = true → Hv w x B1 B2 r2) (hfn : ∀ x, R2 w x → ∃ K caps, x = .func (Fn.func K) #[] caps) : Hv w v B1 B2 (r1 && r2) := by
  obtain ⟨b1, b2, x1, x2, rfl, h1, h2, h3, h4⟩ := h
  obtain ⟨K, caps, fg, rfl, f1, f2, f3, hc⟩ := hR1 _ h3
  refine ⟨_, _, _, rfl, Try.func31, by kernel_rfl, by kernel_rfl, fun w1 hb => ?_⟩
  have he := fun args w => enters_ f1 f2 f3 args w
  have hd1 := (h1.below hb).at
  have hd2 := (h2.below hb).at
  have hcc := hc w1 hb
  show Calls Try.prog 31 #[ptr B1, ptr B2, ptr b1, ptr b2] w1 _
  cases r1
  · clear hc h1 h2 hR1 hR2 hfn f1 f2 f3
    go_enter Try.func31, Try.ntmps31
    go_wp2_with fail
    refine hcc.mono ?_
    rintro e w2 ⟨rfl, hb3⟩
    go_wp2_with fail
    go_ret
    exact ⟨rfl, hb3⟩
  · obtain ⟨L, caps2, fg2, rfl, k1, k2, k3, hc2⟩ := hR2 _ h4 rfl
    have he2 := fun args w => enters_ k1 k2 k3 args w
    have h2b := h2.below hb
    clear hc h1 h2 hR1 hR2 hfn f1 f2 f3 k1 k2 k3 hd2
    go_enter Try.func31, Try.ntmps31
    go_wp2_with fail
    refine hcc.mono ?_
    rintro e w2 ⟨rfl, hb3⟩
    have hd2 := (h2b.below hb3).at
    go_wp2_with fail
    refine (hc2 w2 (hb.trans (hb3.mono hb.size))).mono ?_
    rintro e w3 ⟨rfl, hb4⟩
    go_wp2_with fail
    go_ret
    exact ⟨by simp, hb3.trans (hb4.mono hb3.size)⟩
theorem holds_Hv {w : World} {v : Value} {b : Nat} {s : ByteArray} (hb : w.heap[b]? = some (.cells #[v, .string s] 57 (0, 0))) (cs1 cs2 : Array Value) {r : Bool}
    (hv : ∀ w2, Below w.heap.size w w2 → w2.heap[w.heap.size]? = some (.cells cs1 36 (0, 0)) → w2.heap[w.heap.size + 1]? = some (.cells cs2 36 (0, 0)) → Hv w2 v w.heap.size (w.heap.size + 1) r) :
    Calls Try.prog 8 #[ptr b, .agg cs1, .agg cs2] w fun e w' => e = .returned (.bool r) ∧ Below w.heap.size w w' := by
  have hb2 := below_alloc (below_alloc (Below.refl w.heap.size w) (.cells cs1 36)) (.cells cs2 36)
  have hn1 := blk_alloc (heap_alloc_new w (.cells cs1 36)) (.cells cs2 36)
  have hn2 := heap_alloc_new (w.alloc (.cells cs1 36)) (.cells cs2 36)
  rw [show (w.alloc (.cells cs1 36)).heap.size = w.heap.size + 1 by simp] at hn2
  obtain ⟨K, caps, fg, rfl, f1, f2, f3, hc⟩ := hv _ hb2 hn1 hn2
  exact holds_any f1 f2 f3 hb cs1 cs2 (hc _ (Below.refl _ _))
end Go.Proofs.Ythkkfkiiopfkjaa.L4
