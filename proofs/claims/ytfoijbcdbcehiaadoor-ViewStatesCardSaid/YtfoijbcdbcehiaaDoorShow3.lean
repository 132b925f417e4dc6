import Derived.Test.YtfoijbcdbcehiaaDoorParts
set_option linter.unusedVariables false
set_option linter.unusedSimpArgs false
namespace Go.Proofs.YtfoijbcdbcehiaaDoor.L4
open Go.RowKit Go.Proofs.YtfoijbcdbcehiaaDoorW.PrintWords

def k_pattern : List UInt8 := [112, 97, 116, 116, 101, 114, 110]
def k_hold : List UInt8 := [104, 111, 108, 100]
def k_rest : List UInt8 := [114, 101, 115, 116]
def k_out : List UInt8 := [111, 117, 116]
def k_place : List UInt8 := [112, 108, 97, 99, 101]
def k_regs : List UInt8 := [114, 101, 103, 115]
def k_waits : List UInt8 := [119, 97, 105, 116, 115]
def k_files : List UInt8 := [102, 105, 108, 101, 115]
/-- what the map holds: of each key that has come up its value -/
def shF (b6 b12 b18 b24 b30 b31 b32 b33 : Bool) (t15 t20 t25 t30 t35 : Value) (q : List UInt8) : Option Value :=
  if q = k_pattern ∧ b6 = true then some t15
  else if q = k_hold ∧ b12 = true then some t20
  else if q = k_rest ∧ b18 = true then some t25
  else if q = k_out ∧ b24 = true then some t30
  else if q = k_place ∧ b30 = true then some t35
  else if q = k_regs ∧ b31 = true then some (.func (Fn.func 20) #[] #[])
  else if q = k_waits ∧ b32 = true then some (.func (Fn.func 21) #[] #[])
  else if q = k_files ∧ b33 = true then some (.func (Fn.func 22) #[] #[])
  else none
/-- a closure that holds a slice -/
def Clo (A : Option Addr) (n c : Nat) (t : Value) (w : World) : Prop := ∃ b, t = .func (Fn.func 18) #[] #[.pointer (some ⟨b, 0, none⟩)] ∧ w.heap[b]? = some (.cells #[.slice A n c] 22 (0, 0))
theorem Clo.below {A : Option Addr} {n c : Nat} {t : Value} {w w1 : World} (h : Clo A n c t w) (hb : Below w.heap.size w w1) : Clo A n c t w1 :=
  let ⟨b, h1, h2⟩ := h
  ⟨b, h1, (hb.block b (blk_lt h2)).trans h2⟩
theorem Clo.grown {A : Option Addr} {n c m : Nat} {t : Value} {w w1 : World} {P : Program} {k : TypeId} {j : Nat} {f : List UInt8 → Option Value} (h : Clo A n c t w) (hg : w.grownBy w1 (some m)) (hm : MapIs P k m j f w) : Clo A n c t w1 := by
  obtain ⟨b, h1, h2⟩ := h
  refine ⟨b, h1, (hg.block b (blk_lt h2) ?_).trans h2⟩
  rintro e
  obtain ⟨D, ⟨es, clock, hb, _⟩, _⟩ := hm
  cases e
  rw [hb] at h2; cases h2
theorem Tb.grown {m j : Nat} {w w1 : World} {P : Program} {k : TypeId} {f : List UInt8 → Option Value} (h : Tb w) (hg : w.grownBy w1 (some m)) (hm : MapIs P k m j f w) : Tb w1 := by
  obtain ⟨h⟩ := h
  obtain ⟨D, ⟨es, clock, hb, _⟩, _⟩ := hm
  refine ⟨?_⟩
  unfold Lib.TabIs World.var? at *
  obtain ⟨g, hg1, h1⟩ := Option.bind_eq_some_iff.1 h
  rw [hg1]
  simp only [Option.bind_some]
  have hlt : g < w.heap.size := by
    rcases Nat.lt_or_ge g w.heap.size with h' | h'
    · exact h'
    · rw [Array.getElem?_eq_none h'] at h1; cases h1
  rw [hg.block g hlt (by intro e; cases e; rw [hb] at h1; cases h1)]
  exact h1
theorem getD_set_eq {l : Array Bool} {i : Nat} (d : Bool) (h : i < l.size) : (l.setIfInBounds i true).getD i d = true := by
  simp [Array.getD_eq_getD_getElem?, h]
theorem count_set {l : Array Bool} {i fuel : Nat} (h : l.toList.count false = fuel + 1) (hi : l.getD i true = false) : (l.setIfInBounds i true).toList.count false = fuel := by
  have hlt : i < l.size := by
    rcases Nat.lt_or_ge i l.size with h' | h'
    · exact h'
    · rw [Array.getD_eq_getD_getElem?, Array.getElem?_eq_none h'] at hi; cases hi
  have hv : l.toList[i]'(by simpa using hlt) = false := by
    rw [Array.getD_eq_getD_getElem?, Array.getElem?_eq_getElem hlt] at hi; simpa using hi
  rw [Array.toList_setIfInBounds, List.count_set (by simpa using hlt)]
  simp only [hv]
  rw [if_pos (by rfl), if_neg (by decide)]
  omega

def shFr (s : Sv) (what : ByteArray) (cs : Array Value) (B : Nat) (t10 t15 t20 t25 t30 t35 : Value) : Act := { tmps := #[.agg cs, .string what, .pointer (some ⟨B, 0, none⟩), undef, .slice none 0 0, .bool false, .func (Fn.func 17) #[] #[], undef, undef, undef, t10, .func (Fn.func 17) #[] #[], .pointer (some ⟨B, 0, none⟩), .pointer (some ⟨B, 0, none⟩), .slice s.a0 s.l0.length s.c0, t15, .func (Fn.func 17) #[] #[], .pointer (some ⟨B, 0, none⟩), .pointer (some ⟨B, 1, none⟩), .slice s.a1 s.l1.length s.c1, t20, .func (Fn.func 17) #[] #[], .pointer (some ⟨B, 6, none⟩), .pointer (some ⟨B, 10, none⟩), .slice s.a10 s.l10.length s.c10, t25, .func (Fn.func 17) #[] #[], .pointer (some ⟨B, 11, none⟩), .pointer (some ⟨B, 11, none⟩), .slice s.a11 s.l11.length s.c11, t30, .func (Fn.func 17) #[] #[], .pointer (some ⟨B, 11, none⟩), .pointer (some ⟨B, 13, none⟩), .slice s.a13 s.l13.length s.c13, t35, undef, .string what, undef, undef, undef, undef, undef, undef, undef, undef], defers := [] }
def shS (s : Sv) (B : Nat) (w' : World) : Prop := w'.cell? ⟨B, 0, none⟩ = some (.slice s.a0 s.l0.length s.c0) ∧ w'.cell? ⟨B, 1, none⟩ = some (.slice s.a1 s.l1.length s.c1) ∧ w'.cell? ⟨B, 10, none⟩ = some (.slice s.a10 s.l10.length s.c10) ∧ w'.cell? ⟨B, 11, none⟩ = some (.slice s.a11 s.l11.length s.c11) ∧ w'.cell? ⟨B, 13, none⟩ = some (.slice s.a13 s.l13.length s.c13)

/-- what the region's operations are -/
structure ShOps (ops : Array Oper) : Prop where
  o0 : ∃ o, At ops 0 (some 10) (.makeMap 55 none) o
  o5 : ∃ o, At ops 5 (some 15) (.call { callee := .value (.tmp 11), args := #[.tmp 14], argTypes := #[22] }) o
  o11 : ∃ o, At ops 11 (some 20) (.call { callee := .value (.tmp 16), args := #[.tmp 19], argTypes := #[22] }) o
  o17 : ∃ o, At ops 17 (some 25) (.call { callee := .value (.tmp 21), args := #[.tmp 24], argTypes := #[22] }) o
  o23 : ∃ o, At ops 23 (some 30) (.call { callee := .value (.tmp 26), args := #[.tmp 29], argTypes := #[22] }) o
  o29 : ∃ o, At ops 29 (some 35) (.call { callee := .value (.tmp 31), args := #[.tmp 34], argTypes := #[22] }) o
  o6 : ∃ o, At ops 6 none (.insert 55 (.tmp 10) (.const (.string ⟨#[112, 97, 116, 116, 101, 114, 110]⟩)) (.tmp 15)) o
  o12 : ∃ o, At ops 12 none (.insert 55 (.tmp 10) (.const (.string ⟨#[104, 111, 108, 100]⟩)) (.tmp 20)) o
  o18 : ∃ o, At ops 18 none (.insert 55 (.tmp 10) (.const (.string ⟨#[114, 101, 115, 116]⟩)) (.tmp 25)) o
  o24 : ∃ o, At ops 24 none (.insert 55 (.tmp 10) (.const (.string ⟨#[111, 117, 116]⟩)) (.tmp 30)) o
  o30 : ∃ o, At ops 30 none (.insert 55 (.tmp 10) (.const (.string ⟨#[112, 108, 97, 99, 101]⟩)) (.tmp 35)) o
  o31 : ∃ o, At ops 31 none (.insert 55 (.tmp 10) (.const (.string ⟨#[114, 101, 103, 115]⟩)) (.func 20)) o
  o32 : ∃ o, At ops 32 none (.insert 55 (.tmp 10) (.const (.string ⟨#[119, 97, 105, 116, 115]⟩)) (.func 21)) o
  o33 : ∃ o, At ops 33 none (.insert 55 (.tmp 10) (.const (.string ⟨#[102, 105, 108, 101, 115]⟩)) (.func 22)) o
  sz : ops.size = 42
  w6_0 : waitsFor .any ops 6 0 = true
  w6_5 : waitsFor .any ops 6 5 = true
  w12_0 : waitsFor .any ops 12 0 = true
  w12_11 : waitsFor .any ops 12 11 = true
  w18_0 : waitsFor .any ops 18 0 = true
  w18_17 : waitsFor .any ops 18 17 = true
  w24_0 : waitsFor .any ops 24 0 = true
  w24_23 : waitsFor .any ops 24 23 = true
  w30_0 : waitsFor .any ops 30 0 = true
  w30_29 : waitsFor .any ops 30 29 = true
  w31_0 : waitsFor .any ops 31 0 = true
  w32_0 : waitsFor .any ops 32 0 = true
  w33_0 : waitsFor .any ops 33 0 = true
  w11_5 : waitsFor .any ops 11 5 = true
  w17_11 : waitsFor .any ops 17 11 = true
  w23_17 : waitsFor .any ops 23 17 = true
  w29_23 : waitsFor .any ops 29 23 = true
  w34_0 : waitsFor .any ops 34 0 = true
  w34_5 : waitsFor .any ops 34 5 = true
  w34_11 : waitsFor .any ops 34 11 = true
  w34_17 : waitsFor .any ops 34 17 = true
  w34_23 : waitsFor .any ops 34 23 = true
  w34_29 : waitsFor .any ops 34 29 = true
  w34_6 : waitsFor .any ops 34 6 = true
  w34_12 : waitsFor .any ops 34 12 = true
  w34_18 : waitsFor .any ops 34 18 = true
  w34_24 : waitsFor .any ops 34 24 = true
  w34_30 : waitsFor .any ops 34 30 = true
  w34_31 : waitsFor .any ops 34 31 = true
  w34_32 : waitsFor .any ops 34 32 = true
  w34_33 : waitsFor .any ops 34 33 = true
  w36_34 : waitsFor .any ops 36 34 = true
  w37_36 : waitsFor .any ops 37 36 = true
  w38_37 : waitsFor .any ops 38 37 = true
  w39_37 : waitsFor .any ops 39 37 = true
  w40_38 : waitsFor .any ops 40 38 = true
  w41_39 : waitsFor .any ops 41 39 = true
  r0 : waitsIn .any ops 0 [] = true
  r6 : waitsIn .any ops 6 [0, 5] = true
  r12 : waitsIn .any ops 12 [0, 11] = true
  r18 : waitsIn .any ops 18 [0, 17] = true
  r24 : waitsIn .any ops 24 [0, 23] = true
  r30 : waitsIn .any ops 30 [0, 29] = true
  r31 : waitsIn .any ops 31 [0] = true
  r32 : waitsIn .any ops 32 [0] = true
  r33 : waitsIn .any ops 33 [0] = true
  r5 : waitsIn .any ops 5 [1, 4] = true
  r11 : waitsIn .any ops 11 [7, 10, 5] = true
  r17 : waitsIn .any ops 17 [13, 16, 11] = true
  r23 : waitsIn .any ops 23 [19, 22, 17] = true
  r29 : waitsIn .any ops 29 [25, 28, 23] = true

structure ShJ (s : Sv) (B : Nat) (w0 : World) (fuel : Nat) (l : Array Bool) (t10 t15 t20 t25 t30 t35 : Value) (w : World) : Prop where
  sz : l.size = 42
  fu : l.toList.count false = fuel
  pu : ∀ i ∈ [1, 2, 3, 4, 7, 8, 9, 10, 13, 14, 15, 16, 19, 20, 21, 22, 25, 26, 27, 28, 35], l.getD i false = true
  ta : ∀ i ∈ [34, 36, 37, 38, 39, 40, 41], l.getD i true = false
  d6_0 : l.getD 6 false = true → l.getD 0 false = true
  d6_5 : l.getD 6 false = true → l.getD 5 false = true
  d12_0 : l.getD 12 false = true → l.getD 0 false = true
  d12_11 : l.getD 12 false = true → l.getD 11 false = true
  d18_0 : l.getD 18 false = true → l.getD 0 false = true
  d18_17 : l.getD 18 false = true → l.getD 17 false = true
  d24_0 : l.getD 24 false = true → l.getD 0 false = true
  d24_23 : l.getD 24 false = true → l.getD 23 false = true
  d30_0 : l.getD 30 false = true → l.getD 0 false = true
  d30_29 : l.getD 30 false = true → l.getD 29 false = true
  d31_0 : l.getD 31 false = true → l.getD 0 false = true
  d32_0 : l.getD 32 false = true → l.getD 0 false = true
  d33_0 : l.getD 33 false = true → l.getD 0 false = true
  c5 : l.getD 5 false = true → Clo s.a0 s.l0.length s.c0 t15 w
  c11 : l.getD 11 false = true → Clo s.a1 s.l1.length s.c1 t20 w
  c17 : l.getD 17 false = true → Clo s.a10 s.l10.length s.c10 t25 w
  c23 : l.getD 23 false = true → Clo s.a11 s.l11.length s.c11 t30 w
  c29 : l.getD 29 false = true → Clo s.a13 s.l13.length s.c13 t35 w
  mp : l.getD 0 false = true → ∃ m n, t10 = .map (some m) ∧ B < m ∧ n + fuel ≤ 42 ∧ MapIs Tryd.prog 9 m n (shF (l.getD 6 false) (l.getD 12 false) (l.getD 18 false) (l.getD 24 false) (l.getD 30 false) (l.getD 31 false) (l.getD 32 false) (l.getD 33 false) t15 t20 t25 t30 t35) w
  hs : shS s B w
  tb : Tb w
  be : Below B w0 w
  ib : InB s B w
  lt : B < w.heap.size

theorem shS_of {s : Sv} {B : Nat} {w : World} (h : InB s B w) : shS s B w := ⟨h.cell 0, h.cell 1, h.cell 10, h.cell 11, h.cell 13⟩
theorem flip {l : Array Bool} {i : Nat} (hi : i < l.size) (h : ¬ l.getD i false = true) : l.getD i true = false := by
  rw [Array.getD_eq_getD_getElem?, Array.getElem?_eq_getElem hi] at h ⊢; simpa using h
theorem flop {l : Array Bool} {i : Nat} (hi : i < l.size) (h : l.getD i true = false) : l.getD i false = false := by
  rw [Array.getD_eq_getD_getElem?, Array.getElem?_eq_getElem hi] at h ⊢; simpa using h

theorem sh_ready {ops : Array Oper} (ho : ShOps ops) {s : Sv} {B : Nat} {w0 : World} {fuel : Nat} {l : Array Bool} {t10 t15 t20 t25 t30 t35 : Value} {w : World} (h : ShJ s B w0 fuel l t10 t15 t20 t25 t30 t35 w)
    (hr : Region.ready .any ops l = []) : l.getD 0 false = true ∧ l.getD 5 false = true ∧ l.getD 11 false = true ∧ l.getD 17 false = true ∧ l.getD 23 false = true ∧ l.getD 29 false = true ∧ l.getD 6 false = true ∧ l.getD 12 false = true ∧ l.getD 18 false = true ∧ l.getD 24 false = true ∧ l.getD 30 false = true ∧ l.getD 31 false = true ∧ l.getD 32 false = true ∧ l.getD 33 false = true := by
  have no : ∀ i, i ∈ Region.ready .any ops l → False := fun i hi => by rw [hr] at hi; cases hi
  have hsz := h.sz
  have g0 : l.getD 0 false = true := Decidable.byContradiction fun hc => no 0 (ready_of [] (flip (by omega) hc) ho.r0 (by simp))
  have g5 : l.getD 5 false = true := Decidable.byContradiction fun hc => no 5 (ready_of [1, 4] (flip (by omega) hc) ho.r5 (by simp only [List.forall_mem_cons]; exact ⟨h.pu 1 (by simp), h.pu 4 (by simp), by simp⟩))
  have g11 : l.getD 11 false = true := Decidable.byContradiction fun hc => no 11 (ready_of [7, 10, 5] (flip (by omega) hc) ho.r11 (by simp only [List.forall_mem_cons]; exact ⟨h.pu 7 (by simp), h.pu 10 (by simp), g5, by simp⟩))
  have g17 : l.getD 17 false = true := Decidable.byContradiction fun hc => no 17 (ready_of [13, 16, 11] (flip (by omega) hc) ho.r17 (by simp only [List.forall_mem_cons]; exact ⟨h.pu 13 (by simp), h.pu 16 (by simp), g11, by simp⟩))
  have g23 : l.getD 23 false = true := Decidable.byContradiction fun hc => no 23 (ready_of [19, 22, 17] (flip (by omega) hc) ho.r23 (by simp only [List.forall_mem_cons]; exact ⟨h.pu 19 (by simp), h.pu 22 (by simp), g17, by simp⟩))
  have g29 : l.getD 29 false = true := Decidable.byContradiction fun hc => no 29 (ready_of [25, 28, 23] (flip (by omega) hc) ho.r29 (by simp only [List.forall_mem_cons]; exact ⟨h.pu 25 (by simp), h.pu 28 (by simp), g23, by simp⟩))
  have g6 : l.getD 6 false = true := Decidable.byContradiction fun hc => no 6 (ready_of [0, 5] (flip (by omega) hc) ho.r6 (by simp only [List.forall_mem_cons]; exact ⟨g0, g5, by simp⟩))
  have g12 : l.getD 12 false = true := Decidable.byContradiction fun hc => no 12 (ready_of [0, 11] (flip (by omega) hc) ho.r12 (by simp only [List.forall_mem_cons]; exact ⟨g0, g11, by simp⟩))
  have g18 : l.getD 18 false = true := Decidable.byContradiction fun hc => no 18 (ready_of [0, 17] (flip (by omega) hc) ho.r18 (by simp only [List.forall_mem_cons]; exact ⟨g0, g17, by simp⟩))
  have g24 : l.getD 24 false = true := Decidable.byContradiction fun hc => no 24 (ready_of [0, 23] (flip (by omega) hc) ho.r24 (by simp only [List.forall_mem_cons]; exact ⟨g0, g23, by simp⟩))
  have g30 : l.getD 30 false = true := Decidable.byContradiction fun hc => no 30 (ready_of [0, 29] (flip (by omega) hc) ho.r30 (by simp only [List.forall_mem_cons]; exact ⟨g0, g29, by simp⟩))
  have g31 : l.getD 31 false = true := Decidable.byContradiction fun hc => no 31 (ready_of [0] (flip (by omega) hc) ho.r31 (by simp only [List.forall_mem_cons]; exact ⟨g0, by simp⟩))
  have g32 : l.getD 32 false = true := Decidable.byContradiction fun hc => no 32 (ready_of [0] (flip (by omega) hc) ho.r32 (by simp only [List.forall_mem_cons]; exact ⟨g0, by simp⟩))
  have g33 : l.getD 33 false = true := Decidable.byContradiction fun hc => no 33 (ready_of [0] (flip (by omega) hc) ho.r33 (by simp only [List.forall_mem_cons]; exact ⟨g0, by simp⟩))
  exact ⟨g0, g5, g11, g17, g23, g29, g6, g12, g18, g24, g30, g31, g32, g33⟩

/-- what is kept whatever comes up -/
theorem sh_step {ops : Array Oper} (ho : ShOps ops) {s : Sv} {what : ByteArray} {cs : Array Value} {B : Nat} {w0 : World} {Q : Exit → Act → World → Prop} {fuel : Nat} {l : Array Bool} {t10 t15 t20 t25 t30 t35 : Value} {w : World} (h : ShJ s B w0 (fuel + 1) l t10 t15 t20 t25 t30 t35 w)
    (hne : ¬ (l.getD 0 false = true ∧ l.getD 5 false = true ∧ l.getD 11 false = true ∧ l.getD 17 false = true ∧ l.getD 23 false = true ∧ l.getD 29 false = true ∧ l.getD 6 false = true ∧ l.getD 12 false = true ∧ l.getD 18 false = true ∧ l.getD 24 false = true ∧ l.getD 30 false = true ∧ l.getD 31 false = true ∧ l.getD 32 false = true ∧ l.getD 33 false = true)) (i : Nat) (hi : i ∈ Region.ready .any ops l) :
    wpOp Tryd.prog ops Q i (fun a' w' => shS s B w' ∧ ∃ t10 t15 t20 t25 t30 t35, a' = shFr s what cs B t10 t15 t20 t25 t30 t35 ∧ ShJ s B w0 fuel (l.setIfInBounds i true) t10 t15 t20 t25 t30 t35 w') (shFr s what cs B t10 t15 t20 t25 t30 t35) w := by
  have hlt := ready_lt hi
  rw [ho.sz] at hlt
  obtain ⟨h42, hl⟩ := hlt
  have hsz := h.sz
  have hcn := count_set h.fu hl
  have hf := flop (by omega) hl
  have hss : (l.setIfInBounds i true).size = 42 := by rw [Array.size_setIfInBounds]; exact hsz
  have puK : ∀ j ∈ [1, 2, 3, 4, 7, 8, 9, 10, 13, 14, 15, 16, 19, 20, 21, 22, 25, 26, 27, 28, 35], (l.setIfInBounds i true).getD j false = true := fun j hj => getD_set_true (h.pu j hj)
  obtain rfl | rfl | rfl | rfl | rfl | rfl | rfl | rfl | rfl | rfl | rfl | rfl | rfl | rfl | rfl | rfl | rfl | rfl | rfl | rfl | rfl | rfl | rfl | rfl | rfl | rfl | rfl | rfl | rfl | rfl | rfl | rfl | rfl | rfl | rfl | rfl | rfl | rfl | rfl | rfl | rfl | rfl : i = 0 ∨ i = 1 ∨ i = 2 ∨ i = 3 ∨ i = 4 ∨ i = 5 ∨ i = 6 ∨ i = 7 ∨ i = 8 ∨ i = 9 ∨ i = 10 ∨ i = 11 ∨ i = 12 ∨ i = 13 ∨ i = 14 ∨ i = 15 ∨ i = 16 ∨ i = 17 ∨ i = 18 ∨ i = 19 ∨ i = 20 ∨ i = 21 ∨ i = 22 ∨ i = 23 ∨ i = 24 ∨ i = 25 ∨ i = 26 ∨ i = 27 ∨ i = 28 ∨ i = 29 ∨ i = 30 ∨ i = 31 ∨ i = 32 ∨ i = 33 ∨ i = 34 ∨ i = 35 ∨ i = 36 ∨ i = 37 ∨ i = 38 ∨ i = 39 ∨ i = 40 ∨ i = 41 := by omega
  · obtain ⟨o, hat⟩ := ho.o0
    refine op_makeMap hat ?_
    have hb := below_alloc (Below.refl w.heap.size w) (.map #[] 0)
    refine ⟨shS_of (h.ib.below hb), .map (some w.heap.size), t15, t20, t25, t30, t35, rfl, ?_⟩
    have n6 : l.getD 6 false = false := by
      cases hx : l.getD 6 false
      · rfl
      · exact absurd (h.d6_0 hx) (by rw [hf]; simp)
    have n12 : l.getD 12 false = false := by
      cases hx : l.getD 12 false
      · rfl
      · exact absurd (h.d12_0 hx) (by rw [hf]; simp)
    have n18 : l.getD 18 false = false := by
      cases hx : l.getD 18 false
      · rfl
      · exact absurd (h.d18_0 hx) (by rw [hf]; simp)
    have n24 : l.getD 24 false = false := by
      cases hx : l.getD 24 false
      · rfl
      · exact absurd (h.d24_0 hx) (by rw [hf]; simp)
    have n30 : l.getD 30 false = false := by
      cases hx : l.getD 30 false
      · rfl
      · exact absurd (h.d30_0 hx) (by rw [hf]; simp)
    have n31 : l.getD 31 false = false := by
      cases hx : l.getD 31 false
      · rfl
      · exact absurd (h.d31_0 hx) (by rw [hf]; simp)
    have n32 : l.getD 32 false = false := by
      cases hx : l.getD 32 false
      · rfl
      · exact absurd (h.d32_0 hx) (by rw [hf]; simp)
    have n33 : l.getD 33 false = false := by
      cases hx : l.getD 33 false
      · rfl
      · exact absurd (h.d33_0 hx) (by rw [hf]; simp)
    exact { sz := hss, fu := hcn, pu := puK, ta := fun j hj => (getD_set_ne true (by rintro rfl; revert hj; decide)).trans (h.ta j hj), d6_0 := fun hx => getD_set_true (h.d6_0 (by rwa [getD_set_ne false (by decide)] at hx)), d6_5 := fun hx => getD_set_true (h.d6_5 (by rwa [getD_set_ne false (by decide)] at hx)), d12_0 := fun hx => getD_set_true (h.d12_0 (by rwa [getD_set_ne false (by decide)] at hx)), d12_11 := fun hx => getD_set_true (h.d12_11 (by rwa [getD_set_ne false (by decide)] at hx)), d18_0 := fun hx => getD_set_true (h.d18_0 (by rwa [getD_set_ne false (by decide)] at hx)), d18_17 := fun hx => getD_set_true (h.d18_17 (by rwa [getD_set_ne false (by decide)] at hx)), d24_0 := fun hx => getD_set_true (h.d24_0 (by rwa [getD_set_ne false (by decide)] at hx)), d24_23 := fun hx => getD_set_true (h.d24_23 (by rwa [getD_set_ne false (by decide)] at hx)), d30_0 := fun hx => getD_set_true (h.d30_0 (by rwa [getD_set_ne false (by decide)] at hx)), d30_29 := fun hx => getD_set_true (h.d30_29 (by rwa [getD_set_ne false (by decide)] at hx)), d31_0 := fun hx => getD_set_true (h.d31_0 (by rwa [getD_set_ne false (by decide)] at hx)), d32_0 := fun hx => getD_set_true (h.d32_0 (by rwa [getD_set_ne false (by decide)] at hx)), d33_0 := fun hx => getD_set_true (h.d33_0 (by rwa [getD_set_ne false (by decide)] at hx)), c5 := fun hx => (h.c5 (by rwa [getD_set_ne false (by decide)] at hx)).below hb, c11 := fun hx => (h.c11 (by rwa [getD_set_ne false (by decide)] at hx)).below hb, c17 := fun hx => (h.c17 (by rwa [getD_set_ne false (by decide)] at hx)).below hb, c23 := fun hx => (h.c23 (by rwa [getD_set_ne false (by decide)] at hx)).below hb, c29 := fun hx => (h.c29 (by rwa [getD_set_ne false (by decide)] at hx)).below hb, mp := fun _ => ⟨w.heap.size, 0, rfl, h.lt, by have := h.fu; have := List.count_le_length (a := false) (l := l.toList); simp only [Array.length_toList] at this; omega, (MapIs.made w _).congr (fun q => by rw [getD_set_ne (i := 0) (j := 6) false (by decide), getD_set_ne (i := 0) (j := 12) false (by decide), getD_set_ne (i := 0) (j := 18) false (by decide), getD_set_ne (i := 0) (j := 24) false (by decide), getD_set_ne (i := 0) (j := 30) false (by decide), getD_set_ne (i := 0) (j := 31) false (by decide), getD_set_ne (i := 0) (j := 32) false (by decide), getD_set_ne (i := 0) (j := 33) false (by decide), n6, n12, n18, n24, n30, n31, n32, n33]; simp [shF])⟩, hs := shS_of (h.ib.below hb), tb := h.tb.below hb, be := h.be.trans (hb.mono (Nat.le_of_lt h.lt)), ib := h.ib.below hb, lt := Nat.lt_of_lt_of_le h.lt hb.size }
  · exact absurd (h.pu 1 (by simp)) (by rw [hf]; simp)
  · exact absurd (h.pu 2 (by simp)) (by rw [hf]; simp)
  · exact absurd (h.pu 3 (by simp)) (by rw [hf]; simp)
  · exact absurd (h.pu 4 (by simp)) (by rw [hf]; simp)
  · obtain ⟨o, hat⟩ := ho.o5
    refine op_call (fn := 17) (caps := #[]) (args := #[.slice s.a0 s.l0.length s.c0]) hat rfl rfl Tryd.func17 (by kernel_rfl) (by kernel_rfl) ?_
    refine Calls.mono (show1_any s.a0 s.l0.length s.c0 w) ?_
    rintro e w1 ⟨rfl, rfl⟩
    have hb := below_alloc (Below.refl w.heap.size w) (.cells #[.slice s.a0 s.l0.length s.c0] 22)
    refine ⟨_, rfl, shS_of (h.ib.below hb), t10, .func (Fn.func 18) #[] #[.pointer (some ⟨w.heap.size, 0, none⟩)], t20, t25, t30, t35, rfl, ?_⟩
    have n6 : l.getD 6 false = false := by
      cases hx : l.getD 6 false
      · rfl
      · exact absurd (h.d6_5 hx) (by rw [hf]; simp)
    exact {
        sz := hss
        fu := hcn
        pu := puK
        ta := fun j hj => (getD_set_ne true (by rintro rfl; revert hj; decide)).trans (h.ta j hj)
        d6_0 := fun hx => getD_set_true (h.d6_0 (by rwa [getD_set_ne false (by decide)] at hx))
        d6_5 := fun hx => getD_set_true (h.d6_5 (by rwa [getD_set_ne false (by decide)] at hx))
        d12_0 := fun hx => getD_set_true (h.d12_0 (by rwa [getD_set_ne false (by decide)] at hx))
        d12_11 := fun hx => getD_set_true (h.d12_11 (by rwa [getD_set_ne false (by decide)] at hx))
        d18_0 := fun hx => getD_set_true (h.d18_0 (by rwa [getD_set_ne false (by decide)] at hx))
        d18_17 := fun hx => getD_set_true (h.d18_17 (by rwa [getD_set_ne false (by decide)] at hx))
        d24_0 := fun hx => getD_set_true (h.d24_0 (by rwa [getD_set_ne false (by decide)] at hx))
        d24_23 := fun hx => getD_set_true (h.d24_23 (by rwa [getD_set_ne false (by decide)] at hx))
        d30_0 := fun hx => getD_set_true (h.d30_0 (by rwa [getD_set_ne false (by decide)] at hx))
        d30_29 := fun hx => getD_set_true (h.d30_29 (by rwa [getD_set_ne false (by decide)] at hx))
        d31_0 := fun hx => getD_set_true (h.d31_0 (by rwa [getD_set_ne false (by decide)] at hx))
        d32_0 := fun hx => getD_set_true (h.d32_0 (by rwa [getD_set_ne false (by decide)] at hx))
        d33_0 := fun hx => getD_set_true (h.d33_0 (by rwa [getD_set_ne false (by decide)] at hx))
        c5 := fun _ => ⟨w.heap.size, rfl, by show (w.heap.push _)[w.heap.size]? = _; simp⟩
        c11 := fun hx => (h.c11 (by rwa [getD_set_ne false (by decide)] at hx)).below hb
        c17 := fun hx => (h.c17 (by rwa [getD_set_ne false (by decide)] at hx)).below hb
        c23 := fun hx => (h.c23 (by rwa [getD_set_ne false (by decide)] at hx)).below hb
        c29 := fun hx => (h.c29 (by rwa [getD_set_ne false (by decide)] at hx)).below hb
        mp := fun hx => by
          obtain ⟨m, n, e1, e2, e3, e4⟩ := h.mp (by rwa [getD_set_ne false (by decide)] at hx)
          exact ⟨m, n, e1, e2, by omega, (e4.below hb).congr (fun q => by rw [getD_set_ne (i := 5) (j := 6) false (by decide), getD_set_ne (i := 5) (j := 12) false (by decide), getD_set_ne (i := 5) (j := 18) false (by decide), getD_set_ne (i := 5) (j := 24) false (by decide), getD_set_ne (i := 5) (j := 30) false (by decide), getD_set_ne (i := 5) (j := 31) false (by decide), getD_set_ne (i := 5) (j := 32) false (by decide), getD_set_ne (i := 5) (j := 33) false (by decide), n6]; simp [shF])⟩
        hs := shS_of (h.ib.below hb)
        tb := h.tb.below hb
        be := h.be.trans (hb.mono (Nat.le_of_lt h.lt))
        ib := h.ib.below hb
        lt := Nat.lt_of_lt_of_le h.lt hb.size }
  · obtain ⟨o, hat⟩ := ho.o6
    obtain ⟨m, n, e1, e2, e3, e4⟩ := h.mp (deps_of hi ho.w6_0)
    subst e1
    obtain ⟨w1, hrun, e5, hg⟩ := e4.put (t := 55) (e := _) Tryd.underlying9 Tryd.underlying55 (by omega) ⟨#[112, 97, 116, 116, 101, 114, 110]⟩ (by decide) (t15)
    refine op_insert (w1 := w1) hat hrun ?_
    have hbw : Below B w w1 := ⟨hg.os, hg.tape, hg.output, hg.size, fun q hq => hg.block q (Nat.lt_trans hq h.lt) (by intro e; cases e; omega)⟩
    have hib : InB s B w1 := by
      have := h.ib
      unfold InB at this ⊢
      rw [hg.block B h.lt (by intro e; cases e; omega)]; exact this
    refine ⟨shS_of hib, .map (some m), t15, t20, t25, t30, t35, rfl, ?_⟩
    exact {
        sz := hss
        fu := hcn
        pu := puK
        ta := fun j hj => (getD_set_ne true (by rintro rfl; revert hj; decide)).trans (h.ta j hj)
        d6_0 := fun _ => getD_set_true (deps_of hi ho.w6_0)
        d6_5 := fun _ => getD_set_true (deps_of hi ho.w6_5)
        d12_0 := fun hx => getD_set_true (h.d12_0 (by rwa [getD_set_ne false (by decide)] at hx))
        d12_11 := fun hx => getD_set_true (h.d12_11 (by rwa [getD_set_ne false (by decide)] at hx))
        d18_0 := fun hx => getD_set_true (h.d18_0 (by rwa [getD_set_ne false (by decide)] at hx))
        d18_17 := fun hx => getD_set_true (h.d18_17 (by rwa [getD_set_ne false (by decide)] at hx))
        d24_0 := fun hx => getD_set_true (h.d24_0 (by rwa [getD_set_ne false (by decide)] at hx))
        d24_23 := fun hx => getD_set_true (h.d24_23 (by rwa [getD_set_ne false (by decide)] at hx))
        d30_0 := fun hx => getD_set_true (h.d30_0 (by rwa [getD_set_ne false (by decide)] at hx))
        d30_29 := fun hx => getD_set_true (h.d30_29 (by rwa [getD_set_ne false (by decide)] at hx))
        d31_0 := fun hx => getD_set_true (h.d31_0 (by rwa [getD_set_ne false (by decide)] at hx))
        d32_0 := fun hx => getD_set_true (h.d32_0 (by rwa [getD_set_ne false (by decide)] at hx))
        d33_0 := fun hx => getD_set_true (h.d33_0 (by rwa [getD_set_ne false (by decide)] at hx))
        c5 := fun hx => (h.c5 (by rwa [getD_set_ne false (by decide)] at hx)).grown hg e4
        c11 := fun hx => (h.c11 (by rwa [getD_set_ne false (by decide)] at hx)).grown hg e4
        c17 := fun hx => (h.c17 (by rwa [getD_set_ne false (by decide)] at hx)).grown hg e4
        c23 := fun hx => (h.c23 (by rwa [getD_set_ne false (by decide)] at hx)).grown hg e4
        c29 := fun hx => (h.c29 (by rwa [getD_set_ne false (by decide)] at hx)).grown hg e4
        mp := fun _ => ⟨m, n + 1, rfl, e2, by omega, e5.congr (fun q => by
          rw [getD_set_ne (i := 6) (j := 12) false (by decide), getD_set_ne (i := 6) (j := 18) false (by decide), getD_set_ne (i := 6) (j := 24) false (by decide), getD_set_ne (i := 6) (j := 30) false (by decide), getD_set_ne (i := 6) (j := 31) false (by decide), getD_set_ne (i := 6) (j := 32) false (by decide), getD_set_ne (i := 6) (j := 33) false (by decide), getD_set_eq false (by omega)]
          by_cases hq : q = [112, 97, 116, 116, 101, 114, 110]
          · subst hq; simp [shF, k_pattern, k_hold, k_rest, k_out, k_place, k_regs, k_waits, k_files]
          · rw [if_neg hq]; simp [shF, k_pattern, k_hold, k_rest, k_out, k_place, k_regs, k_waits, k_files, hq, hf])⟩
        hs := shS_of hib
        tb := h.tb.grown hg e4
        be := h.be.trans hbw
        ib := hib
        lt := Nat.lt_of_lt_of_le h.lt hg.size }
  · exact absurd (h.pu 7 (by simp)) (by rw [hf]; simp)
  · exact absurd (h.pu 8 (by simp)) (by rw [hf]; simp)
  · exact absurd (h.pu 9 (by simp)) (by rw [hf]; simp)
  · exact absurd (h.pu 10 (by simp)) (by rw [hf]; simp)
  · obtain ⟨o, hat⟩ := ho.o11
    refine op_call (fn := 17) (caps := #[]) (args := #[.slice s.a1 s.l1.length s.c1]) hat rfl rfl Tryd.func17 (by kernel_rfl) (by kernel_rfl) ?_
    refine Calls.mono (show1_any s.a1 s.l1.length s.c1 w) ?_
    rintro e w1 ⟨rfl, rfl⟩
    have hb := below_alloc (Below.refl w.heap.size w) (.cells #[.slice s.a1 s.l1.length s.c1] 22)
    refine ⟨_, rfl, shS_of (h.ib.below hb), t10, t15, .func (Fn.func 18) #[] #[.pointer (some ⟨w.heap.size, 0, none⟩)], t25, t30, t35, rfl, ?_⟩
    have n12 : l.getD 12 false = false := by
      cases hx : l.getD 12 false
      · rfl
      · exact absurd (h.d12_11 hx) (by rw [hf]; simp)
    exact {
        sz := hss
        fu := hcn
        pu := puK
        ta := fun j hj => (getD_set_ne true (by rintro rfl; revert hj; decide)).trans (h.ta j hj)
        d6_0 := fun hx => getD_set_true (h.d6_0 (by rwa [getD_set_ne false (by decide)] at hx))
        d6_5 := fun hx => getD_set_true (h.d6_5 (by rwa [getD_set_ne false (by decide)] at hx))
        d12_0 := fun hx => getD_set_true (h.d12_0 (by rwa [getD_set_ne false (by decide)] at hx))
        d12_11 := fun hx => getD_set_true (h.d12_11 (by rwa [getD_set_ne false (by decide)] at hx))
        d18_0 := fun hx => getD_set_true (h.d18_0 (by rwa [getD_set_ne false (by decide)] at hx))
        d18_17 := fun hx => getD_set_true (h.d18_17 (by rwa [getD_set_ne false (by decide)] at hx))
        d24_0 := fun hx => getD_set_true (h.d24_0 (by rwa [getD_set_ne false (by decide)] at hx))
        d24_23 := fun hx => getD_set_true (h.d24_23 (by rwa [getD_set_ne false (by decide)] at hx))
        d30_0 := fun hx => getD_set_true (h.d30_0 (by rwa [getD_set_ne false (by decide)] at hx))
        d30_29 := fun hx => getD_set_true (h.d30_29 (by rwa [getD_set_ne false (by decide)] at hx))
        d31_0 := fun hx => getD_set_true (h.d31_0 (by rwa [getD_set_ne false (by decide)] at hx))
        d32_0 := fun hx => getD_set_true (h.d32_0 (by rwa [getD_set_ne false (by decide)] at hx))
        d33_0 := fun hx => getD_set_true (h.d33_0 (by rwa [getD_set_ne false (by decide)] at hx))
        c5 := fun hx => (h.c5 (by rwa [getD_set_ne false (by decide)] at hx)).below hb
        c11 := fun _ => ⟨w.heap.size, rfl, by show (w.heap.push _)[w.heap.size]? = _; simp⟩
        c17 := fun hx => (h.c17 (by rwa [getD_set_ne false (by decide)] at hx)).below hb
        c23 := fun hx => (h.c23 (by rwa [getD_set_ne false (by decide)] at hx)).below hb
        c29 := fun hx => (h.c29 (by rwa [getD_set_ne false (by decide)] at hx)).below hb
        mp := fun hx => by
          obtain ⟨m, n, e1, e2, e3, e4⟩ := h.mp (by rwa [getD_set_ne false (by decide)] at hx)
          exact ⟨m, n, e1, e2, by omega, (e4.below hb).congr (fun q => by rw [getD_set_ne (i := 11) (j := 6) false (by decide), getD_set_ne (i := 11) (j := 12) false (by decide), getD_set_ne (i := 11) (j := 18) false (by decide), getD_set_ne (i := 11) (j := 24) false (by decide), getD_set_ne (i := 11) (j := 30) false (by decide), getD_set_ne (i := 11) (j := 31) false (by decide), getD_set_ne (i := 11) (j := 32) false (by decide), getD_set_ne (i := 11) (j := 33) false (by decide), n12]; simp [shF])⟩
        hs := shS_of (h.ib.below hb)
        tb := h.tb.below hb
        be := h.be.trans (hb.mono (Nat.le_of_lt h.lt))
        ib := h.ib.below hb
        lt := Nat.lt_of_lt_of_le h.lt hb.size }
  · obtain ⟨o, hat⟩ := ho.o12
    obtain ⟨m, n, e1, e2, e3, e4⟩ := h.mp (deps_of hi ho.w12_0)
    subst e1
    obtain ⟨w1, hrun, e5, hg⟩ := e4.put (t := 55) (e := _) Tryd.underlying9 Tryd.underlying55 (by omega) ⟨#[104, 111, 108, 100]⟩ (by decide) (t20)
    refine op_insert (w1 := w1) hat hrun ?_
    have hbw : Below B w w1 := ⟨hg.os, hg.tape, hg.output, hg.size, fun q hq => hg.block q (Nat.lt_trans hq h.lt) (by intro e; cases e; omega)⟩
    have hib : InB s B w1 := by
      have := h.ib
      unfold InB at this ⊢
      rw [hg.block B h.lt (by intro e; cases e; omega)]; exact this
    refine ⟨shS_of hib, .map (some m), t15, t20, t25, t30, t35, rfl, ?_⟩
    exact {
        sz := hss
        fu := hcn
        pu := puK
        ta := fun j hj => (getD_set_ne true (by rintro rfl; revert hj; decide)).trans (h.ta j hj)
        d6_0 := fun hx => getD_set_true (h.d6_0 (by rwa [getD_set_ne false (by decide)] at hx))
        d6_5 := fun hx => getD_set_true (h.d6_5 (by rwa [getD_set_ne false (by decide)] at hx))
        d12_0 := fun _ => getD_set_true (deps_of hi ho.w12_0)
        d12_11 := fun _ => getD_set_true (deps_of hi ho.w12_11)
        d18_0 := fun hx => getD_set_true (h.d18_0 (by rwa [getD_set_ne false (by decide)] at hx))
        d18_17 := fun hx => getD_set_true (h.d18_17 (by rwa [getD_set_ne false (by decide)] at hx))
        d24_0 := fun hx => getD_set_true (h.d24_0 (by rwa [getD_set_ne false (by decide)] at hx))
        d24_23 := fun hx => getD_set_true (h.d24_23 (by rwa [getD_set_ne false (by decide)] at hx))
        d30_0 := fun hx => getD_set_true (h.d30_0 (by rwa [getD_set_ne false (by decide)] at hx))
        d30_29 := fun hx => getD_set_true (h.d30_29 (by rwa [getD_set_ne false (by decide)] at hx))
        d31_0 := fun hx => getD_set_true (h.d31_0 (by rwa [getD_set_ne false (by decide)] at hx))
        d32_0 := fun hx => getD_set_true (h.d32_0 (by rwa [getD_set_ne false (by decide)] at hx))
        d33_0 := fun hx => getD_set_true (h.d33_0 (by rwa [getD_set_ne false (by decide)] at hx))
        c5 := fun hx => (h.c5 (by rwa [getD_set_ne false (by decide)] at hx)).grown hg e4
        c11 := fun hx => (h.c11 (by rwa [getD_set_ne false (by decide)] at hx)).grown hg e4
        c17 := fun hx => (h.c17 (by rwa [getD_set_ne false (by decide)] at hx)).grown hg e4
        c23 := fun hx => (h.c23 (by rwa [getD_set_ne false (by decide)] at hx)).grown hg e4
        c29 := fun hx => (h.c29 (by rwa [getD_set_ne false (by decide)] at hx)).grown hg e4
        mp := fun _ => ⟨m, n + 1, rfl, e2, by omega, e5.congr (fun q => by
          rw [getD_set_ne (i := 12) (j := 6) false (by decide), getD_set_ne (i := 12) (j := 18) false (by decide), getD_set_ne (i := 12) (j := 24) false (by decide), getD_set_ne (i := 12) (j := 30) false (by decide), getD_set_ne (i := 12) (j := 31) false (by decide), getD_set_ne (i := 12) (j := 32) false (by decide), getD_set_ne (i := 12) (j := 33) false (by decide), getD_set_eq false (by omega)]
          by_cases hq : q = [104, 111, 108, 100]
          · subst hq; simp [shF, k_pattern, k_hold, k_rest, k_out, k_place, k_regs, k_waits, k_files]
          · rw [if_neg hq]; simp [shF, k_pattern, k_hold, k_rest, k_out, k_place, k_regs, k_waits, k_files, hq, hf])⟩
        hs := shS_of hib
        tb := h.tb.grown hg e4
        be := h.be.trans hbw
        ib := hib
        lt := Nat.lt_of_lt_of_le h.lt hg.size }
  · exact absurd (h.pu 13 (by simp)) (by rw [hf]; simp)
  · exact absurd (h.pu 14 (by simp)) (by rw [hf]; simp)
  · exact absurd (h.pu 15 (by simp)) (by rw [hf]; simp)
  · exact absurd (h.pu 16 (by simp)) (by rw [hf]; simp)
  · obtain ⟨o, hat⟩ := ho.o17
    refine op_call (fn := 17) (caps := #[]) (args := #[.slice s.a10 s.l10.length s.c10]) hat rfl rfl Tryd.func17 (by kernel_rfl) (by kernel_rfl) ?_
    refine Calls.mono (show1_any s.a10 s.l10.length s.c10 w) ?_
    rintro e w1 ⟨rfl, rfl⟩
    have hb := below_alloc (Below.refl w.heap.size w) (.cells #[.slice s.a10 s.l10.length s.c10] 22)
    refine ⟨_, rfl, shS_of (h.ib.below hb), t10, t15, t20, .func (Fn.func 18) #[] #[.pointer (some ⟨w.heap.size, 0, none⟩)], t30, t35, rfl, ?_⟩
    have n18 : l.getD 18 false = false := by
      cases hx : l.getD 18 false
      · rfl
      · exact absurd (h.d18_17 hx) (by rw [hf]; simp)
    exact {
        sz := hss
        fu := hcn
        pu := puK
        ta := fun j hj => (getD_set_ne true (by rintro rfl; revert hj; decide)).trans (h.ta j hj)
        d6_0 := fun hx => getD_set_true (h.d6_0 (by rwa [getD_set_ne false (by decide)] at hx))
        d6_5 := fun hx => getD_set_true (h.d6_5 (by rwa [getD_set_ne false (by decide)] at hx))
        d12_0 := fun hx => getD_set_true (h.d12_0 (by rwa [getD_set_ne false (by decide)] at hx))
        d12_11 := fun hx => getD_set_true (h.d12_11 (by rwa [getD_set_ne false (by decide)] at hx))
        d18_0 := fun hx => getD_set_true (h.d18_0 (by rwa [getD_set_ne false (by decide)] at hx))
        d18_17 := fun hx => getD_set_true (h.d18_17 (by rwa [getD_set_ne false (by decide)] at hx))
        d24_0 := fun hx => getD_set_true (h.d24_0 (by rwa [getD_set_ne false (by decide)] at hx))
        d24_23 := fun hx => getD_set_true (h.d24_23 (by rwa [getD_set_ne false (by decide)] at hx))
        d30_0 := fun hx => getD_set_true (h.d30_0 (by rwa [getD_set_ne false (by decide)] at hx))
        d30_29 := fun hx => getD_set_true (h.d30_29 (by rwa [getD_set_ne false (by decide)] at hx))
        d31_0 := fun hx => getD_set_true (h.d31_0 (by rwa [getD_set_ne false (by decide)] at hx))
        d32_0 := fun hx => getD_set_true (h.d32_0 (by rwa [getD_set_ne false (by decide)] at hx))
        d33_0 := fun hx => getD_set_true (h.d33_0 (by rwa [getD_set_ne false (by decide)] at hx))
        c5 := fun hx => (h.c5 (by rwa [getD_set_ne false (by decide)] at hx)).below hb
        c11 := fun hx => (h.c11 (by rwa [getD_set_ne false (by decide)] at hx)).below hb
        c17 := fun _ => ⟨w.heap.size, rfl, by show (w.heap.push _)[w.heap.size]? = _; simp⟩
        c23 := fun hx => (h.c23 (by rwa [getD_set_ne false (by decide)] at hx)).below hb
        c29 := fun hx => (h.c29 (by rwa [getD_set_ne false (by decide)] at hx)).below hb
        mp := fun hx => by
          obtain ⟨m, n, e1, e2, e3, e4⟩ := h.mp (by rwa [getD_set_ne false (by decide)] at hx)
          exact ⟨m, n, e1, e2, by omega, (e4.below hb).congr (fun q => by rw [getD_set_ne (i := 17) (j := 6) false (by decide), getD_set_ne (i := 17) (j := 12) false (by decide), getD_set_ne (i := 17) (j := 18) false (by decide), getD_set_ne (i := 17) (j := 24) false (by decide), getD_set_ne (i := 17) (j := 30) false (by decide), getD_set_ne (i := 17) (j := 31) false (by decide), getD_set_ne (i := 17) (j := 32) false (by decide), getD_set_ne (i := 17) (j := 33) false (by decide), n18]; simp [shF])⟩
        hs := shS_of (h.ib.below hb)
        tb := h.tb.below hb
        be := h.be.trans (hb.mono (Nat.le_of_lt h.lt))
        ib := h.ib.below hb
        lt := Nat.lt_of_lt_of_le h.lt hb.size }
  · obtain ⟨o, hat⟩ := ho.o18
    obtain ⟨m, n, e1, e2, e3, e4⟩ := h.mp (deps_of hi ho.w18_0)
    subst e1
    obtain ⟨w1, hrun, e5, hg⟩ := e4.put (t := 55) (e := _) Tryd.underlying9 Tryd.underlying55 (by omega) ⟨#[114, 101, 115, 116]⟩ (by decide) (t25)
    refine op_insert (w1 := w1) hat hrun ?_
    have hbw : Below B w w1 := ⟨hg.os, hg.tape, hg.output, hg.size, fun q hq => hg.block q (Nat.lt_trans hq h.lt) (by intro e; cases e; omega)⟩
    have hib : InB s B w1 := by
      have := h.ib
      unfold InB at this ⊢
      rw [hg.block B h.lt (by intro e; cases e; omega)]; exact this
    refine ⟨shS_of hib, .map (some m), t15, t20, t25, t30, t35, rfl, ?_⟩
    exact {
        sz := hss
        fu := hcn
        pu := puK
        ta := fun j hj => (getD_set_ne true (by rintro rfl; revert hj; decide)).trans (h.ta j hj)
        d6_0 := fun hx => getD_set_true (h.d6_0 (by rwa [getD_set_ne false (by decide)] at hx))
        d6_5 := fun hx => getD_set_true (h.d6_5 (by rwa [getD_set_ne false (by decide)] at hx))
        d12_0 := fun hx => getD_set_true (h.d12_0 (by rwa [getD_set_ne false (by decide)] at hx))
        d12_11 := fun hx => getD_set_true (h.d12_11 (by rwa [getD_set_ne false (by decide)] at hx))
        d18_0 := fun _ => getD_set_true (deps_of hi ho.w18_0)
        d18_17 := fun _ => getD_set_true (deps_of hi ho.w18_17)
        d24_0 := fun hx => getD_set_true (h.d24_0 (by rwa [getD_set_ne false (by decide)] at hx))
        d24_23 := fun hx => getD_set_true (h.d24_23 (by rwa [getD_set_ne false (by decide)] at hx))
        d30_0 := fun hx => getD_set_true (h.d30_0 (by rwa [getD_set_ne false (by decide)] at hx))
        d30_29 := fun hx => getD_set_true (h.d30_29 (by rwa [getD_set_ne false (by decide)] at hx))
        d31_0 := fun hx => getD_set_true (h.d31_0 (by rwa [getD_set_ne false (by decide)] at hx))
        d32_0 := fun hx => getD_set_true (h.d32_0 (by rwa [getD_set_ne false (by decide)] at hx))
        d33_0 := fun hx => getD_set_true (h.d33_0 (by rwa [getD_set_ne false (by decide)] at hx))
        c5 := fun hx => (h.c5 (by rwa [getD_set_ne false (by decide)] at hx)).grown hg e4
        c11 := fun hx => (h.c11 (by rwa [getD_set_ne false (by decide)] at hx)).grown hg e4
        c17 := fun hx => (h.c17 (by rwa [getD_set_ne false (by decide)] at hx)).grown hg e4
        c23 := fun hx => (h.c23 (by rwa [getD_set_ne false (by decide)] at hx)).grown hg e4
        c29 := fun hx => (h.c29 (by rwa [getD_set_ne false (by decide)] at hx)).grown hg e4
        mp := fun _ => ⟨m, n + 1, rfl, e2, by omega, e5.congr (fun q => by
          rw [getD_set_ne (i := 18) (j := 6) false (by decide), getD_set_ne (i := 18) (j := 12) false (by decide), getD_set_ne (i := 18) (j := 24) false (by decide), getD_set_ne (i := 18) (j := 30) false (by decide), getD_set_ne (i := 18) (j := 31) false (by decide), getD_set_ne (i := 18) (j := 32) false (by decide), getD_set_ne (i := 18) (j := 33) false (by decide), getD_set_eq false (by omega)]
          by_cases hq : q = [114, 101, 115, 116]
          · subst hq; simp [shF, k_pattern, k_hold, k_rest, k_out, k_place, k_regs, k_waits, k_files]
          · rw [if_neg hq]; simp [shF, k_pattern, k_hold, k_rest, k_out, k_place, k_regs, k_waits, k_files, hq, hf])⟩
        hs := shS_of hib
        tb := h.tb.grown hg e4
        be := h.be.trans hbw
        ib := hib
        lt := Nat.lt_of_lt_of_le h.lt hg.size }
  · exact absurd (h.pu 19 (by simp)) (by rw [hf]; simp)
  · exact absurd (h.pu 20 (by simp)) (by rw [hf]; simp)
  · exact absurd (h.pu 21 (by simp)) (by rw [hf]; simp)
  · exact absurd (h.pu 22 (by simp)) (by rw [hf]; simp)
  · obtain ⟨o, hat⟩ := ho.o23
    refine op_call (fn := 17) (caps := #[]) (args := #[.slice s.a11 s.l11.length s.c11]) hat rfl rfl Tryd.func17 (by kernel_rfl) (by kernel_rfl) ?_
    refine Calls.mono (show1_any s.a11 s.l11.length s.c11 w) ?_
    rintro e w1 ⟨rfl, rfl⟩
    have hb := below_alloc (Below.refl w.heap.size w) (.cells #[.slice s.a11 s.l11.length s.c11] 22)
    refine ⟨_, rfl, shS_of (h.ib.below hb), t10, t15, t20, t25, .func (Fn.func 18) #[] #[.pointer (some ⟨w.heap.size, 0, none⟩)], t35, rfl, ?_⟩
    have n24 : l.getD 24 false = false := by
      cases hx : l.getD 24 false
      · rfl
      · exact absurd (h.d24_23 hx) (by rw [hf]; simp)
    exact {
        sz := hss
        fu := hcn
        pu := puK
        ta := fun j hj => (getD_set_ne true (by rintro rfl; revert hj; decide)).trans (h.ta j hj)
        d6_0 := fun hx => getD_set_true (h.d6_0 (by rwa [getD_set_ne false (by decide)] at hx))
        d6_5 := fun hx => getD_set_true (h.d6_5 (by rwa [getD_set_ne false (by decide)] at hx))
        d12_0 := fun hx => getD_set_true (h.d12_0 (by rwa [getD_set_ne false (by decide)] at hx))
        d12_11 := fun hx => getD_set_true (h.d12_11 (by rwa [getD_set_ne false (by decide)] at hx))
        d18_0 := fun hx => getD_set_true (h.d18_0 (by rwa [getD_set_ne false (by decide)] at hx))
        d18_17 := fun hx => getD_set_true (h.d18_17 (by rwa [getD_set_ne false (by decide)] at hx))
        d24_0 := fun hx => getD_set_true (h.d24_0 (by rwa [getD_set_ne false (by decide)] at hx))
        d24_23 := fun hx => getD_set_true (h.d24_23 (by rwa [getD_set_ne false (by decide)] at hx))
        d30_0 := fun hx => getD_set_true (h.d30_0 (by rwa [getD_set_ne false (by decide)] at hx))
        d30_29 := fun hx => getD_set_true (h.d30_29 (by rwa [getD_set_ne false (by decide)] at hx))
        d31_0 := fun hx => getD_set_true (h.d31_0 (by rwa [getD_set_ne false (by decide)] at hx))
        d32_0 := fun hx => getD_set_true (h.d32_0 (by rwa [getD_set_ne false (by decide)] at hx))
        d33_0 := fun hx => getD_set_true (h.d33_0 (by rwa [getD_set_ne false (by decide)] at hx))
        c5 := fun hx => (h.c5 (by rwa [getD_set_ne false (by decide)] at hx)).below hb
        c11 := fun hx => (h.c11 (by rwa [getD_set_ne false (by decide)] at hx)).below hb
        c17 := fun hx => (h.c17 (by rwa [getD_set_ne false (by decide)] at hx)).below hb
        c23 := fun _ => ⟨w.heap.size, rfl, by show (w.heap.push _)[w.heap.size]? = _; simp⟩
        c29 := fun hx => (h.c29 (by rwa [getD_set_ne false (by decide)] at hx)).below hb
        mp := fun hx => by
          obtain ⟨m, n, e1, e2, e3, e4⟩ := h.mp (by rwa [getD_set_ne false (by decide)] at hx)
          exact ⟨m, n, e1, e2, by omega, (e4.below hb).congr (fun q => by rw [getD_set_ne (i := 23) (j := 6) false (by decide), getD_set_ne (i := 23) (j := 12) false (by decide), getD_set_ne (i := 23) (j := 18) false (by decide), getD_set_ne (i := 23) (j := 24) false (by decide), getD_set_ne (i := 23) (j := 30) false (by decide), getD_set_ne (i := 23) (j := 31) false (by decide), getD_set_ne (i := 23) (j := 32) false (by decide), getD_set_ne (i := 23) (j := 33) false (by decide), n24]; simp [shF])⟩
        hs := shS_of (h.ib.below hb)
        tb := h.tb.below hb
        be := h.be.trans (hb.mono (Nat.le_of_lt h.lt))
        ib := h.ib.below hb
        lt := Nat.lt_of_lt_of_le h.lt hb.size }
  · obtain ⟨o, hat⟩ := ho.o24
    obtain ⟨m, n, e1, e2, e3, e4⟩ := h.mp (deps_of hi ho.w24_0)
    subst e1
    obtain ⟨w1, hrun, e5, hg⟩ := e4.put (t := 55) (e := _) Tryd.underlying9 Tryd.underlying55 (by omega) ⟨#[111, 117, 116]⟩ (by decide) (t30)
    refine op_insert (w1 := w1) hat hrun ?_
    have hbw : Below B w w1 := ⟨hg.os, hg.tape, hg.output, hg.size, fun q hq => hg.block q (Nat.lt_trans hq h.lt) (by intro e; cases e; omega)⟩
    have hib : InB s B w1 := by
      have := h.ib
      unfold InB at this ⊢
      rw [hg.block B h.lt (by intro e; cases e; omega)]; exact this
    refine ⟨shS_of hib, .map (some m), t15, t20, t25, t30, t35, rfl, ?_⟩
    exact {
        sz := hss
        fu := hcn
        pu := puK
        ta := fun j hj => (getD_set_ne true (by rintro rfl; revert hj; decide)).trans (h.ta j hj)
        d6_0 := fun hx => getD_set_true (h.d6_0 (by rwa [getD_set_ne false (by decide)] at hx))
        d6_5 := fun hx => getD_set_true (h.d6_5 (by rwa [getD_set_ne false (by decide)] at hx))
        d12_0 := fun hx => getD_set_true (h.d12_0 (by rwa [getD_set_ne false (by decide)] at hx))
        d12_11 := fun hx => getD_set_true (h.d12_11 (by rwa [getD_set_ne false (by decide)] at hx))
        d18_0 := fun hx => getD_set_true (h.d18_0 (by rwa [getD_set_ne false (by decide)] at hx))
        d18_17 := fun hx => getD_set_true (h.d18_17 (by rwa [getD_set_ne false (by decide)] at hx))
        d24_0 := fun _ => getD_set_true (deps_of hi ho.w24_0)
        d24_23 := fun _ => getD_set_true (deps_of hi ho.w24_23)
        d30_0 := fun hx => getD_set_true (h.d30_0 (by rwa [getD_set_ne false (by decide)] at hx))
        d30_29 := fun hx => getD_set_true (h.d30_29 (by rwa [getD_set_ne false (by decide)] at hx))
        d31_0 := fun hx => getD_set_true (h.d31_0 (by rwa [getD_set_ne false (by decide)] at hx))
        d32_0 := fun hx => getD_set_true (h.d32_0 (by rwa [getD_set_ne false (by decide)] at hx))
        d33_0 := fun hx => getD_set_true (h.d33_0 (by rwa [getD_set_ne false (by decide)] at hx))
        c5 := fun hx => (h.c5 (by rwa [getD_set_ne false (by decide)] at hx)).grown hg e4
        c11 := fun hx => (h.c11 (by rwa [getD_set_ne false (by decide)] at hx)).grown hg e4
        c17 := fun hx => (h.c17 (by rwa [getD_set_ne false (by decide)] at hx)).grown hg e4
        c23 := fun hx => (h.c23 (by rwa [getD_set_ne false (by decide)] at hx)).grown hg e4
        c29 := fun hx => (h.c29 (by rwa [getD_set_ne false (by decide)] at hx)).grown hg e4
        mp := fun _ => ⟨m, n + 1, rfl, e2, by omega, e5.congr (fun q => by
          rw [getD_set_ne (i := 24) (j := 6) false (by decide), getD_set_ne (i := 24) (j := 12) false (by decide), getD_set_ne (i := 24) (j := 18) false (by decide), getD_set_ne (i := 24) (j := 30) false (by decide), getD_set_ne (i := 24) (j := 31) false (by decide), getD_set_ne (i := 24) (j := 32) false (by decide), getD_set_ne (i := 24) (j := 33) false (by decide), getD_set_eq false (by omega)]
          by_cases hq : q = [111, 117, 116]
          · subst hq; simp [shF, k_pattern, k_hold, k_rest, k_out, k_place, k_regs, k_waits, k_files]
          · rw [if_neg hq]; simp [shF, k_pattern, k_hold, k_rest, k_out, k_place, k_regs, k_waits, k_files, hq, hf])⟩
        hs := shS_of hib
        tb := h.tb.grown hg e4
        be := h.be.trans hbw
        ib := hib
        lt := Nat.lt_of_lt_of_le h.lt hg.size }
  · exact absurd (h.pu 25 (by simp)) (by rw [hf]; simp)
  · exact absurd (h.pu 26 (by simp)) (by rw [hf]; simp)
  · exact absurd (h.pu 27 (by simp)) (by rw [hf]; simp)
  · exact absurd (h.pu 28 (by simp)) (by rw [hf]; simp)
  · obtain ⟨o, hat⟩ := ho.o29
    refine op_call (fn := 17) (caps := #[]) (args := #[.slice s.a13 s.l13.length s.c13]) hat rfl rfl Tryd.func17 (by kernel_rfl) (by kernel_rfl) ?_
    refine Calls.mono (show1_any s.a13 s.l13.length s.c13 w) ?_
    rintro e w1 ⟨rfl, rfl⟩
    have hb := below_alloc (Below.refl w.heap.size w) (.cells #[.slice s.a13 s.l13.length s.c13] 22)
    refine ⟨_, rfl, shS_of (h.ib.below hb), t10, t15, t20, t25, t30, .func (Fn.func 18) #[] #[.pointer (some ⟨w.heap.size, 0, none⟩)], rfl, ?_⟩
    have n30 : l.getD 30 false = false := by
      cases hx : l.getD 30 false
      · rfl
      · exact absurd (h.d30_29 hx) (by rw [hf]; simp)
    exact {
        sz := hss
        fu := hcn
        pu := puK
        ta := fun j hj => (getD_set_ne true (by rintro rfl; revert hj; decide)).trans (h.ta j hj)
        d6_0 := fun hx => getD_set_true (h.d6_0 (by rwa [getD_set_ne false (by decide)] at hx))
        d6_5 := fun hx => getD_set_true (h.d6_5 (by rwa [getD_set_ne false (by decide)] at hx))
        d12_0 := fun hx => getD_set_true (h.d12_0 (by rwa [getD_set_ne false (by decide)] at hx))
        d12_11 := fun hx => getD_set_true (h.d12_11 (by rwa [getD_set_ne false (by decide)] at hx))
        d18_0 := fun hx => getD_set_true (h.d18_0 (by rwa [getD_set_ne false (by decide)] at hx))
        d18_17 := fun hx => getD_set_true (h.d18_17 (by rwa [getD_set_ne false (by decide)] at hx))
        d24_0 := fun hx => getD_set_true (h.d24_0 (by rwa [getD_set_ne false (by decide)] at hx))
        d24_23 := fun hx => getD_set_true (h.d24_23 (by rwa [getD_set_ne false (by decide)] at hx))
        d30_0 := fun hx => getD_set_true (h.d30_0 (by rwa [getD_set_ne false (by decide)] at hx))
        d30_29 := fun hx => getD_set_true (h.d30_29 (by rwa [getD_set_ne false (by decide)] at hx))
        d31_0 := fun hx => getD_set_true (h.d31_0 (by rwa [getD_set_ne false (by decide)] at hx))
        d32_0 := fun hx => getD_set_true (h.d32_0 (by rwa [getD_set_ne false (by decide)] at hx))
        d33_0 := fun hx => getD_set_true (h.d33_0 (by rwa [getD_set_ne false (by decide)] at hx))
        c5 := fun hx => (h.c5 (by rwa [getD_set_ne false (by decide)] at hx)).below hb
        c11 := fun hx => (h.c11 (by rwa [getD_set_ne false (by decide)] at hx)).below hb
        c17 := fun hx => (h.c17 (by rwa [getD_set_ne false (by decide)] at hx)).below hb
        c23 := fun hx => (h.c23 (by rwa [getD_set_ne false (by decide)] at hx)).below hb
        c29 := fun _ => ⟨w.heap.size, rfl, by show (w.heap.push _)[w.heap.size]? = _; simp⟩
        mp := fun hx => by
          obtain ⟨m, n, e1, e2, e3, e4⟩ := h.mp (by rwa [getD_set_ne false (by decide)] at hx)
          exact ⟨m, n, e1, e2, by omega, (e4.below hb).congr (fun q => by rw [getD_set_ne (i := 29) (j := 6) false (by decide), getD_set_ne (i := 29) (j := 12) false (by decide), getD_set_ne (i := 29) (j := 18) false (by decide), getD_set_ne (i := 29) (j := 24) false (by decide), getD_set_ne (i := 29) (j := 30) false (by decide), getD_set_ne (i := 29) (j := 31) false (by decide), getD_set_ne (i := 29) (j := 32) false (by decide), getD_set_ne (i := 29) (j := 33) false (by decide), n30]; simp [shF])⟩
        hs := shS_of (h.ib.below hb)
        tb := h.tb.below hb
        be := h.be.trans (hb.mono (Nat.le_of_lt h.lt))
        ib := h.ib.below hb
        lt := Nat.lt_of_lt_of_le h.lt hb.size }
  · obtain ⟨o, hat⟩ := ho.o30
    obtain ⟨m, n, e1, e2, e3, e4⟩ := h.mp (deps_of hi ho.w30_0)
    subst e1
    obtain ⟨w1, hrun, e5, hg⟩ := e4.put (t := 55) (e := _) Tryd.underlying9 Tryd.underlying55 (by omega) ⟨#[112, 108, 97, 99, 101]⟩ (by decide) (t35)
    refine op_insert (w1 := w1) hat hrun ?_
    have hbw : Below B w w1 := ⟨hg.os, hg.tape, hg.output, hg.size, fun q hq => hg.block q (Nat.lt_trans hq h.lt) (by intro e; cases e; omega)⟩
    have hib : InB s B w1 := by
      have := h.ib
      unfold InB at this ⊢
      rw [hg.block B h.lt (by intro e; cases e; omega)]; exact this
    refine ⟨shS_of hib, .map (some m), t15, t20, t25, t30, t35, rfl, ?_⟩
    exact {
        sz := hss
        fu := hcn
        pu := puK
        ta := fun j hj => (getD_set_ne true (by rintro rfl; revert hj; decide)).trans (h.ta j hj)
        d6_0 := fun hx => getD_set_true (h.d6_0 (by rwa [getD_set_ne false (by decide)] at hx))
        d6_5 := fun hx => getD_set_true (h.d6_5 (by rwa [getD_set_ne false (by decide)] at hx))
        d12_0 := fun hx => getD_set_true (h.d12_0 (by rwa [getD_set_ne false (by decide)] at hx))
        d12_11 := fun hx => getD_set_true (h.d12_11 (by rwa [getD_set_ne false (by decide)] at hx))
        d18_0 := fun hx => getD_set_true (h.d18_0 (by rwa [getD_set_ne false (by decide)] at hx))
        d18_17 := fun hx => getD_set_true (h.d18_17 (by rwa [getD_set_ne false (by decide)] at hx))
        d24_0 := fun hx => getD_set_true (h.d24_0 (by rwa [getD_set_ne false (by decide)] at hx))
        d24_23 := fun hx => getD_set_true (h.d24_23 (by rwa [getD_set_ne false (by decide)] at hx))
        d30_0 := fun _ => getD_set_true (deps_of hi ho.w30_0)
        d30_29 := fun _ => getD_set_true (deps_of hi ho.w30_29)
        d31_0 := fun hx => getD_set_true (h.d31_0 (by rwa [getD_set_ne false (by decide)] at hx))
        d32_0 := fun hx => getD_set_true (h.d32_0 (by rwa [getD_set_ne false (by decide)] at hx))
        d33_0 := fun hx => getD_set_true (h.d33_0 (by rwa [getD_set_ne false (by decide)] at hx))
        c5 := fun hx => (h.c5 (by rwa [getD_set_ne false (by decide)] at hx)).grown hg e4
        c11 := fun hx => (h.c11 (by rwa [getD_set_ne false (by decide)] at hx)).grown hg e4
        c17 := fun hx => (h.c17 (by rwa [getD_set_ne false (by decide)] at hx)).grown hg e4
        c23 := fun hx => (h.c23 (by rwa [getD_set_ne false (by decide)] at hx)).grown hg e4
        c29 := fun hx => (h.c29 (by rwa [getD_set_ne false (by decide)] at hx)).grown hg e4
        mp := fun _ => ⟨m, n + 1, rfl, e2, by omega, e5.congr (fun q => by
          rw [getD_set_ne (i := 30) (j := 6) false (by decide), getD_set_ne (i := 30) (j := 12) false (by decide), getD_set_ne (i := 30) (j := 18) false (by decide), getD_set_ne (i := 30) (j := 24) false (by decide), getD_set_ne (i := 30) (j := 31) false (by decide), getD_set_ne (i := 30) (j := 32) false (by decide), getD_set_ne (i := 30) (j := 33) false (by decide), getD_set_eq false (by omega)]
          by_cases hq : q = [112, 108, 97, 99, 101]
          · subst hq; simp [shF, k_pattern, k_hold, k_rest, k_out, k_place, k_regs, k_waits, k_files]
          · rw [if_neg hq]; simp [shF, k_pattern, k_hold, k_rest, k_out, k_place, k_regs, k_waits, k_files, hq, hf])⟩
        hs := shS_of hib
        tb := h.tb.grown hg e4
        be := h.be.trans hbw
        ib := hib
        lt := Nat.lt_of_lt_of_le h.lt hg.size }
  · obtain ⟨o, hat⟩ := ho.o31
    obtain ⟨m, n, e1, e2, e3, e4⟩ := h.mp (deps_of hi ho.w31_0)
    subst e1
    obtain ⟨w1, hrun, e5, hg⟩ := e4.put (t := 55) (e := _) Tryd.underlying9 Tryd.underlying55 (by omega) ⟨#[114, 101, 103, 115]⟩ (by decide) (.func (Fn.func 20) #[] #[])
    refine op_insert (w1 := w1) hat hrun ?_
    have hbw : Below B w w1 := ⟨hg.os, hg.tape, hg.output, hg.size, fun q hq => hg.block q (Nat.lt_trans hq h.lt) (by intro e; cases e; omega)⟩
    have hib : InB s B w1 := by
      have := h.ib
      unfold InB at this ⊢
      rw [hg.block B h.lt (by intro e; cases e; omega)]; exact this
    refine ⟨shS_of hib, .map (some m), t15, t20, t25, t30, t35, rfl, ?_⟩
    exact {
        sz := hss
        fu := hcn
        pu := puK
        ta := fun j hj => (getD_set_ne true (by rintro rfl; revert hj; decide)).trans (h.ta j hj)
        d6_0 := fun hx => getD_set_true (h.d6_0 (by rwa [getD_set_ne false (by decide)] at hx))
        d6_5 := fun hx => getD_set_true (h.d6_5 (by rwa [getD_set_ne false (by decide)] at hx))
        d12_0 := fun hx => getD_set_true (h.d12_0 (by rwa [getD_set_ne false (by decide)] at hx))
        d12_11 := fun hx => getD_set_true (h.d12_11 (by rwa [getD_set_ne false (by decide)] at hx))
        d18_0 := fun hx => getD_set_true (h.d18_0 (by rwa [getD_set_ne false (by decide)] at hx))
        d18_17 := fun hx => getD_set_true (h.d18_17 (by rwa [getD_set_ne false (by decide)] at hx))
        d24_0 := fun hx => getD_set_true (h.d24_0 (by rwa [getD_set_ne false (by decide)] at hx))
        d24_23 := fun hx => getD_set_true (h.d24_23 (by rwa [getD_set_ne false (by decide)] at hx))
        d30_0 := fun hx => getD_set_true (h.d30_0 (by rwa [getD_set_ne false (by decide)] at hx))
        d30_29 := fun hx => getD_set_true (h.d30_29 (by rwa [getD_set_ne false (by decide)] at hx))
        d31_0 := fun _ => getD_set_true (deps_of hi ho.w31_0)
        d32_0 := fun hx => getD_set_true (h.d32_0 (by rwa [getD_set_ne false (by decide)] at hx))
        d33_0 := fun hx => getD_set_true (h.d33_0 (by rwa [getD_set_ne false (by decide)] at hx))
        c5 := fun hx => (h.c5 (by rwa [getD_set_ne false (by decide)] at hx)).grown hg e4
        c11 := fun hx => (h.c11 (by rwa [getD_set_ne false (by decide)] at hx)).grown hg e4
        c17 := fun hx => (h.c17 (by rwa [getD_set_ne false (by decide)] at hx)).grown hg e4
        c23 := fun hx => (h.c23 (by rwa [getD_set_ne false (by decide)] at hx)).grown hg e4
        c29 := fun hx => (h.c29 (by rwa [getD_set_ne false (by decide)] at hx)).grown hg e4
        mp := fun _ => ⟨m, n + 1, rfl, e2, by omega, e5.congr (fun q => by
          rw [getD_set_ne (i := 31) (j := 6) false (by decide), getD_set_ne (i := 31) (j := 12) false (by decide), getD_set_ne (i := 31) (j := 18) false (by decide), getD_set_ne (i := 31) (j := 24) false (by decide), getD_set_ne (i := 31) (j := 30) false (by decide), getD_set_ne (i := 31) (j := 32) false (by decide), getD_set_ne (i := 31) (j := 33) false (by decide), getD_set_eq false (by omega)]
          by_cases hq : q = [114, 101, 103, 115]
          · subst hq; simp [shF, k_pattern, k_hold, k_rest, k_out, k_place, k_regs, k_waits, k_files]
          · rw [if_neg hq]; simp [shF, k_pattern, k_hold, k_rest, k_out, k_place, k_regs, k_waits, k_files, hq, hf])⟩
        hs := shS_of hib
        tb := h.tb.grown hg e4
        be := h.be.trans hbw
        ib := hib
        lt := Nat.lt_of_lt_of_le h.lt hg.size }
  · obtain ⟨o, hat⟩ := ho.o32
    obtain ⟨m, n, e1, e2, e3, e4⟩ := h.mp (deps_of hi ho.w32_0)
    subst e1
    obtain ⟨w1, hrun, e5, hg⟩ := e4.put (t := 55) (e := _) Tryd.underlying9 Tryd.underlying55 (by omega) ⟨#[119, 97, 105, 116, 115]⟩ (by decide) (.func (Fn.func 21) #[] #[])
    refine op_insert (w1 := w1) hat hrun ?_
    have hbw : Below B w w1 := ⟨hg.os, hg.tape, hg.output, hg.size, fun q hq => hg.block q (Nat.lt_trans hq h.lt) (by intro e; cases e; omega)⟩
    have hib : InB s B w1 := by
      have := h.ib
      unfold InB at this ⊢
      rw [hg.block B h.lt (by intro e; cases e; omega)]; exact this
    refine ⟨shS_of hib, .map (some m), t15, t20, t25, t30, t35, rfl, ?_⟩
    exact {
        sz := hss
        fu := hcn
        pu := puK
        ta := fun j hj => (getD_set_ne true (by rintro rfl; revert hj; decide)).trans (h.ta j hj)
        d6_0 := fun hx => getD_set_true (h.d6_0 (by rwa [getD_set_ne false (by decide)] at hx))
        d6_5 := fun hx => getD_set_true (h.d6_5 (by rwa [getD_set_ne false (by decide)] at hx))
        d12_0 := fun hx => getD_set_true (h.d12_0 (by rwa [getD_set_ne false (by decide)] at hx))
        d12_11 := fun hx => getD_set_true (h.d12_11 (by rwa [getD_set_ne false (by decide)] at hx))
        d18_0 := fun hx => getD_set_true (h.d18_0 (by rwa [getD_set_ne false (by decide)] at hx))
        d18_17 := fun hx => getD_set_true (h.d18_17 (by rwa [getD_set_ne false (by decide)] at hx))
        d24_0 := fun hx => getD_set_true (h.d24_0 (by rwa [getD_set_ne false (by decide)] at hx))
        d24_23 := fun hx => getD_set_true (h.d24_23 (by rwa [getD_set_ne false (by decide)] at hx))
        d30_0 := fun hx => getD_set_true (h.d30_0 (by rwa [getD_set_ne false (by decide)] at hx))
        d30_29 := fun hx => getD_set_true (h.d30_29 (by rwa [getD_set_ne false (by decide)] at hx))
        d31_0 := fun hx => getD_set_true (h.d31_0 (by rwa [getD_set_ne false (by decide)] at hx))
        d32_0 := fun _ => getD_set_true (deps_of hi ho.w32_0)
        d33_0 := fun hx => getD_set_true (h.d33_0 (by rwa [getD_set_ne false (by decide)] at hx))
        c5 := fun hx => (h.c5 (by rwa [getD_set_ne false (by decide)] at hx)).grown hg e4
        c11 := fun hx => (h.c11 (by rwa [getD_set_ne false (by decide)] at hx)).grown hg e4
        c17 := fun hx => (h.c17 (by rwa [getD_set_ne false (by decide)] at hx)).grown hg e4
        c23 := fun hx => (h.c23 (by rwa [getD_set_ne false (by decide)] at hx)).grown hg e4
        c29 := fun hx => (h.c29 (by rwa [getD_set_ne false (by decide)] at hx)).grown hg e4
        mp := fun _ => ⟨m, n + 1, rfl, e2, by omega, e5.congr (fun q => by
          rw [getD_set_ne (i := 32) (j := 6) false (by decide), getD_set_ne (i := 32) (j := 12) false (by decide), getD_set_ne (i := 32) (j := 18) false (by decide), getD_set_ne (i := 32) (j := 24) false (by decide), getD_set_ne (i := 32) (j := 30) false (by decide), getD_set_ne (i := 32) (j := 31) false (by decide), getD_set_ne (i := 32) (j := 33) false (by decide), getD_set_eq false (by omega)]
          by_cases hq : q = [119, 97, 105, 116, 115]
          · subst hq; simp [shF, k_pattern, k_hold, k_rest, k_out, k_place, k_regs, k_waits, k_files]
          · rw [if_neg hq]; simp [shF, k_pattern, k_hold, k_rest, k_out, k_place, k_regs, k_waits, k_files, hq, hf])⟩
        hs := shS_of hib
        tb := h.tb.grown hg e4
        be := h.be.trans hbw
        ib := hib
        lt := Nat.lt_of_lt_of_le h.lt hg.size }
  · obtain ⟨o, hat⟩ := ho.o33
    obtain ⟨m, n, e1, e2, e3, e4⟩ := h.mp (deps_of hi ho.w33_0)
    subst e1
    obtain ⟨w1, hrun, e5, hg⟩ := e4.put (t := 55) (e := _) Tryd.underlying9 Tryd.underlying55 (by omega) ⟨#[102, 105, 108, 101, 115]⟩ (by decide) (.func (Fn.func 22) #[] #[])
    refine op_insert (w1 := w1) hat hrun ?_
    have hbw : Below B w w1 := ⟨hg.os, hg.tape, hg.output, hg.size, fun q hq => hg.block q (Nat.lt_trans hq h.lt) (by intro e; cases e; omega)⟩
    have hib : InB s B w1 := by
      have := h.ib
      unfold InB at this ⊢
      rw [hg.block B h.lt (by intro e; cases e; omega)]; exact this
    refine ⟨shS_of hib, .map (some m), t15, t20, t25, t30, t35, rfl, ?_⟩
    exact {
        sz := hss
        fu := hcn
        pu := puK
        ta := fun j hj => (getD_set_ne true (by rintro rfl; revert hj; decide)).trans (h.ta j hj)
        d6_0 := fun hx => getD_set_true (h.d6_0 (by rwa [getD_set_ne false (by decide)] at hx))
        d6_5 := fun hx => getD_set_true (h.d6_5 (by rwa [getD_set_ne false (by decide)] at hx))
        d12_0 := fun hx => getD_set_true (h.d12_0 (by rwa [getD_set_ne false (by decide)] at hx))
        d12_11 := fun hx => getD_set_true (h.d12_11 (by rwa [getD_set_ne false (by decide)] at hx))
        d18_0 := fun hx => getD_set_true (h.d18_0 (by rwa [getD_set_ne false (by decide)] at hx))
        d18_17 := fun hx => getD_set_true (h.d18_17 (by rwa [getD_set_ne false (by decide)] at hx))
        d24_0 := fun hx => getD_set_true (h.d24_0 (by rwa [getD_set_ne false (by decide)] at hx))
        d24_23 := fun hx => getD_set_true (h.d24_23 (by rwa [getD_set_ne false (by decide)] at hx))
        d30_0 := fun hx => getD_set_true (h.d30_0 (by rwa [getD_set_ne false (by decide)] at hx))
        d30_29 := fun hx => getD_set_true (h.d30_29 (by rwa [getD_set_ne false (by decide)] at hx))
        d31_0 := fun hx => getD_set_true (h.d31_0 (by rwa [getD_set_ne false (by decide)] at hx))
        d32_0 := fun hx => getD_set_true (h.d32_0 (by rwa [getD_set_ne false (by decide)] at hx))
        d33_0 := fun _ => getD_set_true (deps_of hi ho.w33_0)
        c5 := fun hx => (h.c5 (by rwa [getD_set_ne false (by decide)] at hx)).grown hg e4
        c11 := fun hx => (h.c11 (by rwa [getD_set_ne false (by decide)] at hx)).grown hg e4
        c17 := fun hx => (h.c17 (by rwa [getD_set_ne false (by decide)] at hx)).grown hg e4
        c23 := fun hx => (h.c23 (by rwa [getD_set_ne false (by decide)] at hx)).grown hg e4
        c29 := fun hx => (h.c29 (by rwa [getD_set_ne false (by decide)] at hx)).grown hg e4
        mp := fun _ => ⟨m, n + 1, rfl, e2, by omega, e5.congr (fun q => by
          rw [getD_set_ne (i := 33) (j := 6) false (by decide), getD_set_ne (i := 33) (j := 12) false (by decide), getD_set_ne (i := 33) (j := 18) false (by decide), getD_set_ne (i := 33) (j := 24) false (by decide), getD_set_ne (i := 33) (j := 30) false (by decide), getD_set_ne (i := 33) (j := 31) false (by decide), getD_set_ne (i := 33) (j := 32) false (by decide), getD_set_eq false (by omega)]
          by_cases hq : q = [102, 105, 108, 101, 115]
          · subst hq; simp [shF, k_pattern, k_hold, k_rest, k_out, k_place, k_regs, k_waits, k_files]
          · rw [if_neg hq]; simp [shF, k_pattern, k_hold, k_rest, k_out, k_place, k_regs, k_waits, k_files, hq, hf])⟩
        hs := shS_of hib
        tb := h.tb.grown hg e4
        be := h.be.trans hbw
        ib := hib
        lt := Nat.lt_of_lt_of_le h.lt hg.size }
  · exact absurd ⟨deps_of hi ho.w34_0, deps_of hi ho.w34_5, deps_of hi ho.w34_11, deps_of hi ho.w34_17, deps_of hi ho.w34_23, deps_of hi ho.w34_29, deps_of hi ho.w34_6, deps_of hi ho.w34_12, deps_of hi ho.w34_18, deps_of hi ho.w34_24, deps_of hi ho.w34_30, deps_of hi ho.w34_31, deps_of hi ho.w34_32, deps_of hi ho.w34_33⟩ hne
  · exact absurd (h.pu 35 (by simp)) (by rw [hf]; simp)
  · exact absurd (deps_of hi ho.w36_34) (by rw [flop (by omega) (h.ta 34 (by simp))]; simp)
  · exact absurd (deps_of hi ho.w37_36) (by rw [flop (by omega) (h.ta 36 (by simp))]; simp)
  · exact absurd (deps_of hi ho.w38_37) (by rw [flop (by omega) (h.ta 37 (by simp))]; simp)
  · exact absurd (deps_of hi ho.w39_37) (by rw [flop (by omega) (h.ta 37 (by simp))]; simp)
  · exact absurd (deps_of hi ho.w40_38) (by rw [flop (by omega) (h.ta 38 (by simp))]; simp)
  · exact absurd (deps_of hi ho.w41_39) (by rw [flop (by omega) (h.ta 39 (by simp))]; simp)

/-- THE REGION: whatever comes up, it comes to where all entries are laid. -/
theorem sh_region {ops : Array Oper} (ho : ShOps ops) {s : Sv} {what : ByteArray} {cs : Array Value} {B : Nat} {w0 : World} {Q : Exit → Act → World → Prop} {l : Array Bool} {w : World} (h : ShJ s B w0 21 l undef undef undef undef undef undef w)
    (tail : ∀ (fuel : Nat) (l : Array Bool) (t10 t15 t20 t25 t30 t35 : Value) (w : World), ShJ s B w0 (fuel + 1) l t10 t15 t20 t25 t30 t35 w → l.getD 0 false = true ∧ l.getD 5 false = true ∧ l.getD 11 false = true ∧ l.getD 17 false = true ∧ l.getD 23 false = true ∧ l.getD 29 false = true ∧ l.getD 6 false = true ∧ l.getD 12 false = true ∧ l.getD 18 false = true ∧ l.getD 24 false = true ∧ l.getD 30 false = true ∧ l.getD 31 false = true ∧ l.getD 32 false = true ∧ l.getD 33 false = true → wpAnyH Tryd.prog .any ops Q (shS s B) (fuel + 1) l (shFr s what cs B t10 t15 t20 t25 t30 t35) w) :
    wpAnyH Tryd.prog .any ops Q (shS s B) 21 l (shFr s what cs B undef undef undef undef undef undef) w := by
  refine wpAnyH_inv (J := fun fuel l a w' => ∃ t10 t15 t20 t25 t30 t35, a = shFr s what cs B t10 t15 t20 t25 t30 t35 ∧ ShJ s B w0 fuel l t10 t15 t20 t25 t30 t35 w') ?step ?zero 21 _ _ _ ⟨undef, undef, undef, undef, undef, undef, rfl, h⟩
  case zero =>
    rintro l a w ⟨t10, t15, t20, t25, t30, t35, rfl, hj⟩
    exfalso
    have h0 := hj.fu
    rw [List.count_eq_zero] at h0
    refine h0 ?_
    have h34 := hj.ta 34 (by simp)
    have hlt : 34 < l.size := by rw [hj.sz]; omega
    rw [Array.getD_eq_getD_getElem?, Array.getElem?_eq_getElem hlt] at h34
    have h35 : l[34] = false := h34
    rw [← h35]
    simp
  case step =>
    rintro fuel l a w ⟨t10, t15, t20, t25, t30, t35, rfl, hj⟩
    by_cases hE : l.getD 0 false = true ∧ l.getD 5 false = true ∧ l.getD 11 false = true ∧ l.getD 17 false = true ∧ l.getD 23 false = true ∧ l.getD 29 false = true ∧ l.getD 6 false = true ∧ l.getD 12 false = true ∧ l.getD 18 false = true ∧ l.getD 24 false = true ∧ l.getD 30 false = true ∧ l.getD 31 false = true ∧ l.getD 32 false = true ∧ l.getD 33 false = true
    · exact .inl (tail fuel l t10 t15 t20 t25 t30 t35 w hj hE)
    · refine .inr ⟨fun hr => absurd (sh_ready ho hj hr) hE, fun i hi => ?_⟩
      exact sh_step ho hj hE i hi

end Go.Proofs.YtfoijbcdbcehiaaDoor.L4
