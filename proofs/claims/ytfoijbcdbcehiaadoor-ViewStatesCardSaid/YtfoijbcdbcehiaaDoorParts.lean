/- Parts: View1, State, View2, Plain, Orders, Reads, Maps, Show1, CallN, laid together. -/
import Derived.Test.YtfoijbcdbcehiaaDoorBase
import Derived.Deep.RegionHeld3
import Derived.Test.YtfoijbcdbcehiaaDoorPViewStatesx0
import Derived.WalkKit
import Derived.OrdersHeld
import Derived.Test.YtfoijbcdbcehiaaDoorWLast
import Derived.Test.YtfoijbcdbcehiaaDoorWWords
import Derived.Test.YtfoijbcdbcehiaaDoorProg
import Derived.Maps.Own
import Derived.Maps.Views
import Derived.StringKeys
import Derived.Laws.Rows
section
namespace Go.Proofs.YtfoijbcdbcehiaaDoor.L4
open Go.RowKit Go.Proofs.YtfoijbcdbcehiaaDoorW.PrintWords

def phaseS (n : Int) : ByteArray := if n = 0 then ⟨#[98, 101, 103, 105, 110]⟩ else if n = 1 then ⟨#[98, 111, 100, 121]⟩ else if n = 2 then ⟨#[101, 110, 100, 105, 110, 103]⟩ else if n = 3 then ⟨#[104, 97, 108, 116, 101, 100]⟩ else txt n
def bitS (b : Bool) : ByteArray := if b then ⟨#[49]⟩ else ⟨#[48]⟩

theorem bit_any (b : Bool) (w : World) : Calls Tryd.prog 35 #[.bool b] w fun e w' => e = .returned (.string (bitS b)) ∧ w = w' := by
  cases b
  all_goals
    go_enter Tryd.func35, Tryd.ntmps35
    go_wp2
    go_ret
    exact ⟨rfl, rfl⟩

theorem phase_any (n : Int) (h0 : -9223372036854775808 ≤ n) (h1 : n ≤ 9223372036854775807) (w : World) (ht : Tb w) :
    Calls Tryd.prog 14 #[.int .i64 n] w fun e w' => e = .returned (.string (phaseS n)) ∧ Below w.heap.size w w' := by
  by_cases h : 0 ≤ n ∧ n < 4
  · obtain rfl | rfl | rfl | rfl : n = 0 ∨ n = 1 ∨ n = 2 ∨ n = 3 := by omega
    all_goals
      go_enter Tryd.func14, Tryd.ntmps14
      go_wp2
      go_ret
      exact ⟨rfl, by go_grown⟩
  · have hp : phaseS n = txt n := by unfold phaseS; rw [if_neg (by omega), if_neg (by omega), if_neg (by omega), if_neg (by omega)]
    have HP := Lib.hid hp
    clear hp
    rcases (show n < 0 ∨ 4 ≤ n by omega) with hn | hn
    all_goals
      clear h
      go_enter Tryd.func14, Tryd.ntmps14
      go_wp2_with (go_at_call 13; refine (text_any n h0 h1 _ (by exact ht.alloc _)).mono ?_; rintro e w1 ⟨rfl, hb⟩; simp only [World.size_alloc] at hb)
      go_ret
      exact ⟨by rw [HP.out]; rfl, ((Below.refl _ _).alloc (Nat.le_refl _) _).trans (hb.mono (by omega))⟩
end Go.Proofs.YtfoijbcdbcehiaaDoor.L4
end

section
namespace Go.Proofs.YtfoijbcdbcehiaaDoor.L4
open Go.RowKit Go.Proofs.YtfoijbcdbcehiaaDoorW.PrintWords

/-- what waits; a file: the printed text's own structs -/
abbrev Wt := PViewStates.S48
abbrev Fl := PViewStates.S43
abbrev zWt : Wt := PViewStates.z48
abbrev zFl : Fl := PViewStates.z43
abbrev kWt : Kd Wt := PViewStates.k48
abbrev kFl : Kd Fl := PViewStates.k43
theorem kWt_open {w : World} {x : Wt} {cs : List Value} (h : kWt.K w x cs) : ∃ A1 c1, cs = [.int .i64 x.f0, .slice A1 x.f1.length c1] ∧ x.f1.length ≤ c1 ∧ (Kd.int .u8).C w A1 x.f1.length x.f1 := PViewStates.k48_open h
theorem kFl_open {w : World} {x : Fl} {cs : List Value} (h : kFl.K w x cs) : ∃ A1 c1, cs = [.string x.f0, .slice A1 x.f1.length c1] ∧ x.f1.length ≤ c1 ∧ (Kd.int .u8).C w A1 x.f1.length x.f1 := PViewStates.k43_open h
theorem at_Wt {w : World} {A : Option Addr} {n : Nat} {xs : List Wt} (h : Kd.C kWt w A n xs) (i : Nat) (h1 : i < n) : ∃ ad A1 c1, A = some ad ∧ w.cell? (ad.add (i * 2)) = some (.int .i64 (xs.getD i zWt).f0) ∧ w.cell? ⟨(ad.add (i * 2)).block, (ad.add (i * 2)).off + 1, none⟩ = some (.slice A1 (xs.getD i zWt).f1.length c1) ∧ (xs.getD i zWt).f1.length ≤ c1 ∧ (Kd.int .u8).C w A1 (xs.getD i zWt).f1.length (xs.getD i zWt).f1 := by
  obtain ⟨ad, c, e, _, hK, hc0⟩ := Kd.C_get h zWt (i : Int) (by omega) (by omega)
  have hc : ∀ j u, c[j]? = some u → w.cell? (ad.add (i * 2 + j)) = some u := hc0
  obtain ⟨A1, c1, rfl, l1, g1⟩ := kWt_open hK
  exact ⟨ad, A1, c1, e, hc 0 _ rfl, by rw [← add_field _ _ 1 (by omega)]; exact hc 1 _ rfl, l1, g1⟩
theorem at_Fl {w : World} {A : Option Addr} {n : Nat} {xs : List Fl} (h : Kd.C kFl w A n xs) (i : Nat) (h1 : i < n) : ∃ ad A1 c1, A = some ad ∧ w.cell? (ad.add (i * 2)) = some (.string (xs.getD i zFl).f0) ∧ w.cell? ⟨(ad.add (i * 2)).block, (ad.add (i * 2)).off + 1, none⟩ = some (.slice A1 (xs.getD i zFl).f1.length c1) ∧ (xs.getD i zFl).f1.length ≤ c1 ∧ (Kd.int .u8).C w A1 (xs.getD i zFl).f1.length (xs.getD i zFl).f1 := by
  obtain ⟨ad, c, e, _, hK, hc0⟩ := Kd.C_get h zFl (i : Int) (by omega) (by omega)
  have hc : ∀ j u, c[j]? = some u → w.cell? (ad.add (i * 2 + j)) = some u := hc0
  obtain ⟨A1, c1, rfl, l1, g1⟩ := kFl_open hK
  exact ⟨ad, A1, c1, e, hc 0 _ rfl, by rw [← add_field _ _ 1 (by omega)]; exact hc 1 _ rfl, l1, g1⟩

/-- a state: its cells' contents -/
structure Sv where
  a0 : Option Addr
  c0 : Nat
  l0 : List Int
  a1 : Option Addr
  c1 : Nat
  l1 : List Int
  x2 : Bool
  x3 : Int
  x4 : Bool
  x5 : Int
  x6 : Int
  x7 : Int
  x8 : Int
  x9 : Int
  a10 : Option Addr
  c10 : Nat
  l10 : List Int
  a11 : Option Addr
  c11 : Nat
  l11 : List Int
  x12 : Bool
  a13 : Option Addr
  c13 : Nat
  l13 : List Int
  x14 : Bool
  x15 : Int
  x16 : Int
  x17 : Int
  x18 : Int
  x19 : Int
  x20 : Bool
  x21 : Bool
  x22 : Bool
  a23 : Option Addr
  c23 : Nat
  l23 : List Bool
  a24 : Option Addr
  c24 : Nat
  l24 : List Wt
  a25 : Option Addr
  c25 : Nat
  l25 : List Fl
  a26 : Option Addr
  c26 : Nat
  l26 : List Bool

def Sv.cells (s : Sv) : Array Value :=
  #[.slice s.a0 s.l0.length s.c0, .slice s.a1 s.l1.length s.c1, .bool s.x2, .int .i64 s.x3, .bool s.x4, .int .i64 s.x5, .int .i64 s.x6, .int .i64 s.x7, .int .i64 s.x8, .int .i64 s.x9,
    .slice s.a10 s.l10.length s.c10, .slice s.a11 s.l11.length s.c11, .bool s.x12, .slice s.a13 s.l13.length s.c13, .bool s.x14, .int .i64 s.x15, .int .i64 s.x16, .int .i64 s.x17, .int .i64 s.x18, .int .i64 s.x19,
    .bool s.x20, .bool s.x21, .bool s.x22, .slice s.a23 s.l23.length s.c23, .slice s.a24 s.l24.length s.c24, .slice s.a25 s.l25.length s.c25, .slice s.a26 s.l26.length s.c26]
def Sv.v (s : Sv) : Value := .agg s.cells

def I64 (n : Int) : Prop := -9223372036854775808 ≤ n ∧ n ≤ 9223372036854775807
/-- bytes that can be read: each is a byte -/
def Bs (l : List Int) : Prop := ∀ x ∈ l, 0 ≤ x ∧ x ≤ 255

structure Sv.Ok (s : Sv) (w : World) : Prop where
  r0 : Kd.C (Kd.int .u8) w s.a0 s.l0.length s.l0
  m0 : s.l0.length ≤ s.c0
  r1 : Kd.C (Kd.int .u8) w s.a1 s.l1.length s.l1
  m1 : s.l1.length ≤ s.c1
  r10 : Kd.C (Kd.int .u8) w s.a10 s.l10.length s.l10
  m10 : s.l10.length ≤ s.c10
  r11 : Kd.C (Kd.int .u8) w s.a11 s.l11.length s.l11
  m11 : s.l11.length ≤ s.c11
  r13 : Kd.C (Kd.int .u8) w s.a13 s.l13.length s.l13
  m13 : s.l13.length ≤ s.c13
  r23 : Kd.C Kd.bool w s.a23 s.l23.length s.l23
  m23 : s.l23.length ≤ s.c23
  r24 : Kd.C kWt w s.a24 s.l24.length s.l24
  m24 : s.l24.length ≤ s.c24
  r25 : Kd.C kFl w s.a25 s.l25.length s.l25
  m25 : s.l25.length ≤ s.c25
  r26 : Kd.C Kd.bool w s.a26 s.l26.length s.l26
  m26 : s.l26.length ≤ s.c26
  n3 : I64 s.x3
  n5 : I64 s.x5
  n6 : I64 s.x6
  n7 : I64 s.x7
  n8 : I64 s.x8
  n9 : I64 s.x9
  n15 : I64 s.x15
  n16 : I64 s.x16
  n17 : I64 s.x17
  n18 : I64 s.x18
  n19 : I64 s.x19
  b0 : Bs s.l0
  b1 : Bs s.l1
  b10 : Bs s.l10
  b11 : Bs s.l11
  b13 : Bs s.l13
  b24 : ∀ x ∈ s.l24, Bs x.f1 ∧ I64 x.f0
  b25 : ∀ x ∈ s.l25, Bs x.f1

theorem Sv.Ok.below {s : Sv} {w w1 : World} (h : s.Ok w) (hb : Below w.heap.size w w1) : s.Ok w1 :=
  { h with r0 := Kd.C_below h.r0 hb, r1 := Kd.C_below h.r1 hb, r10 := Kd.C_below h.r10 hb, r11 := Kd.C_below h.r11 hb, r13 := Kd.C_below h.r13 hb, r23 := Kd.C_below h.r23 hb, r24 := Kd.C_below h.r24 hb, r25 := Kd.C_below h.r25 hb, r26 := Kd.C_below h.r26 hb }

/-- a block is made of a state's cells -/
theorem cell_new (w : World) (t : TypeId) (fr : Nat × Nat) (cs : Array Value) (i : Nat) : (w.alloc (.cells cs t fr)).cell? ⟨w.heap.size, i, none⟩ = cs[i]? := by
  simp only [World.cell?]
  rw [show (w.alloc (.cells cs t fr)).heap[w.heap.size]? = some (.cells cs t fr) by show (w.heap.push _)[w.heap.size]? = _; simp]
  rfl
/-- 27 cells in block B -/
def InB (s : Sv) (B : Nat) (w : World) : Prop := w.heap[B]? = some (.cells s.cells 34 (0, 0))
theorem InB.new (s : Sv) (w : World) : InB s w.heap.size (w.alloc (.cells s.cells 34)) := by
  unfold InB; show (w.heap.push _)[w.heap.size]? = _; simp
theorem InB.below {s : Sv} {B : Nat} {w w1 : World} (h : InB s B w) (hb : Below w.heap.size w w1) : InB s B w1 := by
  unfold InB at *
  have hlt : B < w.heap.size := by
    rcases Nat.lt_or_ge B w.heap.size with h' | h'
    · exact h'
    · rw [Array.getElem?_eq_none h'] at h; cases h
  rw [hb.block B hlt]; exact h
theorem InB.cell {s : Sv} {B : Nat} {w : World} (h : InB s B w) (i : Nat) : w.cell? ⟨B, i, none⟩ = s.cells[i]? := by
  unfold InB at h; simp only [World.cell?, h]; rfl
end Go.Proofs.YtfoijbcdbcehiaaDoor.L4
end

section
namespace Go.Proofs.YtfoijbcdbcehiaaDoor.L4
open Go.RowKit Go.Proofs.YtfoijbcdbcehiaaDoorW.PrintWords

theorem carry {a b : World} {B i : Nat} {v : Value} (hb : Below a.heap.size a b) (hlt : B < a.heap.size) (h : a.cell? ⟨B, i, none⟩ = some v) : b.cell? ⟨B, i, none⟩ = some v := (hb.cell (p := ⟨B, i, none⟩) hlt).trans h
theorem carryA {a : World} {o : Obj} {B i : Nat} {v : Value} (hlt : B < a.heap.size) (h : a.cell? ⟨B, i, none⟩ = some v) : (a.alloc o).cell? ⟨B, i, none⟩ = some v := carry (below_alloc (Below.refl _ _) o) hlt h
theorem textI (n : Int) (h : I64 n) (w : World) (ht : Tb w) :
    Calls Tryd.prog 13 #[.int .i64 n] w fun e w' => e = .returned (.string (txt n)) ∧ Below w.heap.size w w' := text_any n h.1 h.2 w ht
theorem phaseI (n : Int) (h : I64 n) (w : World) (ht : Tb w) :
    Calls Tryd.prog 14 #[.int .i64 n] w fun e w' => e = .returned (.string (phaseS n)) ∧ Below w.heap.size w w' := phase_any n h.1 h.2 w ht
end Go.Proofs.YtfoijbcdbcehiaaDoor.L4
end

section
namespace Go.Proofs.YtfoijbcdbcehiaaDoor.L4
open Go.RowKit Go.Proofs.YtfoijbcdbcehiaaDoorW.PrintWords

theorem bytesOf_strOfNums (xs : List Int) (h : ∀ x ∈ xs, 0 ≤ x ∧ x ≤ 255) : bytesOf (strOfNums xs) = xs := by
  rw [bytesOf, strOfNums_data, List.map_map]
  refine (List.map_congr_left (g := id) fun x hx => ?_).trans (List.map_id xs)
  have := h x hx
  simp only [Function.comp, id]
  simp
  omega
theorem bytesOf_append (a b : ByteArray) : bytesOf (a ++ b) = bytesOf a ++ bytesOf b := by
  simp [bytesOf, ByteArray.data_append]
theorem bytesOf_drop (s : ByteArray) (a : Nat) : bytesOf (s.extract a s.size) = (bytesOf s).drop a := by
  simp only [bytesOf, ByteArray.data_extract]
  rw [Array.toList_extract, List.extract_eq_drop_take', ← List.map_drop]
  congr 1
  rw [List.take_of_length_le (Nat.le_of_eq (data_length s))]
theorem bytesOf_range (s : ByteArray) : ∀ x ∈ bytesOf s, 0 ≤ x ∧ x ≤ 255 := by
  intro x hx
  simp only [bytesOf, List.mem_map] at hx
  obtain ⟨b, _, rfl⟩ := hx
  have := b.toNat_lt
  omega
theorem bt_of {s : ByteArray} {pre suf : List Int} {c : Int} (h : bytesOf s = pre ++ c :: suf) {i : Int} (hi : i = pre.length) : bt s i = c := by
  rw [← rd_bytesOf, h, rd, hi]
  simp [List.getD_eq_getElem?_getD]
theorem size_of {s : ByteArray} {l : List Int} (h : bytesOf s = l) : s.size = l.length := by rw [← h, bytesOf_length]
theorem ba_ext {a b : ByteArray} (h : bytesOf a = bytesOf b) : a = b := by
  have e : a.data.toList = b.data.toList := by
    have inj : ∀ (x y : List UInt8), x.map (fun b => (b.toNat : Int)) = y.map (fun b => (b.toNat : Int)) → x = y := by
      intro x
      induction x with
      | nil => intro y hy; cases y with | nil => rfl | cons => simp at hy
      | cons c x ih =>
        intro y hy
        cases y with
        | nil => simp at hy
        | cons d y =>
          simp only [List.map_cons, List.cons.injEq] at hy
          rw [ih y hy.2]
          congr 1
          exact UInt8.toNat.inj (by omega)
    exact inj _ _ h
  cases a; cases b
  simp only at e
  congr 1
  exact Array.toList_inj.1 e
theorem wrap64_id {i : Int} (h0 : -9223372036854775808 ≤ i) (h : i < 9223372036854775808) : wrap64 i = i := by
  unfold wrap64; omega
theorem wrap_succ (i : Nat) (h : i < 1000000000000000000) : wrap64 ((i : Int) + 1) = ((i + 1 : Nat) : Int) := by
  rw [wrap64_id (by omega) (by omega)]; omega
theorem wrap_add (i j : Nat) (h : i < 1000000000000000000) (h' : j < 1000000000000000000) : wrap64 ((i : Int) + (j : Int)) = ((i + j : Nat) : Int) := by
  rw [wrap64_id (by omega) (by omega)]; omega
end Go.Proofs.YtfoijbcdbcehiaaDoor.L4
end

section
namespace Go.Proofs.YtfoijbcdbcehiaaDoor.L4
open Go.RowKit Go.Proofs.YtfoijbcdbcehiaaDoorW.PrintLast
section
variable {P : Program} {ops : Array Oper} {Q : Exit → Act → World → Prop} {md : Region.Mode}

/-- AN INVARIANT OF A REGION THAT DRAWS ITS ORDER: J speaks of what has come up (listed), of the frame and the world; whatever may come up keeps it; at any time one may go on by hand. -/
theorem wpAny_inv {J : Nat → Array Bool → Act → World → Prop}
    (step : ∀ fuel l a w, J (fuel + 1) l a w → wpAny P md ops Q (fuel + 1) l a w ∨ ((Region.ready md ops l = [] → Q .normal a w) ∧ ∀ i ∈ Region.ready md ops l, wpOp P ops Q i (J fuel (l.setIfInBounds i true)) a w))
    (zero : ∀ l a w, J 0 l a w → wpAny P md ops Q 0 l a w) : ∀ fuel l a w, J fuel l a w → wpAny P md ops Q fuel l a w := by
  intro fuel
  induction fuel with
  | zero => exact zero
  | succ fuel ih =>
    intro l a w h
    rcases step fuel l a w h with h | ⟨h1, h2⟩
    · exact h
    · exact ⟨h1, fun i hi => wpOp_mono (fun a' w' h' => ih _ a' w' h') (h2 i hi)⟩

/-- The same where one condition S is held throughout. -/
theorem wpAnyH_inv {S : World → Prop} {J : Nat → Array Bool → Act → World → Prop}
    (step : ∀ fuel l a w, J (fuel + 1) l a w → wpAnyH P md ops Q S (fuel + 1) l a w ∨ ((Region.ready md ops l = [] → Q .normal a w) ∧ ∀ i ∈ Region.ready md ops l, wpOp P ops Q i (fun a' w' => S w' ∧ J fuel (l.setIfInBounds i true) a' w') a w))
    (zero : ∀ l a w, J 0 l a w → wpAnyH P md ops Q S 0 l a w) : ∀ fuel l a w, J fuel l a w → wpAnyH P md ops Q S fuel l a w := by
  intro fuel
  induction fuel with
  | zero => exact zero
  | succ fuel ih =>
    intro l a w h
    rcases step fuel l a w h with h | ⟨h1, h2⟩
    · exact h
    · exact ⟨h1, fun i hi => wpOp_mono (fun a' w' h' => ⟨h'.1, ih _ a' w' h'.2⟩) (h2 i hi)⟩

/-- Take number i first (its slot is named). -/
theorem take_ {S : World → Prop} {i : Nat} {N : Option Tmp} {oi : Oper} {v : Value} {fuel : Nat} {listed : Array Bool} {a : Act} {w : World} (hi : ops[i]? = some oi) (hN : oi.dst = N)
    (hs : Region.noSelect ops = true) (hf : Region.free md ops listed i = true) (hr : (Region.ready md ops listed).contains i = true)
    (hQ : ∀ c a w, Q (.panic c) (a.put N v) w → Q (.panic c) a w) (hy : YieldsIf P ops S oi v a) (hS : S w)
    (h : wpAnyH P md ops Q S fuel (listed.setIfInBounds i true) (a.put N v) w) : wpAnyH P md ops Q S (fuel + 1) listed a w := by
  subst hN
  exact wpAnyH_take hi hs hf hr hQ hy hS h

/-- An operation that yields a value. -/
theorem wpOp_ok {i : Nat} {o : Oper} {K : Act → World → Prop} {a : Act} {w w1 : World} {v : Value} (ho : ops[i]? = some o) (hg : o.guard = none) (hrun : (execOp a.eval o).run P w = .ok (.value v) w1) (h : K (a.put o.dst v) w1) : wpOp P ops Q i K a w := by
  unfold wpOp
  simp only [ho]
  rw [if_pos (by simp [Region.wanted, hg])]
  refine .inl ?_
  unfold Oper.wp
  rw [hrun]
  exact h
theorem wpOp_wp {i : Nat} {o : Oper} {K : Act → World → Prop} {a : Act} {w : World} (ho : ops[i]? = some o) (hg : o.guard = none) (h : Oper.wp P o a w K Q) : wpOp P ops Q i K a w := by
  unfold wpOp
  simp only [ho]
  rw [if_pos (by simp [Region.wanted, hg])]
  exact .inl h
/-- One that yields nothing. -/
theorem wpOp_skip {i : Nat} {o : Oper} {K : Act → World → Prop} {a : Act} {w w1 : World} (ho : ops[i]? = some o) (hg : o.guard = none) (hrun : (execOp a.eval o).run P w = .ok .skip w1) (h : K (a.put o.dst undef) w1) : wpOp P ops Q i K a w := by
  unfold wpOp
  simp only [ho]
  rw [if_pos (by simp [Region.wanted, hg])]
  refine .inl ?_
  unfold Oper.wp
  rw [hrun]
  exact h
/-- A call. -/
theorem wpOp_call {i : Nat} {o : Oper} {K : Act → World → Prop} {a : Act} {w w1 : World} {f : FuncId} {args : Array Value} (ho : ops[i]? = some o) (hg : o.guard = none) (hrun : (execOp a.eval o).run P w = .ok (.enter f args) w1)
    (h : Calls P f args w1 fun e w' => ∃ v, e = .returned v ∧ K (a.put o.dst v) w') : wpOp P ops Q i K a w := by
  unfold wpOp
  simp only [ho]
  rw [if_pos (by simp [Region.wanted, hg])]
  refine .inl ?_
  unfold Oper.wp
  rw [hrun]
  refine h.mono ?_
  rintro e w' ⟨v, rfl, hk⟩
  exact hk
/-- One step by hand, where just one may come up. -/
theorem wpAny_one {i fuel : Nat} {l : Array Bool} {a : Act} {w : World} (hr : Region.ready md ops l = [i]) (h : wpOp P ops Q i (wpAny P md ops Q fuel (l.setIfInBounds i true)) a w) : wpAny P md ops Q (fuel + 1) l a w := by
  refine ⟨fun h0 => (by rw [hr] at h0; cases h0), fun j hj => ?_⟩
  rw [hr] at hj
  obtain rfl : j = i := by simpa using hj
  exact h

theorem wpAnyH_one {S : World → Prop} {i fuel : Nat} {l : Array Bool} {a : Act} {w : World} (hr : Region.ready md ops l = [i]) (h : wpOp P ops Q i (fun a' w' => S w' ∧ wpAnyH P md ops Q S fuel (l.setIfInBounds i true) a' w') a w) : wpAnyH P md ops Q S (fuel + 1) l a w := by
  refine ⟨fun h0 => (by rw [hr] at h0; cases h0), fun j hj => ?_⟩
  rw [hr] at hj
  obtain rfl : j = i := by simpa using hj
  exact h

theorem run_add_str {o : Oper} {a : Act} {w : World} {t : TypeId} {x y : Operand} {A B : ByteArray} (hop : o.op = .binOp .add t x y t) (hx : a.eval x = .string A) (hy : a.eval y = .string B) (h : A.size + B.size ≤ 9223372036854775807) :
    (execOp a.eval o).run P w = .ok (.value (.string (A ++ B))) w := by
  have h' : ¬ (9223372036854775807 : Int) < (A.size : Int) + (B.size : Int) := by omega
  simp [execOp, hop, hx, hy, eqGuard, binOp_string_add, Op.stringOp, h', Result.andThen]

/-- what one operation is: slot, kind, guard -/
structure At (ops : Array Oper) (i : Nat) (d : Option Tmp) (op : Op) (o : Oper) : Prop where
  here : ops[i]? = some o
  dst : o.dst = d
  op : o.op = op
  guard : o.guard = none
theorem at_of {i : Nat} {d : Option Tmp} {op : Op} (h : (ops[i]?).map (fun o => (o.dst, o.op, o.guard)) = some (d, op, none)) : ∃ o, At ops i d op o := by
  obtain ⟨o, h1, h2⟩ := Option.map_eq_some_iff.1 h
  exact ⟨o, h1, (Prod.mk.inj h2).1, (Prod.mk.inj (Prod.mk.inj h2).2).1, (Prod.mk.inj (Prod.mk.inj h2).2).2⟩
/-- does i wait for j? -/
def waitsFor (md : Region.Mode) (ops : Array Oper) (i j : Nat) : Bool := ((ops[i]?).map fun o => o.after.any fun e => Region.binds md e && e.on == j).getD false
theorem deps_of {l : Array Bool} {i j : Nat} (hi : i ∈ Region.ready md ops l) (h : waitsFor md ops i j = true) : l.getD j false = true := by
  obtain ⟨_, o, ho, hall⟩ := mem_ready.1 hi
  unfold waitsFor at h
  rw [ho] at h
  simp only [Option.map_some, Option.getD_some, Array.any_eq_true'] at h
  obtain ⟨e, he, h2⟩ := h
  simp only [Bool.and_eq_true, beq_iff_eq] at h2
  have := hall e he h2.1
  rwa [h2.2] at this
/-- i waits for none but those -/
def waitsIn (md : Region.Mode) (ops : Array Oper) (i : Nat) (D : List Nat) : Bool := ((ops[i]?).map fun o => o.after.all fun e => !Region.binds md e || D.contains e.on).getD false
theorem ready_of {l : Array Bool} {i : Nat} (D : List Nat) (h0 : l.getD i true = false) (h : waitsIn md ops i D = true) (hD : ∀ j ∈ D, l.getD j false = true) : i ∈ Region.ready md ops l := by
  unfold waitsIn at h
  cases ho : ops[i]? with
  | none => rw [ho] at h; simp at h
  | some o =>
    rw [ho] at h
    simp only [Option.map_some, Option.getD_some, Array.all_eq_true_iff_forall_mem, Bool.or_eq_true, Bool.not_eq_true'] at h
    refine mem_ready.2 ⟨h0, o, ho, fun e he hb => ?_⟩
    rcases h e he with h1 | h1
    · rw [hb] at h1; cases h1
    · exact hD _ (by simpa using h1)
theorem ready_lt {l : Array Bool} {i : Nat} (hi : i ∈ Region.ready md ops l) : i < ops.size ∧ l.getD i true = false := by
  obtain ⟨h0, o, ho, _⟩ := mem_ready.1 hi
  exact ⟨(Array.getElem?_eq_some_iff.1 ho).1, h0⟩

theorem op_insert {i : Nat} {o : Oper} {K : Act → World → Prop} {a : Act} {w w1 : World} {t : TypeId} {m k x : Operand} (h : At ops i none (.insert t m k x) o) (hrun : (Instr.mapUpdate t (a.eval m) (a.eval k) (a.eval x)).run P w = .ok () w1) (hK : K a w1) : wpOp P ops Q i K a w := by
  refine wpOp_skip (w1 := w1) h.here h.guard ?_ ?_
  · simp [execOp, h.op, hrun, Result.andThen]
  · rw [h.dst]; exact hK
theorem op_makeMap {i : Nat} {o : Oper} {K : Act → World → Prop} {a : Act} {w : World} {N : Option Tmp} {t : TypeId} (h : At ops i N (.makeMap t none) o) (hK : K (a.put N (.map (some w.heap.size))) (w.alloc (.map #[] 0))) : wpOp P ops Q i K a w := by
  refine wpOp_ok (w1 := w.alloc (.map #[] 0)) (v := .map (some w.heap.size)) h.here h.guard ?_ ?_
  · simp [execOp, h.op, Instr.makeMap]
  · rw [h.dst]; exact hK
theorem op_call {i : Nat} {o : Oper} {K : Act → World → Prop} {a : Act} {w : World} {N : Option Tmp} {f : Operand} {args0 : Array Operand} {ts : Array TypeId} {fn : FuncId} {caps args : Array Value} {g : Func} (h : At ops i N (.call { callee := .value f, args := args0, argTypes := ts }) o)
    (hf : a.eval f = .func (.func fn) #[] caps) (hargs : args0.toList.map a.eval ++ caps.toList = args.toList) (hg : P.funcs[fn]? = some g) (hn : (g.name == "runtime.NumGoroutine") = false) (hb : g.body.isSome = true)
    (hc : Calls P fn args w fun e w' => ∃ v, e = .returned v ∧ K (a.put N v) w') : wpOp P ops Q i K a w := by
  have ha : args0.map a.eval ++ caps = args := by apply Array.toList_inj.1; simpa using hargs
  subst ha
  refine wpOp_call (f := fn) (args := args0.map a.eval ++ caps) (w1 := w) h.here h.guard ?_ ?_
  · have he := enters_ hg hn hb (args0.map a.eval ++ caps) w
    simp [execOp, h.op, resolve, hf, Deferred.ofValue, invoke, he]
  · rw [h.dst]; exact hc
end
end Go.Proofs.YtfoijbcdbcehiaaDoor.L4
end

section
namespace Go.Proofs.YtfoijbcdbcehiaaDoor.L4
open Go.RowKit Go.Proofs.YtfoijbcdbcehiaaDoorW.PrintWords

theorem cell1 (w : World) (t : TypeId) (fr : Nat × Nat) (a : Value) : (w.alloc (.cells #[a] t fr)).cell? ⟨w.heap.size, 0, none⟩ = some a := by
  simp only [World.cell?]
  rw [show (w.alloc (.cells #[a] t fr)).heap[w.heap.size]? = some (.cells #[a] t fr) by show (w.heap.push _)[w.heap.size]? = _; simp]
  rfl
theorem cell2 (w : World) (t : TypeId) (fr : Nat × Nat) (a b : Value) (i : Nat) : (w.alloc (.cells #[a, b] t fr)).cell? ⟨w.heap.size, i, none⟩ = #[a, b][i]? := by
  simp only [World.cell?]
  rw [show (w.alloc (.cells #[a, b] t fr)).heap[w.heap.size]? = some (.cells #[a, b] t fr) by show (w.heap.push _)[w.heap.size]? = _; simp]
  rfl

/-- a slice literal of two, read -/
theorem reads2 {α : Type} (enc : α → Value) (d : α) (h1 : ∀ x, (enc x).oneCell' = true) (w : World) (t : TypeId) (fr : Nat × Nat) (x y : α) :
    (Kd.scalar enc h1).C (w.alloc (.cells #[enc x, enc y] t fr)) (some ⟨w.heap.size, 0, none⟩) [x, y].length [x, y] := by
  refine Kd.C_of_reads (d := d) ⟨rfl, by simp, fun _ => ⟨_, rfl, fun i hi => ?_⟩⟩
  have hi' : i < 2 := by simpa using hi
  rw [add_plain, cell2]
  obtain rfl | rfl : i = 0 ∨ i = 1 := by omega
  all_goals rfl

end Go.Proofs.YtfoijbcdbcehiaaDoor.L4
end

section
namespace Go.Proofs.YtfoijbcdbcehiaaDoor.L4
open Go.RowKit Go.ChangeMaps Go.MapKept Go.WideMaps
open Go.WideElems (Fit rd rg pl rd_val elemAt)
open Go.Maps (Keyed)
section
variable {P : Program}

/-- how any value reads: args0 itself -/
def asHeld (v : Value) : Option (DataW Value × List MemPlace) := some (.held v, [])
/-- BLOCK m OF w IS A MAP KEYED BY STRINGS (type k): of key s it holds f s. -/
def MapIs (P : Program) (k : TypeId) (m n : Nat) (f : List UInt8 → Option Value) (w : World) : Prop :=
  ∃ D : DataW Value, w.ownsMap P k asHeld m n D ∧ Maps.IsMap D ∧ ∀ (s : List UInt8) z, D.atKey (.string s) z = match f s with | some v => .held v | none => z

theorem MapIs.made (w : World) (k : TypeId) : MapIs P k w.heap.size 0 (fun _ => none) (w.alloc (.map #[] 0)) :=
  ⟨.map [], World.ownsMap_made w P k asHeld, Maps.isMap_empty, fun _ _ => rfl⟩
theorem MapIs.kept {k : TypeId} {m n : Nat} {f : List UInt8 → Option Value} {w w1 : World} {row : Option Nat} (h : MapIs P k m n f w) (hg : w.grownBy w1 row) (hne : some m ≠ row) : MapIs P k m n f w1 :=
  let ⟨D, h1, h2, h3⟩ := h
  ⟨D, h1.kept hg hne, h2, h3⟩
theorem MapIs.below {k : TypeId} {m n : Nat} {f : List UInt8 → Option Value} {w w1 : World} (h : MapIs P k m n f w) (hb : Below w.heap.size w w1) : MapIs P k m n f w1 :=
  h.kept (row := none) ⟨hb.os, hb.tape, hb.output, hb.size, fun i hi _ => hb.block i hi⟩ (by simp)
theorem MapIs.lt {k : TypeId} {m n : Nat} {f : List UInt8 → Option Value} {w : World} (h : MapIs P k m n f w) : m < w.heap.size :=
  let ⟨_, h1, _, _⟩ := h
  h1.lt
theorem MapIs.congr {k : TypeId} {m n : Nat} {f g : List UInt8 → Option Value} {w : World} (h : MapIs P k m n f w) (hfg : ∀ s, f s = g s) : MapIs P k m n g w :=
  let ⟨D, h1, h2, h3⟩ := h
  ⟨D, h1, h2, fun s z => by rw [h3 s z, hfg s]⟩

theorem MapIs.put {k e t : TypeId} {m n : Nat} {f : List UInt8 → Option Value} {w : World} (h : MapIs P k m n f w) (hk : P.underlying k = some .string) (ht : P.underlying t = some (.map k e)) (hn : n < 1000000) (s : ByteArray) (hs : s.size ≤ 1000000) (v : Value) :
    ∃ w1, (Instr.mapUpdate t (.map (some m)) (.string s) v).run P w = .ok () w1 ∧ MapIs P k m (n + 1) (fun q => if q = s.data.toList then some v else f q) w1 ∧ w.grownBy w1 (some m) := by
  obtain ⟨D, h1, h2, h3⟩ := h
  have hkey : keyOf P k (.string s) = some (.string s.data.toList) := keyOf_string_mk hk (by unfold maxLen; omega)
  obtain ⟨w1, hrun, ho, hg⟩ := h1.update (Maps.string_keyed hk) ht (by unfold maxLen; omega) hkey (d := .held v) (ps := []) rfl
  refine ⟨w1, hrun, ⟨_, ho, h2.put _ _, fun q z => ?_⟩, hg⟩
  by_cases hq : q = s.data.toList
  · subst hq
    rw [Maps.atKey_put_same h2 (by simp [WideAt.IsKeyLit])]; simp
  · rw [Maps.atKey_put_other (by intro e1; exact hq (Lit.string.inj e1)), h3 q z]; simp only [if_neg hq]

theorem MapIs.look {k e t : TypeId} {m n : Nat} {f : List UInt8 → Option Value} {w : World} (h : MapIs P k m n f w) (hk : P.underlying k = some .string) (ht : P.underlying t = some (.map k e)) {z : Value} (hz : (zeroValue e).run P w = .ok z w) (s : ByteArray) (hs : s.size ≤ 9223372036854775807) :
    (Instr.lookup t (.map (some m)) (.string s) true).run P w = .ok (match f s.data.toList with | some v => .tuple #[v, .bool true] | none => .tuple #[z, .bool false]) w := by
  obtain ⟨D, ⟨es, clock, hb, F, _, rfl⟩, h2, h3⟩ := h
  have hkey : keyOf P k (.string s) = some (.string s.data.toList) := keyOf_string_mk hk hs
  rcases Maps.fit_look true (Maps.string_keyed hk) ht hz hb F hkey with ⟨hrun, _, hat⟩ | ⟨e0, y, _, _, hrun, hRv, hat, _⟩
  · have h4 := (hat .nil).symm.trans (h3 s.data.toList .nil)
    cases hf : f s.data.toList with
    | none => simpa using hrun
    | some v => rw [hf] at h4; cases h4
  · have h4 := (hat .nil).symm.trans (h3 s.data.toList .nil)
    have hy : y.1 = .held e0.val := by
      have := Option.some.inj hRv
      rw [← this]
    cases hf : f s.data.toList with
    | none => rw [hf, hy] at h4; cases h4
    | some v =>
      rw [hf, hy] at h4
      have : e0.val = v := by cases h4; rfl
      rw [← this]
      simpa using hrun
end
end Go.Proofs.YtfoijbcdbcehiaaDoor.L4
end

section
namespace Go.Proofs.YtfoijbcdbcehiaaDoor.L4
open Go.RowKit Go.Proofs.YtfoijbcdbcehiaaDoorW.PrintWords

/-- Show$1: a closure that holds a slice -/
theorem show1_any (A : Option Addr) (n c : Nat) (w : World) :
    Calls Tryd.prog 17 #[.slice A n c] w fun e w' => e = .returned (.func (Fn.func 18) #[] #[.pointer (some ⟨w.heap.size, 0, none⟩)]) ∧ w' = w.alloc (.cells #[.slice A n c] 22) := by
  go_enter Tryd.func17, Tryd.ntmps17
  go_wp2_with fail
  go_ret
  exact ⟨rfl, rfl⟩

set_option maxRecDepth 100000 in
theorem show11_any (s : Sv) (b : Nat) (A : Option Addr) (c : Nat) (l : List Int) (w : World) (hb : w.heap[b]? = some (.cells #[.slice A l.length c] 22 (0, 0))) (hr : Kd.C (Kd.int .u8) w A l.length l) (hB : Bs l) (hn : l.length ≤ 1099511627776) :
    Calls Tryd.prog 18 #[s.v, .pointer (some ⟨b, 0, none⟩)] w fun e w' => ∃ v, e = .returned v ∧ Kd.R Kd.string 9 w' w.heap.size (fun _ => True) v [strOfNums (quL l)] ∧ Below w.heap.size w w' := by
  have hlt : b < w.heap.size := blk_lt hb
  unfold Sv.v
  generalize s.cells = cs at *
  have hc : (w.alloc (.cells cs 34)).cell? ⟨b, 0, none⟩ = some (.slice A l.length c) := by
    rw [blk_cell (w := w.alloc (.cells cs 34)) (g := b) ((Below.heap_alloc _ _ _ hlt).trans hb)]; rfl
  have HH := Lib.hid hb
  clear hb
  go_enter Tryd.func18, Tryd.ntmps18
  go_wp2_with (go_at_call 19; refine (quote_any A c l _ (by exact Kd.C_alloc hr _) hB hn).mono ?_; rintro e w1 ⟨rfl, hb1⟩; simp only [World.size_alloc] at hb1)
  go_ret
  have g1 := ((Below.refl _ _).alloc (Nat.le_refl _) (.cells cs 34)).trans (hb1.mono (by omega))
  refine ⟨_, rfl, ?_, g1.alloc g1.size _⟩
  refine Kd.R_of_own (enc := Value.string) (h1 := fun _ => rfl) (own_lit_of w1 w.heap.size 9 [strOfNums (quL l)] g1.size (by simp)) (fun _ _ => trivial)
end Go.Proofs.YtfoijbcdbcehiaaDoor.L4
end

section
namespace Go.Proofs.YtfoijbcdbcehiaaDoor.L4
open Go.RowKit
section
variable {P : Program} {md : Region.Mode} {ops : Array Oper} {Q : Exit → Act → World → Prop}
/-- a call, its slot given: the frame stays plain -/
theorem wpOp_callN {i : Nat} {o : Oper} {K : Act → World → Prop} {a : Act} {w w1 : World} {f : FuncId} {args : Array Value} {N : Option Tmp} (ho : ops[i]? = some o) (hN : o.dst = N) (hg : o.guard = none) (hrun : (execOp a.eval o).run P w = .ok (.enter f args) w1)
    (h : Calls P f args w1 fun e w' => ∃ v, e = .returned v ∧ K (a.put N v) w') : wpOp P ops Q i K a w := by
  subst hN; exact wpOp_call ho hg hrun h
theorem wpOp_okN {i : Nat} {o : Oper} {K : Act → World → Prop} {a : Act} {w w1 : World} {v : Value} {N : Option Tmp} (ho : ops[i]? = some o) (hN : o.dst = N) (hg : o.guard = none) (hrun : (execOp a.eval o).run P w = .ok (.value v) w1) (h : K (a.put N v) w1) : wpOp P ops Q i K a w := by
  subst hN; exact wpOp_ok ho hg hrun h
end
end Go.Proofs.YtfoijbcdbcehiaaDoor.L4
end
