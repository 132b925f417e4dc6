/- Base: Mark, Build, Shelf, Quote, Join, RefMark, Text, HViewStates, laid together. -/
import Derived.Test.YtfoijbcdbcehiaaDoorProg
import Derived.WalkKit
import Derived.KernelRfl
import Derived.Below
import Derived.Lib.Hide
import Derived.Handy
import Derived.Laws.BytesString
import Derived.Laws.Runes
import Derived.Test.YtfoijbcdbcehiaaDoorWWords
import Derived.Lib.Strings
import Derived.Lib.Slices
import Derived.Lib.Walk
import Derived.Lib.Builder
import Derived.Lib.AppendStr
import Derived.Lib.UnsafeStr
import Derived.Laws.Externs
import Derived.Shelf.Strings.Builder1
import Derived.Shelf.Strings.Builder2
import Derived.Shelf.Strings.OnBuilder
import Derived.Shelf.Strings.BuilderF
import Derived.Shelf.Strings.BuilderK
import Derived.Shelf.Strings.Builder2Cap
import Derived.Shelf.Strconv.Itoa0
import Derived.Shelf.Strconv.Itoa1
import Derived.Shelf.LaysM
import Derived.Shelf.Strconv.Itoa2
import Derived.Shelf.Strconv.Itoa3
import Derived.Shelf.Strings.BuilderCap
import Derived.Lib.LaidTab
section
namespace Go.Proofs.YtfoijbcdbcehiaaDoor.L4
open Go.RowKit Go.Proofs.YtfoijbcdbcehiaaDoorW.PrintWords

/-- the mark of a byte, as numbers -/
def mkL (c : Int) : List Int :=
  if c = 92 then [92, 92] else if 7 ≤ c ∧ c < 14 then [92, [97, 98, 116, 110, 118, 102, 114].getD (c - 7).toNat 0]
  else if 32 ≤ c ∧ c ≤ 126 then [c] else [92, 48 + c / 64, 48 + c / 8 % 8, 48 + c % 8]

theorem cell3 (w : World) (t : TypeId) (a b c : Value) (i : Nat) : (w.alloc (.cells #[a, b, c] t)).cell? ⟨w.heap.size, i, none⟩ = #[a, b, c][i]? := by
  simp only [World.cell?]
  rw [show (w.alloc (.cells #[a, b, c] t)).heap[w.heap.size]? = some (.cells #[a, b, c] t) by show (w.heap.push _)[w.heap.size]? = _; simp]
  rfl
theorem conv3 (w : World) (x y z : Int) : (convert 22 9 (.slice (some ⟨w.heap.size, 0, none⟩) 3 3)).run Tryd.prog (w.alloc (.cells #[.int .u8 x, .int .u8 y, .int .u8 z] 5)) = .ok (.string (strOfNums [x, y, z])) (w.alloc (.cells #[.int .u8 x, .int .u8 y, .int .u8 z] 5)) :=
  run_convert_bytes_arg _ 22 5 Tryd.underlying22 Tryd.underlying5 w.heap.size 0 3 3 [x, y, z] rfl (fun i hi => by
    rw [Nat.zero_add, cell3]
    obtain rfl | rfl | rfl : i = 0 ∨ i = 1 ∨ i = 2 := by omega
    all_goals rfl) 9 Tryd.underlying9

theorem encode_small (c : Int) (h0 : 32 ≤ c) (h1 : c ≤ 126) : Utf8.encode c = strOfNums [c] := by
  obtain ⟨n, rfl⟩ := Int.eq_ofNat_of_zero_le (show 0 ≤ c by omega)
  have hn : n < 127 := by omega
  have key : ∀ n : Fin 127, Utf8.encode (n.val : Int) = strOfNums [(n.val : Int)] := by decide +kernel
  exact key ⟨n, hn⟩

set_option maxHeartbeats 400000 in
theorem mark_oct (c : Int) (h0 : 0 ≤ c) (h1 : c ≤ 255) (hc : c < 7 ∨ 14 ≤ c) (hd : c < 32 ∨ 126 < c) (w : World) :
    Calls Tryd.prog 33 #[.int .u8 c] w fun e w' => e = .returned (.string (strOfNums (mkL c))) ∧ Below w.heap.size w w' := by
  have hm : mkL c = [92, 48 + c / 64, 48 + c / 8 % 8, 48 + c % 8] := by
    unfold mkL; rw [if_neg (by omega), if_neg (by omega), if_neg (by omega)]
  have hm' := Lib.hid hm
  clear hm
  have hconv := conv3 w
  have hb : (c == 92) = false := by simp; omega
  go_enter Tryd.func33, Tryd.ntmps33
  rcases hc with hc | hc <;> rcases hd with hd | hd <;> try omega
  all_goals go_wp2_with fail
  all_goals go_ret
  all_goals refine ⟨?_, by go_grown⟩
  all_goals rw [hm'.out]; congr 2

set_option maxHeartbeats 400000 in
theorem mark_seen (c : Int) (h0 : 32 ≤ c) (h1 : c ≤ 126) (w : World) :
    Calls Tryd.prog 33 #[.int .u8 c] w fun e w' => e = .returned (.string (strOfNums (mkL c))) ∧ Below w.heap.size w w' := by
  by_cases hc : c = 92
  · subst hc
    go_enter Tryd.func33, Tryd.ntmps33
    go_wp2_with fail
    go_ret
    exact ⟨rfl, by go_grown⟩
  · have hm : mkL c = [c] := by
      unfold mkL; rw [if_neg (by omega), if_neg (by omega), if_pos (by omega)]
    have he := encode_small c h0 h1
    have hm' := Lib.hid hm
    have he' := Lib.hid he
    clear hm he
    have hb : (c == 92) = false := by simp; omega
    have hx : 14 ≤ c := by omega
    clear hc
    go_enter Tryd.func33, Tryd.ntmps33
    go_wp2_with fail
    go_ret
    refine ⟨?_, by go_grown⟩
    rw [hm'.out, he'.out]; rfl

set_option maxHeartbeats 400000 in
theorem mark_lett (c : Int) (h0 : 7 ≤ c) (h1 : c < 14) (w : World) :
    Calls Tryd.prog 33 #[.int .u8 c] w fun e w' => e = .returned (.string (strOfNums (mkL c))) ∧ Below w.heap.size w w' := by
  obtain rfl | rfl | rfl | rfl | rfl | rfl | rfl : c = 7 ∨ c = 8 ∨ c = 9 ∨ c = 10 ∨ c = 11 ∨ c = 12 ∨ c = 13 := by omega
  all_goals
    go_enter Tryd.func33, Tryd.ntmps33
    go_wp2_with fail
    go_ret
    exact ⟨rfl, by go_grown⟩

theorem mark_any (c : Int) (h0 : 0 ≤ c) (h1 : c ≤ 255) (w : World) :
    Calls Tryd.prog 33 #[.int .u8 c] w fun e w' => e = .returned (.string (strOfNums (mkL c))) ∧ Below w.heap.size w w' := by
  by_cases ha : 7 ≤ c ∧ c < 14
  · exact mark_lett c ha.1 ha.2 w
  · by_cases hb : 32 ≤ c ∧ c ≤ 126
    · exact mark_seen c hb.1 hb.2 w
    · exact mark_oct c h0 h1 (by omega) (by omega) w
end Go.Proofs.YtfoijbcdbcehiaaDoor.L4
end

section
set_option linter.unusedVariables false
namespace Go.Proofs.YtfoijbcdbcehiaaDoor.L4
open Go.RowKit

theorem sizeBuilder : (Tryd.prog.info? 63).map (fun i => i.size) = some 2 := by kernel_rfl
theorem infoByte : (Tryd.prog.info? 5).map (fun i => (i.zero, i.size, i.bytes)) = some (some (.int .u8 0), 1, 1) := by kernel_rfl

set_option maxHeartbeats 1000000 in
set_option maxRecDepth 100000 in
/-- copyCheck at a builder that has been used: nothing turns. -/
theorem copyCheck_used (b : Nat) (w : World) (h0 : w.cell? ⟨b, 0, none⟩ = some (.pointer (some ⟨b, 0, none⟩))) :
    Calls Tryd.prog 39 #[.pointer (some ⟨b, 0, none⟩)] w fun e w' => e = .returned (.tuple #[]) ∧ w' = w := by
  obtain ⟨j, hj, _⟩ := Option.map_eq_some_iff.1 sizeBuilder
  go_enter Tryd.func39, Tryd.ntmps39
  go_wp2
  rw [Lib.run_neq_ptr_same w _ Tryd.underlying61 hj]
  go_wp2
  go_end0
  exact ⟨rfl, rfl⟩

set_option maxHeartbeats 1000000 in
set_option maxRecDepth 100000 in
/-- copyCheck at a fresh builder: it stores its own address. -/
theorem copyCheck_fresh (b : Nat) (w : World) (h0 : w.cell? ⟨b, 0, none⟩ = some (.pointer none)) (hsh : w.shape? b = some (63, 2)) (hfz : w.frozen? ⟨b, 0, none⟩ = false) :
    Calls Tryd.prog 39 #[.pointer (some ⟨b, 0, none⟩)] w fun e w' => e = .returned (.tuple #[]) ∧ w' = w.setCell ⟨b, 0, none⟩ (.pointer (some ⟨b, 0, none⟩)) := by
  obtain ⟨j, hj, hjs⟩ := Option.map_eq_some_iff.1 sizeBuilder
  go_enter Tryd.func39, Tryd.ntmps39
  go_wp2
  rw [Lib.run_to_unsafe w ⟨b, 0, none⟩ Tryd.underlying61 Tryd.underlying75 hj (by rw [hjs]; decide) hsh (Nat.zero_lt_succ 1)]
  simp only [Result.andThen]
  rw [Oper.upon_value]
  go_wp2
  rw [run_callFunc_extern Tryd.func42 (by kernel_rfl) (by kernel_rfl) (by kernel_rfl) (e := Extern.AbiNoEscape.same) (by kernel_rfl)]
  rw [Lib.run_noEscape]
  simp only [Result.andThen]
  rw [Oper.upon_value]
  go_wp2
  rw [Lib.run_from_unsafe w ⟨b, 0, none⟩ Tryd.underlying75 Tryd.underlying61 hj hsh (by kernel_rfl)]
  simp only [Result.andThen]
  rw [Oper.upon_value]
  go_wp2
  go_end0
  exact ⟨rfl, rfl⟩

theorem copyCheck_any (B b : Nat) (bs : List Value) (w : World) (h : Lib.IsBuilder 63 5 B b bs w) :
    Calls Tryd.prog 39 #[.pointer (some ⟨b, 0, none⟩)] w fun e w' => e = .returned (.tuple #[]) ∧ (Lib.BuilderAt 63 5 B b (.pointer (some ⟨b, 0, none⟩)) bs w' ∧ Below B w w') := by
  rcases h with h | h
  · refine (copyCheck_fresh b w h.cell0 h.shape h.frozen0).mono ?_
    rintro e w' ⟨rfl, rfl⟩
    exact ⟨rfl, h.used _, (Below.refl B w).setCell (p := ⟨b, 0, none⟩) h.1 _⟩
  · refine (copyCheck_used b w h.cell0).mono ?_
    rintro e w' ⟨rfl, rfl⟩
    exact ⟨rfl, h, Below.refl B _⟩

set_option maxHeartbeats 2000000 in
set_option maxRecDepth 100000 in
/-- WriteByte: one byte more. -/
theorem writeByte_any (B b : Nat) (bs : List Value) (c : Int) (w : World) (h : Lib.IsBuilder 63 5 B b bs w) (hlen : bs.length + 1 ≤ 140737488355328) (hBw : B ≤ w.heap.size) :
    Calls Tryd.prog 31 #[.pointer (some ⟨b, 0, none⟩), .int .u8 c] w fun e w' => e = .returned .nilIface ∧ (Lib.IsBuilder 63 5 B b (bs ++ [.int .u8 c]) w' ∧ Below B w w') := by
  obtain ⟨i0, hi, hz0, hz1, hz2⟩ := info_parts infoByte
  go_enter Tryd.func31, Tryd.ntmps31
  go_wp2_with (go_at_call 39; refine (copyCheck_any B b bs _ h).mono ?_)
  rintro e w1 ⟨rfl, h1, hb1⟩
  obtain ⟨hB, v, hbk, hown, hne⟩ := h1
  have c0 : w1.cell? ⟨b, 0, none⟩ = some (.pointer (some ⟨b, 0, none⟩)) := by rw [Lib.cell_of_heap hbk]; rfl
  have c1 : w1.cell? ⟨b, 1, none⟩ = some v := by rw [Lib.cell_of_heap hbk]; rfl
  go_wp2_with (at_builtin; refine wpList_append_own _ rfl _ _ 22 rfl B 5 i0 (.int .u8 0) 1 1 Tryd.underlying22 hi hz0 hz1 hz2 rfl (by decide) _ _ _ rfl (hown.alloc _) ⟨w1.heap.size, 0, none⟩ 1 1 [.int .u8 c] rfl rfl ?c1 ?c2 ?c3 ?c4 ?c5 ?_)
  case c1 =>
    intro j u hj
    match j, hj with
    | 0, hj => simp at hj; subst hj; simp [Addr.add]
  case c2 => intro u hu; simp at hu; subst hu; rfl
  case c3 => unfold maxLen; omega
  case c4 => omega
  case c5 => have := hb1.size; simp; omega
  intro v' w2 hown' hgrow _
  have hlt : b < w1.heap.size := by
    rcases Nat.lt_or_ge b w1.heap.size with h' | h'
    · exact h'
    · simp [Array.getElem?_eq_none h'] at hbk
  have hb2 : w2.heap[b]? = some (.cells #[.pointer (some ⟨b, 0, none⟩), v] 63 (0, 0)) := by
    rw [hgrow.block b (by simp; omega) (fun e => hne e.symm), Lib.alloc_old w1 _ b hlt]
    exact hbk
  have d0 : w2.cell? ⟨b, 0, none⟩ = some (.pointer (some ⟨b, 0, none⟩)) := by rw [Lib.cell_of_heap hb2]; rfl
  have d1 : w2.cell? ⟨b, 1, none⟩ = some v := by rw [Lib.cell_of_heap hb2]; rfl
  have f1 : w2.frozen? ⟨b, 1, none⟩ = false := Lib.frozen_of_heap hb2 1
  obtain ⟨g, cap, rfl⟩ : ∃ g cap, v' = .slice (some ⟨g, 0, none⟩) (bs.length + 1) cap := by
    rcases hown'.2 with ⟨_, h0⟩ | ⟨g, cap, cur, hv, _⟩
    · omega
    · exact ⟨g, cap, hv⟩
  go_wp2
  go_ret
  refine ⟨rfl, ?_, ?_⟩
  · exact .inr (Lib.BuilderAt.put (T := 63) (e := 5) hB hb2 (bs' := bs ++ [.int .u8 c]) (by simpa using hown') (by decide))
  · exact ((hb1.alloc (by have := hb1.size; omega) _).grown hgrow (by have := hb1.size; simp; omega) (fun k hk => (hown.lt k hk).1)).setCell (p := ⟨b, 1, none⟩) hB _

set_option maxHeartbeats 2000000 in
set_option maxRecDepth 100000 in
/-- WriteString: the string's bytes more. -/
theorem writeString_any (B b : Nat) (bs : List Value) (s : ByteArray) (w : World) (h : Lib.IsBuilder 63 5 B b bs w) (hlen : bs.length + s.size ≤ 140737488355328) (hBw : B ≤ w.heap.size) :
    Calls Tryd.prog 32 #[.pointer (some ⟨b, 0, none⟩), .string s] w fun e w' => e = .returned (.tuple #[.int .i64 s.size, .nilIface]) ∧ (Lib.IsBuilder 63 5 B b (bs ++ Lib.strCells s) w' ∧ Below B w w') := by
  obtain ⟨i0, hi, hz0, hz1, hz2⟩ := info_parts infoByte
  go_enter Tryd.func32, Tryd.ntmps32
  go_wp2_with (go_at_call 39; refine (copyCheck_any B b bs _ h).mono ?_)
  rintro e w1 ⟨rfl, h1, hb1⟩
  obtain ⟨hB, v, hbk, hown, hne⟩ := h1
  have c0 : w1.cell? ⟨b, 0, none⟩ = some (.pointer (some ⟨b, 0, none⟩)) := by rw [Lib.cell_of_heap hbk]; rfl
  have c1 : w1.cell? ⟨b, 1, none⟩ = some v := by rw [Lib.cell_of_heap hbk]; rfl
  go_wp2_with (at_builtin; refine Lib.wpList_append_own_string _ rfl _ _ 22 9 rfl B 5 i0 Tryd.underlying22 Tryd.underlying9 hi hz0 hz1 hz2 _ _ _ rfl hown s rfl ?c3 ?c4 ?c5 ?_)
  case c3 => unfold maxLen; omega
  case c4 => omega
  case c5 => have := hb1.size; omega
  intro v' w2 hown' hgrow _
  have hlt : b < w1.heap.size := by
    rcases Nat.lt_or_ge b w1.heap.size with h' | h'
    · exact h'
    · simp [Array.getElem?_eq_none h'] at hbk
  have hb2 : w2.heap[b]? = some (.cells #[.pointer (some ⟨b, 0, none⟩), v] 63 (0, 0)) := by
    rw [hgrow.block b (by omega) (fun e => hne e.symm)]
    exact hbk
  have d0 : w2.cell? ⟨b, 0, none⟩ = some (.pointer (some ⟨b, 0, none⟩)) := by rw [Lib.cell_of_heap hb2]; rfl
  have d1 : w2.cell? ⟨b, 1, none⟩ = some v := by rw [Lib.cell_of_heap hb2]; rfl
  have f1 : w2.frozen? ⟨b, 1, none⟩ = false := Lib.frozen_of_heap hb2 1
  obtain ⟨ao, cap, rfl⟩ : ∃ ao cap, v' = .slice ao (bs.length + s.size) cap := by
    rcases hown'.2 with ⟨hv, h0⟩ | ⟨g, cap, cur, hv, _⟩
    · exact ⟨none, 0, by rw [hv, h0]⟩
    · exact ⟨_, _, hv⟩
  go_wp2
  go_ret2
  refine ⟨rfl, ?_, ?_⟩
  · exact .inr (Lib.BuilderAt.put (T := 63) (e := 5) hB hb2 (bs' := bs ++ Lib.strCells s) (by simpa [Lib.strCells_length] using hown') (by decide))
  · exact (hb1.grown hgrow (by have := hb1.size; omega) (fun k hk => (hown.lt k hk).1)).setCell (p := ⟨b, 1, none⟩) hB _
end Go.Proofs.YtfoijbcdbcehiaaDoor.L4
end

section
/-
  DERIVED: THE SHELF's CONTRACTS AT THIS DUMP, IN PLAIN WORDS (tools/lay-plain.mjs out of 'TrydShelf.lean', which tools/lay-shelf.mjs wrote): THE SAME DECLARATIONS UNDER THE SAME NAMES: 'import', 'namespace', 'open', 'def', 'theorem' AND NOTHING ELSE: no command of the shelf's: FOR A HAND-IN. Each laying: the table of numbers ('.._ren') and one theorem, a field a fact of the dump's own or the kernel's comparison; each contract: ONE APPLICATION.
-/
namespace Go.Proofs
open Go.Shelf
def Tryd.lays169_ren : Go.Shelf.Ren := ⟨fun | 169 => 34 | n => n, fun | 70 => 61 | 9 => 9 | 0 => 0 | 72 => 63 | 37 => 22 | 127 => 73 | 3 => 3 | 5 => 5 | n => n, fun | n => n⟩
theorem Tryd.lays169 : Go.Proofs.Lays.n169 Tryd.prog Tryd.lays169_ren := {
  mixed := by kernel_rfl
  f169 := Tryd.func34.trans (congrArg some (by kernel_rfl))
  t0 := Tryd.underlying0
  a0 := Tryd.isAgg0
  z0 := Tryd.sizeOf0
  v0 := Tryd.zeroValue0
  t3 := Tryd.underlying3
  a3 := Tryd.isAgg3
  z3 := Tryd.sizeOf3
  v3 := Tryd.zeroValue3
  t9 := Tryd.underlying9
  a9 := Tryd.isAgg9
  z9 := Tryd.sizeOf9
  v9 := Tryd.zeroValue9
  t37 := Tryd.underlying22
  a37 := Tryd.isAgg22
  z37 := Tryd.sizeOf22
  v37 := Tryd.zeroValue22
  t70 := Tryd.underlying61
  a70 := Tryd.isAgg61
  z70 := Tryd.sizeOf61
  v70 := Tryd.zeroValue61
  t72 := Tryd.underlying63
  a72 := Tryd.isAgg63
  z72 := Tryd.sizeOf63
  v72 := Tryd.zeroValue63
  t127 := Tryd.underlying73
  a127 := Tryd.isAgg73
  z127 := Tryd.sizeOf73
  v127 := Tryd.zeroValue73 }
theorem Tryd.Builder_Extra_169 : Builder.Extra Tryd.prog Tryd.lays169_ren := {
  sizeBuilder := by kernel_rfl
  liesBuilder := by kernel_rfl
  t5 := Tryd.underlying5
  a5 := Tryd.isAgg5
  z5 := Tryd.sizeOf5
  v5 := Tryd.zeroValue5
  infoByte := by kernel_rfl
  cellsByte := by kernel_rfl
  sizeByte := by kernel_rfl
  neB5 := by decide }
open Go.RowKit in
/-- (*strings.Builder).String: "String returns the accumulated string.": WHATEVER THE BUILDER HOLDS. (LAID: no walk: one application.) -/
theorem Tryd.Builder_String_any (B b : Nat) (l : List UInt8) (w : World) (h : Lib.IsBuilder 63 5 B b (Lib.byteCells l) w) (hBw : B ≤ w.heap.size) :
    Calls Tryd.prog 34 #[.pointer (some ⟨b, 0, none⟩)] w fun e w' => e = .returned (.string ⟨l.toArray⟩) ∧ Below B w w' := Any.Builder_String_any Tryd.lays169 Tryd.Builder_Extra_169 B b l w h hBw
def Tryd.lays156_ren : Go.Shelf.Ren := ⟨fun | 156 => 29 | 165 => 38 | 166 => 32 | 169 => 34 | 240 => 39 | 241 => 41 | 276 => 42 | 277 => 47 | n => n, fun | 31 => 38 | 9 => 9 | 3 => 3 | 4 => 4 | 0 => 0 | 20 => 20 | 72 => 63 | 76 => 67 | 70 => 61 | 37 => 22 | 75 => 65 | 127 => 73 | 164 => 75 | 5 => 5 | 80 => 70 | n => n, fun | n => n⟩
theorem Tryd.lays156 : Go.Proofs.Lays.n156 Tryd.prog Tryd.lays156_ren := {
  mixed := by kernel_rfl
  f156 := Tryd.func29.trans (congrArg some (by kernel_rfl))
  f165 := Tryd.func38.trans (congrArg some (by kernel_rfl))
  f166 := Tryd.func32.trans (congrArg some (by kernel_rfl))
  f169 := Tryd.func34.trans (congrArg some (by kernel_rfl))
  f240 := Tryd.func39.trans (congrArg some (by kernel_rfl))
  f241 := Tryd.func41.trans (congrArg some (by kernel_rfl))
  f276 := Tryd.func42.trans (congrArg some (by kernel_rfl))
  f277 := Tryd.func47.trans (congrArg some (by kernel_rfl))
  t0 := Tryd.underlying0
  a0 := Tryd.isAgg0
  z0 := Tryd.sizeOf0
  v0 := Tryd.zeroValue0
  t3 := Tryd.underlying3
  a3 := Tryd.isAgg3
  z3 := Tryd.sizeOf3
  v3 := Tryd.zeroValue3
  t4 := Tryd.underlying4
  a4 := Tryd.isAgg4
  z4 := Tryd.sizeOf4
  v4 := Tryd.zeroValue4
  t9 := Tryd.underlying9
  a9 := Tryd.isAgg9
  z9 := Tryd.sizeOf9
  v9 := Tryd.zeroValue9
  t20 := Tryd.underlying20
  a20 := Tryd.isAgg20
  z20 := Tryd.sizeOf20
  v20 := Tryd.zeroValue20
  t31 := Tryd.underlying38
  a31 := Tryd.isAgg38
  z31 := Tryd.sizeOf38
  v31 := Tryd.zeroValue38
  t37 := Tryd.underlying22
  a37 := Tryd.isAgg22
  z37 := Tryd.sizeOf22
  v37 := Tryd.zeroValue22
  t70 := Tryd.underlying61
  a70 := Tryd.isAgg61
  z70 := Tryd.sizeOf61
  v70 := Tryd.zeroValue61
  t72 := Tryd.underlying63
  a72 := Tryd.isAgg63
  z72 := Tryd.sizeOf63
  v72 := Tryd.zeroValue63
  t75 := Tryd.underlying65
  a75 := Tryd.isAgg65
  z75 := Tryd.sizeOf65
  v75 := Tryd.zeroValue65
  t76 := Tryd.underlying67
  a76 := Tryd.isAgg67
  z76 := Tryd.sizeOf67
  v76 := Tryd.zeroValue67
  t127 := Tryd.underlying73
  a127 := Tryd.isAgg73
  z127 := Tryd.sizeOf73
  v127 := Tryd.zeroValue73
  t164 := Tryd.underlying75
  a164 := Tryd.isAgg75
  z164 := Tryd.sizeOf75
  v164 := Tryd.zeroValue75 }
theorem Tryd.Builder_Extra_156 : Builder.Extra Tryd.prog Tryd.lays156_ren := {
  sizeBuilder := by kernel_rfl
  liesBuilder := by kernel_rfl
  t5 := Tryd.underlying5
  a5 := Tryd.isAgg5
  z5 := Tryd.sizeOf5
  v5 := Tryd.zeroValue5
  infoByte := by kernel_rfl
  cellsByte := by kernel_rfl
  sizeByte := by kernel_rfl
  neB5 := by decide }
open Go.RowKit in
/-- No element: the empty string; the world is as it was. (Whatever the slice's address and capacity: a nil slice too.) (LAID: no walk: one application.) -/
theorem Tryd.strings_Join_none (a : Option Addr) (c : Nat) (sep : ByteArray) (w : World) :
    Calls Tryd.prog 29 #[.slice a 0 c, .string sep] w fun e w' => e = .returned (.string ⟨#[]⟩) ∧ w' = w := Any.strings_Join_none Tryd.lays156 Tryd.Builder_Extra_156 a c sep w
open Go.RowKit in
/-- strings.Join: "Join concatenates the elements of its first argument to create a single string. The separator string sep is placed between elements in the resulting string.": HOWEVER MANY ELEMENTS. Below the heap's end the world is as it was. (LAID: no walk: one application.) -/
theorem Tryd.strings_Join (bk o c : Nat) (xs : List ByteArray) (sep : ByteArray) (w : World) (hcells : ∀ (j : Nat) x, xs[j]? = some x → w.cell? ⟨bk, o + j, none⟩ = some (.string x)) (hbk : bk < w.heap.size) (hN : xs.length ≤ 140737488355328) (hcap : xs.length ≤ c) (hlen : (Lib.join (xs.map (·.data.toList)) sep.data.toList).length ≤ 140737488355328) :
    Calls Tryd.prog 29 #[.slice (some ⟨bk, o, none⟩) xs.length c, .string sep] w fun e w' => e = .returned (.string ⟨(Lib.join (xs.map (·.data.toList)) sep.data.toList).toArray⟩) ∧ Below w.heap.size w w' := Any.strings_Join Tryd.lays156 Tryd.Builder_Extra_156 bk o c xs sep w hcells hbk hN hcap hlen
def Tryd.laysM171_ren : Go.Shelf.Ren := ⟨fun | 171 => 28 | 243 => 37 | 246 => 40 | 283 => 43 | 284 => 44 | 285 => 45 | 286 => 46 | 129 => 49 | 317 => 48 | 318 => 50 | 319 => 51 | 320 => 52 | 337 => 53 | 338 => 54 | n => n, fun | 3 => 3 | 9 => 9 | 2 => 2 | 4 => 4 | 171 => 77 | 0 => 0 | 53 => 78 | 37 => 22 | 5 => 5 | 173 => 81 | 212 => 86 | 51 => 87 | 20 => 20 | 213 => 88 | 46 => 72 | 232 => 92 | 233 => 93 | n => n, fun | 17 => 0 | 18 => 2 | 19 => 3 | n => n⟩
theorem Tryd.laysM171 : Go.Proofs.LaysM.n171 Tryd.prog Tryd.laysM171_ren := {
  mixed := by kernel_rfl
  f129 := Tryd.func49.trans (congrArg some (by kernel_rfl))
  f171 := Tryd.func28.trans (congrArg some (by kernel_rfl))
  f243 := Tryd.func37.trans (congrArg some (by kernel_rfl))
  f246 := Tryd.func40.trans (congrArg some (by kernel_rfl))
  f283 := Tryd.func43.trans (congrArg some (by kernel_rfl))
  f284 := Tryd.func44.trans (congrArg some (by kernel_rfl))
  f285 := Tryd.func45.trans (congrArg some (by kernel_rfl))
  f286 := Tryd.func46.trans (congrArg some (by kernel_rfl))
  f317 := Tryd.func48.trans (congrArg some (by kernel_rfl))
  f318 := Tryd.func50.trans (congrArg some (by kernel_rfl))
  f319 := Tryd.func51.trans (congrArg some (by kernel_rfl))
  f320 := Tryd.func52.trans (congrArg some (by kernel_rfl))
  f337 := Tryd.func53.trans (congrArg some (by kernel_rfl))
  f338 := Tryd.func54.trans (congrArg some (by kernel_rfl))
  t0 := Tryd.underlying0
  a0 := Tryd.isAgg0
  z0 := Tryd.sizeOf0
  v0 := Tryd.zeroValue0
  t2 := Tryd.underlying2
  a2 := Tryd.isAgg2
  z2 := Tryd.sizeOf2
  v2 := Tryd.zeroValue2
  t3 := Tryd.underlying3
  a3 := Tryd.isAgg3
  z3 := Tryd.sizeOf3
  v3 := Tryd.zeroValue3
  t4 := Tryd.underlying4
  a4 := Tryd.isAgg4
  z4 := Tryd.sizeOf4
  v4 := Tryd.zeroValue4
  t5 := Tryd.underlying5
  a5 := Tryd.isAgg5
  z5 := Tryd.sizeOf5
  v5 := Tryd.zeroValue5
  t9 := Tryd.underlying9
  a9 := Tryd.isAgg9
  z9 := Tryd.sizeOf9
  v9 := Tryd.zeroValue9
  t20 := Tryd.underlying20
  a20 := Tryd.isAgg20
  z20 := Tryd.sizeOf20
  v20 := Tryd.zeroValue20
  t37 := Tryd.underlying22
  a37 := Tryd.isAgg22
  z37 := Tryd.sizeOf22
  v37 := Tryd.zeroValue22
  t46 := Tryd.underlying72
  a46 := Tryd.isAgg72
  z46 := Tryd.sizeOf72
  v46 := Tryd.zeroValue72
  t51 := Tryd.underlying87
  a51 := Tryd.isAgg87
  z51 := Tryd.sizeOf87
  v51 := Tryd.zeroValue87
  t53 := Tryd.underlying78
  a53 := Tryd.isAgg78
  z53 := Tryd.sizeOf78
  v53 := Tryd.zeroValue78
  t171 := Tryd.underlying77
  a171 := Tryd.isAgg77
  z171 := Tryd.sizeOf77
  v171 := Tryd.zeroValue77
  t173 := Tryd.underlying81
  a173 := Tryd.isAgg81
  z173 := Tryd.sizeOf81
  v173 := Tryd.zeroValue81
  t212 := Tryd.underlying86
  a212 := Tryd.isAgg86
  z212 := Tryd.sizeOf86
  v212 := Tryd.zeroValue86
  t213 := Tryd.underlying88
  a213 := Tryd.isAgg88
  z213 := Tryd.sizeOf88
  t232 := Tryd.underlying92
  a232 := Tryd.isAgg92
  z232 := Tryd.sizeOf92
  v232 := Tryd.zeroValue92
  t233 := Tryd.underlying93
  a233 := Tryd.isAgg93
  z233 := Tryd.sizeOf93
  v233 := Tryd.zeroValue93
  g17 := by kernel_rfl
  g18 := by kernel_rfl
  g19 := by kernel_rfl
  i0 := by kernel_rfl
  i2 := by kernel_rfl
  i3 := by kernel_rfl
  i4 := by kernel_rfl
  i5 := by kernel_rfl
  i9 := by kernel_rfl
  i20 := by kernel_rfl
  i37 := by kernel_rfl
  i46 := by kernel_rfl
  i51 := by kernel_rfl
  i53 := by kernel_rfl
  i171 := by kernel_rfl
  i173 := by kernel_rfl
  i212 := by kernel_rfl
  i232 := by kernel_rfl
  i233 := by kernel_rfl
  m17 := by kernel_rfl
  m18 := by kernel_rfl
  m19 := by kernel_rfl }
open Go.RowKit Go.Sort Go.Lib in
/-- strconv.Itoa: "Itoa is equivalent to FormatInt(int64(i), 10).": i's DECIMAL NUMERAL ('Lib.itoa': a '-' where i is negative, then the digits), FOR EVERY int. The world behind the call: the world before it, new blocks behind the heap (the library's 'var a [24]byte'), draws. (LAID: no walk: one application.) -/
theorem Tryd.strconv_Itoa (n : Int) (h0 : -9223372036854775808 ≤ n) (h1 : n ≤ 9223372036854775807) (w : World) (htab : Lib.TabIs Tryd.prog w "internal/strconv.uint64pow10" .u64 Lib.pow10Tab) :
    Calls Tryd.prog 28 #[.int .i64 n] w fun e w' => e = .returned (.string ⟨(Lib.itoa n).toArray⟩) ∧ ∃ k os, w' = grow (w.drewN k) os := Any.strconv_Itoa Tryd.laysM171 n h0 h1 w htab
end Go.Proofs
end

section
namespace Go.Proofs.YtfoijbcdbcehiaaDoor.L4
open Go.RowKit Go.Proofs.YtfoijbcdbcehiaaDoorW.PrintWords

/-- what Quote writes of one byte -/
def qmL (c : Int) : List Int := if c = 34 then [92, 34] else mkL c
/-- the quote of a text, as numbers -/
def quL (l : List Int) : List Int := 34 :: (l.flatMap qmL ++ [34])

theorem mkL_length (c : Int) : (mkL c).length ≤ 4 := by
  unfold mkL; split
  · simp
  · split
    · simp
    · split <;> simp
theorem qmL_length (c : Int) : (qmL c).length ≤ 4 := by
  unfold qmL; split
  · simp
  · exact mkL_length c
theorem flat_length (l : List Int) : (l.flatMap qmL).length ≤ 4 * l.length := by
  induction l with
  | nil => simp
  | cons a l ih => have := qmL_length a; simp only [List.flatMap_cons, List.length_append, List.length_cons]; omega

theorem strCells_nums (xs : List Int) (h : ∀ x ∈ xs, 0 ≤ x ∧ x ≤ 255) : Lib.strCells (strOfNums xs) = nums .u8 xs := by
  rw [Lib.strCells, strOfNums_data, nums, List.map_map]
  apply List.map_congr_left
  intro x hx
  have := h x hx
  simp only [Function.comp]
  congr 1
  simp
  omega
theorem byteCells_nums (xs : List Int) (h : ∀ x ∈ xs, 0 ≤ x ∧ x ≤ 255) : nums .u8 xs = Lib.byteCells (strOfNums xs).data.toList := by
  rw [← strCells_nums xs h]; rfl
theorem mkL_range (c : Int) (h0 : 0 ≤ c) (h1 : c ≤ 255) : ∀ x ∈ mkL c, 0 ≤ x ∧ x ≤ 255 := by
  intro x hx
  unfold mkL at hx
  split at hx
  · simp at hx; omega
  · split at hx
    · rename_i h
      obtain rfl | rfl | rfl | rfl | rfl | rfl | rfl : c = 7 ∨ c = 8 ∨ c = 9 ∨ c = 10 ∨ c = 11 ∨ c = 12 ∨ c = 13 := by omega
      all_goals simp at hx; omega
    · split at hx
      · simp at hx; omega
      · simp at hx; omega

theorem builderAt_below {T e : TypeId} {B b : Nat} {p : Value} {bs : List Value} {w w1 : World} (h : Lib.BuilderAt T e B b p bs w) (hb : Below w.heap.size w w1) : Lib.BuilderAt T e B b p bs w1 := by
  have hlt := h.lt
  obtain ⟨hB, v, hbk, hown, hne⟩ := h
  exact ⟨hB, v, (hb.block b hlt).trans hbk, pw_own_below hown hb, hne⟩
theorem isBuilder_below {T e : TypeId} {B b : Nat} {bs : List Value} {w w1 : World} (h : Lib.IsBuilder T e B b bs w) (hb : Below w.heap.size w w1) : Lib.IsBuilder T e B b bs w1 :=
  h.imp (fun h => builderAt_below h hb) (fun h => builderAt_below h hb)
theorem quL_range (l : List Int) (h : ∀ x ∈ l, 0 ≤ x ∧ x ≤ 255) : ∀ x ∈ quL l, 0 ≤ x ∧ x ≤ 255 := by
  intro x hx
  simp only [quL, List.mem_cons, List.mem_append, List.mem_flatMap, List.not_mem_nil, or_false] at hx
  rcases hx with rfl | ⟨y, hy, hx⟩ | rfl
  · omega
  · unfold qmL at hx
    split at hx
    · simp at hx; omega
    · exact mkL_range y (h y hy).1 (h y hy).2 x hx
  · omega
theorem quote_cells (l : List Int) (h : ∀ x ∈ l, 0 ≤ x ∧ x ≤ 255) : nums .u8 (34 :: (l.take l.length).flatMap qmL) ++ [.int .u8 34] = Lib.byteCells (strOfNums (quL l)).data.toList := by
  rw [← byteCells_nums _ (quL_range l h), List.take_length, quL, ← List.cons_append, nums_append]; rfl
theorem flat_snoc (l : List Int) (x : Int) : (34 :: (l ++ [x]).flatMap qmL) = (34 :: l.flatMap qmL) ++ qmL x := by simp

set_option maxHeartbeats 1000000 in
set_option maxRecDepth 100000 in
theorem quote_any (A : Option Addr) (c : Nat) (l : List Int) (w : World) (hr : Kd.C (Kd.int .u8) w A l.length l) (hb : ∀ x ∈ l, 0 ≤ x ∧ x ≤ 255) (hn : l.length ≤ 1099511627776) :
    Calls Tryd.prog 19 #[.slice A l.length c] w fun e w' => e = .returned (.string (strOfNums (quL l))) ∧ Below w.heap.size w w' := by
  have HR := Aside0.mk hr
  have HB := Aside0.mk hb
  clear hr hb
  go_enter Tryd.func19, Tryd.ntmps19
  go_wp2_with (go_at_call 31; refine (writeByte_any w.heap.size w.heap.size [] 34 _ (by exact Lib.fresh_isBuilder _ _ _) (by simp) (by simp)).mono ?_; rintro e w1 ⟨rfl, hB1, hb1⟩)
  go_loopw [9] (fun i wr => ∃ k : Nat, k ≤ l.length ∧ i = .int .i64 k ∧ Aside0 (Lib.IsBuilder 63 5 w.heap.size w.heap.size (nums .u8 (34 :: (l.take k).flatMap qmL)) wr) ∧ Aside0 (Below w.heap.size w wr)) (fun i _ => l.length - (intOf i).toNat)
  case atStart => exact ⟨0, Nat.zero_le _, rfl, ⟨by simpa [nums] using hB1⟩, ⟨((Below.refl _ _).alloc (Nat.le_refl _) _).trans hb1⟩⟩
  case round =>
    obtain ⟨k, hk, rfl, hB, hb⟩ := hrel
    by_cases hlt : k < l.length
    · have hts : (l.take (k + 1)) = l.take k ++ [rd l k] := by
        rw [List.take_succ_eq_append_getElem hlt, rd]; congr 2; simp [List.getElem?_eq_getElem hlt]
      have hrg := HB.out (rd l k) (by rw [rd]; simp [List.getElem?_eq_getElem hlt])
      have hfl := flat_length (l.take k)
      have hlk : (l.take k).length ≤ k := List.length_take_le _ _
      obtain ⟨ad, e1, hx0⟩ := Kd.at_int HR.out (k : Int) (by omega) (by omega)
      cases e1
      rw [Int.toNat_natCast] at hx0
      replace hx0 := (hb.out.cell (World.block_lt_of_cell? w _ hx0)).trans hx0
      have HT := Aside0.mk hts
      clear hts
      have hsz := hb.out.size
      by_cases hq : rd l k = 34
      · have hq1 : (rd l k == 34) = true := beq_iff_eq.2 hq
        have hq' : qmL (rd l k) = [92, 34] ∧ mkL (rd l k) = [34] := ⟨by rw [qmL, if_pos hq], by rw [hq]; rfl⟩
        have HQ := Aside0.mk hq'
        have hms : (strOfNums (mkL (rd l k))).size = 1 := by rw [hq'.2]; rfl
        have HS := Aside0.mk hms
        clear hq hq' hms
        go_wp2_with (first
          | (go_at_call_of 31 (Value.int .u8 92); refine (writeByte_any w.heap.size w.heap.size _ 92 _ (by exact hB.out) (by rw [nums_length, List.length_cons]; omega) (by exact hsz)).mono ?_; rintro e w2 ⟨rfl, hB2, hb2⟩; have hsz2 := hb2.size)
          | (go_at_call 33; refine (mark_any (rd l k) hrg.1 hrg.2 _).mono ?_; rintro e w3 ⟨rfl, hb3⟩; have hsz3 := hb3.size)
          | (go_at_call 32; refine (writeString_any w.heap.size w.heap.size _ _ _ (by exact isBuilder_below hB2 hb3) (by have := HS.out; simp only [List.length_append, nums_length, List.length_cons, List.length_nil]; omega) (by omega)).mono ?_; rintro e w4 ⟨rfl, hB4, hb4⟩))
        go_roundw
        case rel =>
          refine ⟨k + 1, by omega, by go_num, ⟨?_⟩, ⟨((hb.out.trans hb2).trans (hb3.mono (by omega))).trans hb4⟩⟩
          rw [HT.out, flat_snoc, HQ.out.1, nums_append]
          rw [HQ.out.2, strCells_nums _ (by simp)] at hB4
          simpa [nums] using hB4
        case measure => simp [intOf]; omega
      · have hq1 : (rd l k == 34) = false := beq_eq_false_iff_ne.2 hq
        have hq' : qmL (rd l k) = mkL (rd l k) := by rw [qmL, if_neg hq]
        have hms : (strOfNums (mkL (rd l k))).size ≤ 4 := by rw [strOfNums_size]; exact mkL_length _
        have HQ := Aside0.mk hq'
        clear hq hq'
        go_wp2_with (first
          | (go_at_call 33; refine (mark_any (rd l k) hrg.1 hrg.2 _).mono ?_; rintro e w3 ⟨rfl, hb3⟩; have hsz3 := hb3.size)
          | (go_at_call 32; refine (writeString_any w.heap.size w.heap.size _ _ _ (by exact isBuilder_below hB.out hb3) (by simp only [nums_length, List.length_cons]; omega) (by omega)).mono ?_; rintro e w4 ⟨rfl, hB4, hb4⟩))
        go_roundw
        case rel =>
          refine ⟨k + 1, by omega, by go_num, ⟨?_⟩, ⟨(hb.out.trans (hb3.mono (by omega))).trans hb4⟩⟩
          rw [HT.out, flat_snoc, HQ.out, nums_append]
          rw [strCells_nums _ (mkL_range _ hrg.1 hrg.2)] at hB4
          exact hB4
        case measure => simp [intOf]; omega
    · obtain rfl : k = l.length := by omega
      have hfl := flat_length (l.take l.length)
      have htl : l.take l.length = l := List.take_length
      have HT := Aside0.mk htl
      have HC := Aside0.mk (quote_cells l HB.out)
      have hsz := hb.out.size
      rw [htl] at hfl
      clear htl hlt
      go_wp2_with (first
        | (go_at_call 31; refine (writeByte_any w.heap.size w.heap.size _ 34 _ (by exact hB.out) (by rw [HT.out, nums_length, List.length_cons]; omega) (by exact hsz)).mono ?_; rintro e w2 ⟨rfl, hB2, hb2⟩; have hsz2 := hb2.size)
        | (go_at_call 34; refine (Tryd.Builder_String_any w.heap.size w.heap.size (strOfNums (quL l)).data.toList _ (by rw [← HC.out]; exact hB2) (by omega)).mono ?_; rintro e w3 ⟨rfl, hb3⟩))
      go_ret
      exact ⟨rfl, (hb.out.trans hb2).trans hb3⟩
end Go.Proofs.YtfoijbcdbcehiaaDoor.L4
end

section
namespace Go.Proofs.YtfoijbcdbcehiaaDoor.L4
open Go.RowKit Go.Proofs.YtfoijbcdbcehiaaDoorW.PrintWords

/-- words, joined -/
def joinS (l : List ByteArray) (sep : ByteArray) : ByteArray := ⟨(Lib.join (l.map (·.data.toList)) sep.data.toList).toArray⟩

theorem strs_cells {w : World} {A : Option Addr} {l : List ByteArray} (h : Kd.C Kd.string w A l.length l) (hn : 0 < l.length) :
    ∃ b o, A = some ⟨b, o, none⟩ ∧ b < w.heap.size ∧ ∀ (j : Nat) x, l[j]? = some x → w.cell? ⟨b, o + j, none⟩ = some (.string x) := by
  obtain ⟨ad, rfl, h0⟩ := Kd.at_string h 0 (by omega) (by omega)
  have hlt := World.block_lt_of_cell? w _ h0
  obtain ⟨b, o, sp⟩ := ad
  have hsp : sp = none := by
    cases sp with
    | none => rfl
    | some q =>
      exfalso
      simp only [Int.toNat_zero, Addr.add, if_pos] at h0
      unfold World.cell? at h0
      split at h0
      · simp at h0
      · simp at h0
  subst hsp
  refine ⟨b, o, rfl, by simpa [Addr.add] using hlt, fun j x hj => ?_⟩
  obtain ⟨hjl, hjx⟩ := List.getElem?_eq_some_iff.1 hj
  obtain ⟨ad, e, hc⟩ := Kd.at_string h (j : Int) (by omega) (by omega)
  cases e
  rw [Int.toNat_natCast] at hc
  have ha : (⟨b, o, none⟩ : Addr).add j = ⟨b, o + j, none⟩ := by unfold Addr.add; split <;> simp_all
  rw [ha] at hc
  rw [hc, rdOf]
  simp [List.getD_eq_getElem?_getD, hj]

theorem join_any (A : Option Addr) (c : Nat) (l : List ByteArray) (sep : ByteArray) (w : World) (hr : Kd.C Kd.string w A l.length l) (hc : l.length ≤ c) (hN : l.length ≤ 140737488355328)
    (hlen : (Lib.join (l.map (·.data.toList)) sep.data.toList).length ≤ 140737488355328) :
    Calls Tryd.prog 29 #[.slice A l.length c, .string sep] w fun e w' => e = .returned (.string (joinS l sep)) ∧ Below w.heap.size w w' := by
  by_cases hn : 0 < l.length
  · obtain ⟨b, o, rfl, hb, hcells⟩ := strs_cells hr hn
    exact Tryd.strings_Join b o c l sep w hcells hb hN hc hlen
  · obtain rfl : l = [] := List.eq_nil_of_length_eq_zero (by omega)
    refine (Tryd.strings_Join_none A c sep w).mono ?_
    rintro e w' ⟨rfl, rfl⟩
    exact ⟨rfl, Below.refl _ _⟩

theorem row_any (A : Option Addr) (c : Nat) (l : List ByteArray) (w : World) (hr : Kd.C Kd.string w A l.length l) (hc : l.length ≤ c) (hN : l.length ≤ 140737488355328)
    (hlen : (Lib.join (l.map (·.data.toList)) [32]).length ≤ 140737488355328) :
    Calls Tryd.prog 15 #[.slice A l.length c] w fun e w' => e = .returned (.string (joinS l ⟨#[32]⟩)) ∧ Below w.heap.size w w' := by
  go_enter Tryd.func15, Tryd.ntmps15
  go_wp2_with (go_at_call 29; refine (join_any A c l ⟨#[32]⟩ _ hr hc hN hlen).mono ?_; rintro e w1 ⟨rfl, hb⟩)
  go_ret
  exact ⟨rfl, hb⟩
theorem join_length (m : Nat) (sep : ByteArray) : ∀ l : List ByteArray, (∀ x ∈ l, x.size ≤ m) → (Lib.join (l.map (·.data.toList)) sep.data.toList).length ≤ l.length * (m + sep.size)
  | [], _ => by simp [Lib.join]
  | [a], h => by
    have := h a (by simp)
    have e : a.data.toList.length = a.size := by rw [Array.length_toList]; rfl
    simp only [List.map_cons, List.map_nil, Lib.join, List.length_cons, List.length_nil]
    simp
    omega
  | a :: b :: l, h => by
    have h1 := h a (by simp)
    have h2 := join_length m sep (b :: l) (fun x hx => h x (by simp [hx]))
    have e : a.data.toList.length = a.size := by rw [Array.length_toList]; rfl
    have e2 : sep.data.toList.length = sep.size := by rw [Array.length_toList]; rfl
    have h3 : (Lib.join ((a :: b :: l).map (·.data.toList)) sep.data.toList).length = a.data.toList.length + sep.data.toList.length + (Lib.join ((b :: l).map (·.data.toList)) sep.data.toList).length := by
      simp only [List.map_cons, Lib.join]; simp; omega
    rw [h3, e, e2]
    simp only [List.length_cons] at h2 ⊢
    rw [Nat.add_mul (l.length + 1) 1]
    omega
end Go.Proofs.YtfoijbcdbcehiaaDoor.L4
end

section
namespace Go.Proofs.YtfoijbcdbcehiaaDoor.L4
open Go.RowKit Go.Proofs.YtfoijbcdbcehiaaDoorW.PrintWords

theorem cellR1 (w : World) (t : TypeId) (a : Value) (i : Nat) (hi : i < 1) : (w.alloc (.cells #[a] t)).cell? ⟨w.heap.size, i, none⟩ = some a := by
  obtain rfl : i = 0 := by omega
  simp only [World.cell?]
  rw [show (w.alloc (.cells #[a] t)).heap[w.heap.size]? = some (.cells #[a] t) by show (w.heap.push _)[w.heap.size]? = _; simp]
  rfl
theorem conv1 (w : World) (x : Int) : (convert 22 9 (.slice (some ⟨w.heap.size, 0, none⟩) 1 1)).run Tryd.prog (w.alloc (.cells #[.int .u8 x] 5)) = .ok (.string (strOfNums [x])) (w.alloc (.cells #[.int .u8 x] 5)) :=
  run_convert_bytes_arg _ 22 5 Tryd.underlying22 Tryd.underlying5 w.heap.size 0 1 1 [x] rfl (fun i hi => by
    rw [Nat.zero_add, cellR1 _ _ _ _ hi]
    obtain rfl : i = 0 := by omega
    rfl) 9 Tryd.underlying9

set_option maxHeartbeats 400000 in
theorem refMark_oct (c : Int) (h0 : 0 ≤ c) (h1 : c ≤ 255) (hc : c < 7 ∨ 14 ≤ c) (hd : c < 32 ∨ 126 < c) (w : World) :
    Calls Tryd.prog 36 #[.int .u8 c] w fun e w' => e = .returned (.string (strOfNums (mkL c))) ∧ Below w.heap.size w w' := by
  have hm : mkL c = [92, 48 + c / 64, 48 + c / 8 % 8, 48 + c % 8] := by
    unfold mkL; rw [if_neg (by omega), if_neg (by omega), if_neg (by omega)]
  have hm' := Lib.hid hm
  clear hm
  have hconv := conv3 w
  have hb : (c == 92) = false := by simp; omega
  go_enter Tryd.func36, Tryd.ntmps36
  rcases hc with hc | hc <;> rcases hd with hd | hd <;> try omega
  all_goals go_wp2_with fail
  all_goals go_ret
  all_goals refine ⟨?_, by go_grown⟩
  all_goals rw [hm'.out]; congr 2

set_option maxHeartbeats 400000 in
theorem refMark_seen (c : Int) (h0 : 32 ≤ c) (h1 : c ≤ 126) (w : World) :
    Calls Tryd.prog 36 #[.int .u8 c] w fun e w' => e = .returned (.string (strOfNums (mkL c))) ∧ Below w.heap.size w w' := by
  by_cases hc : c = 92
  · subst hc
    go_enter Tryd.func36, Tryd.ntmps36
    go_wp2_with fail
    go_ret
    exact ⟨rfl, by go_grown⟩
  · have hm : mkL c = [c] := by
      unfold mkL; rw [if_neg (by omega), if_neg (by omega), if_pos (by omega)]
    have hm' := Lib.hid hm
    clear hm
    have hb : (c == 92) = false := by simp; omega
    have hx : 14 ≤ c := by omega
    have hconv := conv1 w
    clear hc
    go_enter Tryd.func36, Tryd.ntmps36
    go_wp2_with fail
    go_ret
    refine ⟨?_, by go_grown⟩
    rw [hm'.out]; rfl

set_option maxHeartbeats 400000 in
theorem refMark_lett (c : Int) (h0 : 7 ≤ c) (h1 : c < 14) (w : World) :
    Calls Tryd.prog 36 #[.int .u8 c] w fun e w' => e = .returned (.string (strOfNums (mkL c))) ∧ Below w.heap.size w w' := by
  obtain rfl | rfl | rfl | rfl | rfl | rfl | rfl : c = 7 ∨ c = 8 ∨ c = 9 ∨ c = 10 ∨ c = 11 ∨ c = 12 ∨ c = 13 := by omega
  all_goals
    go_enter Tryd.func36, Tryd.ntmps36
    go_wp2_with fail
    go_ret
    exact ⟨rfl, by go_grown⟩

theorem refMark_any (c : Int) (h0 : 0 ≤ c) (h1 : c ≤ 255) (w : World) :
    Calls Tryd.prog 36 #[.int .u8 c] w fun e w' => e = .returned (.string (strOfNums (mkL c))) ∧ Below w.heap.size w w' := by
  by_cases ha : 7 ≤ c ∧ c < 14
  · exact refMark_lett c ha.1 ha.2 w
  · by_cases hb : 32 ≤ c ∧ c ≤ 126
    · exact refMark_seen c hb.1 hb.2 w
    · exact refMark_oct c h0 h1 (by omega) (by omega) w
end Go.Proofs.YtfoijbcdbcehiaaDoor.L4
end

section
namespace Go.Proofs.YtfoijbcdbcehiaaDoor.L4
open Go.RowKit Go.Proofs.YtfoijbcdbcehiaaDoorW.PrintWords Go.Sort

/-- a number's text -/
def txt (n : Int) : ByteArray := ⟨(Lib.itoa n).toArray⟩
/-- the table of the powers of ten holds -/
structure Tb (w : World) : Prop where mk :: (out : Lib.TabIs Tryd.prog w "internal/strconv.uint64pow10" .u64 Lib.pow10Tab)

theorem Tb.below {w w1 : World} (h : Tb w) (hb : Below w.heap.size w w1) : Tb w1 := by
  obtain ⟨h⟩ := h
  refine ⟨?_⟩
  unfold Lib.TabIs World.var? at *
  obtain ⟨g, hg, h1⟩ := Option.bind_eq_some_iff.1 h
  rw [hg]
  simp only [Option.bind_some]
  have hlt : g < w.heap.size := by
    rcases Nat.lt_or_ge g w.heap.size with h' | h'
    · exact h'
    · rw [Array.getElem?_eq_none h'] at h1; cases h1
  rw [hb.block g hlt]
  exact h1
theorem Tb.alloc {w : World} (h : Tb w) (o : Obj) : Tb (w.alloc o) := h.below (below_alloc (Below.refl _ _) o)
theorem Tb.drewN {w : World} (h : Tb w) (n : Nat) : Tb (w.drewN n) := h.below (pw_below_drewN (Below.refl _ _) n)
theorem Tb.drew {w : World} (h : Tb w) : Tb w.drew := h.below (below_drew (Below.refl _ _))

theorem below_grow (w : World) (k : Nat) (os : Array Obj) : Below w.heap.size w (grow (w.drewN k) os) :=
  ⟨rfl, rfl, rfl, by simp [grow, World.drewN], fun i hi => by simp only [grow, World.drewN]; rw [Array.getElem?_append_left hi]⟩

theorem text_any (n : Int) (h0 : -9223372036854775808 ≤ n) (h1 : n ≤ 9223372036854775807) (w : World) (ht : Tb w) :
    Calls Tryd.prog 13 #[.int .i64 n] w fun e w' => e = .returned (.string (txt n)) ∧ Below w.heap.size w w' := by
  have hc := Lib.hid (Tryd.strconv_Itoa n h0 h1 w ht.out)
  go_enter Tryd.func13, Tryd.ntmps13
  go_wp2_with (go_at_call 28; refine (hc.out).mono ?_; rintro e w1 ⟨rfl, k, os, rfl⟩)
  go_ret
  exact ⟨rfl, below_grow w k os⟩
theorem nDigits_le : ∀ (k u : Nat), u < 10 ^ (k + 1) → Lib.nDigits u ≤ k + 1
  | 0, u, h => by rw [Lib.nDigits_small (by simpa using h)]; omega
  | k + 1, u, h => by
    by_cases hu : u < 10
    · rw [Lib.nDigits_small hu]; omega
    · rw [Lib.nDigits_big hu]
      have := nDigits_le k (u / 10) (by rw [Nat.pow_succ] at h; omega)
      omega
theorem txt_size (n : Int) (h0 : -9223372036854775808 ≤ n) (h1 : n ≤ 9223372036854775807) : (txt n).size ≤ 20 := by
  have hd : ∀ u : Nat, u ≤ 9223372036854775808 → (Lib.decDigits u).length ≤ 19 := fun u hu => by
    rw [Lib.decDigits_length]; exact nDigits_le 18 u (by have : (10 : Nat) ^ 19 = 10000000000000000000 := by decide +kernel
                                                         omega)
  have : (Lib.itoa n).length ≤ 20 := by
    unfold Lib.itoa
    split
    · have := hd n.natAbs (by omega); simp only [List.length_cons]; omega
    · have := hd n.toNat (by omega); omega
  simpa [txt, ByteArray.size] using this
end Go.Proofs.YtfoijbcdbcehiaaDoor.L4
end

section
set_option linter.unusedVariables false
namespace Go.Proofs.YtfoijbcdbcehiaaDoor.PViewStates
open Go.RowKit Go.Proofs.YtfoijbcdbcehiaaDoorW.PrintWords Go.Proofs.YtfoijbcdbcehiaaDoor.L4

def show_mark.f (a0 : Int) : Option ByteArray := if 0 ≤ a0 ∧ a0 ≤ 255 then some (strOfNums (mkL a0)) else none
theorem show_mark.calls (a0 : Int) (r : ByteArray) (w : World) (h : show_mark.f a0 = some r) :
    Calls Tryd.prog 33 #[.int .u8 a0] w fun e w' => e = .returned (.string r) ∧ Below w.heap.size w w' := by
  unfold show_mark.f at h
  split at h
  · rename_i hc
    cases h
    exact mark_any a0 hc.1 hc.2 w
  · cases h
def palinoderef04_Mark.f (a0 : Int) : Option ByteArray := if 0 ≤ a0 ∧ a0 ≤ 255 then some (strOfNums (mkL a0)) else none
theorem palinoderef04_Mark.calls (a0 : Int) (r : ByteArray) (w : World) (h : palinoderef04_Mark.f a0 = some r) :
    Calls Tryd.prog 36 #[.int .u8 a0] w fun e w' => e = .returned (.string r) ∧ Below w.heap.size w w' := by
  unfold palinoderef04_Mark.f at h
  split at h
  · rename_i hc
    cases h
    exact refMark_any a0 hc.1 hc.2 w
  · cases h
def show_Quote.f (l0 : List Int) : Option ByteArray := if l0.all (fun x => decide (0 ≤ x ∧ x ≤ 255)) = true ∧ l0.length ≤ 1099511627776 then some (strOfNums (quL l0)) else none
theorem show_Quote.calls (A0 : Option Addr) (c0 : Nat) (l0 : List Int) (r : ByteArray) (w : World) (hr0 : Kd.C (Kd.int .u8) w A0 l0.length l0) (hc0 : l0.length ≤ c0) (h : show_Quote.f l0 = some r) :
    Calls Tryd.prog 19 #[.slice A0 l0.length c0] w fun e w' => e = .returned (.string r) ∧ Below w.heap.size w w' := by
  unfold show_Quote.f at h
  split at h
  · rename_i hc
    cases h
    exact quote_any A0 c0 l0 w hr0 (fun x hx => of_decide_eq_true (List.all_eq_true.1 hc.1 x hx)) hc.2
  · cases h
def strings_Join.f (l0 : List ByteArray) (a1 : ByteArray) : Option ByteArray := if l0.length ≤ 140737488355328 ∧ (Lib.join (l0.map (·.data.toList)) a1.data.toList).length ≤ 140737488355328 then some (joinS l0 a1) else none
theorem strings_Join.calls (A0 : Option Addr) (c0 : Nat) (l0 : List ByteArray) (a1 : ByteArray) (r : ByteArray) (w : World) (hr0 : Kd.C Kd.string w A0 l0.length l0) (hc0 : l0.length ≤ c0) (h : strings_Join.f l0 a1 = some r) :
    Calls Tryd.prog 29 #[.slice A0 l0.length c0, .string a1] w fun e w' => e = .returned (.string r) ∧ Below w.heap.size w w' := by
  unfold strings_Join.f at h
  split at h
  · rename_i hc
    cases h
    exact join_any A0 c0 l0 a1 w hr0 hc0 hc.1 hc.2
  · cases h
def digit_Text.f (a0 : Int) : Option ByteArray := if -9223372036854775808 ≤ a0 ∧ a0 ≤ 9223372036854775807 then some (txt a0) else none
theorem digit_Text.calls (a0 : Int) (r : ByteArray) (w : World) (TW_ : Tb w) (h : digit_Text.f a0 = some r) :
    Calls Tryd.prog 13 #[.int .i64 a0] w fun e w' => e = .returned (.string r) ∧ Below w.heap.size w w' := by
  unfold digit_Text.f at h
  split at h
  · rename_i hc
    cases h
    exact text_any a0 hc.1 hc.2 w TW_
  · cases h
end Go.Proofs.YtfoijbcdbcehiaaDoor.PViewStates
end
