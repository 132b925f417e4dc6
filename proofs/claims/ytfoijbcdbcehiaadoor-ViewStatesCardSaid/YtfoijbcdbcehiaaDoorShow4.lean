import Derived.Test.YtfoijbcdbcehiaaDoorSeam
import Derived.Test.YtfoijbcdbcehiaaDoorParts
import Derived.Test.YtfoijbcdbcehiaaDoorShow2
set_option linter.unusedVariables false
namespace Go.Proofs.YtfoijbcdbcehiaaDoor.L4
open Go.RowKit Go.Proofs.YtfoijbcdbcehiaaDoorW.PrintWords

def quo (l : List Int) : ByteArray := strOfNums (quL l)
/-- what is shown -/
def showS (s : Sv) (q : List UInt8) : Option (List ByteArray) :=
  if q = k_pattern then some [quo s.l0] else if q = k_hold then some [quo s.l1] else if q = k_rest then some [quo s.l10] else if q = k_out then some [quo s.l11] else if q = k_place then some [quo s.l13]
  else if q = k_regs then some [joinS (regsW s) sp] else if q = k_waits then some (waitsS s) else if q = k_files then some (tableS s) else none
theorem showS_none (s : Sv) {q : List UInt8} (h : NoKey q) : showS s q = none := by
  obtain ⟨h1, h2, h3, h4, h5, h6, h7, h8⟩ := h
  unfold showS
  rw [if_neg h1, if_neg h2, if_neg h3, if_neg h4, if_neg h5, if_neg h6, if_neg h7, if_neg h8]

/-- a function that answers rows -/
abbrev Rows (P : Program) (f : FuncId) (args : Array Value) (w : World) (l : List ByteArray) : Prop :=
  Calls P f args w fun e w' => ∃ v, e = .returned v ∧ Kd.R Kd.string 9 w' w.heap.size (fun _ => True) v l ∧ Below w.heap.size w w'

theorem clo_any (s : Sv) {A : Option Addr} {c : Nat} {l : List Int} {t v : Value} {w0 w : World} (hc : Clo A l.length c t w) (hb : Below w0.heap.size w0 w) (hr : Kd.C (Kd.int .u8) w0 A l.length l) (hB : Bs l) (hn : l.length ≤ 10000) (hv : t = v) :
    ∃ fn caps, v = .func (.func fn) #[] caps ∧ Rows Tryd.prog fn (s.v :: caps.toList).toArray w [quo l] := by
  obtain ⟨b, rfl, hh⟩ := hc
  subst hv
  exact ⟨_, _, rfl, show11_any s b A c l w hh (Kd.C_below hr hb) hB (by omega)⟩

theorem show_fn (s : Sv) (w w1 : World) (hs : s.Ok w) (hm : Sm s) (hT : Tb w1) (hb : Below w.heap.size w w1) (q : List UInt8) (t15 t20 t25 t30 t35 v : Value) (h0 : Clo s.a0 s.l0.length s.c0 t15 w1) (h1 : Clo s.a1 s.l1.length s.c1 t20 w1) (h2 : Clo s.a10 s.l10.length s.c10 t25 w1) (h3 : Clo s.a11 s.l11.length s.c11 t30 w1) (h4 : Clo s.a13 s.l13.length s.c13 t35 w1)
    (h : shF true true true true true true true true t15 t20 t25 t30 t35 q = some v) : ∃ l, showS s q = some l ∧ ∃ fn caps, v = .func (.func fn) #[] caps ∧ Rows Tryd.prog fn (s.v :: caps.toList).toArray w1 l := by
  unfold shF at h
  simp only [and_true] at h
  unfold showS
  by_cases c0 : q = k_pattern
  · rw [if_pos c0] at h ⊢; exact ⟨_, rfl, clo_any s h0 hb hs.r0 hs.b0 hm.l0 (Option.some.inj h)⟩
  rw [if_neg c0] at h ⊢
  by_cases c1 : q = k_hold
  · rw [if_pos c1] at h ⊢; exact ⟨_, rfl, clo_any s h1 hb hs.r1 hs.b1 hm.l1 (Option.some.inj h)⟩
  rw [if_neg c1] at h ⊢
  by_cases c2 : q = k_rest
  · rw [if_pos c2] at h ⊢; exact ⟨_, rfl, clo_any s h2 hb hs.r10 hs.b10 hm.l10 (Option.some.inj h)⟩
  rw [if_neg c2] at h ⊢
  by_cases c3 : q = k_out
  · rw [if_pos c3] at h ⊢; exact ⟨_, rfl, clo_any s h3 hb hs.r11 hs.b11 hm.l11 (Option.some.inj h)⟩
  rw [if_neg c3] at h ⊢
  by_cases c4 : q = k_place
  · rw [if_pos c4] at h ⊢; exact ⟨_, rfl, clo_any s h4 hb hs.r13 hs.b13 hm.l13 (Option.some.inj h)⟩
  rw [if_neg c4] at h ⊢
  by_cases c5 : q = k_regs
  · rw [if_pos c5] at h ⊢; exact ⟨_, rfl, _, _, (Option.some.inj h).symm, regs_any s w1 (hs.below hb) hT⟩
  rw [if_neg c5] at h ⊢
  by_cases c6 : q = k_waits
  · rw [if_pos c6] at h ⊢; exact ⟨_, rfl, _, _, (Option.some.inj h).symm, waits_any s w1 (hs.below hb) hm⟩
  rw [if_neg c6] at h ⊢
  by_cases c7 : q = k_files
  · rw [if_pos c7] at h ⊢; exact ⟨_, rfl, _, _, (Option.some.inj h).symm, table_any s w1 (hs.below hb) hm hT⟩
  rw [if_neg c7] at h
  cases h

theorem show_any (s : Sv) (what : ByteArray) (w : World) (hs : s.Ok w) (hm : Sm s) (ht : Tb w) (hw : what.size ≤ 9223372036854775807) :
    Calls Tryd.prog 8 #[s.v, .string what] w fun e w' => ∃ u, e = .returned (.tuple #[u, .bool (showS s what.data.toList).isSome]) ∧ Kd.R Kd.string 9 w' w.heap.size (fun _ => True) u ((showS s what.data.toList).getD []) ∧ Below w.heap.size w w' := by
  refine show_upto s what w ht hw _ ?_ ?_
  · intro w1 hT hb hk
    refine ⟨.slice none 0 0, ?_, ?_, hb⟩
    · rw [showS_none s hk]; rfl
    · rw [showS_none s hk]; exact Kd.R_nil _ _ _ _ _
  · intro w1 t15 t20 t25 t30 t35 v hT hb hI h0 h1 h2 h3 h4 hv
    obtain ⟨l, hl, fn, caps, hf, hc⟩ := show_fn s w w1 hs hm hT hb _ t15 t20 t25 t30 t35 v h0 h1 h2 h3 h4 hv
    refine ⟨fn, caps, hf, hc.mono ?_⟩
    rintro e w2 ⟨u, rfl, hR, hb2⟩
    refine ⟨u, rfl, u, ?_, ?_, hb.trans (hb2.mono hb.size)⟩
    · rw [hl]; rfl
    · rw [hl]; exact Kd.R_lower hR hb.size
end Go.Proofs.YtfoijbcdbcehiaaDoor.L4
