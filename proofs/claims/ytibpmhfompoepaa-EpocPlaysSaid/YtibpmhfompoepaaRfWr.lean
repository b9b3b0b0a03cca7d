/- The methods of polyptychref16.Epochs, and SameInts. -/
import Derived.Test.YtibpmhfompoepaaRfSt
namespace Go.Proofs.Ytibpmhfompoepaa
open Go.RowKit
set_option linter.unusedSimpArgs false
set_option linter.unusedVariables false
section
variable {w : World} {F : Nat → Prop} {g : Nat} {now : Int} {ps : List Int} {l : List (Int × Int)} {ap : Option Addr} {cp : Nat} {al : Option Addr} {cl : Nat} {aw : Option Addr} {cw : Nat}
theorem Rf.setp {gp : Nat} (h : Rf w F g now ps l (some ⟨gp, 0, none⟩) cp al cl aw cw) (i : Nat) (x : Int) :
    Rf (w.setCell ⟨gp, i, none⟩ (.int .i64 x)) F g now (ps.set i x) l (some ⟨gp, 0, none⟩) cp al cl aw cw ∧ Ext F w (w.setCell ⟨gp, i, none⟩ (.int .i64 x)) := by
  have hl : (ps.set i x).length = ps.length := by simp
  have hs := (h.pin.stored i (.int .i64 x)).1
  have hx : (ints ps).set i (.int .i64 x) = ints (ps.set i x) := by simp [ints, List.map_set]
  have X : Ext (fun k => k = gp) w (w.setCell ⟨gp, i, none⟩ (.int .i64 x)) := Ext.setCell (F := fun k => k = gp) (p := ⟨gp, i, none⟩) (Ext.refl _ w) (Or.inl rfl) _
  obtain ⟨cs, hrow⟩ := own_row h.pin gp rfl
  have hg : g ≠ gp := fun e => by subst e; exact absurd (Row.type h.row hrow) (by decide)
  exact ⟨⟨by rw [hl]; exact h.row.ext X hg, by rw [hl, ← hx]; exact hs, own_ext h.wait X (fun k e he => by subst he; exact h.d1 _ rfl e), own_ext h.when_ X (fun k e he => by subst he; exact h.d2 _ rfl e), h.fg, by rw [hl]; exact h.fp, h.fl, h.fw, by rw [hl]; exact h.d1, by rw [hl]; exact h.d2, h.d3⟩, X.mono (fun k e => by subst e; exact h.fp _ rfl)⟩
theorem Rf.pinCell (h : Rf w F g now ps l ap cp al cl aw cw) (i : Nat) (hi : i < ps.length) : ∃ gp, ap = some ⟨gp, 0, none⟩ ∧ w.cell? ⟨gp, i, none⟩ = some (.int .i64 (ps.getD i 0)) ∧ w.frozen? ⟨gp, i, none⟩ = false ∧ F gp := by
  obtain ⟨gp, rfl⟩ := own_addr h.pin (by omega)
  exact ⟨gp, rfl, own_cell h.pin i _ (by simp [ints, List.getD_eq_getElem?_getD, hi]), own_frozen h.pin i, h.fp gp rfl⟩

set_option maxHeartbeats 1000000 in
theorem rpin_out (h : Rf w F g now ps l ap cp al cl aw cw) (t : Int) (ht : t < 0 ∨ (ps.length : Int) ≤ t) :
    Calls Try.prog 7 #[.pointer (some ⟨g, 0, none⟩), .int .i64 t] w fun e w' => e = .returned (.bool false) ∧ Drawn w w' := by
  have c1 : w.cell? ⟨g, 1, none⟩ = some (.slice ap ps.length cp) := h.row.cell 1
  by_cases h0 : t < 0
  · have d0 : decide (t < 0) = true := decide_eq_true h0
    go_enter Try.func7, Try.ntmps7
    go_wp2_with fail
    go_ret
    exact ⟨rfl, by first | exact Drawn.refl _ | exact (Drawn.refl _).step _⟩
  · have d0 : decide (t < 0) = false := decide_eq_false h0
    have h1 : (ps.length : Int) ≤ t := by omega
    have d1 : decide ((ps.length : Int) ≤ t) = true := decide_eq_true h1
    have h0' : 0 ≤ t := by omega
    clear ht h0
    go_enter Try.func7, Try.ntmps7
    go_wp2_with fail
    go_ret
    exact ⟨rfl, by first | exact Drawn.refl _ | exact (Drawn.refl _).step _⟩
set_option maxHeartbeats 1000000 in
theorem rpin_no (h : Rf w F g now ps l ap cp al cl aw cw) (i : Nat) (hi : i < ps.length) (hz : 0 ≤ ps.getD i 0) :
    Calls Try.prog 7 #[.pointer (some ⟨g, 0, none⟩), .int .i64 i] w fun e w' => e = .returned (.bool false) ∧ Drawn w w' := by
  obtain ⟨gp, rfl, hc, hf, _⟩ := h.pinCell i hi
  have c1 : w.cell? ⟨g, 1, none⟩ = some (.slice (some ⟨gp, 0, none⟩) ps.length cp) := h.row.cell 1
  have hi0 : (0 : Int) ≤ (i : Int) := by omega
  have hi1 : (i : Int) < (ps.length : Int) := by omega
  have d0 : decide ((i : Int) < 0) = false := decide_eq_false (by omega)
  have d1 : decide ((ps.length : Int) ≤ (i : Int)) = false := decide_eq_false (by omega)
  generalize ps.getD i 0 = q at *
  have d2 : decide (0 ≤ q) = true := decide_eq_true hz
  go_enter Try.func7, Try.ntmps7
  go_wp2_with fail
  go_ret
  exact ⟨rfl, by first | exact Drawn.refl _ | exact (Drawn.refl _).step _⟩
set_option maxHeartbeats 1000000 in
theorem rpin_yes (h : Rf w F g now ps l ap cp al cl aw cw) (i : Nat) (hi : i < ps.length) (hz : ps.getD i 0 < 0) :
    Calls Try.prog 7 #[.pointer (some ⟨g, 0, none⟩), .int .i64 i] w fun e w' => e = .returned (.bool true) ∧ Rf w' F g now (ps.set i now) l ap cp al cl aw cw ∧ Ext F w w' := by
  obtain ⟨gp, rfl, hc, hf, _⟩ := h.pinCell i hi
  have c0 : w.cell? ⟨g, 0, none⟩ = some (.int .i64 now) := h.row.cell 0
  have c1 : w.cell? ⟨g, 1, none⟩ = some (.slice (some ⟨gp, 0, none⟩) ps.length cp) := h.row.cell 1
  have hi0 : (0 : Int) ≤ (i : Int) := by omega
  have hi1 : (i : Int) < (ps.length : Int) := by omega
  have d0 : decide ((i : Int) < 0) = false := decide_eq_false (by omega)
  have d1 : decide ((ps.length : Int) ≤ (i : Int)) = false := decide_eq_false (by omega)
  generalize ps.getD i 0 = q at *
  have d2 : decide (0 ≤ q) = false := decide_eq_false (by omega)
  have hs := h.setp i now
  have hs := Lib.hid hs
  go_enter Try.func7, Try.ntmps7
  go_wp2_with fail
  go_region
  all_goals
    go_wp2
    go_ret
    exact ⟨rfl, by first | exact hs.out.1 | exact hs.out.1.drawn (Drawn.refl _).step1, by first | exact hs.out.2 | exact hs.out.2.drew⟩
set_option maxHeartbeats 1000000 in
theorem runpin_out (h : Rf w F g now ps l ap cp al cl aw cw) (t : Int) (ht : t < 0 ∨ (ps.length : Int) ≤ t) :
    Calls Try.prog 9 #[.pointer (some ⟨g, 0, none⟩), .int .i64 t] w fun e w' => e = .returned (.bool false) ∧ Drawn w w' := by
  have c1 : w.cell? ⟨g, 1, none⟩ = some (.slice ap ps.length cp) := h.row.cell 1
  by_cases h0 : t < 0
  · have d0 : decide (t < 0) = true := decide_eq_true h0
    go_enter Try.func9, Try.ntmps9
    go_wp2_with fail
    go_ret
    exact ⟨rfl, by first | exact Drawn.refl _ | exact (Drawn.refl _).step _⟩
  · have d0 : decide (t < 0) = false := decide_eq_false h0
    have h1 : (ps.length : Int) ≤ t := by omega
    have d1 : decide ((ps.length : Int) ≤ t) = true := decide_eq_true h1
    have h0' : 0 ≤ t := by omega
    clear ht h0
    go_enter Try.func9, Try.ntmps9
    go_wp2_with fail
    go_ret
    exact ⟨rfl, by first | exact Drawn.refl _ | exact (Drawn.refl _).step _⟩
set_option maxHeartbeats 1000000 in
theorem runpin_no (h : Rf w F g now ps l ap cp al cl aw cw) (i : Nat) (hi : i < ps.length) (hz : ps.getD i 0 < 0) :
    Calls Try.prog 9 #[.pointer (some ⟨g, 0, none⟩), .int .i64 i] w fun e w' => e = .returned (.bool false) ∧ Drawn w w' := by
  obtain ⟨gp, rfl, hc, hf, _⟩ := h.pinCell i hi
  have c1 : w.cell? ⟨g, 1, none⟩ = some (.slice (some ⟨gp, 0, none⟩) ps.length cp) := h.row.cell 1
  have hi0 : (0 : Int) ≤ (i : Int) := by omega
  have hi1 : (i : Int) < (ps.length : Int) := by omega
  have d0 : decide ((i : Int) < 0) = false := decide_eq_false (by omega)
  have d1 : decide ((ps.length : Int) ≤ (i : Int)) = false := decide_eq_false (by omega)
  generalize ps.getD i 0 = q at *
  have d2 : decide (q < 0) = true := decide_eq_true hz
  go_enter Try.func9, Try.ntmps9
  go_wp2_with fail
  go_ret
  exact ⟨rfl, by first | exact Drawn.refl _ | exact (Drawn.refl _).step _⟩
set_option maxHeartbeats 1000000 in
theorem runpin_yes (h : Rf w F g now ps l ap cp al cl aw cw) (i : Nat) (hi : i < ps.length) (hz : 0 ≤ ps.getD i 0) :
    Calls Try.prog 9 #[.pointer (some ⟨g, 0, none⟩), .int .i64 i] w fun e w' => e = .returned (.bool true) ∧ Rf w' F g now (ps.set i (-1)) l ap cp al cl aw cw ∧ Ext F w w' := by
  obtain ⟨gp, rfl, hc, hf, _⟩ := h.pinCell i hi
  have c1 : w.cell? ⟨g, 1, none⟩ = some (.slice (some ⟨gp, 0, none⟩) ps.length cp) := h.row.cell 1
  have hi0 : (0 : Int) ≤ (i : Int) := by omega
  have hi1 : (i : Int) < (ps.length : Int) := by omega
  have d0 : decide ((i : Int) < 0) = false := decide_eq_false (by omega)
  have d1 : decide ((ps.length : Int) ≤ (i : Int)) = false := decide_eq_false (by omega)
  generalize ps.getD i 0 = q at *
  have d2 : decide (q < 0) = false := decide_eq_false (by omega)
  have hs := h.setp i (-1)
  have hs := Lib.hid hs
  go_enter Try.func9, Try.ntmps9
  go_wp2_with fail
  go_ret
  exact ⟨rfl, by first | exact hs.out.1 | exact hs.out.1.drawn (Drawn.refl _).step1, by first | exact hs.out.2 | exact hs.out.2.drew⟩
end
set_option maxHeartbeats 1000000 in
/-- SameInts of what is owned. -/
theorem sameInts_ {w : World} {v u : Value} {xs ys : List Int} (hv : w.ownsRow 0 3 1 v xs.length (ints xs)) (hu : w.ownsRow 0 3 1 u ys.length (ints ys)) (hx : xs.length ≤ 100000) (hy : ys.length ≤ 100000) (b : Bool) (hb : decide (xs = ys) = b) :
    Calls Try.prog 14 #[v, u] w fun e w' => e = .returned (.bool b) ∧ Drawn w w' := by
  obtain ⟨av, cv, rfl⟩ := own_form hv
  obtain ⟨au, cu, rfl⟩ := own_form hu
  by_cases hl : xs.length = ys.length
  · have hlb : decide (xs.length = ys.length) = true := decide_eq_true hl
    go_enter Try.func14, Try.ntmps14
    go_wp2_with fail
    go_loopw [5] (fun i wr => ∃ k : Nat, k ≤ xs.length ∧ i = .int .i64 k ∧ Hid (xs.take k = ys.take k) ∧ Hid (Drawn w wr)) (fun i _ => xs.length - (intOf i).toNat)
    case atStart => exact ⟨0, Nat.zero_le _, rfl, rfl, Drawn.refl _⟩
    case round =>
      obtain ⟨k, hk, rfl, HT, HD⟩ := hrel
      by_cases hlt : k < xs.length
      · obtain ⟨bv, ev⟩ := own_addr hv (by omega)
        obtain ⟨bu, eu⟩ := own_addr hu (by omega)
        cases ev
        cases eu
        have hlt2 : k < ys.length := by omega
        have d1 := own_cell (own_ext hv (HD.out.ext (fun _ => False)) (fun _ _ x => x)) k (.int .i64 (xs.getD k 0)) (by simp [ints, List.getD_eq_getElem?_getD, hlt])
        have d2 := own_cell (own_ext hu (HD.out.ext (fun _ => False)) (fun _ _ x => x)) k (.int .i64 (ys.getD k 0)) (by simp [ints, List.getD_eq_getElem?_getD, hlt2])
        have hne : Hid (xs.getD k 0 ≠ ys.getD k 0 → xs ≠ ys) := fun h e => h (by rw [e])
        have heq : Hid (xs.getD k 0 = ys.getD k 0 → xs.take (k + 1) = ys.take (k + 1)) := fun h => by
          rw [← List.take_append_getElem hlt, ← List.take_append_getElem hlt2, HT.out]
          simp only [List.getD_eq_getElem?_getD, List.getElem?_eq_getElem hlt, List.getElem?_eq_getElem hlt2, Option.getD_some] at h
          rw [h]
        generalize xs.getD k 0 = p at *
        generalize ys.getD k 0 = q at *
        have k0 : (0 : Int) ≤ (k : Int) := by omega
        have k1 : (k : Int) < (xs.length : Int) := by omega
        have k2 : (k : Int) < (ys.length : Int) := by omega
        have hl := Lib.hid hl
        have hb := Lib.hid hb
        clear hv hu hlb
        by_cases hpq : p = q
        · have hpb : (p != q) = false := by simp [hpq]
          have hpq := Lib.hid hpq
          go_wp2_with fail
          go_quiet (fail)
          go_wp2_with fail
          go_roundw
          case rel => exact ⟨k + 1, by omega, by go_num, heq.out hpq.out, HD.out.step _⟩
          case measure => simp [intOf]; omega
        · have hpb : (p != q) = true := by simp [hpq]
          have hpq := Lib.hid hpq
          go_wp2_with fail
          go_quiet (fail)
          go_wp2_with fail
          go_ret
          exact ⟨by rw [← hb.out, decide_eq_false (hne.out hpq.out)]; rfl, HD.out.step _⟩
      · have hke : xs = ys := by
          have := HT.out
          rwa [List.take_of_length_le (by omega), List.take_of_length_le (by omega)] at this
        have hb : Hid (b = true) := by rw [← hb]; exact decide_eq_true hke
        have hk1 : (xs.length : Int) ≤ (k : Int) := by omega
        clear hke hl hlb hv hu HT
        go_wp2_with fail
        go_ret
        exact ⟨by rw [hb.out]; rfl, HD.out⟩
  · have hlb : (((xs.length : Nat) : Int) != ((ys.length : Nat) : Int)) = true := by rw [bne_iff_ne]; omega
    have hb : Hid (b = false) := by rw [← hb]; exact decide_eq_false (fun e => hl (by rw [e]))
    clear hv hu
    go_enter Try.func14, Try.ntmps14
    go_wp2_with fail
    go_ret
    exact ⟨by rw [hb.out]; rfl, Drawn.refl _⟩
end Go.Proofs.Ytibpmhfompoepaa
