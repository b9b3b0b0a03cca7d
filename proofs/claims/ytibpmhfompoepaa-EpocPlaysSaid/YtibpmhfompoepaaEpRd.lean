/- The methods of epoc.Epochs that only read. -/
import Derived.Test.YtibpmhfompoepaaEpSt
namespace Go.Proofs.Ytibpmhfompoepaa
open Go.RowKit
set_option linter.unusedSimpArgs false
set_option linter.unusedVariables false
section
variable {w : World} {F : Nat → Prop} {g : Nat} {now : Int} {pins : List Int} {l : List (Int × Int)} {ap : Option Addr} {cp : Nat} {al : Option Addr} {cl : Nat}

theorem Ep.drawn {w' : World} (h : Ep w F g now pins l ap cp al cl) (x : Drawn w w') : Ep w' F g now pins l ap cp al cl := h.ext (x.ext (fun _ => False)) (fun _ _ h => h)

/-- Is t a thread? -/
def inP (pins : List Int) (t : Int) : Bool := decide (0 ≤ t) && decide (t < (pins.length : Int))
set_option maxHeartbeats 400000 in
theorem has_ (h : Ep w F g now pins l ap cp al cl) (t : Int) (b : Bool) (hb : inP pins t = b) : Calls Try.prog 19 #[.pointer (some ⟨g, 0, none⟩), .int .i64 t] w fun e w' => e = .returned (.bool b) ∧ w = w' := by
  have c1 : w.cell? ⟨g, 1, none⟩ = some (.slice ap pins.length cp) := h.row.cell 1
  subst hb
  by_cases h0 : 0 ≤ t
  · have hb : decide (0 ≤ t) = true := decide_eq_true h0
    have he : inP pins t = decide (t < (pins.length : Int)) := by simp [inP, h0]
    have He := Lib.hid he; clear he
    go_enter Try.func19, Try.ntmps19
    go_wp2
    go_ret
    exact ⟨by rw [He.out]; rfl, rfl⟩
  · have hb : decide (0 ≤ t) = false := decide_eq_false h0
    have he : inP pins t = false := by simp [inP, h0]
    have He := Lib.hid he; clear he
    go_enter Try.func19, Try.ntmps19
    go_wp2
    go_ret
    exact ⟨by rw [He.out]; rfl, rfl⟩

theorem now_ (h : Ep w F g now pins l ap cp al cl) : Calls Try.prog 16 #[.pointer (some ⟨g, 0, none⟩)] w fun e w' => e = .returned (.int .i64 now) ∧ w = w' := by
  have c0 : w.cell? ⟨g, 0, none⟩ = some (.int .i64 now) := h.row.cell 0
  go_enter Try.func16, Try.ntmps16
  go_wp2
  go_ret
  exact ⟨rfl, rfl⟩

/-- At which epoch a thread is pinned. -/
def pinnedAt (pins : List Int) (t : Int) : Int × Bool := if inP pins t = true ∧ pins.getD t.toNat 0 ≠ 0 then (pins.getD t.toNat 0 - 1, true) else (0, false)
theorem Ep.pinCell (h : Ep w F g now pins l ap cp al cl) (i : Nat) (hi : i < pins.length) : ∃ gp, ap = some ⟨gp, 0, none⟩ ∧ w.cell? ⟨gp, i, none⟩ = some (.int .i64 (pins.getD i 0)) ∧ w.frozen? ⟨gp, i, none⟩ = false ∧ F gp := by
  obtain ⟨gp, rfl⟩ := own_addr h.pin (by omega)
  exact ⟨gp, rfl, own_cell h.pin i _ (by simp [ints, List.getD_eq_getElem?_getD, hi]), own_frozen h.pin i, h.fp gp rfl⟩
set_option maxHeartbeats 1000000 in
theorem pinned_ (h : Ep w F g now pins l ap cp al cl) (hp : ∀ x ∈ pins, 0 ≤ x ∧ x ≤ 1000) (t : Int) (p : Int) (b : Bool) (hpb : pinnedAt pins t = (p, b)) :
    Calls Try.prog 15 #[.pointer (some ⟨g, 0, none⟩), .int .i64 t] w fun e w' => e = .returned (.tuple #[.int .i64 p, .bool b]) ∧ w = w' := by
  by_cases hin : inP pins t = true
  · obtain ⟨i, rfl⟩ := Int.eq_ofNat_of_zero_le (show 0 ≤ t by simp [inP] at hin; omega)
    have hi : i < pins.length := by simp [inP] at hin; omega
    obtain ⟨gp, rfl, hc, hf, _⟩ := h.pinCell i hi
    have c1 : w.cell? ⟨g, 1, none⟩ = some (.slice (some ⟨gp, 0, none⟩) pins.length cp) := h.row.cell 1
    have hb := hp (pins.getD i 0) (by simp [List.getD_eq_getElem?_getD, hi])
    have Hin := Lib.hid hin
    by_cases hz : pins.getD i 0 = 0
    · have he : pinnedAt pins (i : Int) = (0, false) := by unfold pinnedAt; rw [if_neg (by simp only [Int.toNat_natCast]; intro h; exact h.2 hz)]
      rw [he] at hpb
      obtain ⟨rfl, rfl⟩ := Prod.mk.inj hpb
      rw [hz] at hc
      clear hz hb hp he hin hpb
      go_enter Try.func15, Try.ntmps15
      go_wp2_with (go_at_call 19; refine (has_ h _ true Hin.out).mono ?_; rintro e w' ⟨rfl, rfl⟩)
      go_ret2
      exact ⟨rfl, rfl⟩
    · have he : pinnedAt pins (i : Int) = (pins.getD i 0 - 1, true) := by unfold pinnedAt; rw [if_pos ⟨hin, by simpa using hz⟩]; simp
      rw [he] at hpb
      obtain ⟨rfl, rfl⟩ := Prod.mk.inj hpb
      generalize pins.getD i 0 = q at *
      have hq : (q == 0) = false := beq_eq_false_iff_ne.2 hz
      obtain ⟨hq1, hq2⟩ := hb
      clear hz hp he hin hpb
      go_enter Try.func15, Try.ntmps15
      go_wp2_with (go_at_call 19; refine (has_ h _ true Hin.out).mono ?_; rintro e w' ⟨rfl, rfl⟩)
      go_ret2
      exact ⟨rfl, rfl⟩
  · have he : pinnedAt pins t = (0, false) := by unfold pinnedAt; rw [if_neg (fun h => hin h.1)]
    rw [he] at hpb
    obtain ⟨rfl, rfl⟩ := Prod.mk.inj hpb
    have Hin := Lib.hid (Bool.eq_false_iff.2 hin)
    clear hin hp he hpb
    go_enter Try.func15, Try.ntmps15
    go_wp2_with (go_at_call 19; refine (has_ h _ false Hin.out).mono ?_; rintro e w' ⟨rfl, rfl⟩)
    go_ret2
    exact ⟨rfl, rfl⟩

/-- Does a pin not bar the epoch? -/
def free1 (now x : Int) : Bool := !(decide (0 < x) && decide (x - 1 < now))
/-- May the epoch go on? -/
def can (now : Int) (pins : List Int) : Bool := pins.all (free1 now)
theorem can_snoc (now : Int) (pins : List Int) (k : Nat) (hk : k < pins.length) : can now (pins.take (k + 1)) = (can now (pins.take k) && free1 now (pins.getD k 0)) := by
  unfold can
  have e : pins.getD k 0 = pins[k] := by simp [List.getD_eq_getElem?_getD, hk]
  rw [e, ← List.take_append_getElem hk, List.all_append]
  simp
theorem can_no (now : Int) (pins : List Int) (k : Nat) (hk : k < pins.length) (h : free1 now (pins.getD k 0) = false) : can now pins = false := by
  rw [can, List.all_eq_false]
  exact ⟨pins.getD k 0, by simp [List.getD_eq_getElem?_getD, hk], by rw [h]; simp⟩
set_option maxHeartbeats 1000000 in
theorem can_ (h : Ep w F g now pins l ap cp al cl) (hp : ∀ x ∈ pins, 0 ≤ x ∧ x ≤ 1000) (hl : pins.length ≤ 1000) :
    Calls Try.prog 20 #[.pointer (some ⟨g, 0, none⟩)] w fun e w' => e = .returned (.bool (can now pins)) ∧ Drawn w w' := by
  have c0 : w.cell? ⟨g, 0, none⟩ = some (.int .i64 now) := h.row.cell 0
  have c1 : w.cell? ⟨g, 1, none⟩ = some (.slice ap pins.length cp) := h.row.cell 1
  go_enter Try.func20, Try.ntmps20
  go_wp2
  go_loop [10] (fun i => ∃ k : Nat, k ≤ pins.length ∧ i = .int .i64 k ∧ Hid (can now (pins.take k) = true)) (fun i => pins.length - (intOf i).toNat)
  case atStart => exact ⟨0, Nat.zero_le _, rfl, by simp [Hid, can]⟩
  case round =>
    obtain ⟨k, hk, rfl, HC⟩ := hrel
    by_cases hlt : k < pins.length
    · obtain ⟨gp, ea, hc, hf, _⟩ := h.pinCell k hlt
      cases ea
      have hb := hp (pins.getD k 0) (by simp [List.getD_eq_getElem?_getD, hlt])
      have hsn := Lib.hid (can_snoc now pins k hlt)
      have hno := Lib.hid (can_no now pins k hlt)
      generalize pins.getD k 0 = q at *
      obtain ⟨hq1, hq2⟩ := hb
      clear hp
      by_cases h1 : 0 < q
      · have hd1 : decide (0 < q) = true := decide_eq_true h1
        by_cases h2 : q - 1 < now
        · have hd2 : decide (q - 1 < now) = true := decide_eq_true h2
          go_wp2
          go_ret
          exact ⟨by rw [hno.out (by simp [free1, h1, h2])]; rfl, Drawn.refl _⟩
        · have hd2 : decide (q - 1 < now) = false := decide_eq_false h2
          have h3 : now ≤ q - 1 := by omega
          have hfr : Hid (free1 now q = true) := by simp [Hid, free1, h1, h2]
          clear h2
          go_wp2
          go_round
          case rel => exact ⟨k + 1, by omega, by go_num, by rw [Hid, hsn.out, HC.out, hfr.out]; rfl⟩
          case measure => simp [intOf]; omega
      · have hd1 : decide (0 < q) = false := decide_eq_false h1
        have hfr : Hid (free1 now q = true) := by simp [Hid, free1, h1]
        have hq0 : q ≤ 0 := by omega
        clear h1
        go_wp2
        go_round
        case rel => exact ⟨k + 1, by omega, by go_num, by rw [Hid, hsn.out, HC.out, hfr.out]; rfl⟩
        case measure => simp [intOf]; omega
    · have hke : k = pins.length := by omega
      have hfin : Hid (can now pins = true) := by have := HC.out; rw [hke, List.take_length] at this; exact this
      clear hke HC
      go_wp2
      go_ret
      exact ⟨by rw [hfin.out]; rfl, Drawn.refl _⟩
end
end Go.Proofs.Ytibpmhfompoepaa
