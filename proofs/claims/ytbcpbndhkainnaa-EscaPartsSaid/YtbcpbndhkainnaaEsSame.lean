/- The reference's comparisons. -/
import Derived.Test.YtbcpbndhkainnaaEsFeed
namespace Go.Proofs.Ytbcpbndhkainnaa
open Go.RowKit
set_option linter.unusedSimpArgs false
set_option linter.unusedVariables false
def SB (w w' : World) (e : Ending) (r : Bool) : Prop := e = .returned (.bool r) ∧ Drawn w w'
set_option maxHeartbeats 2000000 in
theorem sameInts_ (w : World) (xs ys : List Int) (a b : Option Addr) (c d : Nat) (h1 : Ints w (.slice a xs.length c) xs) (h2 : Ints w (.slice b ys.length d) ys) (hl : xs.length ≤ 1000) (hl2 : ys.length ≤ 1000) :
    Calls Try.prog 19 #[.slice a xs.length c, .slice b ys.length d] w fun e w' => SB w w' e (decide (xs = ys)) := by
  replace h1 := Lib.hid h1
  replace h2 := Lib.hid h2
  by_cases hn : xs.length = ys.length
  · have g1 : (xs.length != ys.length) = false := by simp [hn]
    have g2 : ((xs.length : Int) != (ys.length : Int)) = false := by simp [hn]
    have g3 : decide (xs.length = ys.length) = true := decide_eq_true hn
    replace hn := Lib.hid hn
    go_enter Try.func19, Try.ntmps19
    go_wp2_with fail
    go_loopw [5] (fun i wr => ∃ k : Nat, k ≤ xs.length ∧ i = .int .i64 k ∧ Hid (xs.take k = ys.take k) ∧ Hid (Drawn w wr)) (fun i _ => xs.length - (intOf i).toNat)
    case atStart => exact ⟨0, Nat.zero_le _, rfl, rfl, Drawn.refl _⟩
    case round =>
      obtain ⟨k, hk, rfl, ht, hx⟩ := hrel
      by_cases hlt : k < xs.length
      · have hlt2 : k < ys.length := by rw [← hn.out]; exact hlt
        obtain ⟨g, hg0⟩ := own_addr (h1.out.new (hx.out.ext _)) (by omega)
        obtain ⟨f, hf0⟩ := own_addr (h2.out.new (hx.out.ext _)) (by omega)
        subst hg0 hf0
        have hc := own_cell (h1.out.new (hx.out.ext _)) k (.int .i64 xs[k]) (by simp [ints, hlt])
        have hd := own_cell (h2.out.new (hx.out.ext _)) k (.int .i64 ys[k]) (by simp [ints, hlt2])
        have e1 : xs.take (k + 1) = xs.take k ++ [xs[k]] := List.take_succ_eq_append_getElem hlt
        have e2 : ys.take (k + 1) = ys.take k ++ [ys[k]] := List.take_succ_eq_append_getElem hlt2
        have e3 : xs[k] ≠ ys[k] → xs ≠ ys := fun h e => by subst e; exact h rfl
        generalize xs[k] = p at hc e1 e3
        generalize ys[k] = q at hd e2 e3
        replace e1 := Lib.hid e1
        replace e2 := Lib.hid e2
        replace e3 := Lib.hid e3
        by_cases hpq : p = q
        · have g4 : (p != q) = false := by simp [hpq]
          have g5 : decide (p = q) = true := decide_eq_true hpq
          replace hpq := Lib.hid hpq
          have b1 : (0 : Int) ≤ (k : Int) := by omega
          have b2 : (k : Int) < (xs.length : Int) := by omega
          have b3 : (k : Int) < (ys.length : Int) := by omega
          go_wp2_with fail
          go_quiet (fail)
          go_wp2_with fail
          go_roundw
          case rel => exact ⟨k + 1, by omega, by go_num, by rw [Hid, e1.out, e2.out, ht.out, hpq.out], Lib.hid (by first | exact hx.out.step _ | exact hx.out.step1)⟩
          case measure => simp [intOf]; omega
        · have g4 : (p != q) = true := by simp [hpq]
          have g5 : decide (p = q) = false := decide_eq_false hpq
          have hne := Lib.hid (e3.out hpq)
          clear hpq
          have b1 : (0 : Int) ≤ (k : Int) := by omega
          have b2 : (k : Int) < (xs.length : Int) := by omega
          have b3 : (k : Int) < (ys.length : Int) := by omega
          go_wp2_with fail
          go_quiet (fail)
          go_wp2_with fail
          go_ret
          exact ⟨by rw [decide_eq_false hne.out]; rfl, by first | exact hx.out.step _ | exact hx.out.step1⟩
      · have hke : k = xs.length := by omega
        subst hke
        have heq : xs = ys := by
          have := ht.out
          rw [List.take_length, hn.out, List.take_length] at this
          exact this
        replace heq := Lib.hid heq
        go_wp2_with fail
        go_ret
        exact ⟨by rw [decide_eq_true heq.out]; rfl, hx.out⟩
  · have g1 : (xs.length != ys.length) = true := by simp [hn]
    have g2 : ((xs.length : Int) != (ys.length : Int)) = true := by simp; omega
    have g3 : decide (xs.length = ys.length) = false := decide_eq_false hn
    have hne : xs ≠ ys := fun e => hn (by rw [e])
    replace hne := Lib.hid hne
    clear hn
    go_enter Try.func19, Try.ntmps19
    go_wp2_with fail
    go_ret
    exact ⟨by rw [decide_eq_false hne.out]; rfl, Drawn.refl _⟩
end Go.Proofs.Ytbcpbndhkainnaa
