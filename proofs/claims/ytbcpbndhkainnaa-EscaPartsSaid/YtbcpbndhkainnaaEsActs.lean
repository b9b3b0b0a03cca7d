/- The reference's comparison of actions, and of escapes. -/
import Derived.Test.YtbcpbndhkainnaaEsSame
namespace Go.Proofs.Ytbcpbndhkainnaa
open Go.RowKit
set_option linter.unusedSimpArgs false
set_option linter.unusedVariables false
theorem acs_len (L : List (Ac × Value)) : (acs L).length = L.length := by simp [acs]
theorem acts_cell {w : World} {g c : Nat} {L : List (Ac × Value)} (h : Acts w (.slice (some ⟨g, 0, none⟩) L.length c) L) (k : Nat) (p : Ac × Value) (hk : L[k]? = some p) :
    w.cell? ⟨g, k * 3, none⟩ = some (.int .i64 p.1.k) ∧ w.cell? ⟨g, k * 3 + 1, none⟩ = some (.int .i32 p.1.r) ∧ w.cell? ⟨g, k * 3 + 2, none⟩ = some p.2 := by
  obtain ⟨a1, a2, a3⟩ := acVs_at L k p hk
  exact ⟨own_cell h.own _ _ a1, own_cell h.own _ _ a2, own_cell h.own _ _ a3⟩
theorem sameInts_r (w : World) (r : Bool) (xs ys : List Int) (a b : Option Addr) (c d : Nat) (h1 : Ints w (.slice a xs.length c) xs) (h2 : Ints w (.slice b ys.length d) ys) (hl : xs.length ≤ 1000) (hl2 : ys.length ≤ 1000) (hr : decide (xs = ys) = r) :
    Calls Try.prog 19 #[.slice a xs.length c, .slice b ys.length d] w fun e w' => SB w w' e r := by
  subst hr; exact sameInts_ w xs ys a b c d h1 h2 hl hl2
/-- No action has many parameters. -/
def Short (L : List (Ac × Value)) : Prop := ∀ x ∈ L, x.1.par.length ≤ 1000
set_option maxHeartbeats 4000000 in
theorem sameActions_ (w : World) (L M : List (Ac × Value)) (a b : Option Addr) (c d : Nat) (h1 : Acts w (.slice a L.length c) L) (h2 : Acts w (.slice b M.length d) M) (hL : L.length ≤ 1000000) (s1 : Short L) (s2 : Short M) :
    Calls Try.prog 12 #[.slice a L.length c, .slice b M.length d] w fun e w' => SB w w' e (decide (acs L = acs M)) := by
  replace h1 := Lib.hid h1
  replace h2 := Lib.hid h2
  replace s1 := Lib.hid s1
  replace s2 := Lib.hid s2
  by_cases hn : L.length = M.length
  · have g1 : (L.length != M.length) = false := by simp [hn]
    have g2 : ((L.length : Int) != (M.length : Int)) = false := by simp [hn]
    have g3 : decide (L.length = M.length) = true := decide_eq_true hn
    replace hn := Lib.hid hn
    go_enter Try.func12, Try.ntmps12
    go_wp2_with fail
    go_loopw [5] (fun i wr => ∃ k : Nat, k ≤ L.length ∧ i = .int .i64 k ∧ Hid ((acs L).take k = (acs M).take k) ∧ Hid (Drawn w wr)) (fun i _ => L.length - (intOf i).toNat)
    case atStart => exact ⟨0, Nat.zero_le _, rfl, rfl, Drawn.refl _⟩
    case round =>
      obtain ⟨k, hk, rfl, ht, hw⟩ := hrel
      by_cases hlt : k < L.length
      · have hlt2 : k < M.length := by rw [← hn.out]; exact hlt
        obtain ⟨g, hg0⟩ := own_addr h1.out.own (by omega)
        obtain ⟨f, hf0⟩ := own_addr h2.out.own (by omega)
        subst hg0 hf0
        have e1 : (acs L).take (k + 1) = (acs L).take k ++ [L[k].1] := by rw [List.take_succ_eq_append_getElem (by rw [acs_len]; exact hlt)]; simp [acs]
        have e2 : (acs M).take (k + 1) = (acs M).take k ++ [M[k].1] := by rw [List.take_succ_eq_append_getElem (by rw [acs_len]; exact hlt2)]; simp [acs]
        have e3 : L[k].1 ≠ M[k].1 → acs L ≠ acs M := fun h e => by
          have : (acs L)[k]? = (acs M)[k]? := by rw [e]
          simp [acs, hlt, hlt2] at this
          exact h this
        have m1 : L[k] ∈ L := List.getElem_mem hlt
        have m2 : M[k] ∈ M := List.getElem_mem hlt2
        obtain ⟨c1, c2, c3⟩ := acts_cell (h1.out.new (hw.out.ext _)) k L[k] (by simp [hlt])
        obtain ⟨c4, c5, c6⟩ := acts_cell (h2.out.new (hw.out.ext _)) k M[k] (by simp [hlt2])
        have hx := h1.out.par _ m1
        have hy := h2.out.par _ m2
        have hl1 := s1.out _ m1
        have hl2 := s2.out _ m2
        generalize L[k] = p at e1 e3 c1 c2 c3 hx hl1
        generalize M[k] = q at e2 e3 c4 c5 c6 hy hl2
        clear m1 m2
        obtain ⟨x, xv⟩ := p
        obtain ⟨y, yv⟩ := q
        simp only at c1 c2 c3 c4 c5 c6 hx hy hl1 hl2 e1 e2 e3
        obtain ⟨xa, xc, rfl⟩ := Ints.form hx
        obtain ⟨ya, yc, rfl⟩ := Ints.form hy
        replace e1 := Lib.hid e1
        replace e2 := Lib.hid e2
        replace e3 := Lib.hid e3
        replace hx := Lib.hid hx
        replace hy := Lib.hid hy
        have b1 : (0 : Int) ≤ (k : Int) := by omega
        have b2 : (k : Int) < (L.length : Int) := by omega
        have b3 : (k : Int) < (M.length : Int) := by omega
        by_cases q1 : x.k = y.k
        · by_cases q2 : x.r = y.r
          · by_cases q3 : x.par = y.par
            · have hxy : x = y := by cases x; cases y; simp_all
              replace hxy := Lib.hid hxy
              have g4 : (x.k != y.k) = false := by simp [q1]
              have d4 : decide (x.k = y.k) = true := by simp [q1]
              have g5 : (x.r != y.r) = false := by simp [q2]
              have d5 : decide (x.r = y.r) = true := by simp [q2]
              have hpar := Lib.hid (decide_eq_true q3)
              clear q1 q2 q3
              go_wp2_with fail
              go_quiet ((go_at_call 19; refine Calls.quiet_of (sameInts_r _ true x.par y.par xa ya xc yc ?_ ?_ hl1 hl2 hpar.out) <;> first | exact hx.out.new ((Drawn.ext hw.out _).drewN _) | exact hy.out.new ((Drawn.ext hw.out _).drewN _)))
              go_wp2_with fail
              go_roundw
              case rel => exact ⟨k + 1, by omega, by go_num, by rw [Hid, e1.out, e2.out, ht.out, hxy.out], Lib.hid (by first | exact hw.out.step _ | exact hw.out.step1)⟩
              case measure => simp [intOf]; omega
            · have hne := Lib.hid (e3.out (fun e => q3 (by rw [e])))
              have g4 : (x.k != y.k) = false := by simp [q1]
              have d4 : decide (x.k = y.k) = true := by simp [q1]
              have g5 : (x.r != y.r) = false := by simp [q2]
              have d5 : decide (x.r = y.r) = true := by simp [q2]
              have hpar := Lib.hid (decide_eq_false q3)
              clear q1 q2 q3
              go_wp2_with fail
              go_quiet ((go_at_call 19; refine Calls.quiet_of (sameInts_r _ false x.par y.par xa ya xc yc ?_ ?_ hl1 hl2 hpar.out) <;> first | exact hx.out.new ((Drawn.ext hw.out _).drewN _) | exact hy.out.new ((Drawn.ext hw.out _).drewN _)))
              go_wp2_with fail
              go_ret
              exact ⟨by rw [decide_eq_false hne.out]; rfl, by first | exact hw.out.step _ | exact hw.out.step1⟩
          · have hne := Lib.hid (e3.out (fun e => q2 (by rw [e])))
            have g4 : (x.k != y.k) = false := by simp [q1]
            have d4 : decide (x.k = y.k) = true := by simp [q1]
            have g5 : (x.r != y.r) = true := by simp [q2]
            have d5 : decide (x.r = y.r) = false := by simp [q2]
            clear q1 q2
            go_wp2_with fail
            go_quiet (fail)
            go_wp2_with fail
            go_ret
            exact ⟨by rw [decide_eq_false hne.out]; rfl, by first | exact hw.out.step _ | exact hw.out.step1⟩
        · have hne := Lib.hid (e3.out (fun e => q1 (by rw [e])))
          have g4 : (x.k != y.k) = true := by simp [q1]
          have d4 : decide (x.k = y.k) = false := by simp [q1]
          clear q1
          go_wp2_with fail
          go_quiet (fail)
          go_wp2_with fail
          go_ret
          exact ⟨by rw [decide_eq_false hne.out]; rfl, by first | exact hw.out.step _ | exact hw.out.step1⟩
      · have hke : k = L.length := by omega
        subst hke
        have heq : acs L = acs M := by
          have := ht.out
          rw [← acs_len L, List.take_length, acs_len, hn.out, ← acs_len M, List.take_length] at this
          exact this
        replace heq := Lib.hid heq
        go_wp2_with fail
        go_ret
        exact ⟨by rw [decide_eq_true heq.out]; rfl, hw.out⟩
  · have g1 : (L.length != M.length) = true := by simp [hn]
    have g2 : ((L.length : Int) != (M.length : Int)) = true := by simp; omega
    have g3 : decide (L.length = M.length) = false := decide_eq_false hn
    have hne : acs L ≠ acs M := fun e => hn (by rw [← acs_len L, e, acs_len])
    replace hne := Lib.hid hne
    clear hn
    go_enter Try.func12, Try.ntmps12
    go_wp2_with fail
    go_ret
    exact ⟨by rw [decide_eq_false hne.out]; rfl, Drawn.refl _⟩
end Go.Proofs.Ytbcpbndhkainnaa
