/- What a sign asks. -/
import Derived.Test.YtbcpbndhkainnaaEsUtf
import Derived.WalkSpells
namespace Go.Proofs.Ytbcpbndhkainnaa
open Go.RowKit
set_option linter.unusedSimpArgs false
set_option linter.unusedVariables false
set_option maxHeartbeats 1000000 in
theorem sign_ (w : World) (s : Es) (r : Int) (a : Option Addr) (c : Nat) (hp : Ints w (.slice a s.par.length c) s.par) (hr : 0 ≤ r) (hr2 : r ≤ 1114111) :
    Calls Try.prog 33 #[esV s (.slice a s.par.length c), .int .i32 r] w fun e w' => REA w' e (msign s r) ∧ New w w' := by
  have go_ : ∀ m w', New w w' → (REA w' (.returned (.tuple #[esV (s.go m) (.slice none 0 0), .slice none 0 0])) (s.go m, []) ∧ New w w') := fun m w' x => ⟨REA.go w' s m, x⟩
  have same_ : ∀ w', New w w' → (REA w' (.returned (.tuple #[esV s (.slice a s.par.length c), .slice none 0 0])) (s, []) ∧ New w w') := fun w' x => ⟨REA.same hp x, x⟩
  replace hp := Lib.hid hp
  by_cases h1 : r = 27
  · subst h1
    have e : msign s 27 = (s.go 1, []) := by simp [msign]
    rw [e]; clear e
    go_enter Try.func33, Try.ntmps33
    go_wp2_with (go_at_call 27; refine (to_ _ s _ a _ c).mono ?_; rintro e w' ⟨rfl, x⟩; have r0 := Row.ext (b := w.heap.size) (by with_reducible repeat' (first | exact row_made _ _ _ | apply row_drew | apply row_alloc)) x (fun h => h); have r1 := Row.ext (b := w.heap.size + 1) (by with_reducible repeat' (first | exact row_made1 _ _ _ _ | apply row_drew | apply row_alloc)) x (fun h => h); have e0 := r0.cell; have e1 := r1.cell; have f0 := r0.frozen; have f1 := r1.frozen; have l0 := r0.lt; have l1 := r1.lt; replace x := Lib.hid (Ext.trans (by with_reducible repeat' (first | apply Ext.drew | apply Ext.alloc | exact Ext.refl _ _)) x); replace r0 := Lib.hid r0; replace r1 := Lib.hid r1)
    exact bodyPost_ret (v := .tuple #[esV (s.go 1) (.slice none 0 0), .slice none 0 0]) (by simp [results, Try.results33, go_sem, e1, l1]) rfl (go_ _ _ (by with_reducible repeat' (first | exact x.out | (refine Ext.setCell ?_ (Or.inr (by simp)) _) | apply Ext.alloc | apply Ext.drewN | apply Ext.drew | exact Ext.refl _ _)))
  · have g1 : (r == 27) = false := beq_eq_false_iff_ne.2 h1
    by_cases h2 : r < 32
    · have e : msign s r = (s, mcontrol r) := by simp [msign, h1, h2]
      rw [e]; clear e
      have d2 : decide (r < 32) = true := decide_eq_true h2
      have hr3 : r ≤ 255 := by omega
      have hw : IntKind.u8.wrap r = r := by rw [IntKind.wrap_u8]; omega
      clear h1
      go_enter Try.func33, Try.ntmps33
      go_wp2_with fail
      go_region_with (go_at_call 29; refine (control_ _ r hr hr3).mono ?_; rintro e w' ⟨⟨b2, d2, L, rfl, hL, hacs⟩, x⟩; have r0 := Row.ext (b := w.heap.size) (by with_reducible repeat' (first | exact row_made _ _ _ | apply row_drew | apply row_alloc)) x (fun h => h); have r1 := Row.ext (b := w.heap.size + 1) (by with_reducible repeat' (first | exact row_made1 _ _ _ _ | apply row_drew | apply row_alloc)) x (fun h => h); have e0 := r0.cell; have e1 := r1.cell; have f0 := r0.frozen; have f1 := r1.frozen; have l0 := r0.lt; have l1 := r1.lt; replace x := Lib.hid (Ext.trans (by with_reducible repeat' (first | apply Ext.drew | apply Ext.alloc | exact Ext.refl _ _)) x); replace r0 := Lib.hid r0; replace r1 := Lib.hid r1; replace hL := Lib.hid hL; replace hacs := Lib.hid hacs)
      all_goals
        go_wp2_with fail
        exact bodyPost_ret (v := .tuple #[esV s (.slice a s.par.length c), .slice b2 L.length d2]) (by simp [results, Try.results33, go_sem, e1, l1]) rfl ⟨⟨a, c, b2, d2, L, rfl, hp.out.new (by with_reducible repeat' (first | exact x.out | (refine Ext.setCell ?_ (Or.inr (by simp)) _) | apply Ext.alloc | apply Ext.drewN | apply Ext.drew | exact Ext.refl _ _)), hL.out.keep r1.out (by decide) (by decide) (by with_reducible repeat' (first | (refine Ext.setCell ?_ (Or.inl (by simp)) _) | exact Ext.refl _ _)), hacs.out⟩, (by with_reducible repeat' (first | exact x.out | (refine Ext.setCell ?_ (Or.inr (by simp)) _) | apply Ext.alloc | apply Ext.drewN | apply Ext.drew | exact Ext.refl _ _))⟩
    · have d2 : decide (r < 32) = false := decide_eq_false h2
      by_cases h3 : 127 ≤ r
      · have d3 : decide (127 ≤ r) = true := decide_eq_true h3
        by_cases h4 : r ≤ 159
        · have d4 : decide (r ≤ 159) = true := decide_eq_true h4
          have e : msign s r = (s, []) := by simp [msign, h1, h2, h3, h4]
          rw [e]; clear e h1 h2 h3 h4
          go_enter Try.func33, Try.ntmps33
          go_wp2_with fail
          exact bodyPost_ret (v := .tuple #[esV s (.slice a s.par.length c), .slice none 0 0]) (by simp [results, Try.results33, go_sem]) rfl (same_ _ (by with_reducible repeat' (first | (refine Ext.setCell ?_ (Or.inr (by simp)) _) | apply Ext.alloc | apply Ext.drewN | apply Ext.drew | exact Ext.refl _ _)))
        · have d4 : decide (r ≤ 159) = false := decide_eq_false h4
          have e : msign s r = (s, [⟨1, r, []⟩]) := by simp [msign, h1, h2, h3, h4]
          rw [e]; clear e h1 h2 h3 h4
          go_enter Try.func33, Try.ntmps33
          go_wp2_with fail
          exact bodyPost_ret (v := .tuple #[esV s (.slice a s.par.length c), .slice (some ⟨w.heap.size + 2, 0, none⟩) 1 1]) (by simp [results, Try.results33, go_sem]) rfl ⟨⟨a, c, some ⟨w.heap.size + 2, 0, none⟩, 1, [(⟨1, r, []⟩, .slice none 0 0)], rfl, hp.out.new (by with_reducible repeat' (first | (refine Ext.setCell ?_ (Or.inr (by simp)) _) | apply Ext.alloc | apply Ext.drewN | apply Ext.drew | exact Ext.refl _ _)), Acts.lit_at 1 r [] _ (by simp) (Ints.nil _), rfl⟩, (by with_reducible repeat' (first | (refine Ext.setCell ?_ (Or.inr (by simp)) _) | apply Ext.alloc | apply Ext.drewN | apply Ext.drew | exact Ext.refl _ _))⟩
      · have d3 : decide (127 ≤ r) = false := decide_eq_false h3
        have e : msign s r = (s, [⟨1, r, []⟩]) := by simp [msign, h1, h2, h3]
        rw [e]; clear e h1 h2 h3
        go_enter Try.func33, Try.ntmps33
        go_wp2_with fail
        exact bodyPost_ret (v := .tuple #[esV s (.slice a s.par.length c), .slice (some ⟨w.heap.size + 2, 0, none⟩) 1 1]) (by simp [results, Try.results33, go_sem]) rfl ⟨⟨a, c, some ⟨w.heap.size + 2, 0, none⟩, 1, [(⟨1, r, []⟩, .slice none 0 0)], rfl, hp.out.new (by with_reducible repeat' (first | (refine Ext.setCell ?_ (Or.inr (by simp)) _) | apply Ext.alloc | apply Ext.drewN | apply Ext.drew | exact Ext.refl _ _)), Acts.lit_at 1 r [] _ (by simp) (Ints.nil _), rfl⟩, (by with_reducible repeat' (first | (refine Ext.setCell ?_ (Or.inr (by simp)) _) | apply Ext.alloc | apply Ext.drewN | apply Ext.drew | exact Ext.refl _ _))⟩
end Go.Proofs.Ytbcpbndhkainnaa
