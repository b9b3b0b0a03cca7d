/- What feeding comes to, in plain words. -/
import Derived.Test.YtbcpbndhkainnaaEsAwake
import Derived.Outline
namespace Go.Proofs.Ytbcpbndhkainnaa
open Go.RowKit
set_option linter.unusedSimpArgs false
set_option linter.unusedVariables false

theorem mfeed_out (l : List Int) : ∀ (s : Es) (out : List Ac), mfeed l s out = ((mfeed l s []).1, out ++ (mfeed l s []).2) := by
  induction l with
  | nil => intro s out; simp [mfeed]
  | cons b l ih =>
    intro s out
    show mfeed l (mstep s b).1 (out ++ (mstep s b).2) = ((mfeed l (mstep s b).1 ([] ++ (mstep s b).2)).1, out ++ (mfeed l (mstep s b).1 ([] ++ (mstep s b).2)).2)
    rw [ih _ (out ++ _), ih _ ([] ++ _)]
    simp
theorem mfeed_append (l1 l2 : List Int) : ∀ (s : Es) (out : List Ac), mfeed (l1 ++ l2) s out = mfeed l2 (mfeed l1 s out).1 (mfeed l1 s out).2 := by
  induction l1 with
  | nil => intro s out; rfl
  | cons b l ih => intro s out; exact ih _ _
theorem wf_feed (l : List Int) (hl : ∀ x ∈ l, 0 ≤ x ∧ x ≤ 255) : ∀ (s : Es) (out : List Ac), Wf s → Wf (mfeed l s out).1 ∧ (mfeed l s out).2.length ≤ out.length + 2 * l.length := by
  induction l with
  | nil => intro s out h; exact ⟨h, by simp [mfeed]⟩
  | cons b l ih =>
    intro s out h
    have hb := hl b (by simp)
    obtain ⟨h1, h2⟩ := wf_step h b hb.1 hb.2
    obtain ⟨h3, h4⟩ := ih (fun x hx => hl x (by simp [hx])) (mstep s b).1 (out ++ (mstep s b).2) h1
    refine ⟨h3, ?_⟩
    simp only [mfeed, List.length_append, List.length_cons] at h4 ⊢
    omega
def SmallP (l : List Ac) : Prop := ∀ y ∈ l, y.par.length ≤ 1000
theorem small_nil : SmallP [] := fun _ h => by cases h
theorem small_app {a b : List Ac} (h : SmallP a) (k : SmallP b) : SmallP (a ++ b) := fun y hy => by
  rcases List.mem_append.1 hy with h1 | h1
  · exact h y h1
  · exact k y h1
theorem small_one {k r : Int} {p : List Int} (h : p.length ≤ 1000) : SmallP [⟨k, r, p⟩] := fun y hy => by
  simp at hy; subst hy; exact h
theorem small_control (b : Int) : SmallP (mcontrol b) := by
  unfold mcontrol
  split
  · exact small_one (by simp)
  · exact small_nil
theorem small_sign (s : Es) (r : Int) : SmallP (msign s r).2 := by
  unfold msign
  repeat' split
  · exact small_nil
  · exact small_control r
  · exact small_nil
  · exact small_one (by simp)
theorem small_signs (l : List Int) : ∀ (s : Es) (out : List Ac), SmallP out → SmallP (msigns l s out).2 := by
  induction l with
  | nil => intro s out h; exact h
  | cons r l ih => intro s out h; exact ih _ _ (small_app h (small_sign s r))
theorem small_step {s : Es} (h : Wf s) (b : Int) : SmallP (mstep s b).2 := by
  have htl := told_len h
  have hpl := h.2.1
  unfold mstep
  split
  · unfold mescape
    repeat' split
    all_goals first | exact small_nil | exact small_control b | exact small_one (by simp)
  · split
    · unfold mcsi
      repeat' split
      all_goals first | exact small_nil | exact small_control b | skip
      unfold mlast
      simp only
      split
      · exact small_nil
      · refine small_one ?_
        split <;> omega
    · split
      · exact small_nil
      · split
        · exact small_nil
        · split
          · exact small_nil
          · exact small_signs _ _ _ small_nil
theorem small_feed (l : List Int) (hl : ∀ x ∈ l, 0 ≤ x ∧ x ≤ 255) : ∀ (s : Es) (out : List Ac), Wf s → SmallP out → SmallP (mfeed l s out).2 := by
  induction l with
  | nil => intro s out _ h; exact h
  | cons b l ih =>
    intro s out h ho
    have hb := hl b (by simp)
    exact ih (fun x hx => hl x (by simp [hx])) _ _ (wf_step h b hb.1 hb.2).1 (small_app ho (small_step h b))
/-- Where an escape can be. -/
def Reach (s : Es) : Prop :=
  (s.m = 0 ∨ s.m = 1 ∨ s.m = 2 ∨ s.m = 3 ∨ s.m = 4 ∨ s.m = 5) ∧ (s.m ≠ 2 → s.par = [] ∧ s.nu = 0 ∧ s.pv = false ∧ s.sk = false) ∧ (s.m ≠ 0 → s.nd = 0 ∧ s.mn = 0 ∧ s.gt = 0) ∧ (s.nd = 0 ∧ s.mn = 0 ∧ s.gt = 0 ∨ 1 ≤ s.nd)
def Idle (s : Es) : Prop := s.nd = 0 ∧ s.mn = 0 ∧ s.gt = 0
theorem reach_go {s : Es} (h : Idle s) (m : Int) (hm : m = 0 ∨ m = 1 ∨ m = 2 ∨ m = 3 ∨ m = 4 ∨ m = 5) : Reach (s.go m) := ⟨hm, fun _ => ⟨rfl, rfl, rfl, rfl⟩, fun _ => h, Or.inl h⟩
theorem idle_of {s : Es} (h : Reach s) (hm : s.m ≠ 0) : Idle s := h.2.2.1 hm
theorem begin_ut (b : Int) (hb : 0 ≤ b) (hb2 : b ≤ 255) : (mbegin b).1 = ⟨0, 0, 0⟩ ∨ (1 ≤ (mbegin b).1.nd ∧ ((mbegin b).2 = [])) := by
  unfold mbegin
  repeat' split
  all_goals simp
theorem begin_esc (b : Int) (h : 27 ∈ (mbegin b).2) : (mbegin b).1 = ⟨0, 0, 0⟩ := by
  unfold mbegin at h ⊢
  repeat' split at h
  all_goals simp_all
theorem utf_ut (u : Ut) (b : Int) (hb : 0 ≤ b) (hb2 : b ≤ 255) : ((mutf u b).1 = ⟨0, 0, 0⟩ ∨ 1 ≤ (mutf u b).1.nd) ∧ (27 ∈ (mutf u b).2 → (mutf u b).1 = ⟨0, 0, 0⟩) := by
  have h1 := begin_ut b hb hb2
  have h2 := begin_esc b
  have h3 : (mbegin b).1 = ⟨0, 0, 0⟩ ∨ 1 ≤ (mbegin b).1.nd := h1.imp id (fun h => h.1)
  unfold mutf
  split
  · exact ⟨h3, h2⟩
  · split
    · refine ⟨h3, fun h => h2 ?_⟩
      simpa using h
    · split
      · refine ⟨Or.inr (by simp only; omega), fun h => ?_⟩
        simp at h
      · split
        · exact ⟨Or.inl rfl, fun _ => rfl⟩
        · exact ⟨Or.inl rfl, fun _ => rfl⟩
def OnG (s : Es) : Prop := (s.par = [] ∧ s.nu = 0 ∧ s.pv = false ∧ s.sk = false) ∧ (s.m = 0 ∨ s.m = 1) ∧ (s.m ≠ 0 → Idle s) ∧ (Idle s ∨ 1 ≤ s.nd)
theorem onG_signs (l : List Int) : ∀ (s : Es) (out : List Ac), OnG s → (27 ∈ l → Idle s) → OnG (msigns l s out).1 := by
  induction l with
  | nil => intro s out h _; exact h
  | cons r l ih =>
    intro s out h h27
    have hs : OnG (msign s r).1 ∧ (27 ∈ l → Idle (msign s r).1) := by
      unfold msign
      split
      · rename_i hr
        have hi := h27 (by simp [hr])
        exact ⟨⟨⟨rfl, rfl, rfl, rfl⟩, Or.inr rfl, fun _ => hi, Or.inl hi⟩, fun _ => hi⟩
      · have h4 : 27 ∈ l → Idle s := fun h => h27 (by simp [h])
        repeat' split
        · exact ⟨h, h4⟩
        · exact ⟨h, h4⟩
        · exact ⟨h, h4⟩
    exact ih _ _ hs.1 hs.2
theorem onG_reach {s : Es} (h : OnG s) : Reach s := ⟨by rcases h.2.1 with h | h <;> simp [h], fun _ => h.1, h.2.2.1, h.2.2.2⟩
theorem reach_leave {s : Es} (h : Reach s) (hi : Idle s) (b : Int) : Reach (mleave s b).1 := by
  unfold mleave
  repeat' split
  · exact reach_go hi 1 (by simp)
  · exact reach_go hi 0 (by simp)
  · exact h
theorem reach_step {s : Es} (h : Reach s) (b : Int) (hb : 0 ≤ b) (hb2 : b ≤ 255) : Reach (mstep s b).1 := by
  unfold mstep
  split
  · rename_i hm
    have hi : Idle s := idle_of h (by omega)
    have hl := reach_leave h hi b
    have hg := fun m hm => reach_go hi m hm
    unfold mescape
    repeat' split
    all_goals first | exact hl | exact hg _ (by simp) | exact h | skip
    exact ⟨by simp, fun h => by simp at h, fun _ => hi, Or.inl hi⟩
  · split
    · rename_i hm
      have hi : Idle s := idle_of h (by omega)
      have hl := reach_leave h hi b
      have hg := fun m hm => reach_go hi m hm
      have hc : ∀ par nu pv sk, Reach ⟨s.m, s.nd, s.mn, s.gt, par, nu, pv, sk⟩ := fun par nu pv sk => ⟨h.1, fun hne => absurd hm hne, fun _ => hi, Or.inl hi⟩
      unfold mcsi mlast
      repeat' split
      all_goals first | exact hl | exact hg _ (by simp) | exact h | exact hc _ _ _ _
    · split
      · rename_i hm
        have hi : Idle s := idle_of h (by omega)
        have hg := fun m hm => reach_go hi m hm
        unfold mtext
        repeat' split
        all_goals first | exact hg _ (by simp) | exact h
      · split
        · rename_i hm
          have hi : Idle s := idle_of h (by omega)
          have hl := reach_leave h hi b
          have hg := fun m hm => reach_go hi m hm
          unfold mskip
          repeat' split
          all_goals first | exact hl | exact hg _ (by simp) | exact h
        · split
          · rename_i hm
            have hi : Idle s := idle_of h (by omega)
            have hg := fun m hm => reach_go hi m hm
            unfold mend
            repeat' split
            all_goals first | exact hg _ (by simp) | exact h
          · rename_i m1 m2 m3 m4 m5
            have hm : s.m = 0 := by rcases h.1 with h | h | h | h | h | h <;> first | exact h | contradiction
            obtain ⟨u1, u2⟩ := utf_ut s.ut b hb hb2
            have hp := h.2.1 (by omega)
            refine onG_reach (onG_signs _ _ _ ⟨hp, Or.inl hm, fun hne => absurd hm hne, ?_⟩ ?_)
            · rcases u1 with h | h
              · left; simp [Idle, Es.setUt, h]
              · exact Or.inr h
            · intro h
              have := u2 h
              simp [Idle, Es.setUt, this]
theorem reach_feed (l : List Int) (hl : ∀ x ∈ l, 0 ≤ x ∧ x ≤ 255) : ∀ (s : Es) (out : List Ac), Reach s → Reach (mfeed l s out).1 := by
  induction l with
  | nil => intro s out h; exact h
  | cons b l ih =>
    intro s out h
    have hb := hl b (by simp)
    exact ih (fun x hx => hl x (by simp [hx])) _ _ (reach_step h b hb.1 hb.2)
theorem reach_ez : Reach ez := ⟨Or.inl rfl, fun _ => ⟨rfl, rfl, rfl, rfl⟩, fun h => absurd rfl h, Or.inl ⟨rfl, rfl, rfl⟩⟩
theorem go_ez {s : Es} (h : Idle s) : s.go 0 = ez := by
  obtain ⟨h1, h2, h3⟩ := h
  simp [Es.go, h1, h2, h3]
theorem cancel_end {s : Es} (hm : s.m = 5) (b : Int) (hb : b = 24 ∨ b = 26) : (mstep s b).1.m = 3 ∧ (mstep s b).2 = [] := by
  rcases hb with rfl | rfl <;> simp [mstep, hm, mend, Es.go]
theorem cancel_step {s : Es} (h : Reach s) (hm : s.m ≠ 5) (b : Int) (hb : b = 24 ∨ b = 26) : (mstep s b).1 = ez ∧ ((s.nd = 0 ∧ (mstep s b).2 = []) ∨ (s.nd ≠ 0 ∧ (mstep s b).2 = [⟨1, 65533, []⟩])) := by
  have hlv : (mleave s b) = (s.go 0, true) := by rcases hb with rfl | rfl <;> simp [mleave]
  rcases h.1 with m | m | m | m | m | m
  · have hp := h.2.1 (by omega)
    have hc : mcontrol b = [] := by rcases hb with rfl | rfl <;> simp [mcontrol, mwithin]
    have hbg : mbegin b = (⟨0, 0, 0⟩, [b]) := by rcases hb with rfl | rfl <;> simp [mbegin]
    have hsg : ∀ t : Es, msign t b = (t, []) := fun t => by
      have h1 : b ≠ 27 := by omega
      have h2 : b < 32 := by omega
      simp [msign, h1, h2, hc]
    have hs : mstep s b = mground s b := by simp [mstep, m]
    rw [hs]
    obtain ⟨m0, nd, mn, gt, par, nu, pv, sk⟩ := s
    simp only at m hp
    obtain ⟨rfl, rfl, rfl, rfl⟩ := hp
    subst m
    by_cases hn : nd ≤ 0
    · have hn0 : nd = 0 := by
        rcases h.2.2.2 with h | h
        · exact h.1
        · have : (1 : Int) ≤ nd := h
          omega
      have hu : mutf ⟨nd, mn, gt⟩ b = (⟨0, 0, 0⟩, [b]) := by simp [mutf, hn, hbg]
      simp only [mground, Es.ut, hu, Es.setUt, msigns, hsg]
      exact ⟨trivial, Or.inl ⟨hn0, by simp⟩⟩
    · have hb3 : b < 128 ∨ 191 < b := Or.inl (by omega)
      have hu : mutf ⟨nd, mn, gt⟩ b = (⟨0, 0, 0⟩, [65533, b]) := by simp [mutf, hn, hb3, hbg]
      have hs2 : ∀ t : Es, msign t 65533 = (t, [⟨1, 65533, []⟩]) := fun t => by simp [msign]
      simp only [mground, Es.ut, hu, Es.setUt, msigns, hsg, hs2]
      exact ⟨trivial, Or.inr ⟨by omega, by simp⟩⟩
  · have hi := idle_of h (by omega)
    have hs : mstep s b = (s.go 0, []) := by simp [mstep, m, mescape, hlv]
    rw [hs]
    exact ⟨go_ez hi, Or.inl ⟨hi.1, rfl⟩⟩
  · have hi := idle_of h (by omega)
    have hs : mstep s b = (s.go 0, []) := by simp [mstep, m, mcsi, hlv]
    rw [hs]
    exact ⟨go_ez hi, Or.inl ⟨hi.1, rfl⟩⟩
  · have hi := idle_of h (by omega)
    have hs : mstep s b = (s.go 0, []) := by rcases hb with rfl | rfl <;> simp [mstep, m, mtext]
    rw [hs]
    exact ⟨go_ez hi, Or.inl ⟨hi.1, rfl⟩⟩
  · have hi := idle_of h (by omega)
    have hs : mstep s b = (s.go 0, []) := by simp [mstep, m, mskip, hlv]
    rw [hs]
    exact ⟨go_ez hi, Or.inl ⟨hi.1, rfl⟩⟩
  · exact absurd m hm
end Go.Proofs.Ytbcpbndhkainnaa
