/- A region that draws its order, where a condition S on the world is asked only behind those operations that J names: loads are taken first although a later phase of the same statement writes what they read. -/
import Derived.Test.YtbcpbndhkainnaaBase
namespace Go.Proofs.Ytbcpbndhkainnaa
open Go.RowKit
section
variable {P : Program} {ops : Array Oper} {Q : Exit → Act → World → Prop} {md : Region.Mode} {S : World → Prop} {J : Nat → Bool}
def wpAnyJ (P : Program) (md : Region.Mode) (ops : Array Oper) (Q : Exit → Act → World → Prop) (S : World → Prop) (J : Nat → Bool) : Nat → Array Bool → Act → World → Prop
  | 0, listed, a, w => Region.ready md ops listed = [] ∧ Q .normal a w
  | fuel + 1, listed, a, w =>
    (Region.ready md ops listed = [] → Q .normal a w) ∧
    ∀ i ∈ Region.ready md ops listed, wpOp P ops Q i (fun a' w' => (J i = true → S w') ∧ wpAnyJ P md ops Q S J fuel (listed.setIfInBounds i true) a' w') a w
theorem wpAny_of_J : ∀ (fuel : Nat) (listed : Array Bool) (a : Act) (w : World), wpAnyJ P md ops Q S J fuel listed a w → wpAny P md ops Q fuel listed a w
  | 0, _, _, _, h => h
  | fuel + 1, _, _, _, h => ⟨h.1, fun i hi => wpOp_mono (fun a' w' h' => wpAny_of_J fuel _ a' w' h'.2) (h.2 i hi)⟩
/-- Whoever is not in J, and has not come up yet, waits for i. -/
def waitsJ (md : Region.Mode) (ops : Array Oper) (J : Nat → Bool) (listed : Array Bool) (i : Nat) : Bool :=
  (List.range ops.size).all fun j => listed.getD j true || J j || match ops[j]? with
    | some oj => oj.after.any (fun e => Region.binds md e && e.on == i)
    | none => true
theorem waitsJ_spec {i j : Nat} {oj : Oper} {listed : Array Bool} (h : waitsJ md ops J listed i = true) (hj : ops[j]? = some oj) (hun : listed.getD j true = false) (hJ : J j = false) : ∃ e ∈ oj.after, Region.binds md e = true ∧ e.on = i := by
  have hlt : j < ops.size := (Array.getElem?_eq_some_iff.1 hj).1
  have := List.all_eq_true.1 h j (List.mem_range.2 hlt)
  simp only [hun, hJ, hj, Bool.false_or, Array.any_eq_true', Bool.and_eq_true, beq_iff_eq] at this
  exact this
theorem wpAnyJ_first {i : Nat} {oi : Oper} {v : Value} (hi : ops[i]? = some oi) (hsel : ∀ (j : Nat) (o : Oper) cs b, ops[j]? = some o → o.op ≠ .select cs b)
    (hQ : ∀ c a w, Q (.panic c) (a.put oi.dst v) w → Q (.panic c) a w) (hJi : J i = true) :
    ∀ (fuel : Nat) (listed : Array Bool) (a : Act) (w : World), (∀ j oj, ops[j]? = some oj → listed.getD j true = false → J j = false → ∃ e ∈ oj.after, Region.binds md e = true ∧ e.on = i) →
      (∀ j oj, ops[j]? = some oj → j ≠ i → listed.getD j true = false → (∀ e ∈ oj.after, Region.binds md e = true → e.on ≠ i) → oi.apart ops oj = true) →
      i ∈ Region.ready md ops listed → YieldsIf P ops S oi v a → S w →
      wpAnyJ P md ops Q S J fuel (listed.setIfInBounds i true) (a.put oi.dst v) w → wpAnyJ P md ops Q S J (fuel + 1) listed a w := by
  intro fuel
  induction fuel with
  | zero =>
    intro listed a w _ _ hr hy hS H
    refine ⟨fun h => (by rw [h] at hr; cases hr), fun j hj => ?_⟩
    by_cases hji : j = i
    · subst hji; exact hy.wpOp hi hS ⟨fun _ => hS, H⟩
    · have := ready_mono hj hji
      rw [H.1] at this
      cases this
  | succ fuel ih =>
    intro listed a w hw hfree hr hy hS H
    refine ⟨fun h => (by rw [h] at hr; cases hr), fun j hj => ?_⟩
    by_cases hji : j = i
    · subst hji; exact hy.wpOp hi hS ⟨fun _ => hS, H⟩
    obtain ⟨hjun, oj, hoj, hall⟩ := mem_ready.1 hj
    have hnot : ∀ e ∈ oj.after, Region.binds md e = true → e.on ≠ i := fun e he hb heq => by
      have h1 := hall e he hb
      have h0 := (mem_ready.1 hr).1
      rw [heq] at h1
      rcases Nat.lt_or_ge i listed.size with h' | h'
      · simp [h'] at h0 h1; rw [h0] at h1; cases h1
      · simp [Array.getElem?_eq_none h'] at h1
    have hJj : J j = true := by
      cases hq : J j with
      | true => rfl
      | false =>
        obtain ⟨e, he, hb, heq⟩ := hw j oj hoj hjun hq
        exact absurd heq (hnot e he hb)
    have h2 := wpOp_putIf hoj (hfree j oj hoj hji hjun hnot) (fun cs b => hsel i oi cs b hi) (fun cs b => hsel j oj cs b hoj) hQ hy (H.2 j (ready_mono hj hji))
    have hw' : ∀ k ok, ops[k]? = some ok → (listed.setIfInBounds j true).getD k true = false → J k = false → ∃ e ∈ ok.after, Region.binds md e = true ∧ e.on = i := fun k ok hk hun hJk => by
      refine hw k ok hk ?_ hJk
      by_cases hjk : j = k
      · subst hjk; exact hjun
      · rw [getD_set_ne true hjk] at hun; exact hun
    have hfree' : ∀ k ok, ops[k]? = some ok → k ≠ i → (listed.setIfInBounds j true).getD k true = false →
        (∀ e ∈ ok.after, Region.binds md e = true → e.on ≠ i) → oi.apart ops ok = true := fun k ok hk hki hun hno => by
      refine hfree k ok hk hki ?_ hno
      by_cases hjk : j = k
      · subst hjk; exact hjun
      · rw [getD_set_ne true hjk] at hun; exact hun
    refine wpOp_mono (fun a' w' h3 => ⟨h3.2.1, ih (listed.setIfInBounds j true) a' w' hw' hfree' (ready_mono hr (Ne.symm hji)) h3.1 (h3.2.1 hJj) ?_⟩) h2
    rw [Array.setIfInBounds_comm _ _ hji]
    exact h3.2.2
theorem wpJ_take (i : Nat) {oi : Oper} {v : Value} {fuel : Nat} {listed : Array Bool} {a : Act} {w : World} (hi : ops[i]? = some oi)
    (hs : Region.noSelect ops = true) (hf : (Region.free md ops listed i && (Region.ready md ops listed).contains i && waitsJ md ops J listed i && J i) = true)
    (hQ : ∀ c a w, Q (.panic c) (a.put oi.dst v) w → Q (.panic c) a w) (hS : S w) (hy : YieldsIf P ops S oi v a)
    (h : S w → wpAnyJ P md ops Q S J fuel (listed.setIfInBounds i true) (a.put oi.dst v) w) : wpAnyJ P md ops Q S J (fuel + 1) listed a w := by
  simp only [Bool.and_eq_true] at hf
  exact wpAnyJ_first hi (Region.noSelect_spec hs) hQ hf.2 fuel listed a w (fun j oj hj hun hJ => waitsJ_spec hf.1.2 hj hun hJ) (Region.free_spec hi hf.1.1.1) (by simpa using hf.1.1.2) hy hS (h hS)
/-- An operation that yields in whatever world. -/
theorem wpAnyJ_pure {i : Nat} {oi : Oper} {v : Value} (hi : ops[i]? = some oi) (hsel : ∀ (j : Nat) (o : Oper) cs b, ops[j]? = some o → o.op ≠ .select cs b)
    (hQ : ∀ c a w, Q (.panic c) (a.put oi.dst v) w → Q (.panic c) a w) (hJi : J i = false) :
    ∀ (fuel : Nat) (listed : Array Bool) (a : Act) (w : World),
      (∀ j oj, ops[j]? = some oj → j ≠ i → listed.getD j true = false → (∀ e ∈ oj.after, Region.binds md e = true → e.on ≠ i) → oi.apart ops oj = true) →
      i ∈ Region.ready md ops listed → YieldsIf P ops (fun _ => True) oi v a →
      wpAnyJ P md ops Q S J fuel (listed.setIfInBounds i true) (a.put oi.dst v) w → wpAnyJ P md ops Q S J (fuel + 1) listed a w := by
  intro fuel
  induction fuel with
  | zero =>
    intro listed a w _ hr hy H
    refine ⟨fun h => (by rw [h] at hr; cases hr), fun j hj => ?_⟩
    by_cases hji : j = i
    · subst hji; exact hy.wpOp hi trivial ⟨fun h => (by rw [hJi] at h; cases h), H⟩
    · have := ready_mono hj hji
      rw [H.1] at this
      cases this
  | succ fuel ih =>
    intro listed a w hfree hr hy H
    refine ⟨fun h => (by rw [h] at hr; cases hr), fun j hj => ?_⟩
    by_cases hji : j = i
    · subst hji; exact hy.wpOp hi trivial ⟨fun h => (by rw [hJi] at h; cases h), H⟩
    obtain ⟨hjun, oj, hoj, hall⟩ := mem_ready.1 hj
    have hnot : ∀ e ∈ oj.after, Region.binds md e = true → e.on ≠ i := fun e he hb heq => by
      have h1 := hall e he hb
      have h0 := (mem_ready.1 hr).1
      rw [heq] at h1
      rcases Nat.lt_or_ge i listed.size with h' | h'
      · simp [h'] at h0 h1; rw [h0] at h1; cases h1
      · simp [Array.getElem?_eq_none h'] at h1
    have h2 := wpOp_putIf (S := fun _ => True) hoj (hfree j oj hoj hji hjun hnot) (fun cs b => hsel i oi cs b hi) (fun cs b => hsel j oj cs b hoj) hQ hy (H.2 j (ready_mono hj hji))
    have hfree' : ∀ k ok, ops[k]? = some ok → k ≠ i → (listed.setIfInBounds j true).getD k true = false →
        (∀ e ∈ ok.after, Region.binds md e = true → e.on ≠ i) → oi.apart ops ok = true := fun k ok hk hki hun hno => by
      refine hfree k ok hk hki ?_ hno
      by_cases hjk : j = k
      · subst hjk; exact hjun
      · rw [getD_set_ne true hjk] at hun; exact hun
    refine wpOp_mono (fun a' w' h3 => ⟨h3.2.1, ih (listed.setIfInBounds j true) a' w' hfree' (ready_mono hr (Ne.symm hji)) h3.1 ?_⟩) h2
    rw [Array.setIfInBounds_comm _ _ hji]
    exact h3.2.2
theorem wpJ_pure (i : Nat) {oi : Oper} {v : Value} {fuel : Nat} {listed : Array Bool} {a : Act} {w : World} (hi : ops[i]? = some oi)
    (hs : Region.noSelect ops = true) (hf : (Region.free md ops listed i && (Region.ready md ops listed).contains i && !J i) = true)
    (hQ : ∀ c a w, Q (.panic c) (a.put oi.dst v) w → Q (.panic c) a w) (hy : YieldsIf P ops (fun _ => True) oi v a)
    (h : wpAnyJ P md ops Q S J fuel (listed.setIfInBounds i true) (a.put oi.dst v) w) : wpAnyJ P md ops Q S J (fuel + 1) listed a w := by
  simp only [Bool.and_eq_true, Bool.not_eq_true'] at hf
  exact wpAnyJ_pure hi (Region.noSelect_spec hs) hQ hf.2 fuel listed a w (Region.free_spec hi hf.1.1) (by simpa using hf.1.2) hy h
/-- What yields in whatever world. -/
theorem wpJ_any (i : Nat) {oi : Oper} {v : Value} {fuel : Nat} {listed : Array Bool} {a : Act} {w : World} (hi : ops[i]? = some oi)
    (hr : Region.ready md ops listed = [i]) (hw : Region.wanted oi (yielded ops a.tmps) = true) (hv : (execOp a.eval oi).run P w = .ok (.value v) w) (hS : J i = true → S w)
    (h : wpAnyJ P md ops Q S J fuel (listed.setIfInBounds i true) (a.put oi.dst v) w) : wpAnyJ P md ops Q S J (fuel + 1) listed a w := by
  refine ⟨fun h0 => (by rw [hr] at h0; cases h0), fun j hj => ?_⟩
  rw [hr] at hj
  have hji : j = i := by simpa using hj
  subst hji
  unfold wpOp
  simp only [hi, hw, if_true, Oper.wp, hv, Oper.upon]
  exact .inl ⟨hS, h⟩
/-- The one that may come up. -/
theorem wpJ_one (i : Nat) {oi : Oper} {fuel : Nat} {listed : Array Bool} {a : Act} {w : World} (hi : ops[i]? = some oi) (hr : Region.ready md ops listed = [i])
    (h : ∀ K : Act → World → Prop, (∀ a' w', (J i = true → S w') → wpAnyJ P md ops Q S J fuel (listed.setIfInBounds i true) a' w' → K a' w') → if Region.wanted oi (yielded ops a.tmps) = true then Oper.wp P oi a w K Q else K (a.put oi.dst undef) w) :
    wpAnyJ P md ops Q S J (fuel + 1) listed a w := by
  refine ⟨fun h0 => (by rw [hr] at h0; cases h0), fun j hj => ?_⟩
  rw [hr] at hj
  have hji : j = i := by simpa using hj
  subst hji
  have h1 := h _ (fun a' w' x y => (⟨x, y⟩ : (J j = true → S w') ∧ wpAnyJ P md ops Q S J fuel (listed.setIfInBounds j true) a' w'))
  unfold wpOp
  simp only [hi]
  split at h1
  · rename_i hw; simp only [hw, if_true]; exact .inl h1
  · rename_i hw; simp only [hw, Bool.false_eq_true, if_false]; exact h1
/-- Two that may come up. -/
theorem wpJ_two (i k : Nat) {oi ok : Oper} {fuel : Nat} {listed : Array Bool} {a : Act} {w : World} (hi : ops[i]? = some oi) (hk : ops[k]? = some ok) (hr : Region.ready md ops listed = [i, k])
    (h : ∀ K : Act → World → Prop, (∀ a' w', (J i = true → S w') → wpAnyJ P md ops Q S J fuel (listed.setIfInBounds i true) a' w' → K a' w') → if Region.wanted oi (yielded ops a.tmps) = true then Oper.wp P oi a w K Q else K (a.put oi.dst undef) w)
    (h2 : ∀ K : Act → World → Prop, (∀ a' w', (J k = true → S w') → wpAnyJ P md ops Q S J fuel (listed.setIfInBounds k true) a' w' → K a' w') → if Region.wanted ok (yielded ops a.tmps) = true then Oper.wp P ok a w K Q else K (a.put ok.dst undef) w) :
    wpAnyJ P md ops Q S J (fuel + 1) listed a w := by
  refine ⟨fun h0 => (by rw [hr] at h0; cases h0), fun j hj => ?_⟩
  rw [hr] at hj
  have hji : j = i ∨ j = k := by simpa using hj
  rcases hji with rfl | rfl
  · have h1 := h _ (fun a' w' x y => (⟨x, y⟩ : (J j = true → S w') ∧ wpAnyJ P md ops Q S J fuel (listed.setIfInBounds j true) a' w'))
    unfold wpOp
    simp only [hi]
    split at h1
    · rename_i hw; simp only [hw, if_true]; exact .inl h1
    · rename_i hw; simp only [hw, Bool.false_eq_true, if_false]; exact h1
  · have h1 := h2 _ (fun a' w' x y => (⟨x, y⟩ : (J j = true → S w') ∧ wpAnyJ P md ops Q S J fuel (listed.setIfInBounds j true) a' w'))
    unfold wpOp
    simp only [hk]
    split at h1
    · rename_i hw; simp only [hw, if_true]; exact .inl h1
    · rename_i hw; simp only [hw, Bool.false_eq_true, if_false]; exact h1
theorem wpJ_done {listed : Array Bool} {a : Act} {w : World} (fuel : Nat) (hr : Region.ready md ops listed = []) (h : Q .normal a w) : wpAnyJ P md ops Q S J fuel listed a w := by
  cases fuel with
  | zero => exact ⟨hr, h⟩
  | succ n => exact ⟨fun _ => h, by rw [hr]; simp⟩
theorem wp_region_J (S : World → Prop) (J : Nat → Bool) {id : Nat} {a : Act} {w : World} (hm : P.follows .mixedOrders = true) (hS : S w.drew)
    (h : S w.drew → wpAnyJ P .any ops Q S J ops.size (Array.replicate ops.size false) a w.drew) : (Code.region id ops true).wp P Q a w :=
  wp_region_any hm (wpAny_of_J _ _ _ _ (h hS))
end
end Go.Proofs.Ytbcpbndhkainnaa
