/- The leaves of layer 2. -/
import Derived.Test.YtbcpbndhkainnaaEs
namespace Go.Proofs.Ytbcpbndhkainnaa
open Go.RowKit
set_option linter.unusedSimpArgs false
set_option linter.unusedVariables false
set_option maxHeartbeats 1000000 in
theorem to_ (w : World) (s : Es) (mode : Int) (a : Option Addr) (n c : Nat) :
    Calls Try.prog 27 #[esV s (.slice a n c), .int .i64 mode] w fun e w' => e = .returned (esV (s.go mode) (.slice none 0 0)) ∧ New w w' := by
  go_enter Try.func27, Try.ntmps27
  go_wp2
  exact bodyPost_ret (v := esV (s.go mode) (.slice none 0 0)) (by simp [results, Try.results27, go_sem, esV, Es.go]) rfl ⟨rfl, by repeat' (first | exact Ext.refl _ _ | apply Ext.alloc | apply Ext.drewN | apply Ext.drew)⟩
theorem within_ (w : World) (b lo hi : Int) (r : Bool) (hr : mwithin b lo hi = r) :
    Calls Try.prog 28 #[.int .u8 b, .int .u8 lo, .int .u8 hi] w fun e w' => e = .returned (.bool r) ∧ w = w' := by
  subst hr
  unfold mwithin
  by_cases h : lo ≤ b
  · have hd : decide (lo ≤ b) = true := decide_eq_true h
    go_enter Try.func28, Try.ntmps28
    go_wp2
    go_ret
    exact ⟨by simp [h], rfl⟩
  · have hd : decide (lo ≤ b) = false := decide_eq_false h
    go_enter Try.func28, Try.ntmps28
    go_wp2
    go_ret
    exact ⟨by simp [h], rfl⟩
theorem row_alloc {w : World} {b t : Nat} {cs : Array Value} (h : Row w b t cs) (o : Obj) : Row (w.alloc o) b t cs := by
  unfold Row; rw [Below.heap_alloc w o b h.lt]; exact h
theorem row_drew {w : World} {b t : Nat} {cs : Array Value} (h : Row w b t cs) : Row w.drew b t cs := h
theorem row_made (w : World) (t : Nat) (cs : Array Value) : Row (w.alloc (.cells cs t)) w.heap.size t cs := heap_alloc_new w _
theorem row_made_at (w : World) (b t : Nat) (cs : Array Value) (hb : b = w.heap.size) : Row (w.alloc (.cells cs t)) b t cs := by subst hb; exact heap_alloc_new w _
theorem row_made1 (w : World) (o : Obj) (t : Nat) (cs : Array Value) : Row ((w.alloc o).alloc (.cells cs t)) (w.heap.size + 1) t cs := by
  have := heap_alloc_new (w.alloc o) (.cells cs t)
  simpa [Row] using this
set_option maxHeartbeats 1000000 in
theorem text_ (w : World) (s : Es) (b : Int) (a : Option Addr) (c : Nat) (hp : Ints w (.slice a s.par.length c) s.par) :
    Calls Try.prog 22 #[esV s (.slice a s.par.length c), .int .u8 b] w fun e w' => RE w' e (mtext s b) ∧ New w w' := by
  have go_ : ∀ m w', New w w' → (RE w' (.returned (esV (s.go m) (.slice none 0 0))) (s.go m) ∧ New w w') := fun m w' x => ⟨RE.go w' s m, x⟩
  have same_ : ∀ w', New w w' → (RE w' (.returned (esV s (.slice a s.par.length c))) s ∧ New w w') := fun w' x => ⟨RE.same hp x, x⟩
  replace hp := Lib.hid hp
  rcases (by omega : b = 7 ∨ b = 24 ∨ b = 26 ∨ b = 27 ∨ (b ≠ 7 ∧ b ≠ 24 ∧ b ≠ 26 ∧ b ≠ 27)) with rfl | rfl | rfl | rfl | ⟨h7, h24, h26, h27⟩
  · have e : mtext s 7 = s.go 0 := by simp [mtext]
    rw [e]; clear e
    go_enter Try.func22, Try.ntmps22
    go_wp2_with (go_at_call 27; refine (to_ _ s _ a _ c).mono ?_; rintro e w' ⟨rfl, x⟩; have r0 := (row_alloc (row_made _ _ _) _).ext x (fun h => h); have r1 := (row_made1 _ _ _ _).ext x (fun h => h); have e0 := r0.cell; have e1 := r1.cell; have f1 := r1.frozen; have l0 := r0.lt; have l1 := r1.lt; replace x := Lib.hid (((Ext.refl _ w).alloc _).alloc _ |>.trans x); replace r0 := Lib.hid r0; replace r1 := Lib.hid r1)
    exact bodyPost_ret (v := esV (s.go 0) (.slice none 0 0)) (by simp [results, Try.results22, go_sem, e1, l1]) rfl (go_ _ _ (by with_reducible repeat' (first | exact x.out | (refine Ext.setCell ?_ (Or.inr (by simp)) _) | apply Ext.alloc | apply Ext.drewN | apply Ext.drew | exact Ext.refl _ _)))
  · have e : mtext s 24 = s.go 0 := by simp [mtext]
    rw [e]; clear e
    go_enter Try.func22, Try.ntmps22
    go_wp2_with (go_at_call 27; refine (to_ _ s _ a _ c).mono ?_; rintro e w' ⟨rfl, x⟩; have r0 := (row_alloc (row_made _ _ _) _).ext x (fun h => h); have r1 := (row_made1 _ _ _ _).ext x (fun h => h); have e0 := r0.cell; have e1 := r1.cell; have f1 := r1.frozen; have l0 := r0.lt; have l1 := r1.lt; replace x := Lib.hid (((Ext.refl _ w).alloc _).alloc _ |>.trans x); replace r0 := Lib.hid r0; replace r1 := Lib.hid r1)
    exact bodyPost_ret (v := esV (s.go 0) (.slice none 0 0)) (by simp [results, Try.results22, go_sem, e1, l1]) rfl (go_ _ _ (by with_reducible repeat' (first | exact x.out | (refine Ext.setCell ?_ (Or.inr (by simp)) _) | apply Ext.alloc | apply Ext.drewN | apply Ext.drew | exact Ext.refl _ _)))
  · have e : mtext s 26 = s.go 0 := by simp [mtext]
    rw [e]; clear e
    go_enter Try.func22, Try.ntmps22
    go_wp2_with (go_at_call 27; refine (to_ _ s _ a _ c).mono ?_; rintro e w' ⟨rfl, x⟩; have r0 := (row_alloc (row_made _ _ _) _).ext x (fun h => h); have r1 := (row_made1 _ _ _ _).ext x (fun h => h); have e0 := r0.cell; have e1 := r1.cell; have f1 := r1.frozen; have l0 := r0.lt; have l1 := r1.lt; replace x := Lib.hid (((Ext.refl _ w).alloc _).alloc _ |>.trans x); replace r0 := Lib.hid r0; replace r1 := Lib.hid r1)
    exact bodyPost_ret (v := esV (s.go 0) (.slice none 0 0)) (by simp [results, Try.results22, go_sem, e1, l1]) rfl (go_ _ _ (by with_reducible repeat' (first | exact x.out | (refine Ext.setCell ?_ (Or.inr (by simp)) _) | apply Ext.alloc | apply Ext.drewN | apply Ext.drew | exact Ext.refl _ _)))
  · have e : mtext s 27 = s.go 5 := by simp [mtext]
    rw [e]; clear e
    go_enter Try.func22, Try.ntmps22
    go_wp2_with (go_at_call 27; refine (to_ _ s _ a _ c).mono ?_; rintro e w' ⟨rfl, x⟩; have r0 := (row_alloc (row_made _ _ _) _).ext x (fun h => h); have r1 := (row_made1 _ _ _ _).ext x (fun h => h); have e0 := r0.cell; have e1 := r1.cell; have f1 := r1.frozen; have l0 := r0.lt; have l1 := r1.lt; replace x := Lib.hid (((Ext.refl _ w).alloc _).alloc _ |>.trans x); replace r0 := Lib.hid r0; replace r1 := Lib.hid r1)
    exact bodyPost_ret (v := esV (s.go 5) (.slice none 0 0)) (by simp [results, Try.results22, go_sem, e1, l1]) rfl (go_ _ _ (by with_reducible repeat' (first | exact x.out | (refine Ext.setCell ?_ (Or.inr (by simp)) _) | apply Ext.alloc | apply Ext.drewN | apply Ext.drew | exact Ext.refl _ _)))
  · have e : mtext s b = s := by simp [mtext, h7, h24, h26, h27]
    rw [e]; clear e
    have g7 : (b == 7) = false := beq_eq_false_iff_ne.2 h7
    have g24 : (b == 24) = false := beq_eq_false_iff_ne.2 h24
    have g26 : (b == 26) = false := beq_eq_false_iff_ne.2 h26
    have g27 : (b == 27) = false := beq_eq_false_iff_ne.2 h27
    clear h7 h24 h26 h27
    go_enter Try.func22, Try.ntmps22
    go_wp2_with fail
    exact bodyPost_ret (v := esV s (.slice a s.par.length c)) (by simp [results, Try.results22, go_sem]) rfl (same_ _ (by with_reducible repeat' (first | (refine Ext.setCell ?_ (Or.inr (by simp)) _) | apply Ext.alloc | apply Ext.drewN | apply Ext.drew | exact Ext.refl _ _)))
set_option maxHeartbeats 1000000 in
theorem end_ (w : World) (s : Es) (b : Int) (a : Option Addr) (c : Nat) (hp : Ints w (.slice a s.par.length c) s.par) :
    Calls Try.prog 24 #[esV s (.slice a s.par.length c), .int .u8 b] w fun e w' => RE w' e (mend s b) ∧ New w w' := by
  have go_ : ∀ m w', New w w' → (RE w' (.returned (esV (s.go m) (.slice none 0 0))) (s.go m) ∧ New w w') := fun m w' x => ⟨RE.go w' s m, x⟩
  have same_ : ∀ w', New w w' → (RE w' (.returned (esV s (.slice a s.par.length c))) s ∧ New w w') := fun w' x => ⟨RE.same hp x, x⟩
  replace hp := Lib.hid hp
  rcases (by omega : b = 92 ∨ b = 27 ∨ (b ≠ 92 ∧ b ≠ 27)) with rfl | rfl | ⟨h92, h27⟩
  · have e : mend s 92 = s.go 0 := by simp [mend]
    rw [e]; clear e
    go_enter Try.func24, Try.ntmps24
    go_wp2_with (go_at_call 27; refine (to_ _ s _ a _ c).mono ?_; rintro e w' ⟨rfl, x⟩; have r0 := (row_alloc (row_made _ _ _) _).ext x (fun h => h); have r1 := (row_made1 _ _ _ _).ext x (fun h => h); have e0 := r0.cell; have e1 := r1.cell; have f1 := r1.frozen; have l0 := r0.lt; have l1 := r1.lt; replace x := Lib.hid (((Ext.refl _ w).alloc _).alloc _ |>.trans x); replace r0 := Lib.hid r0; replace r1 := Lib.hid r1)
    exact bodyPost_ret (v := esV (s.go 0) (.slice none 0 0)) (by simp [results, Try.results24, go_sem, e1, l1]) rfl (go_ _ _ (by with_reducible repeat' (first | exact x.out | (refine Ext.setCell ?_ (Or.inr (by simp)) _) | apply Ext.alloc | apply Ext.drewN | apply Ext.drew | exact Ext.refl _ _)))
  · have e : mend s 27 = s := by simp [mend]
    rw [e]; clear e
    go_enter Try.func24, Try.ntmps24
    go_wp2_with fail
    exact bodyPost_ret (v := esV s (.slice a s.par.length c)) (by simp [results, Try.results24, go_sem]) rfl (same_ _ (by with_reducible repeat' (first | (refine Ext.setCell ?_ (Or.inr (by simp)) _) | apply Ext.alloc | apply Ext.drewN | apply Ext.drew | exact Ext.refl _ _)))
  · have e : mend s b = s.go 3 := by simp [mend, h92, h27]
    rw [e]; clear e
    have g92 : (b == 92) = false := beq_eq_false_iff_ne.2 h92
    have g27 : (b == 27) = false := beq_eq_false_iff_ne.2 h27
    clear h92 h27
    go_enter Try.func24, Try.ntmps24
    go_wp2_with (go_at_call 27; refine (to_ _ s _ a _ c).mono ?_; rintro e w' ⟨rfl, x⟩; have r0 := (row_alloc (row_made _ _ _) _).ext x (fun h => h); have r1 := (row_made1 _ _ _ _).ext x (fun h => h); have e0 := r0.cell; have e1 := r1.cell; have f1 := r1.frozen; have l0 := r0.lt; have l1 := r1.lt; replace x := Lib.hid (((Ext.refl _ w).alloc _).alloc _ |>.trans x); replace r0 := Lib.hid r0; replace r1 := Lib.hid r1)
    exact bodyPost_ret (v := esV (s.go 3) (.slice none 0 0)) (by simp [results, Try.results24, go_sem, e1, l1]) rfl (go_ _ _ (by with_reducible repeat' (first | exact x.out | (refine Ext.setCell ?_ (Or.inr (by simp)) _) | apply Ext.alloc | apply Ext.drewN | apply Ext.drew | exact Ext.refl _ _)))
set_option maxHeartbeats 1000000 in
theorem leave_yes (w : World) (s : Es) (b m : Int) (a : Option Addr) (n c : Nat) (h : mleave s b = (s.go m, true)) :
    Calls Try.prog 26 #[esV s (.slice a n c), .int .u8 b] w fun e w' => e = .returned (.tuple #[esV (s.go m) (.slice none 0 0), .bool true]) ∧ New w w' := by
  rcases (by omega : b = 24 ∨ b = 26 ∨ b = 27 ∨ (b ≠ 24 ∧ b ≠ 26 ∧ b ≠ 27)) with rfl | rfl | rfl | ⟨h1, h2, h3⟩
  · have e : s.go m = s.go 0 := by simp [mleave] at h; exact h.symm
    rw [e]; clear e h
    go_enter Try.func26, Try.ntmps26
    go_wp2_with (go_at_call 27; refine (to_ _ s _ a _ c).mono ?_; rintro e w' ⟨rfl, x⟩; have r0 := (row_alloc (row_made _ _ _) _).ext x (fun h => h); have r1 := (row_made1 _ _ _ _).ext x (fun h => h); have e0 := r0.cell; have e1 := r1.cell; have f1 := r1.frozen; have l0 := r0.lt; have l1 := r1.lt; replace x := Lib.hid (((Ext.refl _ w).alloc _).alloc _ |>.trans x); replace r0 := Lib.hid r0; replace r1 := Lib.hid r1)
    exact bodyPost_ret (v := .tuple #[esV (s.go 0) (.slice none 0 0), .bool true]) (by simp [results, Try.results26, go_sem, e1]) rfl ⟨rfl, (by with_reducible repeat' (first | exact x.out | (refine Ext.setCell ?_ (Or.inr (by simp)) _) | apply Ext.alloc | apply Ext.drewN | apply Ext.drew | exact Ext.refl _ _))⟩
  · have e : s.go m = s.go 0 := by simp [mleave] at h; exact h.symm
    rw [e]; clear e h
    go_enter Try.func26, Try.ntmps26
    go_wp2_with (go_at_call 27; refine (to_ _ s _ a _ c).mono ?_; rintro e w' ⟨rfl, x⟩; have r0 := (row_alloc (row_made _ _ _) _).ext x (fun h => h); have r1 := (row_made1 _ _ _ _).ext x (fun h => h); have e0 := r0.cell; have e1 := r1.cell; have f1 := r1.frozen; have l0 := r0.lt; have l1 := r1.lt; replace x := Lib.hid (((Ext.refl _ w).alloc _).alloc _ |>.trans x); replace r0 := Lib.hid r0; replace r1 := Lib.hid r1)
    exact bodyPost_ret (v := .tuple #[esV (s.go 0) (.slice none 0 0), .bool true]) (by simp [results, Try.results26, go_sem, e1]) rfl ⟨rfl, (by with_reducible repeat' (first | exact x.out | (refine Ext.setCell ?_ (Or.inr (by simp)) _) | apply Ext.alloc | apply Ext.drewN | apply Ext.drew | exact Ext.refl _ _))⟩
  · have e : s.go m = s.go 1 := by simp [mleave] at h; exact h.symm
    rw [e]; clear e h
    go_enter Try.func26, Try.ntmps26
    go_wp2_with (go_at_call 27; refine (to_ _ s _ a _ c).mono ?_; rintro e w' ⟨rfl, x⟩; have r0 := (row_alloc (row_made _ _ _) _).ext x (fun h => h); have r1 := (row_made1 _ _ _ _).ext x (fun h => h); have e0 := r0.cell; have e1 := r1.cell; have f1 := r1.frozen; have l0 := r0.lt; have l1 := r1.lt; replace x := Lib.hid (((Ext.refl _ w).alloc _).alloc _ |>.trans x); replace r0 := Lib.hid r0; replace r1 := Lib.hid r1)
    exact bodyPost_ret (v := .tuple #[esV (s.go 1) (.slice none 0 0), .bool true]) (by simp [results, Try.results26, go_sem, e1]) rfl ⟨rfl, (by with_reducible repeat' (first | exact x.out | (refine Ext.setCell ?_ (Or.inr (by simp)) _) | apply Ext.alloc | apply Ext.drewN | apply Ext.drew | exact Ext.refl _ _))⟩
  · simp [mleave, h1, h2, h3] at h
set_option maxHeartbeats 1000000 in
theorem leave_no (w : World) (s : Es) (b : Int) (a : Option Addr) (n c : Nat) (h : mleave s b = (s, false)) :
    Calls Try.prog 26 #[esV s (.slice a n c), .int .u8 b] w fun e w' => e = .returned (.tuple #[esV s (.slice a n c), .bool false]) ∧ New w w' := by
  rcases (by omega : b = 24 ∨ b = 26 ∨ b = 27 ∨ (b ≠ 24 ∧ b ≠ 26 ∧ b ≠ 27)) with rfl | rfl | rfl | ⟨h1, h2, h3⟩
  · simp [mleave] at h
  · simp [mleave] at h
  · simp [mleave] at h
  · have g1 : (b == 24) = false := beq_eq_false_iff_ne.2 h1
    have g2 : (b == 26) = false := beq_eq_false_iff_ne.2 h2
    have g3 : (b == 27) = false := beq_eq_false_iff_ne.2 h3
    clear h h1 h2 h3
    go_enter Try.func26, Try.ntmps26
    go_wp2_with fail
    exact bodyPost_ret (v := .tuple #[esV s (.slice a n c), .bool false]) (by simp [results, Try.results26, go_sem]) rfl ⟨rfl, (by with_reducible repeat' (first | (refine Ext.setCell ?_ (Or.inr (by simp)) _) | apply Ext.alloc | apply Ext.drewN | apply Ext.drew | exact Ext.refl _ _))⟩
theorem mleave_cases (s : Es) (b : Int) : (∃ m, mleave s b = (s.go m, true)) ∨ mleave s b = (s, false) := by
  unfold mleave
  split
  · exact Or.inl ⟨_, rfl⟩
  · split
    · exact Or.inl ⟨_, rfl⟩
    · exact Or.inr rfl
set_option maxHeartbeats 1000000 in
theorem skip_ (w : World) (s : Es) (b : Int) (a : Option Addr) (c : Nat) (hp : Ints w (.slice a s.par.length c) s.par) :
    Calls Try.prog 23 #[esV s (.slice a s.par.length c), .int .u8 b] w fun e w' => RE w' e (mskip s b) ∧ New w w' := by
  have go_ : ∀ m w', New w w' → (RE w' (.returned (esV (s.go m) (.slice none 0 0))) (s.go m) ∧ New w w') := fun m w' x => ⟨RE.go w' s m, x⟩
  have same_ : ∀ w', New w w' → (RE w' (.returned (esV s (.slice a s.par.length c))) s ∧ New w w') := fun w' x => ⟨RE.same hp x, x⟩
  replace hp := Lib.hid hp
  rcases mleave_cases s b with ⟨m, h⟩ | h
  · have e : mskip s b = s.go m := by simp [mskip, h]
    rw [e]; clear e
    replace h := Lib.hid h
    go_enter Try.func23, Try.ntmps23
    go_wp2_with (go_at_call 26; refine (leave_yes _ s b m a _ c h.out).mono ?_; rintro e w' ⟨rfl, x⟩; have r0 := (row_alloc (row_made _ _ _) _).ext x (fun h => h); have r1 := (row_made1 _ _ _ _).ext x (fun h => h); have e0 := r0.cell; have e1 := r1.cell; have f1 := r1.frozen; have l0 := r0.lt; have l1 := r1.lt; replace x := Lib.hid (((Ext.refl _ w).alloc _).alloc _ |>.trans x); replace r0 := Lib.hid r0; replace r1 := Lib.hid r1)
    exact bodyPost_ret (v := esV (s.go m) (.slice none 0 0)) (by simp [results, Try.results23, go_sem, e1, l1]) rfl (go_ _ _ (by with_reducible repeat' (first | exact x.out | (refine Ext.setCell ?_ (Or.inr (by simp)) _) | apply Ext.alloc | apply Ext.drewN | apply Ext.drew | exact Ext.refl _ _)))
  · by_cases h2 : mwithin b 48 126 = true
    · have e : mskip s b = s.go 0 := by simp [mskip, h, h2]
      rw [e]; clear e
      replace h := Lib.hid h
      replace h2 := Lib.hid h2
      go_enter Try.func23, Try.ntmps23
      go_wp2_with (first | (go_at_call 26; refine (leave_no _ s b a _ c h.out).mono ?_; rintro e w' ⟨rfl, x⟩; have r0 := (row_alloc (row_made _ _ _) _).ext x (fun h => h); have r1 := (row_made1 _ _ _ _).ext x (fun h => h); have e0 := r0.cell; have e1 := r1.cell; have f1 := r1.frozen; have l0 := r0.lt; have l1 := r1.lt; replace x := Lib.hid (((Ext.refl _ w).alloc _).alloc _ |>.trans x); replace r0 := Lib.hid r0; replace r1 := Lib.hid r1) | (go_at_call 28; refine (within_ _ b 48 126 true h2.out).mono ?_; rintro e w' ⟨rfl, rfl⟩) | (go_at_call 27; refine (to_ _ s _ a _ c).mono ?_; rintro e w' ⟨rfl, y⟩; clear e0 e1 f1 l0 l1; have q0 := Row.ext (by repeat' (first | exact r0.out | apply row_alloc)) y (fun h => h); have q1 := Row.ext (by repeat' (first | exact r1.out | apply row_alloc)) y (fun h => h); have e0 := q0.cell; have e1 := q1.cell; have f1 := q1.frozen; have l0 := q0.lt; have l1 := q1.lt; replace x := Lib.hid (Ext.trans (by repeat' (first | exact x.out | apply Ext.alloc)) y); replace r0 := Lib.hid q0; replace r1 := Lib.hid q1; clear y q0 q1))
      exact bodyPost_ret (v := esV (s.go 0) (.slice none 0 0)) (by simp [results, Try.results23, go_sem, e1, l1]) rfl (go_ _ _ (by with_reducible repeat' (first | exact x.out | (refine Ext.setCell ?_ (Or.inr (by simp)) _) | apply Ext.alloc | apply Ext.drewN | apply Ext.drew | exact Ext.refl _ _)))
    · have e : mskip s b = s := by simp [mskip, h, h2]
      rw [e]; clear e
      replace h := Lib.hid h
      replace h2 := Lib.hid (Bool.eq_false_iff.2 h2)
      go_enter Try.func23, Try.ntmps23
      go_wp2_with (first | (go_at_call 26; refine (leave_no _ s b a _ c h.out).mono ?_; rintro e w' ⟨rfl, x⟩; have r0 := (row_alloc (row_made _ _ _) _).ext x (fun h => h); have r1 := (row_made1 _ _ _ _).ext x (fun h => h); have e0 := r0.cell; have e1 := r1.cell; have f1 := r1.frozen; have l0 := r0.lt; have l1 := r1.lt; replace x := Lib.hid (((Ext.refl _ w).alloc _).alloc _ |>.trans x); replace r0 := Lib.hid r0; replace r1 := Lib.hid r1) | (go_at_call 28; refine (within_ _ b 48 126 false h2.out).mono ?_; rintro e w' ⟨rfl, rfl⟩))
      exact bodyPost_ret (v := esV s (.slice a s.par.length c)) (by simp [results, Try.results23, go_sem, e1, l1]) rfl (same_ _ (by with_reducible repeat' (first | exact x.out | (refine Ext.setCell ?_ (Or.inr (by simp)) _) | apply Ext.alloc | apply Ext.drewN | apply Ext.drew | exact Ext.refl _ _)))
end Go.Proofs.Ytbcpbndhkainnaa
