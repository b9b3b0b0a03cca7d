/- control; runes of layer 1. -/
import Derived.Test.YtbcpbndhkainnaaEsLeaf
namespace Go.Proofs.Ytbcpbndhkainnaa
open Go.RowKit
set_option linter.unusedSimpArgs false
set_option linter.unusedVariables false
attribute [local go_sem] i64_and7' i64_and15' i64_and31' i64_and63'
theorem control_ (w : World) (b : Int) (hb : 0 ≤ b) (hb2 : b ≤ 255) : Calls Try.prog 29 #[.int .u8 b] w fun e w' => RA w' e (mcontrol b) ∧ New w w' := by
  have some_ := Lib.hid (fun (p : World → Prop) => Acts.lit (w := w) 2 b [] (Ints.nil w))
  by_cases h : mwithin b 7 13 = true
  · have e : mcontrol b = [⟨2, b, []⟩] := by simp [mcontrol, h]
    rw [e]; clear e
    replace h := Lib.hid h
    go_enter Try.func29, Try.ntmps29
    go_wp2_with (go_at_call 28; refine (within_ _ b 7 13 true h.out).mono ?_; rintro e w' ⟨rfl, rfl⟩)
    go_ret
    exact ⟨⟨_, _, [(⟨2, b, []⟩, .slice none 0 0)], rfl, some_.out (fun _ => True), rfl⟩, (Ext.refl _ _).alloc _⟩
  · have e : mcontrol b = [] := by simp [mcontrol, h]
    rw [e]; clear e
    replace h := Lib.hid (Bool.eq_false_iff.2 h)
    go_enter Try.func29, Try.ntmps29
    go_wp2_with (go_at_call 28; refine (within_ _ b 7 13 false h.out).mono ?_; rintro e w' ⟨rfl, rfl⟩)
    go_ret
    exact ⟨⟨none, 0, [], rfl, Acts.nil _, rfl⟩, Ext.refl _ _⟩
theorem no_ (w : World) (r : Int) : Calls Try.prog 35 #[.int .i64 r] w fun e w' => e = .returned (.bool (mno r)) ∧ w = w' := by
  unfold mno
  by_cases h1 : r < 0
  · have d1 : decide (r < 0) = true := decide_eq_true h1
    clear h1
    go_enter Try.func35, Try.ntmps35
    go_wp2
    go_ret
    exact ⟨by simp only [d1, Bool.true_or, Bool.false_or, Bool.true_and, Bool.false_and]; rfl, rfl⟩
  · have d1 : decide (r < 0) = false := decide_eq_false h1
    clear h1
    by_cases h2 : 1114111 < r
    · have d2 : decide (1114111 < r) = true := decide_eq_true h2
      clear h2
      go_enter Try.func35, Try.ntmps35
      go_wp2
      go_ret
      exact ⟨by simp only [d1, d2, Bool.true_or, Bool.false_or, Bool.true_and, Bool.false_and]; rfl, rfl⟩
    · have d2 : decide (1114111 < r) = false := decide_eq_false h2
      clear h2
      by_cases h3 : 55296 ≤ r
      · have d3 : decide (55296 ≤ r) = true := decide_eq_true h3
        clear h3
        go_enter Try.func35, Try.ntmps35
        go_wp2
        go_ret
        exact ⟨by simp only [d1, d2, d3, Bool.true_or, Bool.false_or, Bool.true_and, Bool.false_and]; rfl, rfl⟩
      · have d3 : decide (55296 ≤ r) = false := decide_eq_false h3
        clear h3
        go_enter Try.func35, Try.ntmps35
        go_wp2
        go_ret
        exact ⟨by simp only [d1, d2, d3, Bool.true_or, Bool.false_or, Bool.true_and, Bool.false_and]; rfl, rfl⟩
set_option maxHeartbeats 1000000 in
theorem begin_ (w : World) (n : Int) (hn : 0 ≤ n) (hn2 : n ≤ 255) : Calls Try.prog 34 #[.int .u8 n] w fun e w' => RUt w' e (mbegin n) ∧ New w w' := by
  have nil_ : ∀ u w', New w w' → (RUt w' (.returned (.tuple #[utV u, .slice none 0 0])) (u, []) ∧ New w w') := fun u w' x => ⟨RUt.nil w' u, x⟩
  have h0 : IntKind.i64.wrap n = n := by rw [IntKind.wrap_i64]; omega
  rcases (by omega : (0 ≤ n ∧ n ≤ 127) ∨ (128 ≤ n ∧ n ≤ 191) ∨ (192 ≤ n ∧ n ≤ 223) ∨ (224 ≤ n ∧ n ≤ 239) ∨ (240 ≤ n ∧ n ≤ 247) ∨ (248 ≤ n ∧ n ≤ 255)) with ⟨h1, h2⟩ | ⟨h1, h2⟩ | ⟨h1, h2⟩ | ⟨h1, h2⟩ | ⟨h1, h2⟩ | ⟨h1, h2⟩
  · have e : mbegin n = (⟨0, 0, 0⟩, [n]) := by
      unfold mbegin
      repeat' (first | rfl | (rw [if_pos (by omega)]) | (rw [if_neg (by omega)]))
    rw [e]; clear e
    have a128 : decide (n < 128) = true := decide_eq_true (by omega)
    have a224 : decide (n < 224) = true := decide_eq_true (by omega)
    have a240 : decide (n < 240) = true := decide_eq_true (by omega)
    have a248 : decide (n < 248) = true := decide_eq_true (by omega)
    have b192 : decide (192 ≤ n) = false := decide_eq_false (by omega)
    have b224 : decide (224 ≤ n) = false := decide_eq_false (by omega)
    have b240 : decide (240 ≤ n) = false := decide_eq_false (by omega)
    go_enter Try.func34, Try.ntmps34
    go_wp2_with fail
    have k := Runs.lit (w.alloc (.cells #[.int .i64 0, .int .i64 0, .int .i64 0] 31)) n
    rw [World.size_alloc] at k
    exact bodyPost_ret (v := .tuple #[utV ⟨0, 0, 0⟩, .slice (some ⟨w.heap.size + 1, 0, none⟩) 1 1]) (by simp [results, Try.results34, go_sem]) rfl ⟨⟨_, _, rfl, k⟩, (by with_reducible repeat' (first | (refine Ext.setCell ?_ (Or.inr (by simp)) _) | apply Ext.alloc | apply Ext.drewN | apply Ext.drew | exact Ext.refl _ _))⟩
  · have e : mbegin n = (⟨0, 0, 0⟩, [65533]) := by
      unfold mbegin
      repeat' (first | rfl | (rw [if_pos (by omega)]) | (rw [if_neg (by omega)]))
    rw [e]; clear e
    have a128 : decide (n < 128) = false := decide_eq_false (by omega)
    have a224 : decide (n < 224) = true := decide_eq_true (by omega)
    have a240 : decide (n < 240) = true := decide_eq_true (by omega)
    have a248 : decide (n < 248) = true := decide_eq_true (by omega)
    have b192 : decide (192 ≤ n) = false := decide_eq_false (by omega)
    have b224 : decide (224 ≤ n) = false := decide_eq_false (by omega)
    have b240 : decide (240 ≤ n) = false := decide_eq_false (by omega)
    go_enter Try.func34, Try.ntmps34
    go_wp2_with fail
    have k := Runs.lit (w.alloc (.cells #[.int .i64 0, .int .i64 0, .int .i64 0] 31)) 65533
    rw [World.size_alloc] at k
    exact bodyPost_ret (v := .tuple #[utV ⟨0, 0, 0⟩, .slice (some ⟨w.heap.size + 1, 0, none⟩) 1 1]) (by simp [results, Try.results34, go_sem]) rfl ⟨⟨_, _, rfl, k⟩, (by with_reducible repeat' (first | (refine Ext.setCell ?_ (Or.inr (by simp)) _) | apply Ext.alloc | apply Ext.drewN | apply Ext.drew | exact Ext.refl _ _))⟩
  · have e : mbegin n = (⟨1, 128, n % 32⟩, []) := by
      unfold mbegin
      repeat' (first | rfl | (rw [if_pos (by omega)]) | (rw [if_neg (by omega)]))
    rw [e]; clear e
    have a128 : decide (n < 128) = false := decide_eq_false (by omega)
    have a224 : decide (n < 224) = true := decide_eq_true (by omega)
    have a240 : decide (n < 240) = true := decide_eq_true (by omega)
    have a248 : decide (n < 248) = true := decide_eq_true (by omega)
    have b192 : decide (192 ≤ n) = true := decide_eq_true (by omega)
    have b224 : decide (224 ≤ n) = false := decide_eq_false (by omega)
    have b240 : decide (240 ≤ n) = false := decide_eq_false (by omega)
    go_enter Try.func34, Try.ntmps34
    go_wp2_with fail
    exact bodyPost_ret (v := .tuple #[utV ⟨1, 128, n % 32⟩, .slice none 0 0]) (by simp [results, Try.results34, go_sem]) rfl (nil_ _ _ (by with_reducible repeat' (first | (refine Ext.setCell ?_ (Or.inr (by simp)) _) | apply Ext.alloc | apply Ext.drewN | apply Ext.drew | exact Ext.refl _ _)))
  · have e : mbegin n = (⟨2, 2048, n % 16⟩, []) := by
      unfold mbegin
      repeat' (first | rfl | (rw [if_pos (by omega)]) | (rw [if_neg (by omega)]))
    rw [e]; clear e
    have a128 : decide (n < 128) = false := decide_eq_false (by omega)
    have a224 : decide (n < 224) = false := decide_eq_false (by omega)
    have a240 : decide (n < 240) = true := decide_eq_true (by omega)
    have a248 : decide (n < 248) = true := decide_eq_true (by omega)
    have b192 : decide (192 ≤ n) = true := decide_eq_true (by omega)
    have b224 : decide (224 ≤ n) = true := decide_eq_true (by omega)
    have b240 : decide (240 ≤ n) = false := decide_eq_false (by omega)
    go_enter Try.func34, Try.ntmps34
    go_wp2_with fail
    exact bodyPost_ret (v := .tuple #[utV ⟨2, 2048, n % 16⟩, .slice none 0 0]) (by simp [results, Try.results34, go_sem]) rfl (nil_ _ _ (by with_reducible repeat' (first | (refine Ext.setCell ?_ (Or.inr (by simp)) _) | apply Ext.alloc | apply Ext.drewN | apply Ext.drew | exact Ext.refl _ _)))
  · have e : mbegin n = (⟨3, 65536, n % 8⟩, []) := by
      unfold mbegin
      repeat' (first | rfl | (rw [if_pos (by omega)]) | (rw [if_neg (by omega)]))
    rw [e]; clear e
    have a128 : decide (n < 128) = false := decide_eq_false (by omega)
    have a224 : decide (n < 224) = false := decide_eq_false (by omega)
    have a240 : decide (n < 240) = false := decide_eq_false (by omega)
    have a248 : decide (n < 248) = true := decide_eq_true (by omega)
    have b192 : decide (192 ≤ n) = true := decide_eq_true (by omega)
    have b224 : decide (224 ≤ n) = true := decide_eq_true (by omega)
    have b240 : decide (240 ≤ n) = true := decide_eq_true (by omega)
    go_enter Try.func34, Try.ntmps34
    go_wp2_with fail
    exact bodyPost_ret (v := .tuple #[utV ⟨3, 65536, n % 8⟩, .slice none 0 0]) (by simp [results, Try.results34, go_sem]) rfl (nil_ _ _ (by with_reducible repeat' (first | (refine Ext.setCell ?_ (Or.inr (by simp)) _) | apply Ext.alloc | apply Ext.drewN | apply Ext.drew | exact Ext.refl _ _)))
  · have e : mbegin n = (⟨0, 0, 0⟩, [65533]) := by
      unfold mbegin
      repeat' (first | rfl | (rw [if_pos (by omega)]) | (rw [if_neg (by omega)]))
    rw [e]; clear e
    have a128 : decide (n < 128) = false := decide_eq_false (by omega)
    have a224 : decide (n < 224) = false := decide_eq_false (by omega)
    have a240 : decide (n < 240) = false := decide_eq_false (by omega)
    have a248 : decide (n < 248) = false := decide_eq_false (by omega)
    have b192 : decide (192 ≤ n) = true := decide_eq_true (by omega)
    have b224 : decide (224 ≤ n) = true := decide_eq_true (by omega)
    have b240 : decide (240 ≤ n) = true := decide_eq_true (by omega)
    go_enter Try.func34, Try.ntmps34
    go_wp2_with fail
    have k := Runs.lit (w.alloc (.cells #[.int .i64 0, .int .i64 0, .int .i64 0] 31)) 65533
    rw [World.size_alloc] at k
    exact bodyPost_ret (v := .tuple #[utV ⟨0, 0, 0⟩, .slice (some ⟨w.heap.size + 1, 0, none⟩) 1 1]) (by simp [results, Try.results34, go_sem]) rfl ⟨⟨_, _, rfl, k⟩, (by with_reducible repeat' (first | (refine Ext.setCell ?_ (Or.inr (by simp)) _) | apply Ext.alloc | apply Ext.drewN | apply Ext.drew | exact Ext.refl _ _))⟩
theorem u8_and63 (n : Int) (h : 0 ≤ n) (h2 : n ≤ 255) : bits .and .u8 n 63 = n % 64 := by
  have h1 : (BitVec.ofInt 8 63).toNat = 2 ^ 6 - 1 := by decide
  have key : (BitVec.ofInt 8 n &&& BitVec.ofInt 8 63).toNat = (n % ((2 ^ 8 : Nat) : Int)).toNat % 2 ^ 6 := by
    rw [BitVec.toNat_and, BitVec.toNat_ofInt, h1, Nat.and_two_pow_sub_one_eq_mod]
  show IntKind.u8.wrap ((BitVec.ofInt 8 n &&& BitVec.ofInt 8 63).toNat : Nat) = n % 64
  rw [key, IntKind.wrap_u8]
  omega
theorem mbegin_len (n : Int) : (mbegin n).2.length ≤ 1 := by
  unfold mbegin
  repeat' split
  all_goals simp
set_option maxHeartbeats 1000000 in
theorem utf_ (w : World) (u : Ut) (b : Int) (hb : 0 ≤ b) (hb2 : b ≤ 255) (hg : 0 ≤ u.gt) (hg2 : u.gt ≤ 2097152) (hn : u.nd ≤ 3) : Calls Try.prog 32 #[utV u, .int .u8 b] w fun e w' => RUt w' e (mutf u b) ∧ New w w' := by
  obtain ⟨nd, mn, gt⟩ := u
  replace hg : 0 ≤ gt := hg
  replace hg2 : gt ≤ 2097152 := hg2
  replace hn : nd ≤ 3 := hn
  by_cases h1 : nd ≤ 0
  · have e : mutf ⟨nd, mn, gt⟩ b = mbegin b := by simp [mutf, h1]
    rw [e]; clear e
    have d1 : decide (nd ≤ 0) = true := decide_eq_true h1
    clear h1
    go_enter Try.func32, Try.ntmps32
    go_wp2_with (go_at_call 34; refine (begin_ _ b hb hb2).mono ?_; rintro e w' ⟨⟨b2, d2, rfl, hr⟩, x⟩; have r0 := (row_alloc (row_made _ _ _) _).ext x (fun h => h); have r1 := (row_made1 _ _ _ _).ext x (fun h => h); have e0 := r0.cell; have e1 := r1.cell; have f1 := r1.frozen; have l0 := r0.lt; have l1 := r1.lt; replace x := Lib.hid (((Ext.refl _ w).alloc _).alloc _ |>.trans x); replace r0 := Lib.hid r0; replace r1 := Lib.hid r1; replace hr := Lib.hid hr)
    exact bodyPost_ret (v := .tuple #[utV (mbegin b).1, .slice b2 (mbegin b).2.length d2]) (by simp [results, Try.results32, go_sem, e1, l1]) rfl ⟨⟨_, _, rfl, hr.out.keep r1.out (by decide) (by with_reducible repeat' (first | (refine Ext.setCell ?_ (Or.inl (by simp)) _) | exact Ext.refl _ _))⟩, (by with_reducible repeat' (first | exact x.out | (refine Ext.setCell ?_ (Or.inr (by simp)) _) | apply Ext.alloc | apply Ext.drewN | apply Ext.drew | exact Ext.refl _ _))⟩
  · have d1 : decide (nd ≤ 0) = false := decide_eq_false h1
    by_cases h2 : b < 128
    · have e : mutf ⟨nd, mn, gt⟩ b = ((mbegin b).1, 65533 :: (mbegin b).2) := by simp [mutf, h1, h2]
      rw [e]; clear e
      have d2 : decide (b < 128) = true := decide_eq_true h2
      clear h1 h2
      have hml := mbegin_len b
      have hml : 1 + (mbegin b).2.length ≤ maxLen := by unfold maxLen; omega
      go_enter Try.func32, Try.ntmps32
      go_wp2_with (go_at_call 34; refine (begin_ _ b hb hb2).mono ?_; rintro e w' ⟨⟨b2, d2, rfl, hr⟩, x⟩; have r0 := (row_alloc (row_made _ _ _) _).ext x (fun h => h); have r1 := (row_made1 _ _ _ _).ext x (fun h => h); have e0 := r0.cell; have e1 := r1.cell; have f1 := r1.frozen; have l0 := r0.lt; have l1 := r1.lt; replace x := Lib.hid (((Ext.refl _ w).alloc _).alloc _ |>.trans x); replace r0 := Lib.hid r0; replace r1 := Lib.hid r1; replace hr := Lib.hid hr)
      go_region_law ((refine step_src (w0 := _) (G := fun _ => False) rfl (.tmp 27) (.tmp 28) 60 60 21 (.int .i32 0) 1 4 rfl Try.underlying60 Try.info21 rfl (by decide) (.slice (some ⟨w'.heap.size + 1, 0, none⟩) 1 1) 1 [.int .i32 65533] rfl (own_lit_at (w'.alloc (.cells #[.int .i64 (mbegin b).1.nd, .int .i64 (mbegin b).1.mn, .int .i64 (mbegin b).1.gt] 31)) [.int .i32 65533] 21 1 1 _ (by simp) (by unfold maxLen; omega) rfl) (by first | exact Ext.refl _ _ | exact (Ext.refl _ _).drew) (fun _ _ h => h) (.slice b2 (mbegin b).2.length d2) (mbegin b).2.length _ rfl (Src.own Try.underlying60 (hr.out.new (by with_reducible repeat' (first | apply Ext.alloc | apply Ext.drewN | apply Ext.drew | exact Ext.refl _ _))) (runs_one _)) hml (by omega) (fun v' w1 hown X Y hat => ?_)); have q1 := Row.ext (by with_reducible repeat' (first | exact r1.out | apply row_drew | apply row_alloc)) Y (fun e => by have : w'.heap.size + 1 = w.heap.size + 1 := (by simpa [Bk, Value.ownBlock] using e); omega); have q3 := Row.ext (b := w'.heap.size) (by with_reducible repeat' (first | exact row_made _ _ _ | apply row_drew | apply row_alloc)) Y (fun e => by simp [Bk, Value.ownBlock] at e); have e3 := q3.cell; have l3 := q3.lt; replace q3 := Lib.hid q3; have e2 := q1.cell; have f2 := q1.frozen; have l2 := q1.lt; obtain ⟨g', cap', rfl, hx1, hx2⟩ := hown.form (by omega); replace q1 := Lib.hid q1; replace hown := Lib.hid hown; replace X := Lib.hid X; replace Y := Lib.hid Y)
      all_goals
        go_wp2_with fail
        have hr1 : Runs w1 (.slice (some ⟨g', 0, none⟩) (65533 :: (mbegin b).2).length cap') (65533 :: (mbegin b).2) := by
          have := hown.out
          rw [Nat.add_comm] at this
          exact this
        have hx := x.out.size
        have hX : New w w1 := Ext.then_ (by with_reducible repeat' (first | exact x.out | apply Ext.drew | apply Ext.alloc)) Y.out (fun i hi => Or.inr (by have : w'.heap.size + 1 = i := (by simpa [Bk, Value.ownBlock] using hi); omega))
        exact bodyPost_ret (v := .tuple #[utV (mbegin b).1, .slice (some ⟨g', 0, none⟩) (1 + (mbegin b).2.length) cap']) (by simp [results, Try.results32, go_sem, e2, l2]) rfl ⟨⟨some ⟨g', 0, none⟩, cap', by simp [Nat.add_comm], hr1.keep q1.out (by decide) (by with_reducible repeat' (first | (refine Ext.setCell ?_ (Or.inl (by simp)) _) | exact Ext.refl _ _))⟩, (by with_reducible repeat' (first | exact hX | (refine Ext.setCell ?_ (Or.inr (by simp)) _) | apply Ext.alloc | apply Ext.drewN | apply Ext.drew | exact Ext.refl _ _))⟩
    · have d2 : decide (b < 128) = false := decide_eq_false h2
      by_cases h3 : 191 < b
      · have e : mutf ⟨nd, mn, gt⟩ b = ((mbegin b).1, 65533 :: (mbegin b).2) := by simp [mutf, h1, h2, h3]
        rw [e]; clear e
        have d3 : decide (191 < b) = true := decide_eq_true h3
        clear h1 h2 h3
        have hml := mbegin_len b
        have hml : 1 + (mbegin b).2.length ≤ maxLen := by unfold maxLen; omega
        go_enter Try.func32, Try.ntmps32
        go_wp2_with (go_at_call 34; refine (begin_ _ b hb hb2).mono ?_; rintro e w' ⟨⟨b2, d2, rfl, hr⟩, x⟩; have r0 := (row_alloc (row_made _ _ _) _).ext x (fun h => h); have r1 := (row_made1 _ _ _ _).ext x (fun h => h); have e0 := r0.cell; have e1 := r1.cell; have f1 := r1.frozen; have l0 := r0.lt; have l1 := r1.lt; replace x := Lib.hid (((Ext.refl _ w).alloc _).alloc _ |>.trans x); replace r0 := Lib.hid r0; replace r1 := Lib.hid r1; replace hr := Lib.hid hr)
        go_region_law ((refine step_src (w0 := _) (G := fun _ => False) rfl (.tmp 27) (.tmp 28) 60 60 21 (.int .i32 0) 1 4 rfl Try.underlying60 Try.info21 rfl (by decide) (.slice (some ⟨w'.heap.size + 1, 0, none⟩) 1 1) 1 [.int .i32 65533] rfl (own_lit_at (w'.alloc (.cells #[.int .i64 (mbegin b).1.nd, .int .i64 (mbegin b).1.mn, .int .i64 (mbegin b).1.gt] 31)) [.int .i32 65533] 21 1 1 _ (by simp) (by unfold maxLen; omega) rfl) (by first | exact Ext.refl _ _ | exact (Ext.refl _ _).drew) (fun _ _ h => h) (.slice b2 (mbegin b).2.length d2) (mbegin b).2.length _ rfl (Src.own Try.underlying60 (hr.out.new (by with_reducible repeat' (first | apply Ext.alloc | apply Ext.drewN | apply Ext.drew | exact Ext.refl _ _))) (runs_one _)) hml (by omega) (fun v' w1 hown X Y hat => ?_)); have q1 := Row.ext (by with_reducible repeat' (first | exact r1.out | apply row_drew | apply row_alloc)) Y (fun e => by have : w'.heap.size + 1 = w.heap.size + 1 := (by simpa [Bk, Value.ownBlock] using e); omega); have q3 := Row.ext (b := w'.heap.size) (by with_reducible repeat' (first | exact row_made _ _ _ | apply row_drew | apply row_alloc)) Y (fun e => by simp [Bk, Value.ownBlock] at e); have e3 := q3.cell; have l3 := q3.lt; replace q3 := Lib.hid q3; have e2 := q1.cell; have f2 := q1.frozen; have l2 := q1.lt; obtain ⟨g', cap', rfl, hx1, hx2⟩ := hown.form (by omega); replace q1 := Lib.hid q1; replace hown := Lib.hid hown; replace X := Lib.hid X; replace Y := Lib.hid Y)
        all_goals
          go_wp2_with fail
          have hr1 : Runs w1 (.slice (some ⟨g', 0, none⟩) (65533 :: (mbegin b).2).length cap') (65533 :: (mbegin b).2) := by
            have := hown.out
            rw [Nat.add_comm] at this
            exact this
          have hx := x.out.size
          have hX : New w w1 := Ext.then_ (by with_reducible repeat' (first | exact x.out | apply Ext.drew | apply Ext.alloc)) Y.out (fun i hi => Or.inr (by have : w'.heap.size + 1 = i := (by simpa [Bk, Value.ownBlock] using hi); omega))
          exact bodyPost_ret (v := .tuple #[utV (mbegin b).1, .slice (some ⟨g', 0, none⟩) (1 + (mbegin b).2.length) cap']) (by simp [results, Try.results32, go_sem, e2, l2]) rfl ⟨⟨some ⟨g', 0, none⟩, cap', by simp [Nat.add_comm], hr1.keep q1.out (by decide) (by with_reducible repeat' (first | (refine Ext.setCell ?_ (Or.inl (by simp)) _) | exact Ext.refl _ _))⟩, (by with_reducible repeat' (first | exact hX | (refine Ext.setCell ?_ (Or.inr (by simp)) _) | apply Ext.alloc | apply Ext.drewN | apply Ext.drew | exact Ext.refl _ _))⟩
      · have d3 : decide (191 < b) = false := decide_eq_false h3
        have hband := u8_and63 b hb hb2
        have hg3 : 0 ≤ 64 * gt + b % 64 := by omega
        have hg4 : 64 * gt + b % 64 ≤ 134217800 := by omega
        have hb64 : 0 ≤ b % 64 := by omega
        have hb65 : b % 64 < 64 := by omega
        have hnd : 1 ≤ nd := by omega
        have nil_ : ∀ u w', New w w' → (RUt w' (.returned (.tuple #[utV u, .slice none 0 0])) (u, []) ∧ New w w') := fun u w' x => ⟨RUt.nil w' u, x⟩
        by_cases h4 : 0 < nd - 1
        · have e : mutf ⟨nd, mn, gt⟩ b = (⟨nd - 1, mn, 64 * gt + b % 64⟩, []) := by simp only [mutf]; rw [if_neg h1, if_neg (by omega), if_pos h4]
          rw [e]; clear e
          have d4 : decide (1 < nd) = true := decide_eq_true (by omega)
          clear h1 h2 h3 h4
          go_enter Try.func32, Try.ntmps32
          go_wp2_with fail
          exact bodyPost_ret (v := .tuple #[utV ⟨nd - 1, mn, 64 * gt + b % 64⟩, .slice none 0 0]) (by simp [results, Try.results32, go_sem]) rfl (nil_ _ _ (by with_reducible repeat' (first | (refine Ext.setCell ?_ (Or.inr (by simp)) _) | apply Ext.alloc | apply Ext.drewN | apply Ext.drew | exact Ext.refl _ _)))
        · have d4 : decide (1 < nd) = false := decide_eq_false (by omega)
          have hnd2 : nd - 1 ≤ 0 := by omega
          by_cases h5 : 64 * gt + b % 64 < mn
          · have e : mutf ⟨nd, mn, gt⟩ b = (⟨0, 0, 0⟩, [65533]) := by simp only [mutf]; rw [if_neg h1, if_neg (by omega), if_neg h4, if_pos (Or.inl h5)]
            rw [e]; clear e
            have d5 : decide (64 * gt + b % 64 < mn) = true := decide_eq_true h5
            clear h5
            clear h1 h2 h3 h4
            have k := Runs.lit ((w.alloc (.cells #[.int .i64 (nd - 1), .int .i64 mn, .int .i64 (64 * gt + b % 64)] 31)).alloc (.cells #[.int .i64 0, .int .i64 0, .int .i64 0] 31)) 65533
            rw [World.size_alloc, World.size_alloc] at k
            replace k := Lib.hid k
            go_enter Try.func32, Try.ntmps32
            go_wp2_with fail
            exact bodyPost_ret (v := .tuple #[utV ⟨0, 0, 0⟩, .slice (some ⟨w.heap.size + 2, 0, none⟩) 1 1]) (by simp [results, Try.results32, go_sem]) rfl ⟨⟨_, _, rfl, k.out⟩, (by with_reducible repeat' (first | (refine Ext.setCell ?_ (Or.inr (by simp)) _) | apply Ext.alloc | apply Ext.drewN | apply Ext.drew | exact Ext.refl _ _))⟩
          · have d5 : decide (64 * gt + b % 64 < mn) = false := decide_eq_false h5
            by_cases h6 : mno (64 * gt + b % 64) = true
            · have e : mutf ⟨nd, mn, gt⟩ b = (⟨0, 0, 0⟩, [65533]) := by simp only [mutf]; rw [if_neg h1, if_neg (by omega), if_neg h4, if_pos (Or.inr h6)]
              rw [e]; clear e
              replace h6 := Lib.hid h6
              have hle : mn ≤ 64 * gt + b % 64 := by omega
              clear h5
              clear h1 h2 h3 h4
              have k := Runs.lit ((w.alloc (.cells #[.int .i64 (nd - 1), .int .i64 mn, .int .i64 (64 * gt + b % 64)] 31)).alloc (.cells #[.int .i64 0, .int .i64 0, .int .i64 0] 31)) 65533
              rw [World.size_alloc, World.size_alloc] at k
              replace k := Lib.hid k
              go_enter Try.func32, Try.ntmps32
              go_wp2_with (go_at_call 35; refine (no_ _ _).mono ?_; rintro e w' ⟨rfl, rfl⟩; rw [h6.out])
              exact bodyPost_ret (v := .tuple #[utV ⟨0, 0, 0⟩, .slice (some ⟨w.heap.size + 2, 0, none⟩) 1 1]) (by simp [results, Try.results32, go_sem]) rfl ⟨⟨_, _, rfl, k.out⟩, (by with_reducible repeat' (first | (refine Ext.setCell ?_ (Or.inr (by simp)) _) | apply Ext.alloc | apply Ext.drewN | apply Ext.drew | exact Ext.refl _ _))⟩
            · have e : mutf ⟨nd, mn, gt⟩ b = (⟨0, 0, 0⟩, [64 * gt + b % 64]) := by simp only [mutf]; rw [if_neg h1, if_neg (by omega), if_neg h4, if_neg (fun x => x.elim h5 h6)]
              rw [e]; clear e
              replace h6 := Lib.hid (Bool.eq_false_iff.2 h6)
              have hle : mn ≤ 64 * gt + b % 64 := by omega
              clear h1 h2 h3 h4 h5
              have k := Runs.lit ((w.alloc (.cells #[.int .i64 (nd - 1), .int .i64 mn, .int .i64 (64 * gt + b % 64)] 31)).alloc (.cells #[.int .i64 0, .int .i64 0, .int .i64 0] 31)) (64 * gt + b % 64)
              rw [World.size_alloc, World.size_alloc] at k
              replace k := Lib.hid k
              go_enter Try.func32, Try.ntmps32
              go_wp2_with (go_at_call 35; refine (no_ _ _).mono ?_; rintro e w' ⟨rfl, rfl⟩; rw [h6.out])
              go_region
              all_goals
                go_wp2_with fail
                exact bodyPost_ret (v := .tuple #[utV ⟨0, 0, 0⟩, .slice (some ⟨w.heap.size + 2, 0, none⟩) 1 1]) (by simp [results, Try.results32, go_sem]) rfl ⟨⟨_, _, rfl, k.out⟩, (by with_reducible repeat' (first | (refine Ext.setCell ?_ (Or.inr (by simp)) _) | apply Ext.alloc | apply Ext.drewN | apply Ext.drew | exact Ext.refl _ _))⟩
end Go.Proofs.Ytbcpbndhkainnaa
