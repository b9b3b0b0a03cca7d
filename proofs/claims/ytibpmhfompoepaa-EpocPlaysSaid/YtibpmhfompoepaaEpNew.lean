/- New of both. -/
import Derived.Test.YtibpmhfompoepaaRfAdv
import Derived.Deep.OwnRows
namespace Go.Proofs.Ytibpmhfompoepaa
open Go.RowKit
set_option linter.unusedSimpArgs false
set_option linter.unusedVariables false
theorem own_made3 (W : World) (m : Nat) (hm : m ≤ 1000) :
    (W.alloc (.cells (madeCells #[.int .i64 0] m) 3)).ownsRow 0 3 1 (.slice (some ⟨W.heap.size, 0, none⟩) m m) m (ints (List.replicate m 0)) := by
  have h := World.ownsRow_lit (base := 0) (e := 3) (size := 1) W (madeCells #[.int .i64 0] m) m (Nat.zero_le _) (by unfold maxLen; omega) (by simp [size_madeCells])
  have hl : (madeCells #[Value.int .i64 0] m).toList = ints (List.replicate m 0) := by
    apply List.ext_getElem
    · simp [ints, madeCells]
    · intro i h1 h2
      simp [ints, madeCells, Nat.mod_one]
  rwa [hl] at h
theorem ep_made (w : World) (n : Nat) (hn : n ≤ 1000) : Ep ((w.alloc (.cells (madeCells #[.int .i64 0] n) 3)).alloc (.cells #[.int .i64 0, .slice (some ⟨w.heap.size, 0, none⟩) n n, .slice none 0 0] 43)) (Gr (fun _ => False) w ((w.alloc (.cells (madeCells #[.int .i64 0] n) 3)).alloc (.cells #[.int .i64 0, .slice (some ⟨w.heap.size, 0, none⟩) n n, .slice none 0 0] 43)))
    (w.heap.size + 1) 0 (List.replicate n 0) [] (some ⟨w.heap.size, 0, none⟩) n none 0 := by
  have h1 := own_made3 w n hn
  have e : (List.replicate n (0 : Int)).length = n := by simp
  refine ⟨?_, by rw [e]; exact h1.alloc _, World.ownsRow_nil _ _ _ _, Or.inr ⟨by omega, by simp⟩, fun k hk => Or.inr ?_, fun k hk => by simp [Bk, Value.ownBlock] at hk⟩
  · have := heap_alloc_new (w.alloc (.cells (madeCells #[.int .i64 0] n) 3)) (.cells #[.int .i64 0, .slice (some ⟨w.heap.size, 0, none⟩) n n, .slice none 0 0] 43)
    simpa [Row] using this
  · have : w.heap.size = k := by simpa [Bk, Value.ownBlock] using hk
    subst this
    exact ⟨Nat.le_refl _, by simp; omega⟩
set_option maxHeartbeats 1000000 in
theorem new_ (w : World) (n : Nat) (t : Int) (hn : n ≤ 100) (ht : t = n ∨ (t < 0 ∧ n = 0)) :
    Calls Try.prog 4 #[.int .i64 t] w fun e w' => ∃ g ap cp, e = .returned (.pointer (some ⟨g, 0, none⟩)) ∧ Ep w' (Gr (fun _ => False) w w') g 0 (List.replicate n 0) [] ap cp none 0 ∧ Ext (fun _ => False) w w' := by
  have hmk := run_make_row' (P := Try.prog) 22 3 (.int .i64 0) 8 Try.underlying22 Try.info3 rfl .i64 .i64 n (by omega) (by omega)
  have key := Lib.hid (ep_made w n (by omega))
  rcases ht with rfl | ⟨ht, rfl⟩
  · go_enter Try.func4, Try.ntmps4
    go_wp2_with fail
    go_ret
    exact ⟨_, _, _, rfl, key.out, ((Ext.refl _ w).alloc _).alloc _⟩
  · simp only [Int.natCast_zero] at hmk
    have hm0 : max t 0 = 0 := by omega
    go_enter Try.func4, Try.ntmps4
    go_wp2_with fail
    go_ret
    exact ⟨_, _, _, rfl, key.out, ((Ext.refl _ w).alloc _).alloc _⟩
theorem own_ints_app {w : World} {v : Value} {k : Nat} (h : w.ownsRow 0 3 1 v (k + 1) (ints (List.replicate k (-1)) ++ [.int .i64 (-1)])) : w.ownsRow 0 3 1 v (k + 1) (ints (List.replicate (k + 1) (-1))) := by
  have : ints (List.replicate (k + 1) (-1)) = ints (List.replicate k (-1)) ++ [.int .i64 (-1)] := by
    rw [List.replicate_succ', ints, List.map_append]; rfl
  rw [this]; exact h
set_option maxHeartbeats 1000000 in
theorem rnew_ (w : World) (n : Nat) (t : Int) (hn : n ≤ 99) (ht : t = n ∨ (t < 0 ∧ n = 0)) :
    Calls Try.prog 5 #[.int .i64 t] w fun e w' => ∃ g ap cp, e = .returned (.pointer (some ⟨g, 0, none⟩)) ∧ Rf w' (Gr (fun _ => False) w w') g 0 (List.replicate n (-1)) [] ap cp none 0 none 0 ∧ Ext (fun _ => False) w w' := by
  go_enter Try.func5, Try.ntmps5
  go_wp2_with fail
  go_loopw [4] (fun i wr => ∃ k : Nat, k ≤ n ∧ i = .int .i64 k ∧ ∃ ap cp, Hid (Row wr w.heap.size 36 #[.int .i64 0, .slice ap k cp, .slice none 0 0, .slice none 0 0]) ∧ Hid (Out (w.alloc (.cells #[.int .i64 0, .slice none 0 0, .slice none 0 0, .slice none 0 0] 36)) wr 3 1 (.slice ap k cp) k (ints (List.replicate k (-1)))) ∧ Hid (Ext (fun _ => False) w wr)) (fun i _ => n - (intOf i).toNat)
  case atStart => exact ⟨0, Nat.zero_le _, rfl, none, 0, by simpa [Hid, Row] using heap_alloc_new w _, Out.nil _ _ _ _, (Ext.refl _ _).alloc _⟩
  case round =>
    obtain ⟨k, hk, rfl, ap, cp, HR, HO, HX⟩ := hrel
    have c1 : wr.cell? ⟨w.heap.size, 1, none⟩ = some (.slice ap k cp) := HR.out.cell 1
    have f1 : wr.frozen? ⟨w.heap.size, 1, none⟩ = false := HR.out.frozen 1
    have hgl := HR.out.lt
    by_cases hlt : k < n
    · have hd1 : decide ((k : Int) < t) = true := decide_eq_true (by omega)
      have hd2 : decide ((k : Int) < 100) = true := decide_eq_true (by omega)
      have hmk : k + 1 ≤ maxLen := by unfold maxLen; omega
      have hne := own_ne HR.out HO.out.own (by decide)
      go_wp2_with (at_builtin; refine wp_own rfl (.tmp 20) (.tmp 21) 22 3 (.int .i64 0) 1 8 rfl Try.underlying22 Try.info3 rfl (by decide) (.slice ap k cp) k _ rfl (HO.out.own.alloc _) ⟨_, 0, none⟩ 1 1 [.int .i64 (-1)] rfl rfl (by exact news_at _ _ _ _ (by simp)) (by simp [Value.oneCell']) hmk (by omega) ?_; intro v' w1 hown hgrow hat; have Xb : Ext (Bk (.slice ap k cp)) wr w1 := ((Ext.refl _ wr).alloc _).grown hgrow (fun k e => Or.inl e); have r1 := HR.out.ext Xb hne; have e1 := r1.cell 1; have e2 := r1.frozen 1; obtain ⟨g', cap', rfl, hx1, hx2⟩ := hown.form (by omega))
      have ho := own_ints_app hown
      have hnew : ∀ b, Bk (.slice (some ⟨g', 0, none⟩) (k + 1) cap') b → (w.alloc (.cells #[.int .i64 0, .slice none 0 0, .slice none 0 0, .slice none 0 0] 36)).heap.size ≤ b := fun b hb => by
        rcases hat with e | e
        · exact HO.out.new b (e.symm.trans hb)
        · have h1 : (wr.alloc (.cells #[.int .i64 (-1)] 3)).heap.size = b := by have := e.symm.trans hb; simpa using this
          rw [← h1]; simp; omega
      refine ⟨⟨k + 1, by omega, by go_num, _, _, r1.set 1 _, ⟨own_set ho (own_ne r1 ho (by decide)), hnew⟩, (HX.out.then_ Xb (fun i hi => Or.inr ?_)).setCell (Or.inr (Nat.le_refl _)) _⟩, by simp [intOf]; omega⟩
      have := HO.out.new i hi
      simp at this; omega
    · obtain rfl : k = n := by omega
      have hkl : (List.replicate k (-1 : Int)).length = k := by simp
      have key : Hid (Rf wr (Gr (fun _ => False) w wr) w.heap.size 0 (List.replicate k (-1)) [] ap cp none 0 none 0) := by
        refine ⟨by rw [hkl]; exact HR.out, by rw [hkl]; exact HO.out.own, World.ownsRow_nil _ _ _ _, World.ownsRow_nil _ _ _ _, Or.inr ⟨Nat.le_refl _, HR.out.lt⟩, fun b hb => Or.inr ?_, fun b hb => by simp [Bk, Value.ownBlock] at hb, fun b hb => by simp [Bk, Value.ownBlock] at hb, fun b _ hb => by simp [Bk, Value.ownBlock] at hb, fun b _ hb => by simp [Bk, Value.ownBlock] at hb, fun b _ hb => by simp [Bk, Value.ownBlock] at hb⟩
        rw [hkl] at hb
        have h1 := HO.out.new b hb
        have h2 := own_lt HO.out.own b hb
        simp at h1
        exact ⟨by omega, h2⟩
      have hd1 : decide ((k : Int) < t) = false := decide_eq_false (by omega)
      clear c1 f1 hkl
      go_wp2_with fail
      go_ret
      exact ⟨_, _, _, rfl, key.out, HX.out⟩
end Go.Proofs.Ytibpmhfompoepaa
