/- The methods of epoc.Epochs that write. -/
import Derived.Test.YtibpmhfompoepaaEpRd
namespace Go.Proofs.Ytibpmhfompoepaa
open Go.RowKit
set_option linter.unusedSimpArgs false
set_option linter.unusedVariables false
section
variable {w : World} {F : Nat → Prop} {g : Nat} {now : Int} {pins : List Int} {l : List (Int × Int)} {ap : Option Addr} {cp : Nat} {al : Option Addr} {cl : Nat}

theorem Ep.setp {gp : Nat} (h : Ep w F g now pins l (some ⟨gp, 0, none⟩) cp al cl) (i : Nat) (x : Int) :
    Ep (w.setCell ⟨gp, i, none⟩ (.int .i64 x)) F g now (pins.set i x) l (some ⟨gp, 0, none⟩) cp al cl ∧ Ext F w (w.setCell ⟨gp, i, none⟩ (.int .i64 x)) := by
  have hl : (pins.set i x).length = pins.length := by simp
  have hs := (h.pin.stored i (.int .i64 x)).1
  have hx : (ints pins).set i (.int .i64 x) = ints (pins.set i x) := by simp [ints, List.map_set]
  have X : Ext (fun k => k = gp) w (w.setCell ⟨gp, i, none⟩ (.int .i64 x)) := Ext.setCell (F := fun k => k = gp) (p := ⟨gp, i, none⟩) (Ext.refl _ w) (Or.inl rfl) _
  obtain ⟨cs, hrow⟩ := own_row h.pin gp rfl
  have hg : g ≠ gp := fun e => by subst e; exact absurd (Row.type h.row hrow) (by decide)
  exact ⟨⟨by rw [hl]; exact h.row.ext X hg, by rw [hl, ← hx]; exact hs, own_ext h.wait X (fun k e he => by subst he; exact own_ne hrow h.wait (by decide) e), h.fg, by rw [hl]; exact h.fp, h.fl⟩, X.mono (fun k e => by subst e; exact h.fp _ rfl)⟩

/-- Can a thread be pinned? -/
def pinOk (pins : List Int) (t : Int) : Bool := inP pins t && !(pinnedAt pins t).2
set_option maxHeartbeats 1000000 in
theorem pin_no (h : Ep w F g now pins l ap cp al cl) (hp : ∀ x ∈ pins, 0 ≤ x ∧ x ≤ 1000) (t : Int) (hok : pinOk pins t = false) :
    Calls Try.prog 6 #[.pointer (some ⟨g, 0, none⟩), .int .i64 t] w fun e w' => e = .returned (.bool false) ∧ w = w' := by
  rcases hpt : pinnedAt pins t with ⟨p, b⟩
  have hpt := Lib.hid hpt
  cases b with
  | true =>
    clear hok
    go_enter Try.func6, Try.ntmps6
    go_wp2_with (go_at_call 15; refine (pinned_ h hp _ _ _ hpt.out).mono ?_; rintro e w' ⟨rfl, rfl⟩)
    go_ret
    exact ⟨rfl, rfl⟩
  | false =>
    have hin : Hid (inP pins t = false) := by simp [pinOk, hpt.out] at hok; exact hok
    clear hok
    go_enter Try.func6, Try.ntmps6
    go_wp2_with (first | (go_at_call 15; refine (pinned_ h hp _ _ _ hpt.out).mono ?_; rintro e w' ⟨rfl, rfl⟩) | (go_at_call 19; refine (has_ h _ false hin.out).mono ?_; rintro e w' ⟨rfl, rfl⟩))
    go_ret
    exact ⟨rfl, rfl⟩
set_option maxHeartbeats 1000000 in
theorem pin_yes (h : Ep w F g now pins l ap cp al cl) (hp : ∀ x ∈ pins, 0 ≤ x ∧ x ≤ 1000) (hn : 0 ≤ now ∧ now ≤ 900) (i : Nat) (hok : pinOk pins i = true) :
    Calls Try.prog 6 #[.pointer (some ⟨g, 0, none⟩), .int .i64 i] w fun e w' => e = .returned (.bool true) ∧ Ep w' F g now (pins.set i (now + 1)) l ap cp al cl ∧ Ext F w w' := by
  obtain ⟨hn1, hn2⟩ := hn
  have hin : inP pins i = true := by simp [pinOk] at hok; exact hok.1
  have hi : i < pins.length := by simp [inP] at hin; omega
  obtain ⟨gp, rfl, hc, hf, _⟩ := h.pinCell i hi
  have c0 : w.cell? ⟨g, 0, none⟩ = some (.int .i64 now) := h.row.cell 0
  have c1 : w.cell? ⟨g, 1, none⟩ = some (.slice (some ⟨gp, 0, none⟩) pins.length cp) := h.row.cell 1
  rcases hpt : pinnedAt pins i with ⟨p, b⟩
  have hb : b = false := by simp [pinOk, hpt] at hok; exact hok.2
  subst hb
  have hpt := Lib.hid hpt
  have hin := Lib.hid hin
  clear hok
  have hi0 : (0 : Int) ≤ (i : Int) := by omega
  have hi1 : (i : Int) < (pins.length : Int) := by omega
  go_enter Try.func6, Try.ntmps6
  go_wp2_with (first | (go_at_call 15; refine (pinned_ h hp _ _ _ hpt.out).mono ?_; rintro e w' ⟨rfl, rfl⟩) | (go_at_call 19; refine (has_ h _ true hin.out).mono ?_; rintro e w' ⟨rfl, rfl⟩))
  go_region
  all_goals
    go_wp2
    go_ret
    have hs := h.setp i (now + 1)
    exact ⟨rfl, by first | exact hs.1 | exact hs.1.drawn (Drawn.refl _).step1, by first | exact hs.2 | exact hs.2.drew⟩
set_option maxHeartbeats 1000000 in
theorem unpin_no (h : Ep w F g now pins l ap cp al cl) (hp : ∀ x ∈ pins, 0 ≤ x ∧ x ≤ 1000) (t p : Int) (hok : pinnedAt pins t = (p, false)) :
    Calls Try.prog 8 #[.pointer (some ⟨g, 0, none⟩), .int .i64 t] w fun e w' => e = .returned (.bool false) ∧ w = w' := by
  have hpt := Lib.hid hok
  clear hok
  go_enter Try.func8, Try.ntmps8
  go_wp2_with (go_at_call 15; refine (pinned_ h hp _ _ _ hpt.out).mono ?_; rintro e w' ⟨rfl, rfl⟩)
  go_ret
  exact ⟨rfl, rfl⟩
set_option maxHeartbeats 1000000 in
theorem unpin_yes (h : Ep w F g now pins l ap cp al cl) (hp : ∀ x ∈ pins, 0 ≤ x ∧ x ≤ 1000) (i : Nat) (p : Int) (hok : pinnedAt pins i = (p, true)) :
    Calls Try.prog 8 #[.pointer (some ⟨g, 0, none⟩), .int .i64 i] w fun e w' => e = .returned (.bool true) ∧ Ep w' F g now (pins.set i 0) l ap cp al cl ∧ Ext F w w' := by
  have hi : i < pins.length := by
    unfold pinnedAt at hok
    split at hok
    · rename_i hh; have := hh.1; simp [inP] at this; omega
    · simp at hok
  obtain ⟨gp, rfl, hc, hf, _⟩ := h.pinCell i hi
  have c1 : w.cell? ⟨g, 1, none⟩ = some (.slice (some ⟨gp, 0, none⟩) pins.length cp) := h.row.cell 1
  have hpt := Lib.hid hok
  clear hok
  have hi0 : (0 : Int) ≤ (i : Int) := by omega
  have hi1 : (i : Int) < (pins.length : Int) := by omega
  go_enter Try.func8, Try.ntmps8
  go_wp2_with (go_at_call 15; refine (pinned_ h hp _ _ _ hpt.out).mono ?_; rintro e w' ⟨rfl, rfl⟩)
  have hs := h.setp i 0
  go_ret
  exact ⟨rfl, by first | exact hs.1 | exact hs.1.drawn (Drawn.refl _).step1, by first | exact hs.2 | exact hs.2.drew⟩
set_option maxHeartbeats 1000000 in
theorem waiting_ (h : Ep w F g now pins l ap cp al cl) (hl : l.length ≤ 1000) :
    Calls Try.prog 17 #[.pointer (some ⟨g, 0, none⟩)] w fun e w' => ∃ v, e = .returned v ∧ w'.ownsRow 0 3 1 v l.length (ints (l.map (·.1))) ∧ (∀ k, Bk v k → w.heap.size ≤ k) ∧ Ext (fun _ => False) w w' := by
  have c2 : w.cell? ⟨g, 2, none⟩ = some (.slice al l.length cl) := h.row.cell 2
  go_enter Try.func17, Try.ntmps17
  go_wp2
  go_loopw [3, 11] (fun v i wr => ∃ k : Nat, k ≤ l.length ∧ i = .int .i64 k ∧ Hid (Out w wr 3 1 v k (ints ((l.take k).map (·.1)))) ∧ Hid (Ext (fun _ => False) w wr)) (fun _ i _ => l.length - (intOf i).toNat)
  case atStart => exact ⟨0, Nat.zero_le _, rfl, Out.nil _ _ _ _, Ext.refl _ _⟩
  case round =>
    obtain ⟨k, hk, rfl, HO, HX⟩ := hrel
    by_cases hlt : k < l.length
    · obtain ⟨b, ea⟩ := own_addr h.wait (by omega)
      cases ea
      have hw := own_ext h.wait HX.out (fun _ _ x => x)
      obtain ⟨q1, q2⟩ := waits_at l k _ (List.getElem?_eq_getElem hlt)
      have d1 := own_cell hw _ _ q1
      have d2 := own_cell hw _ _ q2
      have hsn : Hid (ints ((l.take (k + 1)).map (·.1)) = ints ((l.take k).map (·.1)) ++ [.int .i64 l[k].1]) := by
        rw [← List.take_append_getElem hlt, List.map_append, ints, List.map_append]; rfl
      clear q1 q2 hw
      generalize l[k] = q at *
      have hmk : k + 1 ≤ maxLen := by unfold maxLen; omega
      go_wp2_with (at_builtin; refine wp_own rfl (.tmp 15) (.tmp 18) 22 3 (.int .i64 0) 1 8 rfl Try.underlying22 Try.info3 rfl (by decide) u3 _ _ rfl ((HO.out.own.alloc _).alloc _) ⟨_, 0, none⟩ 1 1 [.int .i64 q.1] rfl rfl (by exact news_at _ _ _ _ (by simp)) (by simp [Value.oneCell']) hmk (by omega) ?_; intro v' w1 hown hgrow hat)
      obtain ⟨o1, o2, _⟩ := HO.out.app HX.out (((Ext.refl _ wr).alloc _).alloc _) hown hgrow hat
      go_roundw
      case rel => exact ⟨k + 1, by omega, by go_num, by rw [Hid, hsn.out]; exact o1, o2⟩
      case measure => simp [intOf]; omega
    · obtain rfl : k = l.length := by omega
      have HO' := HO.out
      rw [List.take_length] at HO'
      have HO' := Lib.hid HO'
      clear HO
      go_wp2
      go_ret
      exact ⟨_, rfl, HO'.out.own, HO'.out.new, HX.out⟩
set_option maxHeartbeats 1000000 in
theorem advance_no (h : Ep w F g now pins l ap cp al cl) (hp : ∀ x ∈ pins, 0 ≤ x ∧ x ≤ 1000) (hpl : pins.length ≤ 1000) (hcan : can now pins = false) :
    Calls Try.prog 12 #[.pointer (some ⟨g, 0, none⟩)] w fun e w' => e = .returned (.tuple #[.slice none 0 0, .bool false]) ∧ Drawn w w' := by
  have hcan := Lib.hid hcan
  go_enter Try.func12, Try.ntmps12
  go_wp2_with (go_at_call 20; refine (can_ h hp hpl).mono ?_; rintro e w' ⟨rfl, nd, rfl⟩; rw [hcan.out])
  go_ret2
  exact ⟨rfl, (Drawn.refl _).step _⟩
/-- What is given back, and what waits on. -/
def gone (now : Int) (l : List (Int × Int)) : List Int := (l.filter fun p => decide (p.2 ≤ now - 2)).map (·.1)
def stay (now : Int) (l : List (Int × Int)) : List (Int × Int) := l.filter fun p => !decide (p.2 ≤ now - 2)
theorem gone_le (now : Int) (l : List (Int × Int)) : (gone now l).length ≤ l.length := by simp only [gone, List.length_map]; exact List.length_filter_le _ _
theorem stay_le (now : Int) (l : List (Int × Int)) : (stay now l).length ≤ l.length := List.length_filter_le _ _
theorem gone_snoc (now : Int) (l : List (Int × Int)) (k : Nat) (hk : k < l.length) : gone now (l.take (k + 1)) = if l[k].2 ≤ now - 2 then gone now (l.take k) ++ [l[k].1] else gone now (l.take k) := by
  unfold gone
  rw [← List.take_append_getElem hk, List.filter_append, List.map_append]
  by_cases h : l[k].2 ≤ now - 2 <;> simp [h]
theorem stay_snoc (now : Int) (l : List (Int × Int)) (k : Nat) (hk : k < l.length) : stay now (l.take (k + 1)) = if l[k].2 ≤ now - 2 then stay now (l.take k) else stay now (l.take k) ++ [l[k]] := by
  unfold stay
  rw [← List.take_append_getElem hk, List.filter_append]
  by_cases h : l[k].2 ≤ now - 2 <;> simp [h]
/-- The epoch changes. -/
theorem Ep.setn (h : Ep w F g now pins l ap cp al cl) (nd : Nat) (x : Int) : Ep ((w.drewN nd).setCell ⟨g, 0, none⟩ (.int .i64 x)) F g x pins l ap cp al cl := by
  have h' := h.drawn ((Drawn.refl w).step nd)
  exact ⟨h'.row.set 0 _, own_set h'.pin (own_ne h'.row h'.pin (by decide)), own_set h'.wait (own_ne h'.row h'.wait (by decide)), h.fg, h.fp, h.fl⟩
set_option maxHeartbeats 1000000 in
theorem advance_yes (h : Ep w F g now pins l ap cp al cl) (hp : ∀ x ∈ pins, 0 ≤ x ∧ x ≤ 1000) (hpl : pins.length ≤ 1000) (hl : l.length ≤ 1000) (hn : 0 ≤ now ∧ now ≤ 900) (hcan : can now pins = true) :
    Calls Try.prog 12 #[.pointer (some ⟨g, 0, none⟩)] w fun e w' => ∃ v al' cl', e = .returned (.tuple #[v, .bool true]) ∧ Out w w' 3 1 v (gone (now + 1) l).length (ints (gone (now + 1) l)) ∧ Ep w' (Gr F w w') g (now + 1) pins (stay (now + 1) l) ap cp al' cl' ∧ Ext F w w' := by
  have c0 : w.cell? ⟨g, 0, none⟩ = some (.int .i64 now) := h.row.cell 0
  have c2 : w.cell? ⟨g, 2, none⟩ = some (.slice al l.length cl) := h.row.cell 2
  have f0 : w.frozen? ⟨g, 0, none⟩ = false := h.row.frozen 0
  obtain ⟨hn1, hn2⟩ := hn
  have hcan := Lib.hid hcan
  go_enter Try.func12, Try.ntmps12
  go_wp2_with (go_at_call 20; refine (can_ h hp hpl).mono ?_; rintro e w' ⟨rfl, nd, rfl⟩; rw [hcan.out])
  have X0 : Ext (fun k => k = g) w ((w.drewN nd).setCell ⟨g, 0, none⟩ (.int .i64 (now + 1))) := Ext.setCell (F := fun k => k = g) (p := ⟨g, 0, none⟩) ((Ext.refl _ w).drewN nd) (Or.inl rfl) _
  have H1 := h.setn nd (now + 1)
  have hsz : ((w.drewN nd).setCell ⟨g, 0, none⟩ (.int .i64 (now + 1))).heap.size = w.heap.size := by simp
  have hsz := Lib.hid hsz
  clear h c0 c2 f0
  generalize (w.drewN nd).setCell ⟨g, 0, none⟩ (.int .i64 (now + 1)) = W0 at *
  have e0 : W0.cell? ⟨g, 0, none⟩ = some (.int .i64 (now + 1)) := H1.row.cell 0
  go_loopw [4, 5, 23] (fun v u i wr => ∃ k : Nat, k ≤ l.length ∧ i = .int .i64 k ∧ Hid (Out W0 wr 3 1 v (gone (now + 1) (l.take k)).length (ints (gone (now + 1) (l.take k)))) ∧ Hid (Out W0 wr 45 2 u (stay (now + 1) (l.take k)).length (waits (stay (now + 1) (l.take k)))) ∧ Hid (Ext (fun _ => False) W0 wr)) (fun _ _ i _ => l.length - (intOf i).toNat)
  case atStart => exact ⟨0, Nat.zero_le _, rfl, Out.nil _ _ _ _, Out.nil _ _ _ _, Ext.refl _ _⟩
  case round =>
    obtain ⟨k, hk, rfl, HO, HU, HX⟩ := hrel
    by_cases hlt : k < l.length
    · obtain ⟨b, ea⟩ := own_addr H1.wait (by omega)
      cases ea
      have hw := own_ext H1.wait HX.out (fun _ _ x => x)
      have e0 : wr.cell? ⟨g, 0, none⟩ = some (.int .i64 (now + 1)) := (H1.row.ext HX.out (fun x => x)).cell 0
      have hgl : g < wr.heap.size := (H1.row.ext HX.out (fun x => x)).lt
      obtain ⟨q1, q2⟩ := waits_at l k _ (List.getElem?_eq_getElem hlt)
      have d1 := own_cell hw _ _ q1
      have d2 := own_cell hw _ _ q2
      have hlen : (gone (now + 1) (l.take k)).length ≤ 1000 ∧ (stay (now + 1) (l.take k)).length ≤ 1000 := by
        have := gone_le (now + 1) (l.take k); have := stay_le (now + 1) (l.take k); have : (l.take k).length ≤ k := List.length_take_le _ _; omega
      obtain ⟨hlen1, hlen2⟩ := hlen
      have hmk1 : (gone (now + 1) (l.take k)).length + 1 ≤ maxLen := by unfold maxLen; omega
      have hmk2 : (stay (now + 1) (l.take k)).length + 1 ≤ maxLen := by unfold maxLen; omega
      have hgs := Lib.hid (gone_snoc (now + 1) l k hlt)
      have hss := Lib.hid (stay_snoc (now + 1) l k hlt)
      clear q1 q2 hw
      generalize l[k] = q at *
      by_cases hc : q.2 ≤ now + 1 - 2
      · have hd : decide (q.2 ≤ now + 1 - 2) = true := decide_eq_true hc
        rw [Hid, if_pos hc] at hgs hss
        have hgs := Lib.hid hgs; have hss := Lib.hid hss
        go_wp2_with fail
        go_quiet (fail)
        go_wp2_with (at_builtin; refine wp_out rfl (.tmp 35) (.tmp 38) 22 3 (.int .i64 0) 1 8 rfl Try.underlying22 Try.info3 rfl (by decide) u4 _ _ rfl HO.out HX.out (by repeat' (first | exact Ext.refl _ _ | apply Ext.alloc | apply Ext.drewN | apply Ext.drew)) ⟨_, 0, none⟩ 1 1 [.int .i64 q.1] rfl rfl (by exact news_at _ _ _ _ (by simp)) (by simp [Value.oneCell']) hmk1 (by omega) ?_; intro v' w1 o1 o2 o3)
        have hu := HU.out.ext o3 (own_ne2 HU.out.own HO.out.own (by decide))
        go_roundw
        case rel => exact ⟨k + 1, by omega, by go_num, by rw [Hid, hgs.out]; simpa [ints] using o1, by rw [Hid, hss.out]; exact hu, o2⟩
        case measure => simp [intOf]; omega
      · have hd : decide (q.2 ≤ now + 1 - 2) = false := decide_eq_false hc
        rw [Hid, if_neg hc] at hgs hss
        have hgs := Lib.hid hgs; have hss := Lib.hid hss
        have hc' : now + 1 - 2 < q.2 := by omega
        clear hc
        go_wp2_with fail
        go_quiet (fail)
        go_wp2_with (at_builtin; refine wp_out rfl (.tmp 40) (.tmp 42) 41 45 (.agg #[.int .i64 0, .int .i64 0]) 2 16 rfl Try.underlying41 Try.info45 rfl (by decide) u5 _ _ rfl HU.out HX.out (by repeat' (first | exact Ext.refl _ _ | apply Ext.alloc | apply Ext.drewN | apply Ext.drew)) ⟨_, 0, none⟩ 1 1 [.int .i64 q.1, .int .i64 q.2] rfl rfl (by exact news_at _ _ _ _ (by simp)) (by simp [Value.oneCell']) hmk2 (by omega) ?_; intro v' w1 o1 o2 o3)
        have hu := HO.out.ext o3 (own_ne2 HO.out.own HU.out.own (by decide))
        go_roundw
        case rel => exact ⟨k + 1, by omega, by go_num, by rw [Hid, hgs.out]; exact hu, by rw [Hid, hss.out]; simpa [waits] using o1, o2⟩
        case measure => simp [intOf]; omega
    · obtain rfl : k = l.length := by omega
      rw [List.take_length] at HO HU
      have HO := Lib.hid HO.out
      have HU := Lib.hid HU.out
      have e2 : wr.cell? ⟨g, 2, none⟩ = some (.slice al l.length cl) := (H1.row.ext HX.out (fun x => x)).cell 2
      have e2f : wr.frozen? ⟨g, 2, none⟩ = false := (H1.row.ext HX.out (fun x => x)).frozen 2
      obtain ⟨al', cl', rfl⟩ := own_form HU.out.own
      go_wp2
      go_ret2
      obtain ⟨s1, s2⟩ := H1.setl (HX.out.mono (fun _ x => x.elim)) HU.out.own (fun k e => Or.inr (HU.out.new k e))
      have X1 : Ext F w W0 := X0.mono (fun k e => by rw [e]; exact H1.fg)
      have Xw := (Ext.refl (fun k => k = g) wr).setCell (p := ⟨g, 2, none⟩) (Or.inl rfl) (.slice al' (stay (now + 1) l).length cl')
      have hO := HO.out.ext Xw (fun k hk e => by subst e; exact own_ne (H1.row.ext HX.out (fun x => x)) HO.out.own (by decide) hk)
      refine ⟨_, al', cl', rfl, ⟨hO.own, fun b hb => by have := hO.new b hb; rw [hsz.out] at this; exact this⟩, s1.mono (fun k hk => ?_), X1.trans s2⟩
      simpa [Gr, hsz.out] using hk
end
end Go.Proofs.Ytibpmhfompoepaa
