/- Advance of polyptychref16.Epochs. -/
import Derived.Test.YtibpmhfompoepaaRfWr
namespace Go.Proofs.Ytibpmhfompoepaa
open Go.RowKit
set_option linter.unusedSimpArgs false
set_option linter.unusedVariables false
section
variable {w : World} {F : Nat → Prop} {g : Nat} {now : Int} {ps : List Int} {l : List (Int × Int)} {ap : Option Addr} {cp : Nat} {al : Option Addr} {cl : Nat} {aw : Option Addr} {cw : Nat}
def rfree1 (now x : Int) : Bool := !(decide (0 ≤ x) && decide (x < now))
def rcan (now : Int) (ps : List Int) : Bool := ps.all (rfree1 now)
theorem rcan_snoc (now : Int) (pins : List Int) (k : Nat) (hk : k < pins.length) : rcan now (pins.take (k + 1)) = (rcan now (pins.take k) && rfree1 now (pins.getD k 0)) := by
  unfold rcan
  have e : pins.getD k 0 = pins[k] := by simp [List.getD_eq_getElem?_getD, hk]
  rw [e, ← List.take_append_getElem hk, List.all_append]
  simp
theorem rcan_no (now : Int) (pins : List Int) (k : Nat) (hk : k < pins.length) (h : rfree1 now (pins.getD k 0) = false) : rcan now pins = false := by
  rw [rcan, List.all_eq_false]
  exact ⟨pins.getD k 0, by simp [List.getD_eq_getElem?_getD, hk], by rw [h]; simp⟩
/-- The epoch changes. -/
theorem Rf.setn (h : Rf w F g now ps l ap cp al cl aw cw) (x : Int) : Rf (w.setCell ⟨g, 0, none⟩ (.int .i64 x)) F g x ps l ap cp al cl aw cw :=
  ⟨h.row.set 0 _, own_set h.pin (own_ne h.row h.pin (by decide)), own_set h.wait (own_ne h.row h.wait (by decide)), own_set h.when_ (own_ne h.row h.when_ (by decide)), h.fg, h.fp, h.fl, h.fw, h.d1, h.d2, h.d3⟩
/-- The three rows that Advance makes. -/
structure Trio (W wr : World) (u v x : Value) (a b c : List Int) : Prop where
  o1 : Out W wr 3 1 u a.length (ints a)
  o2 : Out W wr 3 1 v b.length (ints b)
  o3 : Out W wr 3 1 x c.length (ints c)
  d12 : ∀ k, Bk u k → ¬ Bk v k
  d13 : ∀ k, Bk u k → ¬ Bk x k
  d23 : ∀ k, Bk v k → ¬ Bk x k
theorem Trio.ext {W wr w' : World} {u v x : Value} {a b c : List Int} (h : Trio W wr u v x a b c) (X : Ext (fun _ => False) wr w') : Trio W w' u v x a b c :=
  ⟨h.o1.ext X (fun _ _ x => x), h.o2.ext X (fun _ _ x => x), h.o3.ext X (fun _ _ x => x), h.d12, h.d13, h.d23⟩

theorem out_len {W wr : World} {t size n m : Nat} {v : Value} {xs : List Value} (h : Out W wr t size v n xs) (e : n = m) : Out W wr t size v m xs := by subst e; exact h
theorem trio1 {W wr w1 : World} {u v x u' : Value} {a b c : List Int} {q : Int} {m : Nat} (h : Trio W wr u v x a b c) (o1 : Out W w1 3 1 u' (a.length + 1) (ints a ++ [.int .i64 q])) (X : Ext (Bk u) wr w1) (o4 : ∀ k, Bk u' k → Bk u k ∨ k = m) (hm : wr.heap.size ≤ m) :
    Trio W w1 u' v x (a ++ [q]) b c :=
  ⟨by simpa [ints] using o1, h.o2.ext X (dis_symm h.d12), h.o3.ext X (dis_symm h.d13), dis_symm (dis_app (dis_symm h.d12) (own_lt h.o2.own) o4 hm), dis_symm (dis_app (dis_symm h.d13) (own_lt h.o3.own) o4 hm), h.d23⟩
theorem trio2 {W wr w1 : World} {u v x v' : Value} {a b c : List Int} {q : Int} {m : Nat} (h : Trio W wr u v x a b c) (o1 : Out W w1 3 1 v' (b.length + 1) (ints b ++ [.int .i64 q])) (X : Ext (Bk v) wr w1) (o4 : ∀ k, Bk v' k → Bk v k ∨ k = m) (hm : wr.heap.size ≤ m) :
    Trio W w1 u v' x a (b ++ [q]) c :=
  ⟨h.o1.ext X h.d12, by simpa [ints] using o1, h.o3.ext X (dis_symm h.d23), dis_app h.d12 (own_lt h.o1.own) o4 hm, h.d13, dis_symm (dis_app (dis_symm h.d23) (own_lt h.o3.own) o4 hm)⟩
theorem trio3 {W wr w1 : World} {u v x x' : Value} {a b c : List Int} {q : Int} {m : Nat} (h : Trio W wr u v x a b c) (o1 : Out W w1 3 1 x' (c.length + 1) (ints c ++ [.int .i64 q])) (X : Ext (Bk x) wr w1) (o4 : ∀ k, Bk x' k → Bk x k ∨ k = m) (hm : wr.heap.size ≤ m) :
    Trio W w1 u v x' a b (c ++ [q]) :=
  ⟨h.o1.ext X h.d13, h.o2.ext X h.d23, by simpa [ints] using o1, h.d12, dis_app h.d13 (own_lt h.o1.own) o4 hm, dis_app h.d23 (own_lt h.o2.own) o4 hm⟩

theorem trio23 {W wr w1 w2 : World} {u v x v1 x2 : Value} {a b c : List Int} {p q : Int} {m1 m2 : Nat} (h : Trio W wr u v x a b c) (X : Ext (fun _ => False) W wr)
    (hown1 : w1.ownsRow 0 3 1 v1 (b.length + 1) (ints b ++ [.int .i64 p])) (hown2 : w2.ownsRow 0 3 1 x2 (c.length + 1) (ints c ++ [.int .i64 q]))
    (E1 : Ext (fun k => False ∨ Bk v k) wr w1) (E12 : Ext (Bk x) w1 w2) (hat1 : ∀ k, Bk v1 k → Bk v k ∨ k = m1) (hat2 : ∀ k, Bk x2 k → Bk x k ∨ k = m2) (hm1 : wr.heap.size ≤ m1) (hm2 : w1.heap.size ≤ m2) :
    Trio W w2 u v1 x2 a (b ++ [p]) (c ++ [q]) ∧ Ext (fun _ => False) W w2 := by
  have E1' : Ext (Bk v) wr w1 := E1.mono (fun k e => e.elim (fun e => e.elim) (fun e => e))
  have hX1 : Ext (fun _ => False) W w1 := X.then_ E1' (fun k e => Or.inr (h.o2.new k e))
  have t1 := trio2 (q := p) h ⟨hown1, fun k e => by
    rcases hat1 k e with e | e
    · exact h.o2.new k e
    · have := X.size; omega⟩ E1' hat1 hm1
  have t2 := trio3 (q := q) t1 ⟨hown2, fun k e => by
    rcases hat2 k e with e | e
    · exact h.o3.new k e
    · have := X.size; have := E1.size; omega⟩ E12 hat2 hm2
  exact ⟨t2, hX1.then_ E12 (fun k e => Or.inr (h.o3.new k e))⟩

set_option maxHeartbeats 2000000 in
theorem radvance_no (h : Rf w F g now ps l ap cp al cl aw cw) (hpl : ps.length ≤ 1000) (hcan : rcan now ps = false) :
    Calls Try.prog 13 #[.pointer (some ⟨g, 0, none⟩)] w fun e w' => e = .returned (.tuple #[.slice none 0 0, .bool false]) ∧ Drawn w w' := by
  go_enter Try.func13, Try.ntmps13
  go_wp2
  go_loopw [4] (fun i wr => ∃ k : Nat, k ≤ ps.length ∧ i = .int .i64 k ∧ Hid (rcan now (ps.take k) = true) ∧ Hid (Drawn w wr)) (fun i _ => ps.length - (intOf i).toNat)
  case atStart => exact ⟨0, Nat.zero_le _, rfl, by simp [Hid, rcan], Drawn.refl _⟩
  case round =>
    obtain ⟨k, hk, rfl, HC, HD⟩ := hrel
    have hR := h.drawn HD.out
    have c0 : wr.cell? ⟨g, 0, none⟩ = some (.int .i64 now) := hR.row.cell 0
    have c1 : wr.cell? ⟨g, 1, none⟩ = some (.slice ap ps.length cp) := hR.row.cell 1
    by_cases hlt : k < ps.length
    · obtain ⟨gp, ea, hc, hf, _⟩ := hR.pinCell k hlt
      cases ea
      have hsn := Lib.hid (rcan_snoc now ps k hlt)
      generalize ps.getD k 0 = q at *
      have k0 : (0 : Int) ≤ (k : Int) := by omega
      have k1 : (k : Int) < (ps.length : Int) := by omega
      have hcan := Lib.hid hcan
      by_cases h1 : 0 ≤ q
      · have hd1 : decide (0 ≤ q) = true := decide_eq_true h1
        by_cases h2 : q < now
        · have hd2 : decide (q < now) = true := decide_eq_true h2
          go_wp2
          go_quiet (fail)
          go_wp2
          go_ret2
          exact ⟨rfl, HD.out.step _⟩
        · have hd2 : decide (q < now) = false := decide_eq_false h2
          have hfr : Hid (rfree1 now q = true) := by simp [Hid, rfree1, h1, h2]
          have h3 : now ≤ q := by omega
          clear h2
          go_wp2
          go_quiet (fail)
          go_wp2
          go_roundw
          case rel => exact ⟨k + 1, by omega, by go_num, by rw [Hid, hsn.out, HC.out, hfr.out]; rfl, HD.out.step _⟩
          case measure => simp [intOf]; omega
      · have hd1 : decide (0 ≤ q) = false := decide_eq_false h1
        have hfr : Hid (rfree1 now q = true) := by simp [Hid, rfree1, h1]
        have h3 : q < 0 := by omega
        clear h1
        go_wp2
        go_quiet (fail)
        go_wp2
        go_roundw
        case rel => exact ⟨k + 1, by omega, by go_num, by rw [Hid, hsn.out, HC.out, hfr.out]; rfl, HD.out.step _⟩
        case measure => simp [intOf]; omega
    · have := HC.out
      rw [List.take_of_length_le (by omega), hcan] at this
      cases this
set_option maxHeartbeats 4000000 in
theorem radvance_yes (h : Rf w F g now ps l ap cp al cl aw cw) (hpl : ps.length ≤ 1000) (hl : l.length ≤ 1000) (hn : 0 ≤ now ∧ now ≤ 900) (hcan : rcan now ps = true) :
    Calls Try.prog 13 #[.pointer (some ⟨g, 0, none⟩)] w fun e w' => ∃ v al' cl' aw' cw', e = .returned (.tuple #[v, .bool true]) ∧ Out w w' 3 1 v (gone (now + 1) l).length (ints (gone (now + 1) l)) ∧ Rf w' (Gr F w w') g (now + 1) ps (stay (now + 1) l) ap cp al' cl' aw' cw' ∧ Ext F w w' := by
  obtain ⟨hn1, hn2⟩ := hn
  have hall : Hid (∀ k, k < ps.length → rfree1 now (ps.getD k 0) = true) := fun k hk => by
    cases hq : rfree1 now (ps.getD k 0) with
    | true => rfl
    | false => rw [rcan_no now ps k hk hq] at hcan; cases hcan
  clear hcan
  go_enter Try.func13, Try.ntmps13
  go_wp2
  go_loopw [4] (fun i wr => ∃ k : Nat, k ≤ ps.length ∧ i = .int .i64 k ∧ Hid (Drawn w wr)) (fun i _ => ps.length - (intOf i).toNat)
  case atStart => exact ⟨0, Nat.zero_le _, rfl, Drawn.refl _⟩
  case round =>
    obtain ⟨k, hk, rfl, HD⟩ := hrel
    have hR := h.drawn HD.out
    have c0 : wr.cell? ⟨g, 0, none⟩ = some (.int .i64 now) := hR.row.cell 0
    have c1 : wr.cell? ⟨g, 1, none⟩ = some (.slice ap ps.length cp) := hR.row.cell 1
    by_cases hlt : k < ps.length
    · obtain ⟨gp, ea, hc, hf, _⟩ := hR.pinCell k hlt
      cases ea
      have hfr := hall.out k hlt
      generalize ps.getD k 0 = q at *
      have k0 : (0 : Int) ≤ (k : Int) := by omega
      have k1 : (k : Int) < (ps.length : Int) := by omega
      by_cases h1 : 0 ≤ q
      · have hd1 : decide (0 ≤ q) = true := decide_eq_true h1
        have h2 : ¬ q < now := by simp [rfree1, h1] at hfr; omega
        have hd2 : decide (q < now) = false := decide_eq_false h2
        have h3 : now ≤ q := by omega
        clear h2 hfr
        go_wp2
        go_quiet (fail)
        go_wp2
        go_roundw
        case rel => exact ⟨k + 1, by omega, by go_num, HD.out.step _⟩
        case measure => simp [intOf]; omega
      · have hd1 : decide (0 ≤ q) = false := decide_eq_false h1
        have h3 : q < 0 := by omega
        clear h1 hfr
        go_wp2
        go_quiet (fail)
        go_wp2
        go_roundw
        case rel => exact ⟨k + 1, by omega, by go_num, HD.out.step _⟩
        case measure => simp [intOf]; omega
    · have hk1 : (ps.length : Int) ≤ (k : Int) := by omega
      have hkb : decide (k < ps.length) = false := decide_eq_false hlt
      have f0 : wr.frozen? ⟨g, 0, none⟩ = false := hR.row.frozen 0
      have X0 : Ext (fun k => k = g) w (wr.setCell ⟨g, 0, none⟩ (.int .i64 (now + 1))) := Ext.setCell (F := fun k => k = g) (p := ⟨g, 0, none⟩) (HD.out.ext _) (Or.inl rfl) _
      have H1 := hR.setn (now + 1)
      have hsz : Hid ((wr.setCell ⟨g, 0, none⟩ (.int .i64 (now + 1))).heap.size = w.heap.size) := by
        obtain ⟨n, rfl⟩ := HD.out
        simp [Hid, World.setCell]
      clear hlt
      go_wp2
      clear c0 c1 f0 hR h
      generalize wr.setCell ⟨g, 0, none⟩ (.int .i64 (now + 1)) = W0 at *
      go_loopw [5, 6, 7, 8] (fun u v x i wr => ∃ k : Nat, k ≤ l.length ∧ i = .int .i64 k ∧ Hid (Trio W0 wr u v x (gone (now + 1) (l.take k)) ((stay (now + 1) (l.take k)).map (·.1)) ((stay (now + 1) (l.take k)).map (·.2))) ∧ Hid (Ext (fun _ => False) W0 wr)) (fun _ _ _ i _ => l.length - (intOf i).toNat)
      case atStart => exact ⟨0, Nat.zero_le _, rfl, ⟨Out.nil _ _ _ _, Out.nil _ _ _ _, Out.nil _ _ _ _, dis_nil _, dis_nil _, dis_nil _⟩, Ext.refl _ _⟩
      case round =>
        obtain ⟨k, hk, rfl, HT, HX⟩ := hrel
        have H2 := H1.ext HX.out (fun _ _ x => x)
        have c0 : wr.cell? ⟨g, 0, none⟩ = some (.int .i64 (now + 1)) := H2.row.cell 0
        have c2 : wr.cell? ⟨g, 2, none⟩ = some (.slice al l.length cl) := H2.row.cell 2
        have c3 : wr.cell? ⟨g, 3, none⟩ = some (.slice aw l.length cw) := H2.row.cell 3
        have hgl := H2.row.lt
        by_cases hlt : k < l.length
        · obtain ⟨bl, ea⟩ := own_addr H2.wait (by omega)
          obtain ⟨bw, eb⟩ := own_addr H2.when_ (by omega)
          cases ea
          cases eb
          have d1 := own_cell H2.wait k (.int .i64 l[k].1) (by simp [ints, hlt])
          have d2 := own_cell H2.when_ k (.int .i64 l[k].2) (by simp [ints, hlt])
          have hlen : (gone (now + 1) (l.take k)).length ≤ 1000 ∧ (stay (now + 1) (l.take k)).length ≤ 1000 := by
            have := gone_le (now + 1) (l.take k); have := stay_le (now + 1) (l.take k); have : (l.take k).length ≤ k := List.length_take_le _ _; omega
          obtain ⟨hlen1, hlen2⟩ := hlen
          have hmk1 : (gone (now + 1) (l.take k)).length + 1 ≤ maxLen := by unfold maxLen; omega
          have hmk2 : (stay (now + 1) (l.take k)).length + 1 ≤ maxLen := by unfold maxLen; omega
          have hgs := Lib.hid (gone_snoc (now + 1) l k hlt)
          have hss := Lib.hid (stay_snoc (now + 1) l k hlt)
          have hq1 : Hid ((ints (l.map (·.1)))[k]? = some (.int .i64 l[k].1)) := by simp [Hid, ints, hlt]
          have hq2 : Hid ((ints (l.map (·.2)))[k]? = some (.int .i64 l[k].2)) := by simp [Hid, ints, hlt]
          generalize l[k] = q at *
          have k0 : (0 : Int) ≤ (k : Int) := by omega
          have k1 : (k : Int) < (l.length : Int) := by omega
          by_cases hc : q.2 ≤ now + 1 - 2
          · have hd : decide (q.2 ≤ now + 1 - 2) = true := decide_eq_true hc
            rw [Hid, if_pos hc] at hgs hss
            have hgs := Lib.hid hgs; have hss := Lib.hid hss
            go_wp2_with fail
            go_quiet (fail)
            go_wp2_with (at_builtin; refine wp_out2 rfl (.tmp 69) (.tmp 77) 22 3 (.int .i64 0) 1 8 rfl Try.underlying22 Try.info3 rfl (by decide) u5 _ _ rfl HT.out.o1 HX.out (by repeat' (first | exact Ext.refl _ _ | apply Ext.alloc | apply Ext.drewN | apply Ext.drew)) ⟨_, 0, none⟩ 1 1 [.int .i64 q.1] rfl rfl (by exact news_at _ _ _ _ (by simp)) (by simp [Value.oneCell']) hmk1 (by omega) ?_; intro v' w1 o1 o2 o3 o4)
            have T' := trio1 (q := q.1) HT.out o1 o3 o4 (by simp)
            go_roundw
            case rel => exact ⟨k + 1, by omega, by go_num, by rw [Hid, hgs.out, hss.out]; exact T', o2⟩
            case measure => simp [intOf]; omega
          · have hd : decide (q.2 ≤ now + 1 - 2) = false := decide_eq_false hc
            rw [Hid, if_neg hc] at hgs hss
            have hgs := Lib.hid hgs; have hss := Lib.hid hss
            have hc' : now + 1 - 2 < q.2 := by omega
            clear hc
            go_wp2_with fail
            go_quiet (fail)
            have ow2 := HT.out.o2
            have ow3 := HT.out.o3
            have dd := HT.out.d23
            have lb : bl < wr.heap.size := own_lt H2.wait bl rfl
            have lw : bw < wr.heap.size := own_lt H2.when_ bw rfl
            have old : ∀ k, k < W0.heap.size → ¬ Bk u6 k := fun k hk e => by have := ow2.new k e; omega
            have old3 : ∀ k, k < W0.heap.size → ¬ Bk u7 k := fun k hk e => by have := ow3.new k e; omega
            have og : g < W0.heap.size := H1.row.lt
            have ol : bl < W0.heap.size := own_lt H1.wait bl rfl
            have ow : bw < W0.heap.size := own_lt H1.when_ bw rfl
            have hlm : ((stay (now + 1) (l.take k)).map (·.1)).length = (stay (now + 1) (l.take k)).length := by simp
            have hlm3 : ((stay (now + 1) (l.take k)).map (·.2)).length = (stay (now + 1) (l.take k)).length := by simp
            have ow2' := Lib.hid (out_len ow2 hlm)
            have ow3' := Lib.hid (out_len ow3 hlm3)
            have hlm := Lib.hid hlm
            have hlm3 := Lib.hid hlm3
            clear ow2 ow3
            go_wp2_with fail
            go_region_held3 (fun w' => w'.cell? ⟨g, 2, none⟩ = some (.slice (some ⟨bl, 0, none⟩) l.length cl) ∧ w'.cell? ⟨g, 3, none⟩ = some (.slice (some ⟨bw, 0, none⟩) l.length cw) ∧ w'.cell? ⟨bl, k, none⟩ = some (.int .i64 q.1) ∧ w'.cell? ⟨bw, k, none⟩ = some (.int .i64 q.2)) (go_keep)
              (first
               | (refine step_app (w0 := wr) (G := fun _ => False) rfl (.tmp 79) (.tmp 87) 22 3 (.int .i64 0) 1 8 rfl Try.underlying22 Try.info3 rfl (by decide) u6 (stay (now + 1) (l.take k)).length _ rfl ow2'.out.own (by repeat' (first | exact Ext.refl _ _ | assumption | apply Ext.alloc | apply Ext.drewN | apply Ext.drew)) (fun _ _ x => x) ⟨_, 0, none⟩ 1 1 [.int .i64 q.1] rfl rfl (by first | exact World.news_of_block (heap_alloc_new _ _) | exact World.news_of_block (heap_old1 _ _ _) | exact World.news_of_block (heap_new1 _ _ _)) (by simp [Value.oneCell']) hmk2 (by omega) (fun v1 w1 hown1 X1 Y1 hat1 => ?_); have r1 := H2.row.ext X1 (fun e => e.elim (fun e => e) (old _ og)); have hg1 := r1.lt; have e2 := r1.cell 2; have e3 := r1.cell 3; have e4 := own_cell (own_ext H2.wait X1 (fun k hk e => e.elim (fun e => e) (old _ (own_lt H1.wait k hk)))) k (.int .i64 q.1) hq1.out; have e5 := own_cell (own_ext H2.when_ X1 (fun k hk e => e.elim (fun e => e) (old _ (own_lt H1.when_ k hk)))) k (.int .i64 q.2) hq2.out; have lb1 : bl < w1.heap.size := Nat.lt_of_lt_of_le lb X1.size; have lw1 : bw < w1.heap.size := Nat.lt_of_lt_of_le lw X1.size)
               | (refine step_app (w0 := wr) (G := fun k => False ∨ Bk u6 k) rfl (.tmp 89) (.tmp 97) 22 3 (.int .i64 0) 1 8 rfl Try.underlying22 Try.info3 rfl (by decide) u7 (stay (now + 1) (l.take k)).length _ rfl ow3'.out.own (by repeat' (first | exact Ext.refl _ _ | assumption | apply Ext.alloc | apply Ext.drewN | apply Ext.drew)) (fun k e x => x.elim (fun x => x) (fun x => dd k x e)) ⟨_, 0, none⟩ 1 1 [.int .i64 q.2] rfl rfl (by first | exact World.news_of_block (heap_alloc_new _ _) | exact World.news_of_block (heap_ext Y1 (heap_new1 _ _ _) (fun e => by have := own_lt ow2'.out.own _ e; omega)) | exact World.news_of_block (heap_ext Y1 (heap_old1 _ _ _) (fun e => by have := own_lt ow2'.out.own _ e; omega))) (by simp [Value.oneCell']) hmk2 (by omega) (fun v2 w2 hown2 X2 Y2 hat2 => ?_); have r2 := H2.row.ext X2 (fun e => e.elim (fun e => e.elim (fun e => e) (old _ og)) (old3 _ og)); have hg2 := r2.lt; have e2' := r2.cell 2; have e3' := r2.cell 3; have e4' := own_cell (own_ext H2.wait X2 (fun k hk e => e.elim (fun e => e.elim (fun e => e) (old _ (own_lt H1.wait k hk))) (old3 _ (own_lt H1.wait k hk)))) k (.int .i64 q.1) hq1.out; have e5' := own_cell (own_ext H2.when_ X2 (fun k hk e => e.elim (fun e => e.elim (fun e => e) (old _ (own_lt H1.when_ k hk))) (old3 _ (own_lt H1.when_ k hk)))) k (.int .i64 q.2) hq2.out))
            all_goals
              obtain ⟨t1, t2⟩ := trio23 (p := q.1) (q := q.2) HT.out HX.out (by rw [hlm.out]; exact hown1) (by rw [hlm3.out]; exact hown2) X1 (by first | exact Y2 | exact (Ext.mono (((Ext.refl (fun _ => False) w1).alloc _)) (fun _ x => x.elim)).trans Y2) hat1 hat2 (by simp; try omega) (by simp)
              have t1 := Lib.hid t1
              have t2 := Lib.hid t2
              clear e2 e3 e4 e5 e2' e3' e4' e5' hown1 hown2 X1 X2 Y1 Y2 hat1 hat2
              go_wp2_with fail
              go_roundw
              case rel => exact ⟨k + 1, by omega, by go_num, by rw [Hid, hgs.out, hss.out]; simpa using t1.out, t2.out⟩
              case measure => simp [intOf]; omega
        · obtain rfl : k = l.length := by omega
          have T' := HT.out
          rw [List.take_length] at T'
          have f2 : wr.frozen? ⟨g, 2, none⟩ = false := H2.row.frozen 2
          have f3 : wr.frozen? ⟨g, 3, none⟩ = false := H2.row.frozen 3
          have hlm : ((stay (now + 1) l).map (·.1)).length = (stay (now + 1) l).length := by simp
          have hlm3 : ((stay (now + 1) l).map (·.2)).length = (stay (now + 1) l).length := by simp
          have q2 := out_len T'.o2 hlm
          have q3 := out_len T'.o3 hlm3
          obtain ⟨al', cl', rfl⟩ := own_form q2.own
          obtain ⟨aw', cw', rfl⟩ := own_form q3.own
          obtain ⟨s1, s2⟩ := H1.retired (l' := stay (now + 1) l) (HX.out.mono (fun _ x => x.elim)) q2.own q3.own (fun k e => Or.inr (q2.new k e)) (fun k e => Or.inr (q3.new k e)) T'.d23
          have X1 : Ext F w W0 := X0.mono (fun k e => by rw [e]; exact H1.fg)
          have Xw : Ext (fun k => k = g) wr ((wr.setCell ⟨g, 2, none⟩ (.slice al' (stay (now + 1) l).length cl')).setCell ⟨g, 3, none⟩ (.slice aw' (stay (now + 1) l).length cw')) := ((Ext.refl (fun k => k = g) wr).setCell (p := ⟨g, 2, none⟩) (Or.inl rfl) _).setCell (p := ⟨g, 3, none⟩) (Or.inl rfl) _
          have hO := T'.o1.ext Xw (fun k hk e => by subst e; exact own_ne H2.row T'.o1.own (by decide) hk)
          have hlb : decide (l.length < l.length) = false := by simp
          have S1 := Lib.hid s1
          have S2 := Lib.hid s2
          have HO := Lib.hid hO
          clear T' hlm hlm3 q2 q3 s1 s2 hO HT
          go_wp2_with fail
          go_ret2
          refine ⟨_, al', cl', aw', cw', rfl, ⟨HO.out.own, fun b hb => by have := HO.out.new b hb; rw [hsz.out] at this; exact this⟩, S1.out.mono (fun k hk => ?_), X1.trans S2.out⟩
          simpa [Gr, hsz.out] using hk
end
end Go.Proofs.Ytibpmhfompoepaa
