/- What a polyptychref16.Epochs holds in memory. -/
import Derived.Test.YtibpmhfompoepaaEpWr
import Derived.Test.YtibpmhfompoepaaJ
namespace Go.Proofs.Ytibpmhfompoepaa
open Go.RowKit
set_option linter.unusedSimpArgs false
set_option linter.unusedVariables false

/-- A polyptychref16.Epochs at block g: ps its Pins, l what waits, with when it was retired. -/
structure Rf (w : World) (F : Nat → Prop) (g : Nat) (now : Int) (ps : List Int) (l : List (Int × Int)) (ap : Option Addr) (cp : Nat) (al : Option Addr) (cl : Nat) (aw : Option Addr) (cw : Nat) : Prop where
  row : Row w g 36 #[.int .i64 now, .slice ap ps.length cp, .slice al l.length cl, .slice aw l.length cw]
  pin : w.ownsRow 0 3 1 (.slice ap ps.length cp) ps.length (ints ps)
  wait : w.ownsRow 0 3 1 (.slice al l.length cl) l.length (ints (l.map (·.1)))
  when_ : w.ownsRow 0 3 1 (.slice aw l.length cw) l.length (ints (l.map (·.2)))
  fg : F g
  fp : ∀ k, Bk (.slice ap ps.length cp) k → F k
  fl : ∀ k, Bk (.slice al l.length cl) k → F k
  fw : ∀ k, Bk (.slice aw l.length cw) k → F k
  d1 : ∀ k, Bk (.slice ap ps.length cp) k → ¬ Bk (.slice al l.length cl) k
  d2 : ∀ k, Bk (.slice ap ps.length cp) k → ¬ Bk (.slice aw l.length cw) k
  d3 : ∀ k, Bk (.slice al l.length cl) k → ¬ Bk (.slice aw l.length cw) k
section
variable {w : World} {F : Nat → Prop} {g : Nat} {now : Int} {ps : List Int} {l : List (Int × Int)} {ap : Option Addr} {cp : Nat} {al : Option Addr} {cl : Nat} {aw : Option Addr} {cw : Nat}
theorem Rf.ext {G : Nat → Prop} {w' : World} (h : Rf w F g now ps l ap cp al cl aw cw) (x : Ext G w w') (hd : ∀ k, F k → ¬ G k) : Rf w' F g now ps l ap cp al cl aw cw :=
  ⟨h.row.ext x (hd _ h.fg), own_ext h.pin x (fun k e => hd _ (h.fp k e)), own_ext h.wait x (fun k e => hd _ (h.fl k e)), own_ext h.when_ x (fun k e => hd _ (h.fw k e)), h.fg, h.fp, h.fl, h.fw, h.d1, h.d2, h.d3⟩
theorem Rf.mono {G : Nat → Prop} (h : Rf w F g now ps l ap cp al cl aw cw) (hd : ∀ k, F k → G k) : Rf w G g now ps l ap cp al cl aw cw :=
  ⟨h.row, h.pin, h.wait, h.when_, hd _ h.fg, fun k e => hd _ (h.fp k e), fun k e => hd _ (h.fl k e), fun k e => hd _ (h.fw k e), h.d1, h.d2, h.d3⟩
theorem Rf.drawn {w' : World} (h : Rf w F g now ps l ap cp al cl aw cw) (x : Drawn w w') : Rf w' F g now ps l ap cp al cl aw cw := h.ext (x.ext (fun _ => False)) (fun _ _ h => h)
theorem Rf.retired {W : World} {l' : List (Int × Int)} {al' aw' : Option Addr} {cl' cw' : Nat} (h : Rf w F g now ps l ap cp al cl aw cw)
    (X : Ext (fun k => Bk (.slice al l.length cl) k ∨ Bk (.slice aw l.length cw) k) w W)
    (hL : W.ownsRow 0 3 1 (.slice al' l'.length cl') l'.length (ints (l'.map (·.1)))) (hW : W.ownsRow 0 3 1 (.slice aw' l'.length cw') l'.length (ints (l'.map (·.2))))
    (bL : ∀ k, Bk (.slice al' l'.length cl') k → Bk (.slice al l.length cl) k ∨ w.heap.size ≤ k) (bW : ∀ k, Bk (.slice aw' l'.length cw') k → Bk (.slice aw l.length cw) k ∨ w.heap.size ≤ k)
    (hd : ∀ k, Bk (.slice al' l'.length cl') k → ¬ Bk (.slice aw' l'.length cw') k) :
    let w' := (W.setCell ⟨g, 2, none⟩ (.slice al' l'.length cl')).setCell ⟨g, 3, none⟩ (.slice aw' l'.length cw')
    Rf w' (Gr F w w') g now ps l' ap cp al' cl' aw' cw' ∧ Ext F w w' := by
  intro w'
  have hn : ¬ (Bk (.slice al l.length cl) g ∨ Bk (.slice aw l.length cw) g) := fun e => e.elim (own_ne h.row h.wait (by decide)) (own_ne h.row h.when_ (by decide))
  have r1 := h.row.ext X hn
  have p1 := own_ext h.pin X (fun k e x => x.elim (h.d1 k e) (h.d2 k e))
  have hX : Ext F w W := X.mono (fun k e => e.elim (h.fl k) (h.fw k))
  have Xw : Ext (fun k => k = g) W w' := ((Ext.refl (fun k => k = g) W).setCell (p := ⟨g, 2, none⟩) (Or.inl rfl) _).setCell (p := ⟨g, 3, none⟩) (Or.inl rfl) _
  have hne : ∀ {v n xs}, W.ownsRow 0 3 1 v n xs → ∀ k, Bk v k → ¬ k = g := fun ho k hk e => by subst e; exact own_ne r1 ho (by decide) hk
  have hsz : W.heap.size = w'.heap.size := by simp [w', World.setCell]
  refine ⟨⟨(r1.set 2 _).set 3 _, own_ext p1 Xw (hne p1), own_ext hL Xw (hne hL), own_ext hW Xw (hne hW), Or.inl h.fg, fun k e => Or.inl (h.fp k e), fun k e => ?_, fun k e => ?_, fun k e e2 => ?_, fun k e e2 => ?_, hd⟩, hX.trans (Xw.mono (fun k e => by rw [e]; exact h.fg))⟩
  · rcases bL k e with h1 | h1
    · exact Or.inl (h.fl k h1)
    · exact Or.inr ⟨h1, by rw [← hsz]; exact own_lt hL k e⟩
  · rcases bW k e with h1 | h1
    · exact Or.inl (h.fw k h1)
    · exact Or.inr ⟨h1, by rw [← hsz]; exact own_lt hW k e⟩
  · rcases bL k e2 with h1 | h1
    · exact h.d1 k e h1
    · have := own_lt h.pin k e; omega
  · rcases bW k e2 with h1 | h1
    · exact h.d2 k e h1
    · have := own_lt h.pin k e; omega

theorem heap_old1 (w : World) (o o' : Obj) : ((w.alloc o).alloc o').heap[w.heap.size]? = some o := by
  rw [Below.heap_alloc _ _ _ (by simp)]; exact heap_alloc_new w o
theorem heap_new1 (w : World) (o o' : Obj) : ((w.alloc o).alloc o').heap[w.heap.size + 1]? = some o' := by
  have := heap_alloc_new (w.alloc o) o'
  simpa using this
theorem heap_ext {G : Nat → Prop} {w w' : World} {k : Nat} {o : Obj} (x : Ext G w w') (h : w.heap[k]? = some o) (hk : ¬ G k) : w'.heap[k]? = some o := by
  rw [x.block k (Array.getElem?_eq_some_iff.1 h).1 hk]; exact h
theorem rretire_end {W w1 : World} {g1 p1 g2 p2 sa sb : Nat} (h : Rf w F g now ps l ap cp al cl aw cw) (x : Int)
    (X2 : Ext (fun k => (False ∨ Bk (.slice al l.length cl) k) ∨ Bk (.slice aw l.length cw) k) w W) (X1 : w.heap.size ≤ w1.heap.size) (E12 : Ext (Bk (.slice aw l.length cw)) w1 W)
    (hown1 : w1.ownsRow 0 3 1 (.slice (some ⟨g1, 0, none⟩) (l.length + 1) p1) (l.length + 1) (ints (l.map (·.1)) ++ [.int .i64 x])) (hown2 : W.ownsRow 0 3 1 (.slice (some ⟨g2, 0, none⟩) (l.length + 1) p2) (l.length + 1) (ints (l.map (·.2)) ++ [.int .i64 now]))
    (hat1 : ∀ k, Bk (.slice (some ⟨g1, 0, none⟩) (l.length + 1) p1) k → Bk (.slice al l.length cl) k ∨ k = sa) (hat2 : ∀ k, Bk (.slice (some ⟨g2, 0, none⟩) (l.length + 1) p2) k → Bk (.slice aw l.length cw) k ∨ k = sb)
    (hsa : w.heap.size ≤ sa) (hsb : w1.heap.size ≤ sb) :
    ∃ al' cl' aw' cw', Rf ((W.setCell ⟨g, 2, none⟩ (.slice (some ⟨g1, 0, none⟩) (l.length + 1) p1)).setCell ⟨g, 3, none⟩ (.slice (some ⟨g2, 0, none⟩) (l.length + 1) p2)) (Gr F w ((W.setCell ⟨g, 2, none⟩ (.slice (some ⟨g1, 0, none⟩) (l.length + 1) p1)).setCell ⟨g, 3, none⟩ (.slice (some ⟨g2, 0, none⟩) (l.length + 1) p2))) g now ps (l ++ [(x, now)]) ap cp al' cl' aw' cw' ∧
      Ext F w ((W.setCell ⟨g, 2, none⟩ (.slice (some ⟨g1, 0, none⟩) (l.length + 1) p1)).setCell ⟨g, 3, none⟩ (.slice (some ⟨g2, 0, none⟩) (l.length + 1) p2)) := by
  have b1 : ∀ k, Bk (.slice (some ⟨g1, 0, none⟩) (l.length + 1) p1) k → Bk (.slice al l.length cl) k ∨ w.heap.size ≤ k := fun k e => (hat1 k e).imp id (fun e => by omega)
  have b2 : ∀ k, Bk (.slice (some ⟨g2, 0, none⟩) (l.length + 1) p2) k → Bk (.slice aw l.length cw) k ∨ w.heap.size ≤ k := fun k e => (hat2 k e).imp id (fun e => by omega)
  have nw : ∀ k, Bk (.slice (some ⟨g1, 0, none⟩) (l.length + 1) p1) k → ¬ Bk (.slice aw l.length cw) k := fun k e e2 => by
    rcases b1 k e with h1 | h1
    · exact h.d3 k h1 e2
    · have := own_lt h.when_ k e2; omega
  have hL := own_ext hown1 E12 nw
  have hd : ∀ k, Bk (.slice (some ⟨g1, 0, none⟩) (l.length + 1) p1) k → ¬ Bk (.slice (some ⟨g2, 0, none⟩) (l.length + 1) p2) k := fun k e e2 => by
    rcases hat2 k e2 with h1 | h1
    · exact nw k e h1
    · have := own_lt hown1 k e; omega
  have key := h.retired (l' := l ++ [(x, now)]) (al' := some ⟨g1, 0, none⟩) (aw' := some ⟨g2, 0, none⟩) (cl' := p1) (cw' := p2) (X2.mono (fun k e => e.imp (fun e => e.elim (fun e => e.elim) (fun e => e)) (fun e => e)))
    (by simpa [ints] using hL) (by simpa [ints] using hown2) (by simpa using b1) (by simpa using b2) (by simpa using hd)
  simp only [List.length_append, List.length_cons, List.length_nil, Nat.zero_add] at key
  exact ⟨_, _, _, _, by simpa using key.1, key.2⟩
set_option maxHeartbeats 4000000 in
theorem rretire (h : Rf w F g now ps l ap cp al cl aw cw) (x : Int) (hl : l.length ≤ 1000) :
    Calls Try.prog 11 #[.pointer (some ⟨g, 0, none⟩), .int .i64 x] w fun e w' => e = .returned (.tuple #[]) ∧ ∃ al' cl' aw' cw', Rf w' (Gr F w w') g now ps (l ++ [(x, now)]) ap cp al' cl' aw' cw' ∧ Ext F w w' := by
  have c0 : w.cell? ⟨g, 0, none⟩ = some (.int .i64 now) := h.row.cell 0
  have c2 : w.cell? ⟨g, 2, none⟩ = some (.slice al l.length cl) := h.row.cell 2
  have c3 : w.cell? ⟨g, 3, none⟩ = some (.slice aw l.length cw) := h.row.cell 3
  have hg := h.row.lt
  have hml : l.length + 1 ≤ maxLen := by unfold maxLen; omega
  go_enter Try.func11, Try.ntmps11
  refine wp_region_any (by kernel_rfl) ?_
  change wpAny _ _ _ _ _ _ _ (World.drew _)
  refine wpAny_take (i := 0) (v := ?v0) rfl (by kernel_rfl) (by kernel_rfl) (by kernel_rfl) (fun _ _ _ h => h) (Or.inl ⟨by rfl, ?y0⟩) ?r0
  case y0 => intro W; go_simp; with_reducible rfl
  simp only [Act.put, List.setIfInBounds_toArray, List.set_cons_zero, List.set_cons_succ]
  refine wpAny_take (i := 1) (v := ?v1) rfl (by kernel_rfl) (by kernel_rfl) (by kernel_rfl) (fun _ _ _ h => h) (Or.inl ⟨by rfl, ?y1⟩) ?r1
  case y1 => intro W; go_simp; with_reducible rfl
  simp only [Act.put, List.setIfInBounds_toArray, List.set_cons_zero, List.set_cons_succ]
  refine wpAny_take (i := 2) (v := ?v2) rfl (by kernel_rfl) (by kernel_rfl) (by kernel_rfl) (fun _ _ _ h => h) (Or.inl ⟨by rfl, ?y2⟩) ?r2
  case y2 => intro W; go_simp; with_reducible rfl
  simp only [Act.put, List.setIfInBounds_toArray, List.set_cons_zero, List.set_cons_succ]
  refine wpAny_take (i := 3) (v := ?v3) rfl (by kernel_rfl) (by kernel_rfl) (by kernel_rfl) (fun _ _ _ h => h) (Or.inl ⟨by rfl, ?y3⟩) ?r3
  case y3 => intro W; go_simp; with_reducible rfl
  simp only [Act.put, List.setIfInBounds_toArray, List.set_cons_zero, List.set_cons_succ]
  refine wpAny_take (i := 4) (v := ?v4) rfl (by kernel_rfl) (by kernel_rfl) (by kernel_rfl) (fun _ _ _ h => h) (Or.inl ⟨by rfl, ?y4⟩) ?r4
  case y4 => intro W; go_simp; with_reducible rfl
  simp only [Act.put, List.setIfInBounds_toArray, List.set_cons_zero, List.set_cons_succ]
  refine wpAny_take (i := 6) (v := ?v6) rfl (by kernel_rfl) (by kernel_rfl) (by kernel_rfl) (fun _ _ _ h => h) (Or.inl ⟨by rfl, ?y6⟩) ?r6
  case y6 => intro W; go_simp; with_reducible rfl
  simp only [Act.put, List.setIfInBounds_toArray, List.set_cons_zero, List.set_cons_succ]
  refine wpAny_take (i := 9) (v := ?v9) rfl (by kernel_rfl) (by kernel_rfl) (by kernel_rfl) (fun _ _ _ h => h) (Or.inl ⟨by rfl, ?y9⟩) ?r9
  case y9 => intro W; go_simp; with_reducible rfl
  simp only [Act.put, List.setIfInBounds_toArray, List.set_cons_zero, List.set_cons_succ]
  refine wpAny_take (i := 10) (v := ?v10) rfl (by kernel_rfl) (by kernel_rfl) (by kernel_rfl) (fun _ _ _ h => h) (Or.inl ⟨by rfl, ?y10⟩) ?r10
  case y10 => intro W; go_simp; with_reducible rfl
  simp only [Act.put, List.setIfInBounds_toArray, List.set_cons_zero, List.set_cons_succ]
  refine wpAny_take (i := 11) (v := ?v11) rfl (by kernel_rfl) (by kernel_rfl) (by kernel_rfl) (fun _ _ _ h => h) (Or.inl ⟨by rfl, ?y11⟩) ?r11
  case y11 => intro W; go_simp; with_reducible rfl
  simp only [Act.put, List.setIfInBounds_toArray, List.set_cons_zero, List.set_cons_succ]
  refine wpAny_take (i := 13) (v := ?v13) rfl (by kernel_rfl) (by kernel_rfl) (by kernel_rfl) (fun _ _ _ h => h) (Or.inl ⟨by rfl, ?y13⟩) ?r13
  case y13 => intro W; go_simp; with_reducible rfl
  simp only [Act.put, List.setIfInBounds_toArray, List.set_cons_zero, List.set_cons_succ]
  refine wpAny_take (i := 14) (v := ?v14) rfl (by kernel_rfl) (by kernel_rfl) (by kernel_rfl) (fun _ _ _ h => h) (Or.inl ⟨by rfl, ?y14⟩) ?r14
  case y14 => intro W; go_simp; with_reducible rfl
  simp only [Act.put, List.setIfInBounds_toArray, List.set_cons_zero, List.set_cons_succ]
  refine wpAny_take (i := 15) (v := ?v15) rfl (by kernel_rfl) (by kernel_rfl) (by kernel_rfl) (fun _ _ _ h => h) (Or.inl ⟨by rfl, ?y15⟩) ?r15
  case y15 => intro W; go_simp; with_reducible rfl
  simp only [Act.put, List.setIfInBounds_toArray, List.set_cons_zero, List.set_cons_succ]
  have hS : w.drew.cell? ⟨g, 0, none⟩ = some (.int .i64 now) ∧ w.drew.cell? ⟨g, 2, none⟩ = some (.slice al l.length cl) ∧ w.drew.cell? ⟨g, 3, none⟩ = some (.slice aw l.length cw) := ⟨c0, c2, c3⟩
  refine wpAny_of_J (S := fun w' => w'.cell? ⟨g, 0, none⟩ = some (.int .i64 now) ∧ w'.cell? ⟨g, 2, none⟩ = some (.slice al l.length cl) ∧ w'.cell? ⟨g, 3, none⟩ = some (.slice aw l.length cw)) (J := fun j => decide (j < 19)) _ _ _ _ ?_
  refine wpJ_take 5 (v := ?v5) rfl (by kernel_rfl) (by kernel_rfl) (fun _ _ _ h => h) (by assumption) (Or.inl ⟨by rfl, ?y5⟩) (fun hS => ?r5)
  case y5 => intro W hW; obtain ⟨hW0, hW2, hW3⟩ := hW; go_simp; with_reducible rfl
  simp only [Act.put, List.setIfInBounds_toArray, List.set_cons_zero, List.set_cons_succ]
  refine wpJ_take 12 (v := ?v12) rfl (by kernel_rfl) (by kernel_rfl) (fun _ _ _ h => h) (by assumption) (Or.inl ⟨by rfl, ?y12⟩) (fun hS => ?r12)
  case y12 => intro W hW; obtain ⟨hW0, hW2, hW3⟩ := hW; go_simp; with_reducible rfl
  simp only [Act.put, List.setIfInBounds_toArray, List.set_cons_zero, List.set_cons_succ]
  refine wpJ_take 16 (v := ?v16) rfl (by kernel_rfl) (by kernel_rfl) (fun _ _ _ h => h) (by assumption) (Or.inl ⟨by rfl, ?y16⟩) (fun hS => ?r16)
  case y16 => intro W hW; obtain ⟨hW0, hW2, hW3⟩ := hW; go_simp; with_reducible rfl
  simp only [Act.put, List.setIfInBounds_toArray, List.set_cons_zero, List.set_cons_succ]
  have hneL : ¬ Bk (.slice al l.length cl) g := own_ne h.row h.wait (by decide)
  have hneW : ¬ Bk (.slice aw l.length cw) g := own_ne h.row h.when_ (by decide)
  have hnewL : ∀ k, w.heap.size ≤ k → ¬ Bk (.slice al l.length cl) k := fun k hk e => by have := own_lt h.wait k e; omega
  refine wpJ_two 7 17 rfl rfl (by kernel_rfl) ?A ?B
  case A =>
    intro K hK
    go_simp
    refine hK _ _ (fun _ => ⟨by go_keep, by go_keep, by go_keep⟩) ?_
    clear hK K
    refine wpJ_two 8 17 rfl rfl (by kernel_rfl) ?A8 ?A17
    case A8 =>
      intro K hK
      refine step_app (w0 := w) (G := fun _ => False) rfl (.tmp 9) (.tmp 11) 22 3 (.int .i64 0) 1 8 rfl Try.underlying22 Try.info3 rfl (by decide) (.slice al l.length cl) l.length (ints (l.map (·.1))) rfl h.wait (by repeat' (first | exact Ext.refl _ _ | assumption | apply Ext.alloc | apply Ext.drewN | apply Ext.drew)) (fun _ _ x => x) ⟨_, 0, none⟩ 1 1 [.int .i64 x] rfl rfl (by exact World.news_of_block (heap_alloc_new _ _)) (by simp [Value.oneCell']) hml (by omega) (fun v1 w1 hown1 X1 Y1 hat1 => ?_)
      have r1 := h.row.ext X1 (fun e => e.elim (fun e => e) hneL)
      have hg1 := r1.lt
      have k0 := r1.cell 0
      have k2 := r1.cell 2
      have k3 := r1.cell 3
      refine hK _ _ (fun _ => ⟨k0, k2, k3⟩) ?_
      clear hK K
      simp only [Act.put, List.setIfInBounds_toArray, List.set_cons_zero, List.set_cons_succ]
      refine wpJ_one 17 rfl (by kernel_rfl) ?_
      intro K hK
      go_simp
      refine hK _ _ (fun _ => ⟨by go_keep, by go_keep, by go_keep⟩) ?_
      clear hK K
      refine wpJ_one 18 rfl (by kernel_rfl) ?_
      intro K hK
      refine step_app (w0 := w) (G := fun k => False ∨ Bk (.slice al l.length cl) k) rfl (.tmp 16) (.tmp 21) 22 3 (.int .i64 0) 1 8 rfl Try.underlying22 Try.info3 rfl (by decide) (.slice aw l.length cw) l.length (ints (l.map (·.2))) rfl h.when_ (by repeat' (first | exact Ext.refl _ _ | assumption | apply Ext.alloc | apply Ext.drewN | apply Ext.drew)) (fun k e x => x.elim (fun x => x) (fun x => h.d3 k x e)) ⟨_, 0, none⟩ 1 1 [.int .i64 now] rfl rfl (by exact World.news_of_block (heap_alloc_new _ _)) (by simp [Value.oneCell']) hml (by omega) (fun v2 w2 hown2 X2 Y2 hat2 => ?_)
      have r2 := h.row.ext X2 (fun e => e.elim (fun e => e.elim (fun e => e) hneL) hneW)
      have hg2 := r2.lt
      have q0 := r2.cell 0
      have q2 := r2.cell 2
      have q3 := r2.cell 3
      have q2f := r2.frozen 2
      have q3f := r2.frozen 3
      refine hK _ _ (fun _ => ⟨q0, q2, q3⟩) ?_
      clear hK K
      simp only [Act.put, List.setIfInBounds_toArray, List.set_cons_zero, List.set_cons_succ]
      obtain ⟨g1, p1, rfl, hx1, hx2⟩ := hown1.form (by omega)
      obtain ⟨g2, p2, rfl, hx3, hx4⟩ := hown2.form (by omega)
      refine wpJ_pure 19 (v := ?v19a) rfl (by kernel_rfl) (by kernel_rfl) (fun _ _ _ h => h) (Or.inl ⟨by rfl, ?y19a⟩) ?r19a
      case y19a => intro W _; go_simp; with_reducible rfl
      simp only [Act.put, List.setIfInBounds_toArray, List.set_cons_zero, List.set_cons_succ]
      refine wpJ_pure 20 (v := ?v20a) rfl (by kernel_rfl) (by kernel_rfl) (fun _ _ _ h => h) (Or.inl ⟨by rfl, ?y20a⟩) ?r20a
      case y20a => intro W _; go_simp; with_reducible rfl
      simp only [Act.put, List.setIfInBounds_toArray, List.set_cons_zero, List.set_cons_succ]
      refine wpJ_one 21 rfl (by kernel_rfl) ?_
      intro K hK
      go_simp
      refine hK _ _ (fun h => by simp at h) ?_
      clear hK K
      refine wpJ_pure 22 (v := ?v22a) rfl (by kernel_rfl) (by kernel_rfl) (fun _ _ _ h => h) (Or.inl ⟨by rfl, ?y22a⟩) ?r22a
      case y22a => intro W _; go_simp; with_reducible rfl
      simp only [Act.put, List.setIfInBounds_toArray, List.set_cons_zero, List.set_cons_succ]
      refine wpJ_pure 23 (v := ?v23a) rfl (by kernel_rfl) (by kernel_rfl) (fun _ _ _ h => h) (Or.inl ⟨by rfl, ?y23a⟩) ?r23a
      case y23a => intro W _; go_simp; with_reducible rfl
      simp only [Act.put, List.setIfInBounds_toArray, List.set_cons_zero, List.set_cons_succ]
      refine wpJ_one 24 rfl (by kernel_rfl) ?_
      intro K hK
      go_simp
      refine hK _ _ (fun h => by simp at h) ?_
      clear hK K
      refine wpJ_done _ (by kernel_rfl) ?_
      go_end0
      exact ⟨rfl, rretire_end h x X2 X1.size (by first | exact Y2 | exact (Ext.mono (((Ext.refl (fun _ => False) w1).alloc _)) (fun _ x => x.elim)).trans Y2) hown1 hown2 hat1 hat2 (by simp; try omega) (by simp)⟩
    case A17 =>
      intro K hK
      go_simp
      refine hK _ _ (fun _ => ⟨by go_keep, by go_keep, by go_keep⟩) ?_
      clear hK K
      refine wpJ_one 8 rfl (by kernel_rfl) ?_
      intro K hK
      refine step_app (w0 := w) (G := fun _ => False) rfl (.tmp 9) (.tmp 11) 22 3 (.int .i64 0) 1 8 rfl Try.underlying22 Try.info3 rfl (by decide) (.slice al l.length cl) l.length (ints (l.map (·.1))) rfl h.wait (by repeat' (first | exact Ext.refl _ _ | assumption | apply Ext.alloc | apply Ext.drewN | apply Ext.drew)) (fun _ _ x => x) ⟨_, 0, none⟩ 1 1 [.int .i64 x] rfl rfl (by exact World.news_of_block (heap_old1 _ _ _)) (by simp [Value.oneCell']) hml (by omega) (fun v1 w1 hown1 X1 Y1 hat1 => ?_)
      have r1 := h.row.ext X1 (fun e => e.elim (fun e => e) hneL)
      have hg1 := r1.lt
      have k0 := r1.cell 0
      have k2 := r1.cell 2
      have k3 := r1.cell 3
      refine hK _ _ (fun _ => ⟨k0, k2, k3⟩) ?_
      clear hK K
      simp only [Act.put, List.setIfInBounds_toArray, List.set_cons_zero, List.set_cons_succ]
      refine wpJ_one 18 rfl (by kernel_rfl) ?_
      intro K hK
      refine step_app (w0 := w) (G := fun k => False ∨ Bk (.slice al l.length cl) k) rfl (.tmp 16) (.tmp 21) 22 3 (.int .i64 0) 1 8 rfl Try.underlying22 Try.info3 rfl (by decide) (.slice aw l.length cw) l.length (ints (l.map (·.2))) rfl h.when_ (by repeat' (first | exact Ext.refl _ _ | assumption | apply Ext.alloc | apply Ext.drewN | apply Ext.drew)) (fun k e x => x.elim (fun x => x) (fun x => h.d3 k x e)) ⟨_, 0, none⟩ 1 1 [.int .i64 now] rfl rfl (by exact World.news_of_block (heap_ext Y1 (heap_new1 _ _ _) (hnewL _ (by omega)))) (by simp [Value.oneCell']) hml (by omega) (fun v2 w2 hown2 X2 Y2 hat2 => ?_)
      have r2 := h.row.ext X2 (fun e => e.elim (fun e => e.elim (fun e => e) hneL) hneW)
      have hg2 := r2.lt
      have q0 := r2.cell 0
      have q2 := r2.cell 2
      have q3 := r2.cell 3
      have q2f := r2.frozen 2
      have q3f := r2.frozen 3
      refine hK _ _ (fun _ => ⟨q0, q2, q3⟩) ?_
      clear hK K
      simp only [Act.put, List.setIfInBounds_toArray, List.set_cons_zero, List.set_cons_succ]
      obtain ⟨g1, p1, rfl, hx1, hx2⟩ := hown1.form (by omega)
      obtain ⟨g2, p2, rfl, hx3, hx4⟩ := hown2.form (by omega)
      refine wpJ_pure 19 (v := ?v19b) rfl (by kernel_rfl) (by kernel_rfl) (fun _ _ _ h => h) (Or.inl ⟨by rfl, ?y19b⟩) ?r19b
      case y19b => intro W _; go_simp; with_reducible rfl
      simp only [Act.put, List.setIfInBounds_toArray, List.set_cons_zero, List.set_cons_succ]
      refine wpJ_pure 20 (v := ?v20b) rfl (by kernel_rfl) (by kernel_rfl) (fun _ _ _ h => h) (Or.inl ⟨by rfl, ?y20b⟩) ?r20b
      case y20b => intro W _; go_simp; with_reducible rfl
      simp only [Act.put, List.setIfInBounds_toArray, List.set_cons_zero, List.set_cons_succ]
      refine wpJ_one 21 rfl (by kernel_rfl) ?_
      intro K hK
      go_simp
      refine hK _ _ (fun h => by simp at h) ?_
      clear hK K
      refine wpJ_pure 22 (v := ?v22b) rfl (by kernel_rfl) (by kernel_rfl) (fun _ _ _ h => h) (Or.inl ⟨by rfl, ?y22b⟩) ?r22b
      case y22b => intro W _; go_simp; with_reducible rfl
      simp only [Act.put, List.setIfInBounds_toArray, List.set_cons_zero, List.set_cons_succ]
      refine wpJ_pure 23 (v := ?v23b) rfl (by kernel_rfl) (by kernel_rfl) (fun _ _ _ h => h) (Or.inl ⟨by rfl, ?y23b⟩) ?r23b
      case y23b => intro W _; go_simp; with_reducible rfl
      simp only [Act.put, List.setIfInBounds_toArray, List.set_cons_zero, List.set_cons_succ]
      refine wpJ_one 24 rfl (by kernel_rfl) ?_
      intro K hK
      go_simp
      refine hK _ _ (fun h => by simp at h) ?_
      clear hK K
      refine wpJ_done _ (by kernel_rfl) ?_
      go_end0
      exact ⟨rfl, rretire_end h x X2 X1.size (by first | exact Y2 | exact (Ext.mono (((Ext.refl (fun _ => False) w1).alloc _)) (fun _ x => x.elim)).trans Y2) hown1 hown2 hat1 hat2 (by simp; try omega) (by simp)⟩
  case B =>
    intro K hK
    go_simp
    refine hK _ _ (fun _ => ⟨by go_keep, by go_keep, by go_keep⟩) ?_
    clear hK K
    refine wpJ_one 7 rfl (by kernel_rfl) ?_
    intro K hK
    go_simp
    refine hK _ _ (fun _ => ⟨by go_keep, by go_keep, by go_keep⟩) ?_
    clear hK K
    refine wpJ_one 8 rfl (by kernel_rfl) ?_
    intro K hK
    refine step_app (w0 := w) (G := fun _ => False) rfl (.tmp 9) (.tmp 11) 22 3 (.int .i64 0) 1 8 rfl Try.underlying22 Try.info3 rfl (by decide) (.slice al l.length cl) l.length (ints (l.map (·.1))) rfl h.wait (by repeat' (first | exact Ext.refl _ _ | assumption | apply Ext.alloc | apply Ext.drewN | apply Ext.drew)) (fun _ _ x => x) ⟨_, 0, none⟩ 1 1 [.int .i64 x] rfl rfl (by exact World.news_of_block (heap_new1 _ _ _)) (by simp [Value.oneCell']) hml (by omega) (fun v1 w1 hown1 X1 Y1 hat1 => ?_)
    have r1 := h.row.ext X1 (fun e => e.elim (fun e => e) hneL)
    have hg1 := r1.lt
    have k0 := r1.cell 0
    have k2 := r1.cell 2
    have k3 := r1.cell 3
    refine hK _ _ (fun _ => ⟨k0, k2, k3⟩) ?_
    clear hK K
    simp only [Act.put, List.setIfInBounds_toArray, List.set_cons_zero, List.set_cons_succ]
    refine wpJ_one 18 rfl (by kernel_rfl) ?_
    intro K hK
    refine step_app (w0 := w) (G := fun k => False ∨ Bk (.slice al l.length cl) k) rfl (.tmp 16) (.tmp 21) 22 3 (.int .i64 0) 1 8 rfl Try.underlying22 Try.info3 rfl (by decide) (.slice aw l.length cw) l.length (ints (l.map (·.2))) rfl h.when_ (by repeat' (first | exact Ext.refl _ _ | assumption | apply Ext.alloc | apply Ext.drewN | apply Ext.drew)) (fun k e x => x.elim (fun x => x) (fun x => h.d3 k x e)) ⟨_, 0, none⟩ 1 1 [.int .i64 now] rfl rfl (by exact World.news_of_block (heap_ext Y1 (heap_old1 _ _ _) (hnewL _ (by omega)))) (by simp [Value.oneCell']) hml (by omega) (fun v2 w2 hown2 X2 Y2 hat2 => ?_)
    have r2 := h.row.ext X2 (fun e => e.elim (fun e => e.elim (fun e => e) hneL) hneW)
    have hg2 := r2.lt
    have q0 := r2.cell 0
    have q2 := r2.cell 2
    have q3 := r2.cell 3
    have q2f := r2.frozen 2
    have q3f := r2.frozen 3
    refine hK _ _ (fun _ => ⟨q0, q2, q3⟩) ?_
    clear hK K
    simp only [Act.put, List.setIfInBounds_toArray, List.set_cons_zero, List.set_cons_succ]
    obtain ⟨g1, p1, rfl, hx1, hx2⟩ := hown1.form (by omega)
    obtain ⟨g2, p2, rfl, hx3, hx4⟩ := hown2.form (by omega)
    refine wpJ_pure 19 (v := ?v19c) rfl (by kernel_rfl) (by kernel_rfl) (fun _ _ _ h => h) (Or.inl ⟨by rfl, ?y19c⟩) ?r19c
    case y19c => intro W _; go_simp; with_reducible rfl
    simp only [Act.put, List.setIfInBounds_toArray, List.set_cons_zero, List.set_cons_succ]
    refine wpJ_pure 20 (v := ?v20c) rfl (by kernel_rfl) (by kernel_rfl) (fun _ _ _ h => h) (Or.inl ⟨by rfl, ?y20c⟩) ?r20c
    case y20c => intro W _; go_simp; with_reducible rfl
    simp only [Act.put, List.setIfInBounds_toArray, List.set_cons_zero, List.set_cons_succ]
    refine wpJ_one 21 rfl (by kernel_rfl) ?_
    intro K hK
    go_simp
    refine hK _ _ (fun h => by simp at h) ?_
    clear hK K
    refine wpJ_pure 22 (v := ?v22c) rfl (by kernel_rfl) (by kernel_rfl) (fun _ _ _ h => h) (Or.inl ⟨by rfl, ?y22c⟩) ?r22c
    case y22c => intro W _; go_simp; with_reducible rfl
    simp only [Act.put, List.setIfInBounds_toArray, List.set_cons_zero, List.set_cons_succ]
    refine wpJ_pure 23 (v := ?v23c) rfl (by kernel_rfl) (by kernel_rfl) (fun _ _ _ h => h) (Or.inl ⟨by rfl, ?y23c⟩) ?r23c
    case y23c => intro W _; go_simp; with_reducible rfl
    simp only [Act.put, List.setIfInBounds_toArray, List.set_cons_zero, List.set_cons_succ]
    refine wpJ_one 24 rfl (by kernel_rfl) ?_
    intro K hK
    go_simp
    refine hK _ _ (fun h => by simp at h) ?_
    clear hK K
    refine wpJ_done _ (by kernel_rfl) ?_
    go_end0
    exact ⟨rfl, rretire_end h x X2 X1.size (by first | exact Y2 | exact (Ext.mono (((Ext.refl (fun _ => False) w1).alloc _)) (fun _ x => x.elim)).trans Y2) hown1 hown2 hat1 hat2 (by simp; try omega) (by simp)⟩
end
end Go.Proofs.Ytibpmhfompoepaa
