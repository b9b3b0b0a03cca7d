/- A state of a walk: the blocks that are mine, cell by cell, and the facts that are kept; the world is a letter. -/
import Derived.Test.YtbcpbndhkainnaaApp
namespace Go.Proofs.Ytbcpbndhkainnaa
open Go.RowKit
set_option linter.unusedSimpArgs false
set_option linter.unusedVariables false
/-- A fact on the world that leans on some blocks alone. -/
structure Fact where
  holds : World → Prop
  foot : Nat → Prop
  stable : ∀ (G : Nat → Prop) (w w' : World), Ext G w w' → holds w → (∀ k, foot k → ¬ G k) → holds w'
  lt : ∀ w, holds w → ∀ k, foot k → k < w.heap.size
abbrev Blk := Nat × Nat × List Value
def Mine (bs : List Blk) (k : Nat) : Prop := ∃ x ∈ bs, x.1 = k
/-- F: the old blocks that may have turned since W0. -/
structure St (F : Nat → Prop) (W0 w : World) (bs : List Blk) (ks : List Fact) : Prop where
  ext : Ext F W0 w
  rows : ∀ x ∈ bs, Row w x.1 x.2.1 x.2.2.toArray
  new : ∀ x ∈ bs, F x.1 ∨ W0.heap.size ≤ x.1
  nd : bs.Pairwise (fun x y => x.1 ≠ y.1)
  kept : ∀ f ∈ ks, f.holds w ∧ ∀ k, f.foot k → ¬ Mine bs k
/-- Block b of bs is a row of cells cs; with cs' in their place it is bs'. -/
inductive At : List Blk → Nat → Nat → List Value → List Value → List Blk → Prop
  | here {b t cs cs' r} : At ((b, t, cs) :: r) b t cs cs' ((b, t, cs') :: r)
  | there {x b t cs cs' r r'} : At r b t cs cs' r' → At (x :: r) b t cs cs' (x :: r')
theorem At.mem {bs b t cs cs' bs'} (h : At bs b t cs cs' bs') : (b, t, cs) ∈ bs := by
  induction h with
  | here => simp
  | there _ ih => simp [ih]
theorem At.keys {bs b t cs cs' bs'} (h : At bs b t cs cs' bs') : bs'.map (·.1) = bs.map (·.1) := by
  induction h with
  | here => rfl
  | there _ ih => simp [ih]
theorem At.mine {bs b t cs cs' bs'} (h : At bs b t cs cs' bs') (k : Nat) : Mine bs' k ↔ Mine bs k := by
  have e := h.keys
  have g : ∀ l : List Blk, Mine l k ↔ k ∈ l.map (·.1) := fun l => by simp [Mine]
  rw [g, g, e]
theorem At.rows {bs b t cs cs' bs'} (h : At bs b t cs cs' bs') (hn : bs.Pairwise (fun x y => x.1 ≠ y.1)) {x : Blk} (hx : x ∈ bs') : x = (b, t, cs') ∨ (x ∈ bs ∧ x.1 ≠ b) := by
  induction h with
  | here =>
    rcases List.mem_cons.1 hx with h1 | h1
    · exact Or.inl h1
    · exact Or.inr ⟨List.mem_cons_of_mem _ h1, fun e => (List.pairwise_cons.1 hn).1 x h1 e.symm⟩
  | there h0 ih =>
    rcases List.mem_cons.1 hx with h1 | h1
    · subst h1
      exact Or.inr ⟨List.mem_cons_self, fun e => (List.pairwise_cons.1 hn).1 _ h0.mem e⟩
    · rcases ih (List.pairwise_cons.1 hn).2 h1 with h2 | h2
      · exact Or.inl h2
      · exact Or.inr ⟨List.mem_cons_of_mem _ h2.1, h2.2⟩
theorem At.pair {bs b t cs cs' bs'} (h : At bs b t cs cs' bs') (hn : bs.Pairwise (fun x y => x.1 ≠ y.1)) : bs'.Pairwise (fun x y => x.1 ≠ y.1) := by
  have e := h.keys
  have g : ∀ l : List Blk, l.Pairwise (fun x y => x.1 ≠ y.1) ↔ (l.map (·.1)).Pairwise (· ≠ ·) := fun l => by rw [List.pairwise_map]
  rw [g] at hn ⊢
  rw [e]; exact hn
section
variable {F : Nat → Prop} {W0 w w' : World} {bs bs' : List Blk} {ks : List Fact}
theorem St.init (w : World) : St (fun _ => False) w w [] [] := ⟨Ext.refl _ _, by simp, by simp, by simp, by simp⟩
theorem St.initF (F : Nat → Prop) (w : World) : St F w w [] [] := ⟨Ext.refl _ _, by simp, by simp, by simp, by simp⟩
theorem St.row (h : St F W0 w bs ks) {b t : Nat} {cs cs' : List Value} {bs' : List Blk} (hx : At bs b t cs cs' bs') : Row w b t cs.toArray := h.rows _ hx.mem
theorem St.keep (h : St F W0 w bs ks) (f : Fact) (hf : f.holds w) (hd : ∀ k, f.foot k → ¬ Mine bs k) : St F W0 w bs (f :: ks) :=
  ⟨h.ext, h.rows, h.new, h.nd, fun g hg => by
    rcases List.mem_cons.1 hg with rfl | h1
    · exact ⟨hf, hd⟩
    · exact h.kept g h1⟩
theorem St.drop (h : St F W0 w bs ks) {ks' : List Fact} (hk : ∀ f ∈ ks', f ∈ ks) : St F W0 w bs ks' := ⟨h.ext, h.rows, h.new, h.nd, fun g hg => h.kept g (hk g hg)⟩
theorem St.forget (h : St F W0 w bs ks) {bs' : List Blk} (hs : List.Sublist bs' bs) : St F W0 w bs' ks :=
  ⟨h.ext, fun x hx => h.rows x (hs.subset hx), fun x hx => h.new x (hs.subset hx), h.nd.sublist hs, fun f hf => ⟨(h.kept f hf).1, fun k hk ⟨x, hx, e⟩ => (h.kept f hf).2 k hk ⟨x, hs.subset hx, e⟩⟩⟩
/-- Whatever turns other blocks, and makes new ones. -/
theorem St.step (h : St F W0 w bs ks) {G : Nat → Prop} (x : Ext G w w') (hb : ∀ y ∈ bs, ¬ G y.1) (hk : ∀ f ∈ ks, ∀ k, f.foot k → ¬ G k) (hF : ∀ k, G k → F k ∨ W0.heap.size ≤ k) : St F W0 w' bs ks :=
  ⟨h.ext.then_ x hF, fun y hy => (h.rows y hy).ext x (hb y hy), h.new, h.nd, fun f hf => ⟨f.stable G w w' x (h.kept f hf).1 (hk f hf), (h.kept f hf).2⟩⟩
theorem St.call (h : St F W0 w bs ks) (x : Ext (fun _ => False) w w') : St F W0 w' bs ks := h.step x (fun _ _ h => h) (fun _ _ _ _ h => h) (fun _ h => h.elim)
theorem St.drew (h : St F W0 w bs ks) : St F W0 w.drew bs ks := h.call ((Ext.refl _ _).drew)
theorem St.drewN (h : St F W0 w bs ks) (n : Nat) : St F W0 (w.drewN n) bs ks := h.call ((Ext.refl _ _).drewN n)
theorem St.alloc (h : St F W0 w bs ks) (cs : List Value) (t : Nat) : St F W0 (w.alloc (.cells cs.toArray t)) ((w.heap.size, t, cs) :: bs) ks := by
  have h1 := h.call ((Ext.refl _ w).alloc (.cells cs.toArray t))
  have hlt : ∀ x ∈ bs, x.1 < w.heap.size := fun x hx => (h.rows x hx).lt
  refine ⟨h1.ext, fun x hx => ?_, fun x hx => ?_, ?_, fun f hf => ⟨(h1.kept f hf).1, fun k hk ⟨y, hy, e⟩ => ?_⟩⟩
  · rcases List.mem_cons.1 hx with rfl | h2
    · exact heap_alloc_new w _
    · exact h1.rows x h2
  · rcases List.mem_cons.1 hx with rfl | h2
    · exact Or.inr h.ext.size
    · exact h.new x h2
  · exact List.pairwise_cons.2 ⟨fun y hy e => by have := hlt y hy; simp at e; omega, h.nd⟩
  · rcases List.mem_cons.1 hy with rfl | h2
    · have := f.lt w (h.kept f hf).1 k hk
      simp at e; omega
    · exact (h.kept f hf).2 k hk ⟨y, h2, e⟩
theorem St.write (h : St F W0 w bs ks) {b t : Nat} {cs cs' : List Value} (hx : At bs b t cs cs' bs') (x : Ext (fun k => k = b) w w') (hr : Row w' b t cs'.toArray) : St F W0 w' bs' ks := by
  have hm : Mine bs b := ⟨_, hx.mem, rfl⟩
  refine ⟨h.ext.then_ x (fun i hi => ?_), fun y hy => ?_, fun y hy => ?_, hx.pair h.nd, fun f hf => ⟨f.stable _ w w' x (h.kept f hf).1 (fun k hk e => (h.kept f hf).2 k hk (by subst e; exact hm)), fun k hk hmk => (h.kept f hf).2 k hk ((hx.mine k).1 hmk)⟩⟩
  · subst hi; exact h.new (_, t, cs) hx.mem
  · rcases hx.rows h.nd hy with rfl | ⟨h1, h2⟩
    · exact hr
    · exact (h.rows y h1).ext x h2
  · rcases hx.rows h.nd hy with rfl | ⟨h1, h2⟩
    · exact h.new (b, t, cs) hx.mem
    · exact h.new y h1
theorem St.set (h : St F W0 w bs ks) {b t i : Nat} {u : Value} {cs : List Value} (hx : At bs b t cs (cs.set i u) bs') : St F W0 (w.setCell ⟨b, i, none⟩ u) bs' ks := by
  refine h.write hx (Ext.setCell (F := fun k => k = b) (Ext.refl _ w) (p := ⟨b, i, none⟩) (Or.inl rfl) u) ?_
  have := (h.row hx).set i u
  simpa using this
theorem St.setRow (h : St F W0 w bs ks) {b t : Nat} {cs cs' : List Value} (hx : At bs b t cs cs' bs') : St F W0 (w.setRow b cs'.toArray) bs' ks := by
  refine h.write hx ⟨rfl, rfl, rfl, by simp, fun k _ hk => setRow_other w b k _ hk⟩ ?_
  exact setRow_heap w b _ _ _ _ (h.row hx)
end
/-! The operations. -/
section
variable {P : Program} {F : Nat → Prop} {W0 w : World} {bs : List Blk} {ks : List Fact} {o : Oper} {a : Act} {K : Act → World → Prop} {Q : Exit → Act → World → Prop}
theorem oper_of_run {v : Value} {w' : World} (hr : (execOp a.eval o).run P w = .ok (.value v) w') (h : K (a.put o.dst v) w') : o.wp P a w K Q := by
  unfold Oper.wp; rw [hr]; exact h
theorem oper_of_skip {w' : World} (hr : (execOp a.eval o).run P w = .ok .skip w') (h : K (a.put o.dst undef) w') : o.wp P a w K Q := by
  unfold Oper.wp; rw [hr]; exact h
abbrev isRowB : TypeDesc → Bool
  | .struct _ | .array _ _ => true
  | _ => false
theorem run_isAgg {T : TypeId} {d : TypeDesc} (hu : P.underlying T = some d) (w : World) : (isAgg T).run P w = .ok (isRowB d) w := by
  unfold isAgg
  rw [Sem.run_bind, run_underlying hu w]
  cases d <;> rfl
theorem run_load_cell {b i : Nat} {v : Value} (h : w.cell? ⟨b, i, none⟩ = some v) : (load ⟨b, i, none⟩).run P w = .ok v w := by
  simp [go_sem, h]
theorem st_load1 (hS : St F W0 w bs ks) {T : TypeId} {x : Operand} {d : TypeDesc} {b i t : Nat} {cs : List Value} {v : Value} (ho : o.op = .load T x) (hx : a.eval x = .pointer (some ⟨b, i, none⟩)) (hu : P.underlying T = some d) (hd : isRowB d = false)
    (hm : At bs b t cs cs bs) (hv : cs[i]? = some v) (h : K (a.put o.dst v) w) : o.wp P a w K Q := by
  refine oper_of_run (v := v) (w' := w) ?_ h
  have hc : w.cell? ⟨b, i, none⟩ = some v := by rw [(hS.row hm).cell]; simpa using hv
  unfold execOp
  simp only [ho, hx, Instr.loadAt, Instr.sureAddr, Sem.run_bind, Sem.run_pure, Result.andThen_ok, loadVar, run_isAgg hu, hd, run_load_cell hc, Bool.false_eq_true, if_false]
theorem st_loadA (hS : St F W0 w bs ks) {T : TypeId} {x : Operand} {d : TypeDesc} {b i t n : Nat} {cs vs : List Value} (ho : o.op = .load T x) (hx : a.eval x = .pointer (some ⟨b, i, none⟩)) (hu : P.underlying T = some d) (hd : isRowB d = true)
    (hi : (P.info? T).map (·.size) = some n) (hm : At bs b t cs cs bs) (hv : (cs.drop i).take n = vs) (hl : vs.length = n) (h : K (a.put o.dst (.agg vs.toArray)) w) : o.wp P a w K Q := by
  refine oper_of_run (v := .agg vs.toArray) (w' := w) ?_ h
  have hc : ∀ j v, vs[j]? = some v → w.cell? ((⟨b, i, none⟩ : Addr).add j) = some v := fun j v hv' => by
    have e : (⟨b, i, none⟩ : Addr).add j = ⟨b, i + j, none⟩ := by unfold Addr.add; split <;> simp_all
    have hj : j < n := by rw [← hl]; exact (List.getElem?_eq_some_iff.1 hv').1
    rw [e, (hS.row hm).cell]
    rw [← hv, List.getElem?_take, if_pos hj, List.getElem?_drop] at hv'
    simpa using hv'
  have hl2 : (loadCells ⟨b, i, none⟩ vs.length).run P w = .ok vs.toArray w := run_loadCells_list (P := P) w ⟨b, i, none⟩ vs hc
  cases hq : P.info? T with
  | none => simp [hq] at hi
  | some i0 =>
    have hs : i0.size = vs.length := by rw [hl]; simpa [hq] using hi
    unfold execOp
    simp only [ho, hx, Instr.loadAt, Instr.sureAddr, Sem.run_bind, Sem.run_pure, Result.andThen_ok, loadVar, run_isAgg hu, hd, if_true, sizeOf, typeInfo]
    simp [hq, hs, hl2]
theorem st_store (hS : St F W0 w bs ks) {T : TypeId} {x y : Operand} {b i t : Nat} {cs cs' : List Value} {bs' : List Blk} {v : Value} (ho : o.op = .store T x y) (hx : a.eval x = .pointer (some ⟨b, i, none⟩)) (hy : a.eval y = v)
    (hi : (P.info? T).map (·.size) = some v.cells.size) (hm : At bs b t cs cs' bs') (hl : i + v.cells.size ≤ cs.length) (hv : cs.take i ++ (v.cells.toList ++ cs.drop (i + v.cells.size)) = cs') (h1 : ∀ u ∈ v.cells.toList, u.oneCell' = true)
    (h : ∀ w', St F W0 w' bs' ks → K (a.put o.dst undef) w') : o.wp P a w K Q := by
  have hr := hS.row hm
  have hrun := run_storeCells_at P b i t v.cells.toList 0 cs.toArray w hr (by simpa using hl) h1
  simp only [Nat.add_zero, List.append_assoc] at hrun
  refine oper_of_skip (w' := w.setRow b cs'.toArray) ?_ (h _ (hS.setRow hm))
  cases hq : P.info? T with
  | none => simp [hq] at hi
  | some i0 =>
    have hs : v.cells.size = i0.size := by simp [hq] at hi; omega
    unfold execOp
    simp only [ho, hx, hy, Instr.storeAt, Instr.sureAddr, Sem.run_bind, Sem.run_pure, Result.andThen_ok, storeVar, sizeOf, typeInfo]
    simp [hq, hs, Addr.add_lit] at hrun ⊢
    rw [hrun, ← hv, hs]
    rfl
end
/-! At a region's list. -/
section
variable {P : Program} {F : Nat → Prop} {W0 w : World} {bs : List Blk} {ks : List Fact} {ops : Array Oper} {rest : List Oper} {o : Oper} {a : Act} {Q : Exit → Act → World → Prop}
theorem wl_of (hw : Region.wanted o (yielded ops a.tmps) = true) (h : ∀ K : Act → World → Prop, (∀ a w, wpList P ops Q rest a w → K a w) → o.wp P a w K Q) : wpList P ops Q (o :: rest) a w :=
  wpList_step fun K hK => by rw [if_pos hw]; exact h K hK
theorem wl_load1 (hS : St F W0 w bs ks) (hg : Region.wanted o (yielded ops a.tmps) = true) {T : TypeId} {x : Operand} {d : TypeDesc} {b i t : Nat} {cs : List Value} {v : Value} (ho : o.op = .load T x) (hx : a.eval x = .pointer (some ⟨b, i, none⟩)) (hu : P.underlying T = some d) (hd : isRowB d = false)
    (hm : At bs b t cs cs bs) (hv : cs[i]? = some v) (h : wpList P ops Q rest (a.put o.dst v) w) : wpList P ops Q (o :: rest) a w :=
  wl_of hg fun _ hK => st_load1 hS ho hx hu hd hm hv (hK _ _ h)
theorem wl_loadA (hS : St F W0 w bs ks) (hg : Region.wanted o (yielded ops a.tmps) = true) {T : TypeId} {x : Operand} {d : TypeDesc} {b i t n : Nat} {cs vs : List Value} (ho : o.op = .load T x) (hx : a.eval x = .pointer (some ⟨b, i, none⟩)) (hu : P.underlying T = some d) (hd : isRowB d = true)
    (hi : (P.info? T).map (·.size) = some n) (hm : At bs b t cs cs bs) (hv : (cs.drop i).take n = vs) (hl : vs.length = n) (h : wpList P ops Q rest (a.put o.dst (.agg vs.toArray)) w) : wpList P ops Q (o :: rest) a w :=
  wl_of hg fun _ hK => st_loadA hS ho hx hu hd hi hm hv hl (hK _ _ h)
theorem wl_store (hS : St F W0 w bs ks) (hg : Region.wanted o (yielded ops a.tmps) = true) {T : TypeId} {x y : Operand} {b i t : Nat} {cs cs' : List Value} {bs' : List Blk} {v : Value} (ho : o.op = .store T x y) (hx : a.eval x = .pointer (some ⟨b, i, none⟩)) (hy : a.eval y = v)
    (hi : (P.info? T).map (·.size) = some v.cells.size) (hm : At bs b t cs cs' bs') (hl : i + v.cells.size ≤ cs.length) (hv : cs.take i ++ (v.cells.toList ++ cs.drop (i + v.cells.size)) = cs') (h1 : ∀ u ∈ v.cells.toList, u.oneCell' = true)
    (h : ∀ w', St F W0 w' bs' ks → wpList P ops Q rest (a.put o.dst undef) w') : wpList P ops Q (o :: rest) a w :=
  wl_of hg fun _ hK => st_store hS ho hx hy hi hm hl hv h1 (fun w' s => hK _ _ (h w' s))
theorem wl_storeAll (hS : St F W0 w bs ks) (hg : Region.wanted o (yielded ops a.tmps) = true) {T : TypeId} {x y : Operand} {b t : Nat} {cs vs : List Value} {bs' : List Blk} (ho : o.op = .store T x y) (hx : a.eval x = .pointer (some ⟨b, 0, none⟩)) (hy : a.eval y = .agg vs.toArray)
    (hi : (P.info? T).map (·.size) = some vs.length) (hm : At bs b t cs vs bs') (hl : vs.length = cs.length) (h1 : vs.all (·.oneCell') = true)
    (h : ∀ w', St F W0 w' bs' ks → wpList P ops Q rest (a.put o.dst undef) w') : wpList P ops Q (o :: rest) a w :=
  wl_of hg fun _ hK => st_store (v := .agg vs.toArray) hS ho hx hy (by simpa [Value.cells] using hi) hm (by simp [Value.cells, hl]) (by simp [Value.cells, hl]) (fun u hu => List.all_eq_true.1 h1 u (by simpa [Value.cells] using hu)) (fun w' s => hK _ _ (h w' s))
theorem set_mid (cs : List Value) (i : Nat) (v : Value) (h : i < cs.length) : cs.take i ++ ([v] ++ cs.drop (i + 1)) = cs.set i v := by
  rw [List.set_eq_take_append_cons_drop, if_pos h]; rfl
theorem wl_store1 (hS : St F W0 w bs ks) (hg : Region.wanted o (yielded ops a.tmps) = true) {T : TypeId} {x y : Operand} {b i t : Nat} {cs : List Value} {bs' : List Blk} {v : Value} (ho : o.op = .store T x y) (hx : a.eval x = .pointer (some ⟨b, i, none⟩)) (hy : a.eval y = v)
    (hi : (P.info? T).map (·.size) = some 1) (hm : At bs b t cs (cs.set i v) bs') (hc : v.cells = #[v]) (hl : (decide (i < cs.length)) = true) (h1 : v.oneCell' = true)
    (h : ∀ w', St F W0 w' bs' ks → wpList P ops Q rest (a.put o.dst undef) w') : wpList P ops Q (o :: rest) a w :=
  have hl' : i < cs.length := of_decide_eq_true hl
  wl_of hg fun _ hK => st_store (v := v) hS ho hx hy (by rw [hc]; exact hi) hm (by rw [hc]; exact hl') (by rw [hc]; exact set_mid cs i v hl') (by rw [hc]; simpa using h1) (fun w' s => hK _ _ (h w' s))
theorem wl_loadAll (hS : St F W0 w bs ks) (hg : Region.wanted o (yielded ops a.tmps) = true) {T : TypeId} {x : Operand} {d : TypeDesc} {b t n : Nat} {cs : List Value} (ho : o.op = .load T x) (hx : a.eval x = .pointer (some ⟨b, 0, none⟩)) (hu : P.underlying T = some d) (hd : isRowB d = true)
    (hi : (P.info? T).map (·.size) = some n) (hm : At bs b t cs cs bs) (hl : cs.length = n) (h : wpList P ops Q rest (a.put o.dst (.agg cs.toArray)) w) : wpList P ops Q (o :: rest) a w :=
  wl_of hg fun _ hK => st_loadA hS ho hx hu hd hi hm (by rw [List.drop_zero, ← hl, List.take_length]) hl (hK _ _ h)
/-- What was just made is mine. -/
theorem wl_made (hS : St F W0 w bs ks) {cs : List Value} {t : Nat} {l : List Oper} (h : ∀ w', St F W0 w' ((w.heap.size, t, cs) :: bs) ks → wpList P ops Q l a w') : wpList P ops Q l a (w.alloc (.cells cs.toArray t)) := h _ (hS.alloc cs t)
end
theorem St.cells {F : Nat → Prop} {W0 w : World} {bs : List Blk} {ks : List Fact} (h : St F W0 w bs ks) : ∀ x ∈ bs, (∀ i, w.cell? ⟨x.1, i, none⟩ = x.2.2[i]?) ∧ (∀ i, w.frozen? ⟨x.1, i, none⟩ = false) ∧ x.1 < w.heap.size := fun x hx =>
  ⟨fun i => by rw [(h.rows x hx).cell]; simp, (h.rows x hx).frozen, (h.rows x hx).lt⟩
theorem absorb_post {P : Program} {f : Func} {R : Ending → World → Prop} {ex : Exit} {a : Act} {F : Nat → Prop} {W0 w : World} {bs : List Blk} {ks : List Fact} (hS : St F W0 w bs ks) (h : ∀ w', St F W0 w' bs ks → bodyPost P f R ex a w') : bodyPost P f R ex a w := h _ hS
theorem absorb_code {P : Program} {c : Code} {Q : Exit → Act → World → Prop} {a : Act} {F : Nat → Prop} {W0 w : World} {bs : List Blk} {ks : List Fact} (hS : St F W0 w bs ks) (h : ∀ w', St F W0 w' bs ks → c.wp P Q a w') : c.wp P Q a w := h _ hS
end Go.Proofs.Ytbcpbndhkainnaa
