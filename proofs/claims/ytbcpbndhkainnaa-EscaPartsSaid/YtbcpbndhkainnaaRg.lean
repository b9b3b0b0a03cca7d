/- A region that draws its order, over a state: loads are taken first out of rows that stay. -/
import Derived.Test.YtbcpbndhkainnaaSt
import Derived.Test.YtbcpbndhkainnaaJ
namespace Go.Proofs.Ytbcpbndhkainnaa
open Go.RowKit
set_option linter.unusedSimpArgs false
set_option linter.unusedVariables false
def Rows (rs : List Blk) (w : World) : Prop := ∀ x ∈ rs, Row w x.1 x.2.1 x.2.2.toArray
theorem rows_nil (w : World) : Rows [] w := fun _ h => by cases h
theorem rows_cons {w : World} {b t : Nat} {cs : List Value} {rs : List Blk} (h : Row w b t cs.toArray) (hr : Rows rs w) : Rows ((b, t, cs) :: rs) w := fun x hx => by
  rcases List.mem_cons.1 hx with rfl | h1
  · exact h
  · exact hr x h1
theorem rows_of {rs : List Blk} {w : World} (_ : Rows rs w) (w' : World) (h : Rows rs w') : Rows rs w' := h
theorem rows_here {F : Nat → Prop} {W0 w : World} {bs : List Blk} {ks : List Fact} {b t : Nat} {cs : List Value} {rs : List Blk} (hS : St F W0 w bs ks) (hm : At bs b t cs cs bs) (hr : Rows rs w) : Rows ((b, t, cs) :: rs) w := rows_cons (hS.row hm) hr
section
variable {P : Program} {F : Nat → Prop} {W0 w : World} {bs : List Blk} {ks : List Fact} {ops : Array Oper} {a : Act} {Q : Exit → Act → World → Prop} {rs : List Blk}
theorem region_St0 (hS : St F W0 w bs ks) (J : Nat → Bool) (hm : P.follows .mixedOrders = true) {id : Nat}
    (h : ∀ w', Rows [] w' → St F W0 w' bs ks → wpAnyJ P .any ops Q (Rows []) J ops.size (Array.replicate ops.size false) a w') : (Code.region id ops true).wp P Q a w :=
  wp_region_J (Rows []) J hm (rows_nil _) (fun h1 => h _ h1 hS.drew)
theorem region_St1 (hS : St F W0 w bs ks) (i : Nat) (J : Nat → Bool) (hm : P.follows .mixedOrders = true) {id : Nat} {x : Blk} (hx : bs[i]? = some x)
    (h : ∀ w', Rows [x] w' → St F W0 w' bs ks → wpAnyJ P .any ops Q (Rows [x]) J ops.size (Array.replicate ops.size false) a w') : (Code.region id ops true).wp P Q a w :=
  wp_region_J (Rows [x]) J hm (rows_cons (hS.drew.rows x (List.mem_of_getElem? hx)) (rows_nil _)) (fun h1 => h _ h1 hS.drew)
theorem region_St2 (hS : St F W0 w bs ks) (i k : Nat) (J : Nat → Bool) (hm : P.follows .mixedOrders = true) {id : Nat} {x y : Blk} (hx : bs[i]? = some x) (hy : bs[k]? = some y)
    (h : ∀ w', Rows [x, y] w' → St F W0 w' bs ks → wpAnyJ P .any ops Q (Rows [x, y]) J ops.size (Array.replicate ops.size false) a w') : (Code.region id ops true).wp P Q a w :=
  wp_region_J (Rows [x, y]) J hm (rows_cons (hS.drew.rows x (List.mem_of_getElem? hx)) (rows_cons (hS.drew.rows y (List.mem_of_getElem? hy)) (rows_nil _))) (fun h1 => h _ h1 hS.drew)
theorem region_St3 (hS : St F W0 w bs ks) (i k l : Nat) (J : Nat → Bool) (hm : P.follows .mixedOrders = true) {id : Nat} {x y z : Blk} (hx : bs[i]? = some x) (hy : bs[k]? = some y) (hz : bs[l]? = some z)
    (h : ∀ w', Rows [x, y, z] w' → St F W0 w' bs ks → wpAnyJ P .any ops Q (Rows [x, y, z]) J ops.size (Array.replicate ops.size false) a w') : (Code.region id ops true).wp P Q a w :=
  wp_region_J (Rows [x, y, z]) J hm (rows_cons (hS.drew.rows x (List.mem_of_getElem? hx)) (rows_cons (hS.drew.rows y (List.mem_of_getElem? hy)) (rows_cons (hS.drew.rows z (List.mem_of_getElem? hz)) (rows_nil _)))) (fun h1 => h _ h1 hS.drew)
theorem y_load1 {o : Oper} (hw : Region.wanted o (yielded ops a.tmps) = true) {T : TypeId} {x : Operand} {d : TypeDesc} {b i t : Nat} {cs : List Value} {v : Value} (ho : o.op = .load T x) (hx : a.eval x = .pointer (some ⟨b, i, none⟩)) (hu : P.underlying T = some d) (hd : isRowB d = false)
    (hm : At rs b t cs cs rs) (hv : cs[i]? = some v) : YieldsIf P ops (Rows rs) o v a := .inl ⟨hw, fun w hS => by
  have hc : w.cell? ⟨b, i, none⟩ = some v := by rw [(hS _ hm.mem).cell]; simpa using hv
  unfold execOp
  simp only [ho, hx, Instr.loadAt, Instr.sureAddr, Sem.run_bind, Sem.run_pure, Result.andThen_ok, loadVar, run_isAgg hu, hd, run_load_cell hc, Bool.false_eq_true, if_false]⟩
theorem y_loadA {o : Oper} (hw : Region.wanted o (yielded ops a.tmps) = true) {T : TypeId} {x : Operand} {d : TypeDesc} {b i t n : Nat} {cs vs : List Value} (ho : o.op = .load T x) (hx : a.eval x = .pointer (some ⟨b, i, none⟩)) (hu : P.underlying T = some d) (hd : isRowB d = true)
    (hi : (P.info? T).map (·.size) = some n) (hm : At rs b t cs cs rs) (hv : (cs.drop i).take n = vs) (hl : vs.length = n) : YieldsIf P ops (Rows rs) o (.agg vs.toArray) a := .inl ⟨hw, fun w hS => by
  have hc : ∀ j v, vs[j]? = some v → w.cell? ((⟨b, i, none⟩ : Addr).add j) = some v := fun j v hv' => by
    have e : (⟨b, i, none⟩ : Addr).add j = ⟨b, i + j, none⟩ := by unfold Addr.add; split <;> simp_all
    have hj : j < n := by rw [← hl]; exact (List.getElem?_eq_some_iff.1 hv').1
    rw [e, (hS _ hm.mem).cell]
    rw [← hv, List.getElem?_take, if_pos hj, List.getElem?_drop] at hv'
    simpa using hv'
  have hl2 : (loadCells ⟨b, i, none⟩ vs.length).run P w = .ok vs.toArray w := run_loadCells_list (P := P) w ⟨b, i, none⟩ vs hc
  cases hq : P.info? T with
  | none => simp [hq] at hi
  | some i0 =>
    have hs : i0.size = vs.length := by rw [hl]; simpa [hq] using hi
    unfold execOp
    simp only [ho, hx, Instr.loadAt, Instr.sureAddr, Sem.run_bind, Sem.run_pure, Result.andThen_ok, loadVar, run_isAgg hu, hd, if_true, sizeOf, typeInfo]
    simp [hq, hs, hl2]⟩
theorem y_loadAll {o : Oper} (hw : Region.wanted o (yielded ops a.tmps) = true) {T : TypeId} {x : Operand} {d : TypeDesc} {b t n : Nat} {cs : List Value} (ho : o.op = .load T x) (hx : a.eval x = .pointer (some ⟨b, 0, none⟩)) (hu : P.underlying T = some d) (hd : isRowB d = true)
    (hi : (P.info? T).map (·.size) = some n) (hm : At rs b t cs cs rs) (hl : cs.length = n) : YieldsIf P ops (Rows rs) o (.agg cs.toArray) a :=
  y_loadA hw ho hx hu hd hi hm (by rw [List.drop_zero, ← hl, List.take_length]) hl
theorem y_move {o : Oper} (hw : Region.wanted o (yielded ops a.tmps) = true) {x : Operand} {v : Value} (ho : o.op = .move x) (hx : a.eval x = v) : YieldsIf P ops (Rows rs) o v a := .inl ⟨hw, fun w _ => by unfold execOp; simp only [ho, hx]; rfl⟩
theorem y_assign {o : Oper} (hw : Region.wanted o (yielded ops a.tmps) = true) {x : Operand} {v : Value} (ho : o.op = .assign x) (hx : a.eval x = v) : YieldsIf P ops (Rows rs) o v a := .inl ⟨hw, fun w _ => by unfold execOp; simp only [ho, hx]; rfl⟩
end
section
variable {P : Program} {F : Nat → Prop} {W0 w : World} {bs : List Blk} {ks : List Fact} {o : Oper} {a : Act} {K : Act → World → Prop} {Q : Exit → Act → World → Prop}
theorem sw {ops : Array Oper} {E : Prop} (hw : Region.wanted o (yielded ops a.tmps) = true) (h : o.wp P a w K Q) : if Region.wanted o (yielded ops a.tmps) = true then o.wp P a w K Q else E := by rw [if_pos hw]; exact h
theorem st_storeAll (hS : St F W0 w bs ks) {T : TypeId} {x y : Operand} {b t : Nat} {cs vs : List Value} {bs' : List Blk} (ho : o.op = .store T x y) (hx : a.eval x = .pointer (some ⟨b, 0, none⟩)) (hy : a.eval y = .agg vs.toArray)
    (hi : (P.info? T).map (·.size) = some vs.length) (hm : At bs b t cs vs bs') (hl : vs.length = cs.length) (h1 : vs.all (·.oneCell') = true)
    (h : ∀ w', St F W0 w' bs' ks → K (a.put o.dst undef) w') : o.wp P a w K Q :=
  st_store (v := .agg vs.toArray) hS ho hx hy (by simpa [Value.cells] using hi) hm (by simp [Value.cells, hl]) (by simp [Value.cells, hl]) (fun u hu => List.all_eq_true.1 h1 u (by simpa [Value.cells] using hu)) h
theorem st_store1 (hS : St F W0 w bs ks) {T : TypeId} {x y : Operand} {b i t : Nat} {cs : List Value} {bs' : List Blk} {v : Value} (ho : o.op = .store T x y) (hx : a.eval x = .pointer (some ⟨b, i, none⟩)) (hy : a.eval y = v)
    (hi : (P.info? T).map (·.size) = some 1) (hm : At bs b t cs (cs.set i v) bs') (hc : v.cells = #[v]) (hl : (decide (i < cs.length)) = true) (h1 : v.oneCell' = true)
    (h : ∀ w', St F W0 w' bs' ks → K (a.put o.dst undef) w') : o.wp P a w K Q :=
  have hl' : i < cs.length := of_decide_eq_true hl
  st_store (v := v) hS ho hx hy (by rw [hc]; exact hi) hm (by rw [hc]; exact hl') (by rw [hc]; exact set_mid cs i v hl') (by rw [hc]; simpa using h1) h
theorem st_made (hS : St F W0 w bs ks) {v : Value} {cs : List Value} {t : Nat} (hr : (execOp a.eval o).run P w = .ok (.value v) (w.alloc (.cells cs.toArray t))) (h : ∀ w', St F W0 w' ((w.heap.size, t, cs) :: bs) ks → K (a.put o.dst v) w') : o.wp P a w K Q :=
  oper_of_run hr (h _ (hS.alloc cs t))
theorem st_fn {f : FuncId} {xs : Array Operand} {ts : Array TypeId} {vs : Array Value} {fn : Func} (hf : P.funcs[f]? = some fn) (hn : (fn.name == "runtime.NumGoroutine") = false) (hb : fn.body.isNone = false) (ho : o.op = .call { callee := .value (.func f), args := xs, argTypes := ts }) (has0 : xs.toList.map a.eval = vs.toList) (R : Ending → World → Prop) (hc : Calls P f vs w R)
    (h : ∀ e w', R e w' → ∃ v, e = .returned v ∧ K (a.put o.dst v) w') : o.wp P a w K Q := by
  have has : xs.map a.eval = vs := Array.ext' (by simpa using has0)
  subst has
  have h2 : Calls P f (xs.map a.eval) w fun
    | .returned v, w'' => K (a.put o.dst v) w''
    | .panicked chain, w'' => Q (.panic chain) a w''
    | .outgrown, _ => LetsOut Q := hc.mono fun e w' hr => by
      obtain ⟨v, rfl, hk⟩ := h e w' hr
      exact hk
  have hn' : ¬ fn.name = "runtime.NumGoroutine" := by simpa using hn
  have hb' : ¬ fn.body = none := by intro e; rw [e] at hb; cases hb
  unfold Oper.wp execOp
  simp [ho, resolve, invoke, Deferred.ofValue, callFunc, hf, hn', hb', Act.eval, Sem.run_bind, Sem.run_pure, Result.andThen_ok, Oper.upon]
  exact h2
end
section
variable {P : Program} {F : Nat → Prop} {W0 w : World} {bs : List Blk} {ks : List Fact} {fn : Func} {tmps : Array Value}
theorem run_loadVar_st (hS : St F W0 w bs ks) {T : TypeId} {d : TypeDesc} {b t n : Nat} {cs : List Value} (hu : P.underlying T = some d) (hd : isRowB d = true) (hi : (P.info? T).map (·.size) = some n) (hm : At bs b t cs cs bs) (hl : cs.length = n) :
    (loadVar T ⟨b, 0, none⟩).run P w = .ok (.agg cs.toArray) w := by
  have hc : ∀ j v, cs[j]? = some v → w.cell? ((⟨b, 0, none⟩ : Addr).add j) = some v := fun j v hv' => by
    have e : (⟨b, 0, none⟩ : Addr).add j = ⟨b, j, none⟩ := by unfold Addr.add; split <;> simp_all
    rw [e, (hS.row hm).cell]
    simpa using hv'
  have hl2 : (loadCells ⟨b, 0, none⟩ cs.length).run P w = .ok cs.toArray w := run_loadCells_list (P := P) w ⟨b, 0, none⟩ cs hc
  cases hq : P.info? T with
  | none => simp [hq] at hi
  | some i0 =>
    have hs : i0.size = cs.length := by rw [hl]; simpa [hq] using hi
    simp only [loadVar, Sem.run_bind, run_isAgg hu, hd, Result.andThen_ok, if_true, sizeOf, typeInfo]
    simp [hq, hs, hl2]
/-- The result is a struct of mine. -/
theorem res_cell (hS : St F W0 w bs ks) {T : TypeId} {r : Tmp} (hf : fn.results = #[.cell r T]) {d : TypeDesc} {b t n : Nat} {cs : List Value} (hu : P.underlying T = some d) (hd : isRowB d = true) (hi : (P.info? T).map (·.size) = some n)
    (hr : tmps.getD r undef = .pointer (some ⟨b, 0, none⟩)) (hm : At bs b t cs cs bs) (hl : cs.length = n) : (results fn tmps).run P w = .ok (.agg cs.toArray) w := by
  have hr' := hr
  rw [Array.getD_eq_getD_getElem?] at hr'
  simp [results, hf, hr', asAddr, run_loadVar_st hS hu hd hi hm hl]
theorem res_cell_tmp (hS : St F W0 w bs ks) {T : TypeId} {r q : Tmp} (hf : fn.results = #[.cell r T, .tmp q]) {d : TypeDesc} {b t n : Nat} {cs : List Value} {v : Value} (hu : P.underlying T = some d) (hd : isRowB d = true) (hi : (P.info? T).map (·.size) = some n)
    (hr : tmps.getD r undef = .pointer (some ⟨b, 0, none⟩)) (hm : At bs b t cs cs bs) (hl : cs.length = n) (hq : tmps.getD q undef = v) : (results fn tmps).run P w = .ok (.tuple #[.agg cs.toArray, v]) w := by
  have hr' := hr
  rw [Array.getD_eq_getD_getElem?] at hr'
  have hq' := hq
  rw [Array.getD_eq_getD_getElem?] at hq'
  simp [results, hf, hr', hq', asAddr, run_loadVar_st hS hu hd hi hm hl]
theorem res_tmp (w : World) {q : Tmp} (hf : fn.results = #[.tmp q]) {v : Value} (hq : tmps.getD q undef = v) : (results fn tmps).run P w = .ok v w := by
  have hq' := hq
  rw [Array.getD_eq_getD_getElem?] at hq'
  simp [results, hf, hq']
end
section
variable {P : Program} {F : Nat → Prop} {W0 w : World} {bs : List Blk} {ks : List Fact} {o : Oper} {a : Act} {K : Act → World → Prop} {Q : Exit → Act → World → Prop}
/-- A struct of three cells out of the midst of a block, and into it. -/
theorem st_load3 (hS : St F W0 w bs ks) {T : TypeId} {x : Operand} {d : TypeDesc} {b i t : Nat} {cs r : List Value} {x0 x1 x2 : Value} (ho : o.op = .load T x) (hx : a.eval x = .pointer (some ⟨b, i, none⟩)) (hu : P.underlying T = some d) (hd : isRowB d = true)
    (hi : (P.info? T).map (·.size) = some 3) (hm : At bs b t cs cs bs) (hv : cs.drop i = x0 :: x1 :: x2 :: r) (h : K (a.put o.dst (.agg #[x0, x1, x2])) w) : o.wp P a w K Q :=
  st_loadA (vs := [x0, x1, x2]) hS ho hx hu hd hi hm (by rw [hv]; rfl) rfl h
theorem st_store3 (hS : St F W0 w bs ks) {T : TypeId} {x y : Operand} {b i t : Nat} {cs : List Value} {bs' : List Blk} {x0 x1 x2 : Value} (ho : o.op = .store T x y) (hx : a.eval x = .pointer (some ⟨b, i, none⟩)) (hy : a.eval y = .agg #[x0, x1, x2])
    (hi : (P.info? T).map (·.size) = some 3) (hm : At bs b t cs (cs.take i ++ ([x0, x1, x2] ++ cs.drop (i + 3))) bs') (hl : decide (i + 3 ≤ cs.length) = true) (h1 : [x0, x1, x2].all (·.oneCell') = true)
    (h : ∀ w', St F W0 w' bs' ks → K (a.put o.dst undef) w') : o.wp P a w K Q :=
  st_store (v := .agg #[x0, x1, x2]) hS ho hx hy (by simpa [Value.cells] using hi) hm (by simpa [Value.cells] using of_decide_eq_true hl) (by simp [Value.cells]) (fun u hu => List.all_eq_true.1 h1 u (by simpa [Value.cells] using hu)) h
theorem st_append (hS : St F W0 w bs ks) {s x : Operand} {t tx e : TypeId} {z : Value} {size bytes : Nat} (ho : o.op = .call { callee := .builtin .append, args := #[s, x], argTypes := #[t, tx] })
    (ht : P.underlying t = some (.slice e)) (hinfo : (P.info? e).map (fun i => (i.zero, i.size, i.bytes)) = some (some z, size, bytes)) (hzs : z.cells.size = size) (hsz : 0 < size)
    {v : Value} {n : Nat} {xs : List Value} (hs : a.eval s = v) (hown : w.ownsRow 0 e size v n xs) {xv : Value} {m : Nat} {news : List Value} (hx : a.eval x = xv) (hsrc : Src P size tx xv m news w)
    (h63 : n + m ≤ maxLen) (hbytes : (n + m) * bytes ≤ 140737488355328)
    (h : ∀ v' w', w'.ownsRow 0 e size v' (n + m) (xs ++ news) → Ext (Bk v) w w' → (∀ k, Bk v' k → Bk v k ∨ k = w.heap.size) → K (a.put o.dst v') w') : o.wp P a w K Q := by
  obtain ⟨i0, hi, hz0, hz1, hz2⟩ := info_parts hinfo
  obtain ⟨v', w', hr, h2, h3, h4, h5⟩ := run_own_src (P := P) w 0 t tx o.type e i0 z size bytes ht hi hz0 hz1 hz2 hzs hsz v n xs hown xv m news hsrc h63 hbytes (Nat.zero_le _)
  unfold Oper.wp execOp
  simp only [ho, resolve, invoke, builtin, Sem.run_bind, Sem.run_pure, Result.andThen_ok, List.map_toArray, List.map_cons, List.map_nil, hs, hx, hr]
  exact h v' w' h2 ((Ext.refl _ w).grown h3 (fun k e => Or.inl e)) (fun k hk => by
      rcases h5 with e | e
      · exact Or.inl (e.symm.trans hk)
      · right; have := e.symm.trans hk; simpa using this.symm)
end
section
variable {P : Program} {F : Nat → Prop} {W0 w : World} {bs : List Blk} {ks : List Fact} {ops : Array Oper} {rest : List Oper} {o : Oper} {a : Act} {Q : Exit → Act → World → Prop}
theorem wl_load3 (hS : St F W0 w bs ks) (hg : Region.wanted o (yielded ops a.tmps) = true) {T : TypeId} {x : Operand} {d : TypeDesc} {b i t : Nat} {cs r : List Value} {x0 x1 x2 : Value} (ho : o.op = .load T x) (hx : a.eval x = .pointer (some ⟨b, i, none⟩)) (hu : P.underlying T = some d) (hd : isRowB d = true)
    (hi : (P.info? T).map (·.size) = some 3) (hm : At bs b t cs cs bs) (hv : cs.drop i = x0 :: x1 :: x2 :: r) (h : wpList P ops Q rest (a.put o.dst (.agg #[x0, x1, x2])) w) : wpList P ops Q (o :: rest) a w :=
  wl_of hg fun _ hK => st_load3 hS ho hx hu hd hi hm hv (hK _ _ h)
theorem wl_store3 (hS : St F W0 w bs ks) (hg : Region.wanted o (yielded ops a.tmps) = true) {T : TypeId} {x y : Operand} {b i t : Nat} {cs : List Value} {bs' : List Blk} {x0 x1 x2 : Value} (ho : o.op = .store T x y) (hx : a.eval x = .pointer (some ⟨b, i, none⟩)) (hy : a.eval y = .agg #[x0, x1, x2])
    (hi : (P.info? T).map (·.size) = some 3) (hm : At bs b t cs (cs.take i ++ ([x0, x1, x2] ++ cs.drop (i + 3))) bs') (hl : decide (i + 3 ≤ cs.length) = true) (h1 : [x0, x1, x2].all (·.oneCell') = true)
    (h : ∀ w', St F W0 w' bs' ks → wpList P ops Q rest (a.put o.dst undef) w') : wpList P ops Q (o :: rest) a w :=
  wl_of hg fun _ hK => st_store3 hS ho hx hy hi hm hl h1 (fun w' s => hK _ _ (h w' s))
end
end Go.Proofs.Ytbcpbndhkainnaa
