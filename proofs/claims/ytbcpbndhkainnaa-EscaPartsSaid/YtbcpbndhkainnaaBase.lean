/- Words for the state of layer 18: what a state owns, and what may change beside it. -/
import Derived.Test.YtbcpbndhkainnaaRows
import Derived.WalkKit
import Derived.Lib.Hide
import Derived.Deep.LoopGhost
import Derived.Deep.QuietTactic
import Derived.BigQuiet
import Derived.Deep.RegionHeld3
import Derived.Deep.DeepCutAuto
import Derived.StillTailTactics
import Derived.Maps.AppendAt
import Derived.Deep.AppendLies
import Derived.Deep.RegionLaw
namespace Go.Proofs.Ytbcpbndhkainnaa
open Go.RowKit
set_option linter.unusedSimpArgs false
set_option linter.unusedVariables false

/-- Below the heap's size nothing but the blocks of F has turned. -/
structure Ext (F : Nat → Prop) (w w' : World) : Prop where
  os : w'.os = w.os
  tape : w'.tape = w.tape
  output : w'.output = w.output
  size : w.heap.size ≤ w'.heap.size
  block : ∀ k, k < w.heap.size → ¬ F k → w'.heap[k]? = w.heap[k]?

theorem Ext.refl (F : Nat → Prop) (w : World) : Ext F w w := ⟨rfl, rfl, rfl, Nat.le_refl _, fun _ _ _ => rfl⟩
theorem Ext.trans {F : Nat → Prop} {a b c : World} (h : Ext F a b) (k : Ext F b c) : Ext F a c :=
  ⟨k.os.trans h.os, k.tape.trans h.tape, k.output.trans h.output, Nat.le_trans h.size k.size,
   fun i hi hf => (k.block i (Nat.lt_of_lt_of_le hi h.size) hf).trans (h.block i hi hf)⟩
/-- The second step may write what the first has made. -/
theorem Ext.then_ {F G : Nat → Prop} {a b c : World} (h : Ext F a b) (k : Ext G b c) (hg : ∀ i, G i → F i ∨ a.heap.size ≤ i) : Ext F a c :=
  ⟨k.os.trans h.os, k.tape.trans h.tape, k.output.trans h.output, Nat.le_trans h.size k.size,
   fun i hi hf => (k.block i (Nat.lt_of_lt_of_le hi h.size) (fun hgi => by rcases hg i hgi with h1 | h1; exact hf h1; omega)).trans (h.block i hi hf)⟩
theorem Ext.mono {F G : Nat → Prop} {a b : World} (h : Ext F a b) (hg : ∀ i, F i → G i) : Ext G a b :=
  ⟨h.os, h.tape, h.output, h.size, fun i hi hf => h.block i hi (fun x => hf (hg i x))⟩
theorem Ext.drew {F : Nat → Prop} {a w : World} (h : Ext F a w) : Ext F a w.drew := ⟨h.os, h.tape, h.output, h.size, h.block⟩
theorem Ext.drewN {F : Nat → Prop} {a w : World} (h : Ext F a w) (n : Nat) : Ext F a (w.drewN n) := ⟨h.os, h.tape, h.output, h.size, h.block⟩
theorem Ext.alloc {F : Nat → Prop} {a w : World} (h : Ext F a w) (o : Obj) : Ext F a (w.alloc o) :=
  h.then_ (G := fun _ => False) ⟨rfl, rfl, rfl, by simp, fun k hk _ => Below.heap_alloc _ _ _ hk⟩ (fun _ x => x.elim)
theorem Ext.setCell {F : Nat → Prop} {a w : World} (h : Ext F a w) {p : Addr} (hp : F p.block ∨ a.heap.size ≤ p.block) (u : Value) : Ext F a (w.setCell p u) :=
  h.then_ (G := fun i => i = p.block) ⟨rfl, rfl, rfl, by simp [World.setCell], fun k _ hf => Below.heap_setCell _ _ _ _ hf⟩ (fun _ x => by subst x; exact hp)
theorem Ext.grown {F : Nat → Prop} {a w w' : World} {row : Option Nat} (h : Ext F a w) (hg : w.grownBy w' row) (hr : ∀ k, row = some k → F k ∨ a.heap.size ≤ k) : Ext F a w' :=
  h.then_ (G := fun i => row = some i) ⟨hg.os, hg.tape, hg.output, hg.size, fun k hk hf => hg.block k hk (fun e => hf e.symm)⟩ (fun _ x => hr _ x)
theorem Ext.below {F : Nat → Prop} {w w' : World} (h : Ext F w w') (hF : ∀ i, i < w.heap.size → ¬ F i) : Below w.heap.size w w' :=
  ⟨h.os, h.tape, h.output, h.size, fun k hk => h.block k hk (hF k hk)⟩

/-- Block b is a row of cells of type t, not frozen. -/
def Row (w : World) (b t : Nat) (cs : Array Value) : Prop := w.heap[b]? = some (.cells cs t (0, 0))
theorem Row.lt {w : World} {b t : Nat} {cs : Array Value} (h : Row w b t cs) : b < w.heap.size := (Array.getElem?_eq_some_iff.1 h).1
theorem Row.cell {w : World} {b t : Nat} {cs : Array Value} (h : Row w b t cs) (i : Nat) : w.cell? ⟨b, i, none⟩ = cs[i]? := by
  simp [World.cell?, show w.heap[b]? = _ from h]
theorem Row.frozen {w : World} {b t : Nat} {cs : Array Value} (h : Row w b t cs) (i : Nat) : w.frozen? ⟨b, i, none⟩ = false := by
  simp [World.frozen?, show w.heap[b]? = _ from h]
theorem Row.ext {F : Nat → Prop} {w w' : World} {b t : Nat} {cs : Array Value} (h : Row w b t cs) (e : Ext F w w') (hf : ¬ F b) : Row w' b t cs := by
  unfold Row; rw [e.block b h.lt hf]; exact h
theorem Row.set {w : World} {b t : Nat} {cs : Array Value} (h : Row w b t cs) (i : Nat) (u : Value) : Row (w.setCell ⟨b, i, none⟩ u) b t (cs.setIfInBounds i u) := by
  have h' : w.heap[b]? = some (.cells cs t (0, 0)) := h
  unfold Row World.setCell
  simp [Array.getElem?_modify, h']
theorem Row.far {w : World} {b t : Nat} {cs : Array Value} (h : Row w b t cs) {p : Addr} (hp : b ≠ p.block) (u : Value) : Row (w.setCell p u) b t cs := by
  unfold Row; rw [Below.heap_setCell _ _ _ _ hp]; exact h
theorem Row.type {w : World} {b t t' : Nat} {cs cs' : Array Value} (h : Row w b t cs) (h' : Row w b t' cs') : t = t' := by
  unfold Row at h h'; rw [h] at h'; injection h' with h'; injection h'

section
variable {P : Program} {ops : Array Oper}
/-- append onto what is owned, as one step of a region that draws its order. -/
theorem step_own {o : Oper} {a : Act} {w : World} {K : Act → World → Prop} {Q : Exit → Act → World → Prop} {E : Prop}
    (hg : o.guard = none) (s x : Operand) (t e : TypeId) (z : Value) (size bytes : Nat) (hop : o.op = .call { callee := .builtin .append, args := #[s, x], argTypes := #[t, t] })
    (ht : P.underlying t = some (.slice e)) (hinfo : (P.info? e).map (fun i => (i.zero, i.size, i.bytes)) = some (some z, size, bytes)) (hzs : z.cells.size = size) (hsz : 0 < size)
    (v : Value) (n : Nat) (xs : List Value) (hs : a.eval s = v) (hown : w.ownsRow 0 e size v n xs)
    (ad : Addr) (m c : Nat) (news : List Value) (hx : a.eval x = .slice (some ad) m c) (hl : news.length = m * size) (hnews : ∀ j u, news[j]? = some u → w.cell? (ad.add j) = some u) (h1 : ∀ u ∈ news, u.oneCell' = true)
    (h63 : n + m ≤ maxLen) (hbytes : (n + m) * bytes ≤ 140737488355328)
    (h : ∀ v' w', w'.ownsRow 0 e size v' (n + m) (xs ++ news) → w.grownBy w' v.ownBlock → (v'.ownBlock = v.ownBlock ∨ v'.ownBlock = some w.heap.size) → K (a.put o.dst v') w') :
    if Region.wanted o (yielded ops a.tmps) = true then Oper.wp P o a w K Q else E := by
  have hw : Region.wanted o (yielded ops a.tmps) = true := by simp [Region.wanted, hg]
  rw [if_pos hw]
  obtain ⟨i0, hi, hz0, hz1, hz2⟩ := info_parts hinfo
  obtain ⟨v', w', hr, h2, h3, h4, h5⟩ := run_append_own_at (P := P) w 0 t o.type e i0 z size bytes ht hi hz0 hz1 hz2 hzs hsz v n xs hown ad m c news hl hnews h1 h63 hbytes (Nat.zero_le _)
  unfold Oper.wp execOp
  simp only [hop, resolve, invoke, builtin, Sem.run_bind, Sem.run_pure, Result.andThen_ok, List.map_toArray, List.map_cons, List.map_nil, hs, hx, hr]
  exact h v' w' h2 h3 h5
/-- The same in a walk. -/
theorem wp_own {rest : List Oper} {o : Oper} {a : Act} {Q : Exit → Act → World → Prop} {w : World}
    (hg : o.guard = none) (s x : Operand) (t e : TypeId) (z : Value) (size bytes : Nat) (hop : o.op = .call { callee := .builtin .append, args := #[s, x], argTypes := #[t, t] })
    (ht : P.underlying t = some (.slice e)) (hinfo : (P.info? e).map (fun i => (i.zero, i.size, i.bytes)) = some (some z, size, bytes)) (hzs : z.cells.size = size) (hsz : 0 < size)
    (v : Value) (n : Nat) (xs : List Value) (hs : a.eval s = v) (hown : w.ownsRow 0 e size v n xs)
    (ad : Addr) (m c : Nat) (news : List Value) (hx : a.eval x = .slice (some ad) m c) (hl : news.length = m * size) (hnews : ∀ j u, news[j]? = some u → w.cell? (ad.add j) = some u) (h1 : ∀ u ∈ news, u.oneCell' = true)
    (h63 : n + m ≤ maxLen) (hbytes : (n + m) * bytes ≤ 140737488355328)
    (h : ∀ v' w', w'.ownsRow 0 e size v' (n + m) (xs ++ news) → w.grownBy w' v.ownBlock → (v'.ownBlock = v.ownBlock ∨ v'.ownBlock = some w.heap.size) → wpList P ops Q rest (a.put o.dst v') w') :
    wpList P ops Q (o :: rest) a w := by
  obtain ⟨i0, hi, hz0, hz1, hz2⟩ := info_parts hinfo
  exact wpList_append_own_at w hg s x t hop 0 e i0 z size bytes ht hi hz0 hz1 hz2 hzs hsz v n xs hs hown ad m c news hx hl hnews h1 h63 hbytes (Nat.zero_le _) (fun v' w' a b _ c => h v' w' a b c)
end
/-- The cells of a block that was just made. -/
theorem news_new (w : World) (cs : List Value) (t : TypeId) : ∀ j u, cs[j]? = some u → (w.alloc (.cells cs.toArray t)).cell? ((⟨w.heap.size, 0, none⟩ : Addr).add j) = some u := by
  intro j u h
  exact World.news_of_block (cs := cs.toArray) (t := t) (fr := (0, 0)) (heap_alloc_new w _) j u (by simpa using h)
theorem news_at (w : World) (cs : List Value) (t : TypeId) (b : Nat) (hb : b = w.heap.size) : ∀ j u, cs[j]? = some u → (w.alloc (.cells cs.toArray t)).cell? ((⟨b, 0, none⟩ : Addr).add j) = some u := by
  subst hb; exact news_new w cs t
theorem news_new' (w : World) (cs : Array Value) (t : TypeId) : ∀ j u, cs.toList[j]? = some u → (w.alloc (.cells cs t)).cell? ((⟨w.heap.size, 0, none⟩ : Addr).add j) = some u :=
  World.news_of_block (cs := cs) (t := t) (fr := (0, 0)) (heap_alloc_new w _)
/-- What is owned of one type lies in no row of another. -/
theorem own_ne {w : World} {b t base e size n : Nat} {cs : Array Value} {v : Value} {xs : List Value} (h : Row w b t cs) (ho : w.ownsRow base e size v n xs) (ht : t ≠ e) : v.ownBlock ≠ some b := by
  intro hk
  rcases ho.2 with ⟨rfl, _⟩ | ⟨g, cap, cur, rfl, _, hg, _⟩
  · simp [Value.ownBlock] at hk
  · have : g = b := by simpa [Value.ownBlock] using hk
    subst this
    exact ht (Row.type h hg)
theorem own_lt {w : World} {base e size n : Nat} {v : Value} {xs : List Value} (ho : w.ownsRow base e size v n xs) : ∀ k, v.ownBlock = some k → k < w.heap.size := fun k hk => (ho.lt k hk).2
/-- Whatever is owned stays while the blocks of another are written. -/
theorem own_ext {F : Nat → Prop} {w w' : World} {base e size n : Nat} {v : Value} {xs : List Value} (h : w.ownsRow base e size v n xs) (x : Ext F w w') (hf : ∀ k, v.ownBlock = some k → ¬ F k) : w'.ownsRow base e size v n xs := by
  refine ⟨h.1, ?_⟩
  rcases h.2 with hn | ⟨g, cap, cur, rfl, hb, hg, r⟩
  · exact Or.inl hn
  · exact Or.inr ⟨g, cap, cur, rfl, hb, by rw [x.block g (Array.getElem?_eq_some_iff.1 hg).1 (hf g rfl)]; exact hg, r⟩
/-- F and what is new between two worlds. -/
def Gr (F : Nat → Prop) (w w' : World) : Nat → Prop := fun k => F k ∨ (w.heap.size ≤ k ∧ k < w'.heap.size)
/-- The blocks of a slice. -/
def Bk (v : Value) : Nat → Prop := fun k => v.ownBlock = some k
theorem own_row {w : World} {base e size n : Nat} {v : Value} {xs : List Value} (ho : w.ownsRow base e size v n xs) (k : Nat) (hk : Bk v k) : ∃ cs, Row w k e cs := by
  rcases ho.2 with ⟨rfl, _⟩ | ⟨g, cap, cur, rfl, _, hg, _⟩
  · simp [Bk, Value.ownBlock] at hk
  · have : g = k := by simpa [Bk, Value.ownBlock] using hk
    subst this
    exact ⟨cur, hg⟩
theorem own_set {w : World} {base e size n : Nat} {v : Value} {xs : List Value} (ho : w.ownsRow base e size v n xs) {p : Addr} {u : Value} (h : v.ownBlock ≠ some p.block) : (w.setCell p u).ownsRow base e size v n xs :=
  own_ext ho ((Ext.refl (fun k => k = p.block) w).setCell (Or.inl rfl) u) (fun k e he => h (by rw [e, he]))
theorem own_form {w : World} {base e size n : Nat} {v : Value} {xs : List Value} (ho : w.ownsRow base e size v n xs) : ∃ a c, v = .slice a n c := by
  rcases ho.2 with ⟨rfl, rfl⟩ | ⟨g, cap, cur, rfl, _⟩
  · exact ⟨none, 0, rfl⟩
  · exact ⟨_, cap, rfl⟩
theorem own_cell {w : World} {base e size n g c : Nat} {xs : List Value} (ho : w.ownsRow base e size (.slice (some ⟨g, 0, none⟩) n c) n xs) (j : Nat) (u : Value) (hu : xs[j]? = some u) : w.cell? ⟨g, j, none⟩ = some u := by
  have := ho.cells (g := g) rfl j u hu
  have hadd : (⟨g, 0, none⟩ : Addr).add j = ⟨g, j, none⟩ := by unfold Addr.add; split <;> simp_all
  rwa [hadd] at this
theorem own_frozen {w : World} {base e size n g c : Nat} {xs : List Value} (ho : w.ownsRow base e size (.slice (some ⟨g, 0, none⟩) n c) n xs) (j : Nat) : w.frozen? ⟨g, j, none⟩ = false := by
  obtain ⟨cs, hc⟩ := own_row ho g rfl
  exact hc.frozen j
theorem own_addr {w : World} {base e size n c : Nat} {a : Option Addr} {xs : List Value} (ho : w.ownsRow base e size (.slice a n c) n xs) (hn : 0 < n) : ∃ g, a = some ⟨g, 0, none⟩ := by
  obtain ⟨g, cap, h, _⟩ := ho.form hn
  injection h with h1 h2 h3
  exact ⟨g, h1⟩
/-- Nothing but orders has been drawn. -/
def Drawn (w w' : World) : Prop := ∃ n, w' = w.drewN n
theorem Drawn.refl (w : World) : Drawn w w := ⟨0, rfl⟩
theorem Drawn.step {w w' : World} (h : Drawn w w') (n : Nat) : Drawn w (w'.drewN n) := by
  obtain ⟨m, rfl⟩ := h
  exact ⟨m + n, World.drewN_drewN ..⟩
theorem Drawn.step1 {w w' : World} (h : Drawn w w') : Drawn w w'.drew := h.step 1
theorem Drawn.trans {a b c : World} (h : Drawn a b) (k : Drawn b c) : Drawn a c := by
  obtain ⟨m, rfl⟩ := k
  exact h.step m
theorem Drawn.ext {w w' : World} (h : Drawn w w') (F : Nat → Prop) : Ext F w w' := by
  obtain ⟨m, rfl⟩ := h
  exact (Ext.refl _ _).drewN m
/-- A row that a call is making: it lies in new blocks alone. -/
structure Out (w wr : World) (t size : Nat) (v : Value) (n : Nat) (xs : List Value) : Prop where
  own : wr.ownsRow 0 t size v n xs
  new : ∀ b, Bk v b → w.heap.size ≤ b
theorem Out.nil (w wr : World) (t size : Nat) : Out w wr t size (.slice none 0 0) 0 [] := ⟨World.ownsRow_nil _ _ _ _, fun b hb => by simp [Bk, Value.ownBlock] at hb⟩
theorem Out.ext {G : Nat → Prop} {w wr w1 : World} {t size n : Nat} {v : Value} {xs : List Value} (h : Out w wr t size v n xs) (x : Ext G wr w1) (hf : ∀ k, Bk v k → ¬ G k) : Out w w1 t size v n xs :=
  ⟨own_ext h.own x hf, h.new⟩
theorem Out.app {F : Nat → Prop} {w wr wa w1 : World} {t size n n' : Nat} {v v' : Value} {xs xs' : List Value} (h : Out w wr t size v n xs) (X : Ext F w wr) (Xa : Ext (fun _ => False) wr wa)
    (hown : w1.ownsRow 0 t size v' n' xs') (hgrow : wa.grownBy w1 v.ownBlock) (hat : v'.ownBlock = v.ownBlock ∨ v'.ownBlock = some wa.heap.size) :
    Out w w1 t size v' n' xs' ∧ Ext F w w1 ∧ Ext (Bk v) wr w1 := by
  have Xb : Ext (Bk v) wr w1 := (Xa.mono (fun _ x => x.elim)).grown hgrow (fun k e => Or.inl e)
  refine ⟨⟨hown, fun b hb => ?_⟩, X.then_ Xb (fun i hi => Or.inr (h.new i hi)), Xb⟩
  rcases hat with e | e
  · exact h.new b (e.symm.trans hb)
  · have : wa.heap.size = b := by have := e.symm.trans hb; simpa using this
    have := X.size; have := Xa.size; omega
theorem own_ne2 {w : World} {b b' e e' s s' n n' : Nat} {v v' : Value} {xs xs' : List Value} (h : w.ownsRow b e s v n xs) (h' : w.ownsRow b' e' s' v' n' xs') (ht : e ≠ e') : ∀ k, Bk v k → ¬ Bk v' k := fun k h1 h2 => by
  obtain ⟨cs, hc⟩ := own_row h k h1
  exact own_ne hc h' ht h2
section
variable {P : Program} {ops : Array Oper}
/-- append onto a row that the call is making. -/
theorem wp_out {rest : List Oper} {o : Oper} {a : Act} {Q : Exit → Act → World → Prop} {F : Nat → Prop} {W w0 w : World}
    (hg : o.guard = none) (s x : Operand) (t e : TypeId) (z : Value) (size bytes : Nat) (hop : o.op = .call { callee := .builtin .append, args := #[s, x], argTypes := #[t, t] })
    (ht : P.underlying t = some (.slice e)) (hinfo : (P.info? e).map (fun i => (i.zero, i.size, i.bytes)) = some (some z, size, bytes)) (hzs : z.cells.size = size) (hsz : 0 < size)
    (v : Value) (n : Nat) (xs : List Value) (hs : a.eval s = v) (hO : Out W w0 e size v n xs) (X : Ext F W w0) (Xa : Ext (fun _ => False) w0 w)
    (ad : Addr) (m c : Nat) (news : List Value) (hx : a.eval x = .slice (some ad) m c) (hl : news.length = m * size) (hnews : ∀ j u, news[j]? = some u → w.cell? (ad.add j) = some u) (h1 : ∀ u ∈ news, u.oneCell' = true)
    (h63 : n + m ≤ maxLen) (hbytes : (n + m) * bytes ≤ 140737488355328)
    (h : ∀ v' w', Out W w' e size v' (n + m) (xs ++ news) → Ext F W w' → Ext (Bk v) w0 w' → wpList P ops Q rest (a.put o.dst v') w') :
    wpList P ops Q (o :: rest) a w :=
  wp_own hg s x t e z size bytes hop ht hinfo hzs hsz v n xs hs (own_ext hO.own Xa (fun _ _ x => x)) ad m c news hx hl hnews h1 h63 hbytes (fun v' w' ho hgr hat => by
    obtain ⟨o1, o2, o3⟩ := hO.app X Xa ho hgr hat
    exact h v' w' o1 o2 o3)
end
section
variable {P : Program} {ops : Array Oper}
/-- append onto what was owned some steps ago, in a region that draws its order. -/
theorem step_app {o : Oper} {a : Act} {w0 w : World} {K : Act → World → Prop} {Q : Exit → Act → World → Prop} {E : Prop} {G : Nat → Prop}
    (hg : o.guard = none) (s x : Operand) (t e : TypeId) (z : Value) (size bytes : Nat) (hop : o.op = .call { callee := .builtin .append, args := #[s, x], argTypes := #[t, t] })
    (ht : P.underlying t = some (.slice e)) (hinfo : (P.info? e).map (fun i => (i.zero, i.size, i.bytes)) = some (some z, size, bytes)) (hzs : z.cells.size = size) (hsz : 0 < size)
    (v : Value) (n : Nat) (xs : List Value) (hs : a.eval s = v) (hown : w0.ownsRow 0 e size v n xs) (X : Ext G w0 w) (hG : ∀ k, Bk v k → ¬ G k)
    (ad : Addr) (m c : Nat) (news : List Value) (hx : a.eval x = .slice (some ad) m c) (hl : news.length = m * size) (hnews : ∀ j u, news[j]? = some u → w.cell? (ad.add j) = some u) (h1 : ∀ u ∈ news, u.oneCell' = true)
    (h63 : n + m ≤ maxLen) (hbytes : (n + m) * bytes ≤ 140737488355328)
    (h : ∀ v' w', w'.ownsRow 0 e size v' (n + m) (xs ++ news) → Ext (fun k => G k ∨ Bk v k) w0 w' → Ext (Bk v) w w' → (∀ k, Bk v' k → Bk v k ∨ k = w.heap.size) → K (a.put o.dst v') w') :
    if Region.wanted o (yielded ops a.tmps) = true then Oper.wp P o a w K Q else E :=
  step_own hg s x t e z size bytes hop ht hinfo hzs hsz v n xs hs (own_ext hown X hG) ad m c news hx hl hnews h1 h63 hbytes (fun v' w' ho hgr hat =>
    h v' w' ho ((X.mono (fun k hk => Or.inl hk)).grown hgr (fun k e => Or.inl (Or.inr e))) ((Ext.refl _ w).grown hgr (fun k e => Or.inl e)) (fun k hk => by
      rcases hat with e | e
      · exact Or.inl (e.symm.trans hk)
      · right; have := e.symm.trans hk; simpa using this.symm))
end
/-- Two rows stay apart where one of them grows. -/
theorem dis_app {u v v' : Value} {n m : Nat} (h : ∀ k, Bk u k → ¬ Bk v k) (hu : ∀ k, Bk u k → k < n) (hv : ∀ k, Bk v' k → Bk v k ∨ k = m) (hn : n ≤ m) : ∀ k, Bk u k → ¬ Bk v' k := fun k e e2 => by
  rcases hv k e2 with h1 | h1
  · exact h k e h1
  · have := hu k e; omega
theorem dis_symm {u v : Value} (h : ∀ k, Bk u k → ¬ Bk v k) : ∀ k, Bk v k → ¬ Bk u k := fun k a b => h k b a
theorem dis_nil (v : Value) : ∀ k, Bk (.slice none 0 0) k → ¬ Bk v k := fun k e => by simp [Bk, Value.ownBlock] at e
section
variable {P : Program} {ops : Array Oper}
/-- append onto a row that the call is making; where the new one lies is told. -/
theorem wp_out2 {rest : List Oper} {o : Oper} {a : Act} {Q : Exit → Act → World → Prop} {F : Nat → Prop} {W w0 w : World}
    (hg : o.guard = none) (s x : Operand) (t e : TypeId) (z : Value) (size bytes : Nat) (hop : o.op = .call { callee := .builtin .append, args := #[s, x], argTypes := #[t, t] })
    (ht : P.underlying t = some (.slice e)) (hinfo : (P.info? e).map (fun i => (i.zero, i.size, i.bytes)) = some (some z, size, bytes)) (hzs : z.cells.size = size) (hsz : 0 < size)
    (v : Value) (n : Nat) (xs : List Value) (hs : a.eval s = v) (hO : Out W w0 e size v n xs) (X : Ext F W w0) (Xa : Ext (fun _ => False) w0 w)
    (ad : Addr) (m c : Nat) (news : List Value) (hx : a.eval x = .slice (some ad) m c) (hl : news.length = m * size) (hnews : ∀ j u, news[j]? = some u → w.cell? (ad.add j) = some u) (h1 : ∀ u ∈ news, u.oneCell' = true)
    (h63 : n + m ≤ maxLen) (hbytes : (n + m) * bytes ≤ 140737488355328)
    (h : ∀ v' w', Out W w' e size v' (n + m) (xs ++ news) → Ext F W w' → Ext (Bk v) w0 w' → (∀ k, Bk v' k → Bk v k ∨ k = w.heap.size) → wpList P ops Q rest (a.put o.dst v') w') :
    wpList P ops Q (o :: rest) a w :=
  wp_own hg s x t e z size bytes hop ht hinfo hzs hsz v n xs hs (own_ext hO.own Xa (fun _ _ x => x)) ad m c news hx hl hnews h1 h63 hbytes (fun v' w' ho hgr hat => by
    obtain ⟨o1, o2, o3⟩ := hO.app X Xa ho hgr hat
    exact h v' w' o1 o2 o3 (fun k hk => by
      rcases hat with e | e
      · exact Or.inl (e.symm.trans hk)
      · right; have := e.symm.trans hk; simpa using this.symm))
end
end Go.Proofs.Ytbcpbndhkainnaa
