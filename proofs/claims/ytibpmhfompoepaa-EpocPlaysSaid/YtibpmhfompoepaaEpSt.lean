/- What an epoc.Epochs holds in memory, and its methods. -/
import Derived.Test.YtibpmhfompoepaaBase
namespace Go.Proofs.Ytibpmhfompoepaa
open Go.RowKit
set_option linter.unusedSimpArgs false
set_option linter.unusedVariables false

def ints (l : List Int) : List Value := l.map (Value.int .i64)
def waits (l : List (Int × Int)) : List Value := l.flatMap fun p => [.int .i64 p.1, .int .i64 p.2]
theorem ints_length (l : List Int) : (ints l).length = l.length := by simp [ints]
theorem waits_length (l : List (Int × Int)) : (waits l).length = l.length * 2 := by
  induction l with
  | nil => rfl
  | cons p l ih => simp [waits] at ih ⊢; omega
theorem waits_append (l m : List (Int × Int)) : waits (l ++ m) = waits l ++ waits m := by simp [waits]
theorem waits_at (l : List (Int × Int)) : ∀ (j : Nat) (p : Int × Int), l[j]? = some p → (waits l)[j * 2]? = some (.int .i64 p.1) ∧ (waits l)[j * 2 + 1]? = some (.int .i64 p.2) := by
  induction l with
  | nil => intro j p h; simp at h
  | cons q l ih =>
    intro j p h
    cases j with
    | zero => simp at h; subst h; simp [waits]
    | succ j =>
      have := ih j p (by simpa using h)
      rw [show (j + 1) * 2 = j * 2 + 2 from by omega]
      simpa [waits] using this

/-- An epoc.Epochs at block g. -/
structure Ep (w : World) (F : Nat → Prop) (g : Nat) (now : Int) (pins : List Int) (l : List (Int × Int)) (ap : Option Addr) (cp : Nat) (al : Option Addr) (cl : Nat) : Prop where
  row : Row w g 43 #[.int .i64 now, .slice ap pins.length cp, .slice al l.length cl]
  pin : w.ownsRow 0 3 1 (.slice ap pins.length cp) pins.length (ints pins)
  wait : w.ownsRow 0 45 2 (.slice al l.length cl) l.length (waits l)
  fg : F g
  fp : ∀ k, Bk (.slice ap pins.length cp) k → F k
  fl : ∀ k, Bk (.slice al l.length cl) k → F k

theorem Ep.ext {G : Nat → Prop} {w w' : World} {F : Nat → Prop} {g : Nat} {now : Int} {pins : List Int} {l : List (Int × Int)} {ap : Option Addr} {cp : Nat} {al : Option Addr} {cl : Nat}
    (h : Ep w F g now pins l ap cp al cl) (x : Ext G w w') (hd : ∀ k, F k → ¬ G k) : Ep w' F g now pins l ap cp al cl :=
  ⟨h.row.ext x (hd _ h.fg), own_ext h.pin x (fun k e => hd _ (h.fp k e)), own_ext h.wait x (fun k e => hd _ (h.fl k e)), h.fg, h.fp, h.fl⟩
theorem Ep.mono {w : World} {F G : Nat → Prop} {g : Nat} {now : Int} {pins : List Int} {l : List (Int × Int)} {ap : Option Addr} {cp : Nat} {al : Option Addr} {cl : Nat}
    (h : Ep w F g now pins l ap cp al cl) (hd : ∀ k, F k → G k) : Ep w G g now pins l ap cp al cl :=
  ⟨h.row, h.pin, h.wait, hd _ h.fg, fun k e => hd _ (h.fp k e), fun k e => hd _ (h.fl k e)⟩
/-- The waiting ones change. -/
theorem Ep.setl {w w1 : World} {F : Nat → Prop} {g : Nat} {now : Int} {pins : List Int} {l l' : List (Int × Int)} {ap : Option Addr} {cp : Nat} {al : Option Addr} {cl : Nat} {al' : Option Addr} {cl' : Nat}
    (h : Ep w F g now pins l ap cp al cl) (X : Ext (Bk (.slice al l.length cl)) w w1) (hown : w1.ownsRow 0 45 2 (.slice al' l'.length cl') l'.length (waits l'))
    (hat : ∀ k, Bk (.slice al' l'.length cl') k → Bk (.slice al l.length cl) k ∨ w.heap.size ≤ k) :
    Ep (w1.setCell ⟨g, 2, none⟩ (.slice al' l'.length cl')) (Gr F w w1) g now pins l' ap cp al' cl' ∧ Ext F w (w1.setCell ⟨g, 2, none⟩ (.slice al' l'.length cl')) := by
  have hne := own_ne h.row h.wait (by decide)
  have r1 := h.row.ext X hne
  have hpl : ∀ k, Bk (.slice ap pins.length cp) k → ¬ Bk (.slice al l.length cl) k := fun k h1 h2 => by
    rcases own_row h.pin k h1 with ⟨c, hc⟩
    exact own_ne hc h.wait (by decide) h2
  have p1 := own_ext h.pin X hpl
  have hX : Ext F w w1 := X.mono h.fl
  have hgl : g < w.heap.size := h.row.lt
  refine ⟨⟨r1.set 2 _, own_set p1 (own_ne r1 p1 (by decide)), own_set hown (own_ne r1 hown (by decide)), Or.inl h.fg, fun k e => Or.inl (h.fp k e), fun k e => ?_⟩, hX.setCell (Or.inl h.fg) _⟩
  rcases hat k e with h1 | h1
  · exact Or.inl (h.fl k h1)
  · exact Or.inr ⟨h1, own_lt hown k e⟩
theorem Try.info3 : (Try.prog.info? 3).map (fun i => (i.zero, i.size, i.bytes)) = some (some (.int .i64 0), 1, 8) := by kernel_rfl
theorem Try.info45 : (Try.prog.info? 45).map (fun i => (i.zero, i.size, i.bytes)) = some (some (.agg #[.int .i64 0, .int .i64 0]), 2, 16) := by kernel_rfl

set_option maxHeartbeats 1000000 in
theorem retire (w : World) (F : Nat → Prop) (g : Nat) (now x : Int) (pins : List Int) (l : List (Int × Int)) (ap : Option Addr) (cp : Nat) (al : Option Addr) (cl : Nat) (h : Ep w F g now pins l ap cp al cl) (hl : (l.length + 1) * 16 ≤ 140737488355328) :
    Calls Try.prog 10 #[.pointer (some ⟨g, 0, none⟩), .int .i64 x] w fun e w' => e = .returned (.tuple #[]) ∧ ∃ al' cl', Ep w' (Gr F w w') g now pins (l ++ [(x, now)]) ap cp al' cl' ∧ Ext F w w' := by
  have c0 : w.cell? ⟨g, 0, none⟩ = some (.int .i64 now) := h.row.cell 0
  have c2 : w.cell? ⟨g, 2, none⟩ = some (.slice al l.length cl) := h.row.cell 2
  have hg := h.row.lt
  have hml : l.length + 1 ≤ maxLen := by unfold maxLen; omega
  have hne := own_ne h.row h.wait (by decide)
  go_enter Try.func10, Try.ntmps10
  go_region_law
    ((refine step_own rfl (.tmp 8) (.tmp 15) 41 45 (.agg #[.int .i64 0, .int .i64 0]) 2 16 rfl Try.underlying41 Try.info45 rfl (by decide) (.slice al l.length cl) l.length (waits l) rfl (by exact (h.wait.alloc _).drew) ⟨w.heap.size, 0, none⟩ 1 1 [.int .i64 x, .int .i64 now] rfl rfl (by exact World.news_of_block (heap_alloc_new w _)) (by simp [Value.oneCell']) hml hl (fun vl' w1 hown hgrow hat => ?_); have X : Ext (Bk (.slice al l.length cl)) w w1 := (((Ext.refl _ w).alloc _).drew).grown hgrow (fun k e => Or.inl e); have r1 := h.row.ext X hne; have c0' := r1.cell 0; have c2' := r1.cell 2; have f2' := r1.frozen 2; obtain ⟨g', cap', rfl, hx1, hx2⟩ := hown.form (by omega)))
  all_goals
    go_end0
    have hs := h.setl (l' := l ++ [(x, now)]) (al' := some ⟨g', 0, none⟩) (cl' := cap') X (by simpa [waits] using hown) (fun k e => by
      rcases hat with h1 | h1
      · exact Or.inl (h1.symm.trans e)
      · refine Or.inr ?_
        have e' : some g' = some k := e
        have h1' : some g' = some (w.heap.size + 1) := by simpa [Value.ownBlock] using h1
        have := e'.symm.trans h1'
        simp at this; omega)
    simp only [List.length_append, List.length_cons, List.length_nil, Nat.zero_add] at hs
    exact ⟨rfl, _, _, hs.1.mono (fun k hk => by simpa [Gr] using hk), hs.2⟩
end Go.Proofs.Ytibpmhfompoepaa
