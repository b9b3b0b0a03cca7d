/- What an escape is, in plain words, and how it lies in memory. -/
import Derived.Test.YtbcpbndhkainnaaApp
import Derived.Test.YtbcpbndhkainnaaBits
namespace Go.Proofs.Ytbcpbndhkainnaa
open Go.RowKit
set_option linter.unusedSimpArgs false
set_option linter.unusedVariables false
/-- Nothing that was there has turned. -/
abbrev New (w w' : World) : Prop := Ext (fun _ => False) w w'
def ints (l : List Int) : List Value := l.map (Value.int .i64)
theorem ints_length (l : List Int) : (ints l).length = l.length := by simp [ints]
theorem ints_one (l : List Int) : ∀ u ∈ ints l, u.oneCell' = true := by
  intro u hu
  obtain ⟨x, _, rfl⟩ := List.mem_map.1 hu
  rfl
theorem Try.info3 : (Try.prog.info? 3).map (fun i => (i.zero, i.size, i.bytes)) = some (some (.int .i64 0), 1, 8) := by kernel_rfl
theorem Try.info21 : (Try.prog.info? 21).map (fun i => (i.zero, i.size, i.bytes)) = some (some (.int .i32 0), 1, 4) := by kernel_rfl
theorem Try.info5 : (Try.prog.info? 5).map (fun i => (i.zero, i.size, i.bytes)) = some (some (.int .u8 0), 1, 1) := by kernel_rfl
theorem Try.info24 : (Try.prog.info? 24).map (fun i => (i.zero, i.size, i.bytes)) = some (some (.agg #[.int .i64 0, .int .i32 0, .slice none 0 0]), 3, 40) := by kernel_rfl
theorem own_lit_at (w : World) (cs : List Value) (t size n b : Nat) (hb : b = w.heap.size) (hn : n ≤ maxLen) (hs : cs.length = n * size) : (w.alloc (.cells cs.toArray t)).ownsRow 0 t size (.slice (some ⟨b, 0, none⟩) n n) n cs := by
  subst hb
  exact World.ownsRow_lit (base := 0) (e := t) (size := size) w cs.toArray n (Nat.zero_le _) hn (by simpa using hs)
theorem runs_one (l : List Int) : ∀ u ∈ l.map (Value.int .i32), u.oneCell' = true := by
  intro u hu
  obtain ⟨x, _, rfl⟩ := List.mem_map.1 hu
  rfl
/-- An escape: mode, rune that was begun, parameters, number, marks. -/
structure Es where
  m : Int
  nd : Int
  mn : Int
  gt : Int
  par : List Int
  nu : Int
  pv : Bool
  sk : Bool
deriving DecidableEq
/-- An action. -/
structure Ac where
  k : Int
  r : Int
  par : List Int
deriving DecidableEq
/-- A rune that was begun. -/
structure Ut where
  nd : Int
  mn : Int
  gt : Int
deriving DecidableEq
def Es.go (s : Es) (mode : Int) : Es := ⟨mode, s.nd, s.mn, s.gt, [], 0, false, false⟩
def mwithin (b lo hi : Int) : Bool := decide (lo ≤ b) && decide (b ≤ hi)
def mcontrol (b : Int) : List Ac := if mwithin b 7 13 = true then [⟨2, b, []⟩] else []
def mno (r : Int) : Bool := decide (r < 0) || (decide (1114111 < r) || (decide (55296 ≤ r) && decide (r ≤ 57343)))
def mbegin (n : Int) : Ut × List Int :=
  if n < 128 then (⟨0, 0, 0⟩, [n]) else if 192 ≤ n ∧ n < 224 then (⟨1, 128, n % 32⟩, []) else if 224 ≤ n ∧ n < 240 then (⟨2, 2048, n % 16⟩, [])
  else if 240 ≤ n ∧ n < 248 then (⟨3, 65536, n % 8⟩, []) else (⟨0, 0, 0⟩, [65533])
def mutf (u : Ut) (b : Int) : Ut × List Int :=
  if u.nd ≤ 0 then mbegin b else if b < 128 ∨ 191 < b then ((mbegin b).1, 65533 :: (mbegin b).2)
  else if 0 < u.nd - 1 then (⟨u.nd - 1, u.mn, 64 * u.gt + b % 64⟩, [])
  else if 64 * u.gt + b % 64 < u.mn ∨ mno (64 * u.gt + b % 64) = true then (⟨0, 0, 0⟩, [65533]) else (⟨0, 0, 0⟩, [64 * u.gt + b % 64])
def msign (s : Es) (r : Int) : Es × List Ac :=
  if r = 27 then (s.go 1, []) else if r < 32 then (s, mcontrol r) else if 127 ≤ r ∧ r ≤ 159 then (s, []) else (s, [⟨1, r, []⟩])
def msigns : List Int → Es → List Ac → Es × List Ac
  | [], s, out => (s, out)
  | r :: l, s, out => msigns l (msign s r).1 (out ++ (msign s r).2)
def Es.ut (s : Es) : Ut := ⟨s.nd, s.mn, s.gt⟩
def Es.setUt (s : Es) (u : Ut) : Es := ⟨s.m, u.nd, u.mn, u.gt, s.par, s.nu, s.pv, s.sk⟩
def mground (s : Es) (b : Int) : Es × List Ac := msigns (mutf s.ut b).2 (s.setUt (mutf s.ut b).1) []
def mleave (s : Es) (b : Int) : Es × Bool := if b = 27 then (s.go 1, true) else if b = 24 ∨ b = 26 then (s.go 0, true) else (s, false)
def mescape (s : Es) (b : Int) : Es × List Ac :=
  if (mleave s b).2 = true then ((mleave s b).1, [])
  else if b = 91 then (⟨2, s.nd, s.mn, s.gt, [], -1, false, false⟩, [])
  else if b = 93 ∨ b = 80 ∨ b = 88 ∨ b = 94 ∨ b = 95 then (s.go 3, [])
  else if mwithin b 48 126 = true then (s.go 0, [⟨3, b, []⟩])
  else if mwithin b 32 47 = true then (s.go 4, [])
  else if b < 32 then (s, mcontrol b) else (s.go 0, [])
def mtold (s : Es) : List Int := if 16 ≤ s.par.length then s.par else s.par ++ [s.nu]
def mlast (s : Es) (b : Int) : Es × List Ac :=
  (s.go 0, if s.sk = true then [] else [⟨if s.pv = true then 5 else 4, b, if s.nu ≠ -1 ∨ 0 < s.par.length then mtold s else s.par⟩])
def mcsi (s : Es) (b : Int) : Es × List Ac :=
  if (mleave s b).2 = true then ((mleave s b).1, [])
  else if mwithin b 48 57 = true then (⟨s.m, s.nd, s.mn, s.gt, s.par, min (10 * max s.nu 0 + (b - 48)) 65535, s.pv, s.sk⟩, [])
  else if b = 59 then (⟨s.m, s.nd, s.mn, s.gt, mtold s, -1, s.pv, s.sk⟩, [])
  else if b = 63 ∧ s.par.length = 0 ∧ s.nu = -1 ∧ s.pv = false then (⟨s.m, s.nd, s.mn, s.gt, s.par, s.nu, true, s.sk⟩, [])
  else if mwithin b 32 63 = true then (⟨s.m, s.nd, s.mn, s.gt, s.par, s.nu, s.pv, true⟩, [])
  else if mwithin b 64 126 = true then mlast s b
  else if b < 32 then (s, mcontrol b) else (s, [])
def mtext (s : Es) (b : Int) : Es := if b = 7 ∨ b = 24 ∨ b = 26 then s.go 0 else if b = 27 then s.go 5 else s
def mend (s : Es) (b : Int) : Es := if b = 92 then s.go 0 else if b = 27 then s else s.go 3
def mskip (s : Es) (b : Int) : Es := if (mleave s b).2 = true then (mleave s b).1 else if mwithin b 48 126 = true then s.go 0 else s
def mstep (s : Es) (b : Int) : Es × List Ac :=
  if s.m = 1 then mescape s b else if s.m = 2 then mcsi s b else if s.m = 3 then (mtext s b, []) else if s.m = 4 then (mskip s b, [])
  else if s.m = 5 then (mend s b, []) else mground s b
def mfeed : List Int → Es → List Ac → Es × List Ac
  | [], s, out => (s, out)
  | b :: l, s, out => mfeed l (mstep s b).1 (out ++ (mstep s b).2)
/-- Its value. -/
abbrev esV (s : Es) (p : Value) : Value := .agg #[.int .i64 s.m, .int .i64 s.nd, .int .i64 s.mn, .int .i64 s.gt, p, .int .i64 s.nu, .bool s.pv, .bool s.sk]
abbrev utV (u : Ut) : Value := .agg #[.int .i64 u.nd, .int .i64 u.mn, .int .i64 u.gt]
/-- v is the row xs of numbers. -/
def Ints (w : World) (v : Value) (xs : List Int) : Prop := w.ownsRow 0 3 1 v xs.length (ints xs)
theorem Ints.new {w w' : World} {v : Value} {xs : List Int} (h : Ints w v xs) (x : New w w') : Ints w' v xs := own_ext h x (fun _ _ h => h)
theorem Ints.nil (w : World) : Ints w (.slice none 0 0) [] := World.ownsRow_nil _ _ _ _
theorem Ints.form {w : World} {v : Value} {xs : List Int} (h : Ints w v xs) : ∃ a c, v = .slice a xs.length c := own_form h
def acV (x : Ac × Value) : List Value := [.int .i64 x.1.k, .int .i32 x.1.r, x.2]
def acVs (L : List (Ac × Value)) : List Value := L.flatMap acV
theorem acVs_length (L : List (Ac × Value)) : (acVs L).length = L.length * 3 := by
  induction L with
  | nil => rfl
  | cons p l ih => simp [acVs, acV] at ih ⊢; omega
theorem acVs_append (l m : List (Ac × Value)) : acVs (l ++ m) = acVs l ++ acVs m := by simp [acVs]
theorem acVs_at (l : List (Ac × Value)) : ∀ (j : Nat) (p : Ac × Value), l[j]? = some p → (acVs l)[j * 3]? = some (.int .i64 p.1.k) ∧ (acVs l)[j * 3 + 1]? = some (.int .i32 p.1.r) ∧ (acVs l)[j * 3 + 2]? = some p.2 := by
  induction l with
  | nil => intro j p h; simp at h
  | cons q l ih =>
    intro j p h
    cases j with
    | zero => simp at h; subst h; simp [acVs, acV]
    | succ j =>
      have := ih j p (by simpa using h)
      rw [show (j + 1) * 3 = j * 3 + 3 from by omega]
      simpa [acVs, acV] using this
/-- v is the row of actions. -/
structure Acts (w : World) (v : Value) (L : List (Ac × Value)) : Prop where
  own : w.ownsRow 0 24 3 v L.length (acVs L)
  par : ∀ x ∈ L, Ints w x.2 x.1.par
theorem Acts.new {w w' : World} {v : Value} {L : List (Ac × Value)} (h : Acts w v L) (x : New w w') : Acts w' v L :=
  ⟨own_ext h.own x (fun _ _ h => h), fun y hy => (h.par y hy).new x⟩
theorem Acts.nil (w : World) : Acts w (.slice none 0 0) [] := ⟨World.ownsRow_nil _ _ _ _, fun x hx => by simp at hx⟩
theorem Acts.one' {L : List (Ac × Value)} {w : World} (hp : ∀ x ∈ L, Ints w x.2 x.1.par) : ∀ u ∈ acVs L, u.oneCell' = true := by
  intro u hu
  obtain ⟨x, hx, hx2⟩ := List.mem_flatMap.1 hu
  obtain ⟨a, c, e⟩ := (hp x hx).form
  simp [acV, e] at hx2
  rcases hx2 with rfl | rfl | rfl <;> rfl
def acs (L : List (Ac × Value)) : List Ac := L.map (·.1)
/-- What a call returned: an escape. -/
def RE (w' : World) (e : Ending) (s : Es) : Prop := ∃ a c, e = .returned (esV s (.slice a s.par.length c)) ∧ Ints w' (.slice a s.par.length c) s.par
/-- An escape, and actions. -/
def REA (w' : World) (e : Ending) (r : Es × List Ac) : Prop :=
  ∃ a c b d L, e = .returned (.tuple #[esV r.1 (.slice a r.1.par.length c), .slice b L.length d]) ∧ Ints w' (.slice a r.1.par.length c) r.1.par ∧ Acts w' (.slice b L.length d) L ∧ acs L = r.2
def RA (w' : World) (e : Ending) (r : List Ac) : Prop := ∃ b d L, e = .returned (.slice b L.length d) ∧ Acts w' (.slice b L.length d) L ∧ acs L = r
theorem RE.go (w' : World) (s : Es) (m : Int) : RE w' (.returned (esV (s.go m) (.slice none 0 0))) (s.go m) := ⟨none, 0, rfl, Ints.nil w'⟩
theorem RE.same {w w' : World} {s : Es} {a : Option Addr} {c : Nat} (h : Ints w (.slice a s.par.length c) s.par) (x : New w w') : RE w' (.returned (esV s (.slice a s.par.length c))) s := ⟨a, c, rfl, h.new x⟩
theorem Acts.lit {w : World} {p : Value} (k r : Int) (par : List Int) (h : Ints w p par) : Acts (w.alloc (.cells #[.int .i64 k, .int .i32 r, p] 24)) (.slice (some ⟨w.heap.size, 0, none⟩) 1 1) [(⟨k, r, par⟩, p)] := by
  refine ⟨?_, fun x hx => ?_⟩
  · have := World.ownsRow_lit (base := 0) (e := 24) (size := 3) w #[.int .i64 k, .int .i32 r, p] 1 (Nat.zero_le _) (by unfold maxLen; omega) (by simp)
    simpa [acVs, acV] using this
  · simp at hx
    subst hx
    exact h.new ((Ext.refl _ w).alloc _)
theorem Acts.lit_at {w : World} {p : Value} (k r : Int) (par : List Int) (b : Nat) (hb : b = w.heap.size) (h : Ints w p par) : Acts (w.alloc (.cells #[.int .i64 k, .int .i32 r, p] 24)) (.slice (some ⟨b, 0, none⟩) 1 1) [(⟨k, r, par⟩, p)] := by
  subst hb; exact Acts.lit k r par h
theorem Acts.row {w : World} {p : Value} {k r : Int} {par : List Int} {b : Nat} (hr : Row w b 24 #[.int .i64 k, .int .i32 r, p]) (h : Ints w p par) : Acts w (.slice (some ⟨b, 0, none⟩) 1 1) [(⟨k, r, par⟩, p)] := by
  refine ⟨⟨by simp [acVs, acV], Or.inr ⟨b, 1, _, rfl, Nat.zero_le _, hr, Nat.le_refl _, by unfold maxLen; omega, rfl, by simp [acVs, acV]⟩⟩, fun x hx => ?_⟩
  simp at hx
  subst hx
  exact h
theorem REA.go (w' : World) (s : Es) (m : Int) : REA w' (.returned (.tuple #[esV (s.go m) (.slice none 0 0), .slice none 0 0])) (s.go m, []) := ⟨none, 0, none, 0, [], rfl, Ints.nil w', Acts.nil w', rfl⟩
theorem REA.same {w w' : World} {s : Es} {a : Option Addr} {c : Nat} (h : Ints w (.slice a s.par.length c) s.par) (x : New w w') : REA w' (.returned (.tuple #[esV s (.slice a s.par.length c), .slice none 0 0])) (s, []) :=
  ⟨a, c, none, 0, [], rfl, h.new x, Acts.nil w', rfl⟩
/-- v is the row of signs. -/
def Runs (w : World) (v : Value) (xs : List Int) : Prop := w.ownsRow 0 21 1 v xs.length (xs.map (Value.int .i32))
theorem Runs.new {w w' : World} {v : Value} {xs : List Int} (h : Runs w v xs) (x : New w w') : Runs w' v xs := own_ext h x (fun _ _ h => h)
theorem Runs.keep {w w' : World} {v : Value} {xs : List Int} {B t : Nat} {cs : Array Value} (h : Runs w v xs) (r : Row w B t cs) (ht : t ≠ 21) (x : Ext (fun k => k = B) w w') : Runs w' v xs := own_ext h x (fun k hk e => own_ne r h ht (by subst e; exact hk))
theorem Ints.keep {w w' : World} {v : Value} {xs : List Int} {B t : Nat} {cs : Array Value} (h : Ints w v xs) (r : Row w B t cs) (ht : t ≠ 3) (x : Ext (fun k => k = B) w w') : Ints w' v xs := own_ext h x (fun k hk e => own_ne r h ht (by subst e; exact hk))
theorem Acts.keep {w w' : World} {v : Value} {L : List (Ac × Value)} {B t : Nat} {cs : Array Value} (h : Acts w v L) (r : Row w B t cs) (ht : t ≠ 3) (ht2 : t ≠ 24) (x : Ext (fun k => k = B) w w') : Acts w' v L :=
  ⟨own_ext h.own x (fun k hk e => own_ne r h.own ht2 (by subst e; exact hk)), fun y hy => (h.par y hy).keep r ht x⟩
theorem Runs.nil (w : World) : Runs w (.slice none 0 0) [] := World.ownsRow_nil _ _ _ _
theorem Runs.lit (w : World) (r : Int) : Runs (w.alloc (.cells #[.int .i32 r] 21)) (.slice (some ⟨w.heap.size, 0, none⟩) 1 1) [r] :=
  World.ownsRow_lit (base := 0) (e := 21) (size := 1) w #[.int .i32 r] 1 (Nat.zero_le _) (by unfold maxLen; omega) (by simp)
def RUt (w' : World) (e : Ending) (r : Ut × List Int) : Prop := ∃ b d, e = .returned (.tuple #[utV r.1, .slice b r.2.length d]) ∧ Runs w' (.slice b r.2.length d) r.2
theorem RUt.nil (w' : World) (u : Ut) : RUt w' (.returned (.tuple #[utV u, .slice none 0 0])) (u, []) := ⟨none, 0, rfl, Runs.nil w'⟩
end Go.Proofs.Ytbcpbndhkainnaa
