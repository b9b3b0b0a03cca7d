/- The law's first look. -/
import Derived.Test.YtbcpbndhkainnaaEsBytes
import Derived.Lib.SlBytesConst
import Derived.Outline
namespace Go.Proofs.Ytbcpbndhkainnaa
open Go.RowKit
set_option linter.unusedSimpArgs false
set_option linter.unusedVariables false
def rdF (k : IntKind) (a : Option Addr) (zs : List Int) : Fact where
  holds w := Rd k w a zs
  foot := fun b => 0 < zs.length ∧ ∃ off, a = some ⟨b, off, none⟩
  stable := fun G w w' x h hf i hi => by
    obtain ⟨g, off, e, hl, hc⟩ := h i hi
    exact ⟨g, off, e, Nat.lt_of_lt_of_le hl x.size, by rw [← hc]; simp only [World.cell?, x.block g hl (hf g ⟨by omega, off, e⟩)]⟩
  lt := fun w h b hb => by
    obtain ⟨h0, off, e⟩ := hb
    obtain ⟨g, off', e', hl, _⟩ := h 0 h0
    rw [e] at e'
    injection e' with e'
    injection e' with e1 e2
    omega
theorem wl_fz {P : Program} {F : Nat → Prop} {W0 w : World} {bs : List Blk} {ks : List Fact} {ops : Array Oper} {a : Act} {Q : Exit → Act → World → Prop} (hS : St F W0 w bs ks) {zs : List Int} {fr : Nat} {l : List Oper}
    (h : ∀ w', St F W0 w' bs (rdF .u8 (some ⟨w.heap.size, 0, none⟩) zs :: ks) → wpList P ops Q l a w') : wpList P ops Q l a (w.alloc (.cells (bytesV zs).toArray 5 (fr, fr + 1))) := by
  refine h _ ((hS.call ((Ext.refl _ w).alloc _)).keep _ (fun i hi => ⟨w.heap.size, 0, rfl, by simp, ?_⟩) (fun k hk hm => ?_))
  · have := heap_alloc_new w (.cells (bytesV zs).toArray 5 (fr, fr + 1))
    simp only [World.cell?, this, Nat.zero_add]
    simp [bytesV, hi]
  · obtain ⟨_, off, e⟩ := hk
    injection e with e
    injection e with e1 e2
    obtain ⟨x, hx, hxe⟩ := hm
    have := (hS.rows x hx).lt
    omega
theorem own_row_of {w : World} {b t size n : Nat} {cs : List Value} (h : Row w b t cs.toArray) (hn : n ≤ maxLen) (hs : cs.length = n * size) : w.ownsRow 0 t size (.slice (some ⟨b, 0, none⟩) n n) n cs :=
  ⟨hs, Or.inr ⟨b, n, _, rfl, Nat.zero_le _, h, Nat.le_refl _, hn, by simpa using hs, by rw [← hs]; simp⟩⟩
abbrev ez : Es := ⟨0, 0, 0, 0, [], 0, false, false⟩
theorem ez_wf : Wf ez := ⟨⟨by decide, Or.inl ⟨by decide, by decide⟩⟩, by decide, by decide, by decide⟩
def z1 : List Int := [97, 27, 91, 49, 59, 63, 50, 74, 27, 91, 63, 50, 53, 108, 195, 7]
def z2 : List Int := [27, 91, 59, 53, 109, 27, 93, 48, 59, 120, 7, 27, 77]
def acts1 : List Ac := [⟨1, 97, []⟩, ⟨5, 108, [25]⟩, ⟨1, 65533, []⟩, ⟨2, 7, []⟩]
def acts2 : List Ac := [⟨4, 109, [-1, 5]⟩, ⟨3, 77, []⟩]
theorem mfeed1 : mfeed z1 ez [] = (ez, acts1) := by decide +kernel
theorem mfeed2 : mfeed z2 ez [] = (ez, acts2) := by decide +kernel
theorem feed_z1 (w : World) (ba : Option Addr) (bc : Nat) (hrd : Rd .u8 w ba z1) : Calls Try.prog 11 #[(.agg #[.int .i64 0, .int .i64 0, .int .i64 0, .int .i64 0, .slice none 0 0, .int .i64 0, .bool false, .bool false]), .slice ba 16 bc] w fun e w' =>
    (∃ a c b d L, e = .returned (.tuple #[(.agg #[.int .i64 0, .int .i64 0, .int .i64 0, .int .i64 0, .slice a 0 c, .int .i64 0, .bool false, .bool false]), .slice b L.length d]) ∧ Ints w' (.slice a 0 c) [] ∧ Acts w' (.slice b L.length d) L ∧ acs L = acts1) ∧ New w w' := by
  have h := feed_ w ez z1 none ba 0 bc (Ints.nil w) hrd (by decide) (by decide) ez_wf
  rw [mfeed1] at h
  exact h
theorem feed_z2 (w : World) (ba : Option Addr) (bc : Nat) (hrd : Rd .u8 w ba z2) : Calls Try.prog 11 #[(.agg #[.int .i64 0, .int .i64 0, .int .i64 0, .int .i64 0, .slice none 0 0, .int .i64 0, .bool false, .bool false]), .slice ba 13 bc] w fun e w' =>
    (∃ a c b d L, e = .returned (.tuple #[(.agg #[.int .i64 0, .int .i64 0, .int .i64 0, .int .i64 0, .slice a 0 c, .int .i64 0, .bool false, .bool false]), .slice b L.length d]) ∧ Ints w' (.slice a 0 c) [] ∧ Acts w' (.slice b L.length d) L ∧ acs L = acts2) ∧ New w w' := by
  have h := feed_ w ez z2 none ba 0 bc (Ints.nil w) hrd (by decide) (by decide) ez_wf
  rw [mfeed2] at h
  exact h
theorem sameEz (w : World) (a b : Option Addr) (c d : Nat) (h1 : Ints w (.slice a 0 c) []) (h2 : Ints w (.slice b 0 d) []) : Calls Try.prog 15 #[(.agg #[.int .i64 0, .int .i64 0, .int .i64 0, .int .i64 0, .slice a 0 c, .int .i64 0, .bool false, .bool false]), (.agg #[.int .i64 0, .int .i64 0, .int .i64 0, .int .i64 0, .slice b 0 d, .int .i64 0, .bool false, .bool false])] w fun e w' => e = .returned (.bool true) ∧ New w w' :=
  sameEsc_ w ez a b c d h1 h2 (by decide)
theorem short_of {L : List (Ac × Value)} {l : List Ac} (h : acs L = l) (hl : ∀ y ∈ l, y.par.length ≤ 1000) : Short L := fun x hx => hl _ (by rw [← h]; exact List.mem_map_of_mem hx)
theorem sameActions_t (w : World) (L M : List (Ac × Value)) (l : List Ac) (a b : Option Addr) (c d : Nat) (h1 : Acts w (.slice a L.length c) L) (h2 : Acts w (.slice b M.length d) M) (e1 : acs L = l) (e2 : acs M = l) (hL : l.length ≤ 1000000) (hl : ∀ y ∈ l, y.par.length ≤ 1000) :
    Calls Try.prog 12 #[.slice a L.length c, .slice b M.length d] w fun e w' => e = .returned (.bool true) ∧ New w w' := by
  refine (sameActions_ w L M a b c d h1 h2 (by rw [← e1, acs_len] at hL; exact hL) (short_of e1 hl) (short_of e2 hl)).mono ?_
  rintro e w' ⟨rfl, x⟩
  exact ⟨by rw [decide_eq_true (e1.trans e2.symm)], x.ext _⟩
theorem own_lit_row {w : World} {b t size n : Nat} {cs : List Value} (h : Row w b t cs.toArray) (hn : n ≤ maxLen) (hs : cs.length = n * size) : w.ownsRow 0 t size (.slice (some ⟨b, 0, none⟩) n n) n cs := own_row_of h hn hs
theorem sameActions_l1 (w : World) (L : List (Ac × Value)) (a : Option Addr) (c B p : Nat) (h1 : Acts w (.slice a L.length c) L) (e1 : acs L = acts1)
    (hB : Row w B 24 [Value.int .i64 1, .int .i32 97, .slice none 0 0, .int .i64 5, .int .i32 108, .slice (some ⟨p, 0, none⟩) 1 1, .int .i64 1, .int .i32 65533, .slice none 0 0, .int .i64 2, .int .i32 7, .slice none 0 0].toArray) (hP : Row w p 3 [Value.int .i64 25].toArray) :
    Calls Try.prog 12 #[.slice a L.length c, .slice (some ⟨B, 0, none⟩) 4 4] w fun e w' => e = .returned (.bool true) ∧ New w w' := by
  refine sameActions_t w L [(⟨1, 97, []⟩, .slice none 0 0), (⟨5, 108, [25]⟩, .slice (some ⟨p, 0, none⟩) 1 1), (⟨1, 65533, []⟩, .slice none 0 0), (⟨2, 7, []⟩, .slice none 0 0)] acts1 a (some ⟨B, 0, none⟩) c 4 h1 ⟨own_row_of hB (by unfold maxLen; simp) rfl, fun x hx => ?_⟩ e1 rfl (by decide) (by decide)
  simp only [List.mem_cons, List.not_mem_nil, or_false] at hx
  rcases hx with rfl | rfl | rfl | rfl
  · exact Ints.nil w
  · exact own_row_of hP (by unfold maxLen; simp) rfl
  · exact Ints.nil w
  · exact Ints.nil w
theorem sameActions_l2 (w : World) (L : List (Ac × Value)) (a : Option Addr) (c B p : Nat) (h1 : Acts w (.slice a L.length c) L) (e1 : acs L = acts2)
    (hB : Row w B 24 [Value.int .i64 4, .int .i32 109, .slice (some ⟨p, 0, none⟩) 2 2, .int .i64 3, .int .i32 77, .slice none 0 0].toArray) (hP : Row w p 3 [Value.int .i64 (-1), .int .i64 5].toArray) :
    Calls Try.prog 12 #[.slice a L.length c, .slice (some ⟨B, 0, none⟩) 2 2] w fun e w' => e = .returned (.bool true) ∧ New w w' := by
  refine sameActions_t w L [(⟨4, 109, [-1, 5]⟩, .slice (some ⟨p, 0, none⟩) 2 2), (⟨3, 77, []⟩, .slice none 0 0)] acts2 a (some ⟨B, 0, none⟩) c 2 h1 ⟨own_row_of hB (by unfold maxLen; simp) rfl, fun x hx => ?_⟩ e1 rfl (by decide) (by decide)
  simp only [List.mem_cons, List.not_mem_nil, or_false] at hx
  rcases hx with rfl | rfl
  · exact own_row_of hP (by unfold maxLen; simp) rfl
  · exact Ints.nil w
set_option maxHeartbeats 2000000 in
set_option maxRecDepth 100000 in
theorem awake_ (w : World) : Calls Try.prog 13 #[] w fun e w' => e = .returned (.bool true) ∧ New w w' := by
  have hS : St (fun _ => False) w w [] [] := St.init w
  replace hS := Lib.hid hS
  have kc := fun (w : World) (C : Array Value) (n c : Nat) => Lib.run_convert_bytes_const (P := Try.prog) w 36 5 C n c Try.underlying36 Try.underlying5
  go_enter Try.func13, Try.ntmps13
  have tf1 : True := trivial
  have tf2 : True := trivial
  have te1 : True := trivial
  have te2 : True := trivial
  have ta1 : True := trivial
  have ta2 : True := trivial
  have tz1 : True := trivial
  have tz2 : True := trivial
  go_wp2_with (first
    | (have _t := tz1; refine wl_fz (zs := z1) hS.out ?_; clear _t tz1; intro w9 hS9; replace hS := Lib.hid hS9; clear hS9)
    | (have _t := tz2; refine wl_fz (zs := z2) hS.out ?_; clear _t tz2; intro w9 hS9; replace hS := Lib.hid hS9; clear hS9)
    | (refine wl_made (bs := []) (t := 33) hS.out ?_; intro wB hS9; replace hS := Lib.hid hS9; clear hS9)
    | (refine wl_made (t := 33) hS.out ?_; intro w9 hS9; replace hS := Lib.hid hS9; clear hS9)
    | (refine wl_made (bs := []) (t := 24) hS.out ?_; intro wB hS9; replace hS := Lib.hid hS9; clear hS9)
    | (refine wl_made (t := 24) hS.out ?_; intro w9 hS9; replace hS := Lib.hid hS9; clear hS9)
    | (refine wl_made (bs := []) (t := 3) hS.out ?_; intro wB hS9; replace hS := Lib.hid hS9; clear hS9)
    | (refine wl_made (t := 3) hS.out ?_; intro w9 hS9; replace hS := Lib.hid hS9; clear hS9)
    | (refine wl_loadAll (T := 33) hS.out (by rfl) rfl (by rfl) Try.underlying33 rfl Try.size33 (by repeat (first | exact At.here | apply At.there)) (by rfl) ?_)
    | (refine wl_storeAll (T := 33) hS.out (by rfl) rfl (by rfl) (by rfl) (by exact Try.size33) (by repeat (first | exact At.here | apply At.there)) (by rfl) (by rfl) ?_; intro w9 hS9; replace hS := Lib.hid hS9; clear hS9)
    | (go_at_call 11; have _t := tf1; refine (feed_z1 _ _ _ (hS.out.get (rdF .u8 _ z1) (by first | exact List.Mem.head _ | exact List.Mem.tail _ (List.Mem.head _)))).mono ?_; clear _t tf1; rintro e w9 ⟨⟨a1, c1, b1, d1, L1, rfl, hI, hL, hq1⟩, x⟩; replace hS := Lib.hid (((hS.out.call x).own (show w9.ownsRow 0 3 1 (.slice a1 0 c1) 0 (ints []) from hI) (by simp)).acts hL (by simp)); clear x hI hL; replace hq1 := Lib.hid hq1)
    | (go_at_call 11; have _t := tf2; refine (feed_z2 _ _ _ (hS.out.get (rdF .u8 _ z2) (by first | exact List.Mem.head _ | exact List.Mem.tail _ (List.Mem.head _)))).mono ?_; clear _t tf2; rintro e w9 ⟨⟨a2, c2, b2, d2, L2, rfl, hI, hL, hq2⟩, x⟩; replace hS := Lib.hid (((hS.out.call x).own (show w9.ownsRow 0 3 1 (.slice a2 0 c2) 0 (ints []) from hI) (by simp)).acts hL (by simp)); clear x hI hL; replace hq2 := Lib.hid hq2)
    | (go_at_call 15; have _t := te1; refine (sameEz _ a1 none c1 0 (hS.out.get (own1 3 1 (.slice a1 0 c1) 0 (ints [])) (by simp)) (Ints.nil _)).mono ?_; clear _t te1; rintro e w9 ⟨rfl, x⟩; replace hS := Lib.hid (hS.out.call x); clear x)
    | (go_at_call 12; have _t := ta1; refine (sameActions_l1 _ L1 b1 d1 _ _ (hS.out.get (actsF (.slice b1 L1.length d1) L1) (by simp)) hq1.out (hS.out.row (t := 24) (cs' := []) (bs' := _) (by repeat (first | exact At.here | apply At.there))) (hS.out.row (t := 3) (cs' := []) (bs' := _) (by repeat (first | exact At.here | apply At.there)))).mono ?_; clear _t ta1; rintro e w9 ⟨rfl, x⟩; replace hS := Lib.hid (hS.out.call x); clear x)
    | (go_at_call 15; have _t := te2; refine (sameEz _ a2 none c2 0 (hS.out.get (own1 3 1 (.slice a2 0 c2) 0 (ints [])) (by simp)) (Ints.nil _)).mono ?_; clear _t te2; rintro e w9 ⟨rfl, x⟩; replace hS := Lib.hid (hS.out.call x); clear x)
    | (go_at_call 12; have _t := ta2; refine (sameActions_l2 _ L2 b2 d2 _ _ (hS.out.get (actsF (.slice b2 L2.length d2) L2) (by simp)) hq2.out (hS.out.row (t := 24) (cs' := []) (bs' := _) (by repeat (first | exact At.here | apply At.there))) (hS.out.row (t := 3) (cs' := []) (bs' := _) (by repeat (first | exact At.here | apply At.there)))).mono ?_; clear _t ta2; rintro e w9 ⟨rfl, x⟩; replace hS := Lib.hid (hS.out.call x); clear x))
  go_ret
  exact ⟨rfl, hS.out.isNew⟩
end Go.Proofs.Ytbcpbndhkainnaa
