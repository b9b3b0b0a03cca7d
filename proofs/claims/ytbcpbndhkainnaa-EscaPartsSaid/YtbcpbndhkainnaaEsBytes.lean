/- Bytes of numbers. -/
import Derived.Test.YtbcpbndhkainnaaEsEsc
import Derived.Outline
namespace Go.Proofs.Ytbcpbndhkainnaa
open Go.RowKit
set_option linter.unusedSimpArgs false
set_option linter.unusedVariables false
/-- The pieces. -/
def pieces : List (List UInt8) := [[97], [98, 99], [13], [10], [9], [8], [27], [91], [93], [65], [66], [67], [68], [71], [72], [74], [75], [76], [77], [80], [64], [88], [83], [84], [114], [109], [100], [104], [108], [48], [49], [50], [51], [53], [55], [50, 53], [51, 49], [52, 52], [57, 57, 57, 57, 57], [59], [63], [24], [26], [7], [27, 92], [27, 91], [27, 91, 63], [27, 91, 50, 59, 51, 72], [27, 91, 49, 59, 51, 49, 109], [27, 91, 50, 74], [27, 91, 75], [27, 55], [27, 56], [27, 77], [27, 68], [27, 69], [27, 99], [27, 91, 50, 59, 52, 114], [27, 91, 63, 55, 108], [27, 91, 63, 50, 53, 108], [27, 91, 51, 76], [27, 91, 50, 77], [195, 169], [226, 130, 172], [240, 159, 152, 128], [195], [255], [128], [32], [58], [127], [27, 93, 48, 59, 116, 7], [27, 80, 113, 27, 92], [27, 40, 66], [194, 133], [104, 101, 108, 108, 111, 44, 32, 119, 111, 114, 108, 100]]
def pieceV : List Value := pieces.map fun l => .string ⟨l.toArray⟩
theorem pieceV_eq : pieceV = [.string ⟨#[97]⟩, .string ⟨#[98, 99]⟩, .string ⟨#[13]⟩, .string ⟨#[10]⟩, .string ⟨#[9]⟩, .string ⟨#[8]⟩, .string ⟨#[27]⟩, .string ⟨#[91]⟩, .string ⟨#[93]⟩, .string ⟨#[65]⟩, .string ⟨#[66]⟩, .string ⟨#[67]⟩, .string ⟨#[68]⟩, .string ⟨#[71]⟩, .string ⟨#[72]⟩, .string ⟨#[74]⟩, .string ⟨#[75]⟩, .string ⟨#[76]⟩, .string ⟨#[77]⟩, .string ⟨#[80]⟩, .string ⟨#[64]⟩, .string ⟨#[88]⟩, .string ⟨#[83]⟩, .string ⟨#[84]⟩, .string ⟨#[114]⟩, .string ⟨#[109]⟩, .string ⟨#[100]⟩, .string ⟨#[104]⟩, .string ⟨#[108]⟩, .string ⟨#[48]⟩, .string ⟨#[49]⟩, .string ⟨#[50]⟩, .string ⟨#[51]⟩, .string ⟨#[53]⟩, .string ⟨#[55]⟩, .string ⟨#[50, 53]⟩, .string ⟨#[51, 49]⟩, .string ⟨#[52, 52]⟩, .string ⟨#[57, 57, 57, 57, 57]⟩, .string ⟨#[59]⟩, .string ⟨#[63]⟩, .string ⟨#[24]⟩, .string ⟨#[26]⟩, .string ⟨#[7]⟩, .string ⟨#[27, 92]⟩, .string ⟨#[27, 91]⟩, .string ⟨#[27, 91, 63]⟩, .string ⟨#[27, 91, 50, 59, 51, 72]⟩, .string ⟨#[27, 91, 49, 59, 51, 49, 109]⟩, .string ⟨#[27, 91, 50, 74]⟩, .string ⟨#[27, 91, 75]⟩, .string ⟨#[27, 55]⟩, .string ⟨#[27, 56]⟩, .string ⟨#[27, 77]⟩, .string ⟨#[27, 68]⟩, .string ⟨#[27, 69]⟩, .string ⟨#[27, 99]⟩, .string ⟨#[27, 91, 50, 59, 52, 114]⟩, .string ⟨#[27, 91, 63, 55, 108]⟩, .string ⟨#[27, 91, 63, 50, 53, 108]⟩, .string ⟨#[27, 91, 51, 76]⟩, .string ⟨#[27, 91, 50, 77]⟩, .string ⟨#[195, 169]⟩, .string ⟨#[226, 130, 172]⟩, .string ⟨#[240, 159, 152, 128]⟩, .string ⟨#[195]⟩, .string ⟨#[255]⟩, .string ⟨#[128]⟩, .string ⟨#[32]⟩, .string ⟨#[58]⟩, .string ⟨#[127]⟩, .string ⟨#[27, 93, 48, 59, 116, 7]⟩, .string ⟨#[27, 80, 113, 27, 92]⟩, .string ⟨#[27, 40, 66]⟩, .string ⟨#[194, 133]⟩, .string ⟨#[104, 101, 108, 108, 111, 44, 32, 119, 111, 114, 108, 100]⟩] := rfl
theorem pieces_len : pieces.length = 76 := rfl
def piece (j : Nat) : List Int := ((pieces.getD j []).map fun b => (b.toNat : Int))
def mbytes (l : List Int) : List Int := (l.take 60).flatMap fun x => piece (x % 65536 % 76).toNat
theorem piece_len (j : Nat) : (piece j).length ≤ 12 := by
  unfold piece
  rw [List.length_map, List.getD_eq_getElem?_getD]
  by_cases h : j < pieces.length
  · rw [List.getElem?_eq_getElem h]
    have : ∀ x ∈ pieces, x.length ≤ 12 := by decide
    exact this _ (List.getElem_mem h)
  · rw [List.getElem?_eq_none (by omega)]; simp
theorem piece_bd (j : Nat) : ∀ x ∈ piece j, 0 ≤ x ∧ x ≤ 255 := by
  intro x hx
  obtain ⟨b, _, rfl⟩ := List.mem_map.1 hx
  have := b.toNat_lt
  omega
theorem mbytes_bd (l : List Int) : ∀ x ∈ mbytes l, 0 ≤ x ∧ x ≤ 255 := by
  intro x hx
  obtain ⟨y, _, h⟩ := List.mem_flatMap.1 hx
  exact piece_bd _ x h
theorem flat_len (f : Int → List Int) (hf : ∀ x, (f x).length ≤ 12) : ∀ l : List Int, (l.flatMap f).length ≤ 12 * l.length
  | [] => by simp
  | x :: l => by
    have := flat_len f hf l
    have := hf x
    simp only [List.flatMap_cons, List.length_append, List.length_cons]; omega
theorem mbytes_len (l : List Int) : (mbytes l).length ≤ 720 := by
  have h := flat_len (fun x => piece (x % 65536 % 76).toNat) (fun x => piece_len _) (l.take 60)
  have : (l.take 60).length ≤ 60 := List.length_take_le _ _
  unfold mbytes
  omega
def bytesV (l : List Int) : List Value := l.map (Value.int .u8)
abbrev bytesF (v : Value) (xs : List Int) : Fact := own1 5 1 v xs.length (bytesV xs)
theorem bytesV_append (a b : List Int) : bytesV (a ++ b) = bytesV a ++ bytesV b := by simp [bytesV]
theorem piece_cells (j : Nat) (h : j < 76) : ∃ sb : ByteArray, pieceV[j]? = some (.string sb) ∧ byteCells sb = bytesV (piece j) ∧ sb.size = (piece j).length := by
  have h' : j < pieces.length := by rw [pieces_len]; exact h
  refine ⟨⟨(pieces[j]).toArray⟩, by simp [pieceV, h'], ?_, ?_⟩
  · simp [byteCells, bytesV, piece, List.getD_eq_getElem?_getD, h']
  · simp [piece, List.getD_eq_getElem?_getD, h', ByteArray.size]
theorem St.appOwn {F : Nat → Prop} {W0 w w9 : World} {bs : List Blk} {ks ks' : List Fact} {t size n m : Nat} {v v' : Value} {xs news : List Value} (hS : St F W0 w bs ks) (h1 : own1 t size v n xs ∈ ks) (hfr : Fresh W0.heap.size v)
    (hown : w9.ownsRow 0 t size v' (n + m) (xs ++ news)) (x : Ext (Bk v) w w9) (hks : ∀ f ∈ ks', f ∈ ks ∧ Plain t f) (ht : ∀ x ∈ bs, x.2.1 ≠ t) : St F W0 w9 bs (own1 t size v' (n + m) (xs ++ news) :: ks') := by
  have a1 : w.ownsRow 0 t size v n xs := hS.get _ h1
  refine ((hS.drop (fun f hf => (hks f hf).1)).step x (fun y hy hk => ?_) (fun f hf k hk hk2 => ?_) (fun k hk => Or.inr (hfr k hk))).own hown ht
  · exact (hS.kept _ h1).2 y.1 hk ⟨y, hy, rfl⟩
  · obtain ⟨hm, t', size', v2, n2, xs2, hne, rfl⟩ := hks f hf
    exact own_ne2 (hS.get _ hm) a1 hne k hk hk2
theorem wl_append {P : Program} {F : Nat → Prop} {W0 w : World} {bs : List Blk} {ks : List Fact} {ops : Array Oper} {rest : List Oper} {o : Oper} {a : Act} {Q : Exit → Act → World → Prop} (hS : St F W0 w bs ks) (hg : Region.wanted o (yielded ops a.tmps) = true) {s x : Operand} {t tx e : TypeId} {z : Value} {size bytes : Nat} (ho : o.op = .call { callee := .builtin .append, args := #[s, x], argTypes := #[t, tx] })
    (ht : P.underlying t = some (.slice e)) (hinfo : (P.info? e).map (fun i => (i.zero, i.size, i.bytes)) = some (some z, size, bytes)) (hzs : z.cells.size = size) (hsz : 0 < size)
    {v : Value} {n : Nat} {xs : List Value} (hs : a.eval s = v) (hown : w.ownsRow 0 e size v n xs) {xv : Value} {m : Nat} {news : List Value} (hx : a.eval x = xv) (hsrc : Src P size tx xv m news w)
    (h63 : n + m ≤ maxLen) (hbytes : (n + m) * bytes ≤ 140737488355328)
    (h : ∀ v' w', w'.ownsRow 0 e size v' (n + m) (xs ++ news) → Ext (Bk v) w w' → (∀ k, Bk v' k → Bk v k ∨ k = w.heap.size) → wpList P ops Q rest (a.put o.dst v') w') : wpList P ops Q (o :: rest) a w :=
  wl_of hg fun _ hK => st_append hS ho ht hinfo hzs hsz hs hown hx hsrc h63 hbytes (fun v' w' a b c => hK _ _ (h v' w' a b c))
theorem mbytes_step (l : List Int) (k : Nat) (h : k < l.length) (h2 : k < 60) (x : Int) (hx : l[k] = x) : mbytes (l.take (k + 1)) = mbytes (l.take k) ++ piece (x % 65536 % 76).toNat := by
  subst hx
  unfold mbytes
  rw [List.take_take, List.take_take, Nat.min_eq_right (by omega : k + 1 ≤ 60), Nat.min_eq_right (by omega : k ≤ 60), List.take_succ_eq_append_getElem h, List.flatMap_append]
  simp
theorem mbytes_all (l : List Int) (k : Nat) (h : l.length ≤ k ∨ 60 ≤ k) : mbytes (l.take k) = mbytes l := by
  unfold mbytes
  rw [List.take_take]
  rcases h with h | h
  · by_cases h2 : k ≤ 60
    · rw [Nat.min_eq_right h2, List.take_of_length_le h, List.take_of_length_le (by omega)]
    · rw [Nat.min_eq_left (by omega)]
  · rw [Nat.min_eq_left h]
/-- A new row of bytes. -/
def RB (w w' : World) (e : Ending) (xs : List Int) : Prop := ∃ a c, e = .returned (.slice a xs.length c) ∧ w'.ownsRow 0 5 1 (.slice a xs.length c) xs.length (bytesV xs) ∧ Fresh w.heap.size (.slice a xs.length c)
attribute [local go_sem] i64_and65535'
set_option maxRecDepth 100000 in
set_option maxHeartbeats 4000000 in
theorem bytes_ (w : World) (l : List Int) (a : Option Addr) (c : Nat) (hrd : Rd .i64 w a l) (hl : l.length ≤ maxLen) :
    Calls Try.prog 16 #[.slice a l.length c] w fun e w' => RB w w' e (mbytes l) ∧ New w w' := by
  have hS : St (fun _ => False) w w [] [] := St.init w
  replace hS := Lib.hid hS
  replace hrd := Lib.hid hrd
  unfold maxLen at hl
  go_enter Try.func16, Try.ntmps16
  go_wp2_with (first
    | (refine wl_made (bs := []) hS.out ?_; intro wB hS9; replace hS := Lib.hid hS9; clear hS9)
    | (refine wl_made hS.out ?_; intro w9 hS9; replace hS := Lib.hid hS9; clear hS9))
  refine absorb_code (hS.out.alloc pieceV 9) ?_
  intro w9 hS9; replace hS := Lib.hid hS9; clear hS9
  go_loopw [4, 5] (fun v i wr => ∃ (k : Nat) (b2 : Option Addr) (d2 : Nat), k ≤ l.length ∧ k ≤ 60 ∧ i = .int .i64 k ∧ v = .slice b2 (mbytes (l.take k)).length d2 ∧ Hid (St (fun _ => False) w wr [(w.heap.size, 9, pieceV)] [bytesF (.slice b2 (mbytes (l.take k)).length d2) (mbytes (l.take k))]) ∧ Hid (Fresh w.heap.size (.slice b2 (mbytes (l.take k)).length d2))) (fun _ i _ => 60 - (intOf i).toNat)
  case atStart => exact ⟨0, none, 0, Nat.zero_le _, Nat.zero_le _, rfl, rfl, Lib.hid (hS.out.own (World.ownsRow_nil _ _ _ _) (by simp)), Fresh.nil _⟩
  case round =>
    obtain ⟨k, b2, d2, hk, hk60, rfl, rfl, hS, hfr⟩ := hrel
    by_cases hlt : k < l.length
    · by_cases hlt2 : k < 60
      · obtain ⟨g, off, hg0, hgl, hc⟩ := (hrd.out.new hS.out.isNew) k hlt
        subst hg0
        obtain ⟨x, hx⟩ : ∃ x, l[k] = x := ⟨_, rfl⟩
        rw [hx] at hc
        have hst := mbytes_step l k hlt hlt2 x hx
        have q0 : 0 ≤ x % 65536 := by omega
        have q1 : x % 65536 < 65536 := by omega
        have q2 : 0 ≤ x % 65536 % 76 := by omega
        have q3 : x % 65536 % 76 < 76 := by omega
        have q4 : (x % 65536 % 76).toNat < 76 := by omega
        obtain ⟨sb, hpc, hbc, hsz⟩ := piece_cells _ q4
        have hpl := piece_len (x % 65536 % 76).toNat
        have hml := mbytes_len (l.take k)
        have hszl : sb.size ≤ 12 := by omega
        replace hst := Lib.hid hst
        replace hpc := Lib.hid hpc
        replace hbc := Lib.hid hbc
        replace hsz := Lib.hid hsz
        clear hx hgl hpl
        go_wp2_with (first
          | (refine wl_load1 (T := 9) (v := .string sb) hS.out (by rfl) rfl (by rfl) Try.underlying9 rfl (by repeat (first | exact At.here | apply At.there)) hpc.out ?_)
          | (at_builtin; refine wl_append hS.out (by rfl) rfl Try.underlying36 Try.info5 rfl (by decide) (v := .slice b2 (mbytes (l.take k)).length d2) (by rfl) (hS.out.get (bytesF (.slice b2 (mbytes (l.take k)).length d2) (mbytes (l.take k))) (by simp)) (xv := .string sb) (by rfl) (Src.ofString _ Try.underlying9 sb) (by unfold maxLen; omega) (by omega) ?_; intro v9 w9 hown Xg hat; obtain ⟨b4, d4, rfl⟩ := own_form hown; have hfr2 := Lib.hid (hfr.out.app hS.out.ext.size hat); replace hS := Lib.hid (hS.out.appOwn (ks' := []) (List.Mem.head _) hfr.out hown Xg (by simp) (by simp)); clear hown Xg hat))
        go_roundw
        case rel =>
          have hlen : (mbytes (l.take (k + 1))).length = (mbytes (l.take k)).length + sb.size := by rw [hst.out, List.length_append, hsz.out]
          have hval : bytesV (mbytes (l.take (k + 1))) = bytesV (mbytes (l.take k)) ++ byteCells sb := by rw [hst.out, bytesV_append, hbc.out]
          exact ⟨k + 1, b4, d4, by omega, by omega, by go_num, by rw [hlen], Lib.hid (by unfold bytesF; rw [hlen, hval]; exact hS.out), Lib.hid (by rw [hlen]; exact hfr2.out)⟩
        case measure => simp [intOf]; omega
      · have hend := Lib.hid (mbytes_all l k (Or.inr (by omega)))
        go_wp2_with fail
        go_ret
        rw [← hend.out]
        exact ⟨⟨b2, d2, rfl, hS.out.get (bytesF _ _) (List.Mem.head _), hfr.out⟩, hS.out.isNew⟩
    · have hend := Lib.hid (mbytes_all l k (Or.inl (by omega)))
      go_wp2_with fail
      go_ret
      rw [← hend.out]
      exact ⟨⟨b2, d2, rfl, hS.out.get (bytesF _ _) (List.Mem.head _), hfr.out⟩, hS.out.isNew⟩
end Go.Proofs.Ytbcpbndhkainnaa
