import Derived.Test.YtgeddoklmcjdcaaZG31
import Derived.Test.YtgeddoklmcjdcaaZG13
import Derived.Test.YtgeddoklmcjdcaaZQA
import Derived.Test.YtgeddoklmcjdcaaZG17
namespace Go.Proofs.Ytgeddoklmcjdcaa.G
open Go.RowKit Go.Proofs.YtgeddoklmcjdcaaQ Go.Proofs.YtgeddoklmcjdcaaW.PrintWords Go.Proofs.YtgeddoklmcjdcaaW.PrintLast Go.Proofs.YtgeddoklmcjdcaaW.PrintMore
set_option linter.unusedVariables false
set_option linter.unusedSimpArgs false
theorem drop_rd {l : List Int} {i : Nat} (h : i < l.length) : l.drop i = rd l (i : Int) :: l.drop (i + 1) := by
 rw [List.drop_eq_getElem_cons h]
 unfold rd
 rw [Int.toNat_natCast, List.getD_eq_getElem?_getD, List.getElem?_eq_getElem h]; rfl
theorem rd_mem {l : List Int} {i : Nat} (h : i < l.length) : rd l (i : Int) ∈ l := by
 unfold rd
 rw [Int.toNat_natCast, List.getD_eq_getElem?_getD, List.getElem?_eq_getElem h]; exact List.getElem_mem h
theorem next_i {i n : Nat} (h : i ≤ 1000000000) : wrap64 ((i : Int) + 1) = ((i + 1 : Nat) : Int) := by rw [w64 (by omega) (by omega)]; rfl
theorem encI_len {x : Int} : (encI x).length ≤ 9 := (encU_len (fold x)).2
theorem Plain_l0 {l : List Int} (hI : I64 l) (hl : l.length ≤ 65536) : ∀ (d k i : Nat) (b : List Int), i + d = l.length → d + 12 < k → b.length + 9 * d ≤ 100000000 → ints_writePlain.l0 k b l (l.length : Int) i = some (b ++ encL (l.drop i)) := by
 intro d
 induction d with
 | zero =>
  intro k i b hi hk hb
  obtain ⟨k, rfl⟩ : ∃ m, k = m + 1 := ⟨k - 1, by omega⟩
  simp only [ints_writePlain.l0]
  rw [if_neg (by omega), List.drop_eq_nil_of_le (by omega)]
  simp [encL]
 | succ d ih =>
  intro k i b hi hk hb
  obtain ⟨k, rfl⟩ : ∃ m, k = m + 1 := ⟨k - 1, by omega⟩
  have hlt : i < l.length := by omega
  have h9 := encI_len (x := rd l (i : Int))
  simp only [ints_writePlain.l0]
  rw [if_pos (by omega), if_pos (by omega), if_pos (by omega), Int_f (by omega) (by omega) (hI _ (rd_mem hlt)), Option.bind_some, next_i (n := 0) (by omega), ih k (i + 1) _ (by omega) (by omega) (by rw [List.length_append]; omega), drop_rd hlt]
  simp [encL]
theorem Plain_f {l : List Int} (hI : I64 l) (hl : l.length ≤ 65536) {k : Nat} (hk : 70000 < k) {b : List Int} (hb : b.length ≤ 100) : ints_writePlain.f k b l = some (b ++ encL l) := by
 unfold ints_writePlain.f
 exact Plain_l0 hI hl l.length k 0 b (by omega) (by omega) (by omega)
theorem Delta_l0 {l : List Int} (hI : I64 l) (hl : l.length ≤ 65536) : ∀ (d k i : Nat) (a : Int) (b : List Int), i + d = l.length → d + 12 < k → b.length + 9 * d ≤ 100000000 → ints_writeDelta.l0 k b a l (l.length : Int) i = some (b ++ encL (deltas a (l.drop i))) := by
 intro d
 induction d with
 | zero =>
  intro k i a b hi hk hb
  obtain ⟨k, rfl⟩ : ∃ m, k = m + 1 := ⟨k - 1, by omega⟩
  simp only [ints_writeDelta.l0]
  rw [if_neg (by omega), List.drop_eq_nil_of_le (by omega)]
  simp [encL, deltas]
 | succ d ih =>
  intro k i a b hi hk hb
  obtain ⟨k, rfl⟩ : ∃ m, k = m + 1 := ⟨k - 1, by omega⟩
  have hlt : i < l.length := by omega
  have h9 := encI_len (x := wrap64 (rd l (i : Int) - a))
  simp only [ints_writeDelta.l0]
  rw [if_pos (by omega), if_pos (by omega), if_pos (by omega), Int_f (by omega) (by omega) (wrap_i64 _), Option.bind_some, next_i (n := 0) (by omega), ih k (i + 1) _ _ (by omega) (by omega) (by rw [List.length_append]; omega), drop_rd hlt, deltas]
  simp [encL]
theorem Delta_f {l : List Int} (hI : I64 l) (hl : l.length ≤ 65536) {k : Nat} (hk : 70000 < k) {b : List Int} (hb : b.length ≤ 100) : ints_writeDelta.f k b l = some (b ++ encL (deltas 0 l)) := by
 unfold ints_writeDelta.f
 exact Delta_l0 hI hl l.length k 0 0 b (by omega) (by omega) (by omega)
theorem lead_at (x : Int) : ∀ (l : List Int) (j : Nat), j < lead x l → rd (x :: l) ((j + 1 : Nat) : Int) = x
 | [], j, h => by simp [lead] at h
 | y :: l, j, h => by
  unfold lead at h
  split at h
  ·rename_i hy
   cases j with
   | zero => simp [rd, hy]
   | succ j =>
    have := lead_at x l j (by omega)
    simp only [rd, Int.toNat_natCast, List.getD_eq_getElem?_getD, List.getElem?_cons_succ] at this ⊢
    exact this
  ·omega
theorem lead_end (x : Int) : ∀ (l : List Int), lead x l < l.length → rd (x :: l) ((lead x l + 1 : Nat) : Int) ≠ x
 | [], h => by simp [lead] at h
 | y :: l, h => by
  unfold lead at h ⊢
  split
  ·rename_i hy
   rw [if_pos hy] at h
   have := lead_end x l (by simp at h; omega)
   simp only [rd, Int.toNat_natCast, List.getD_eq_getElem?_getD, List.getElem?_cons_succ] at this ⊢
   exact this
  ·rename_i hy
   simpa [rd] using hy
theorem Runs_l1 {x : Int} {l : List Int} (hI : I64 (x :: l)) (hl : l.length < 65536) (b : List Int) (hb : b.length ≤ 100000000) (k0 : Nat) (hk0 : 12 < k0) (R : List Int)
  (h0 : ∀ k, k0 ≤ k → ints_writeRuns.l0 k (b ++ encU ((lead x l + 1 : Nat) : Int) ++ encI x) (l.drop (lead x l)) = some R) :
  ∀ (d k i : Nat), i + d = lead x l → d + k0 < k → ints_writeRuns.l1 k b (x :: l) ((i + 1 : Nat) : Int) = some R := by
 have hle := lead_le x l
 have hx0 : rd (x :: l) 0 = x := rfl
 have hlen : (x :: l).length = l.length + 1 := rfl
 have hu : u64 ((lead x l + 1 : Nat) : Int) := by unfold u64; omega
 have h1 : ∀ k, 12 < k → ((tally_Uint.f k b (IntKind.u64.wrap ((lead x l + 1 : Nat) : Int))).bind fun t => (tally_Int.f k t (rd (x :: l) 0)).bind fun t2 => ints_writeRuns.l0 k t2 ((x :: l).drop (((lead x l + 1 : Nat) : Int)).toNat)) = ints_writeRuns.l0 k (b ++ encU ((lead x l + 1 : Nat) : Int) ++ encI x) (l.drop (lead x l)) := by
  intro k hk
  have h9 := encU_len ((lead x l + 1 : Nat) : Int)
  rw [wu64 (by omega) (by omega), Uint_f (by omega) (by omega) hu, Option.bind_some, hx0, Int_f (by omega) (by rw [List.length_append]; omega) hI.head, Option.bind_some, Int.toNat_natCast, List.drop_succ_cons]
 intro d
 induction d with
 | zero =>
  intro k i hi hk
  obtain ⟨k, rfl⟩ : ∃ m, k = m + 1 := ⟨k - 1, by omega⟩
  obtain rfl : i = lead x l := by omega
  simp only [ints_writeRuns.l1, hlen]
  by_cases hend : lead x l < l.length
  ·have hne := lead_end x l hend
   rw [if_pos (by omega), if_pos (by omega), if_pos (by omega), hx0, if_neg hne]
   have h2 := h1 k (by omega)
   rw [hx0] at h2
   have h3 := h2.trans (h0 k (by omega))
   rw [← h3]
   congr 1; funext t; congr 1; funext t2
   rw [if_pos (by omega)]
  ·rw [if_neg (by omega)]
   have h3 := (h1 k (by omega)).trans (h0 k (by omega))
   rw [← h3]
   congr 1; funext t
   rw [if_pos (by omega)]
   congr 1; funext t2
   rw [if_pos (by omega), if_pos (by omega)]
 | succ d ih =>
  intro k i hi hk
  obtain ⟨k, rfl⟩ : ∃ m, k = m + 1 := ⟨k - 1, by omega⟩
  simp only [ints_writeRuns.l1, hlen]
  rw [if_pos (by omega), if_pos (by omega), if_pos (by omega), hx0, if_pos (lead_at x l i (by omega)), next_i (n := 0) (by omega)]
  exact ih k (i + 1) (by omega) (by omega)
theorem Runs_l0 : ∀ (d : Nat) (l : List Int) (b : List Int) (k : Nat), l.length ≤ d → d ≤ 65536 → I64 l → b.length + 20 * d ≤ 100000000 → 2 * l.length + 20 < k → ints_writeRuns.l0 k b l = some (b ++ runsB l) := by
 intro d
 induction d with
 | zero =>
  intro l b k hl hd hI hb hk
  have : l = [] := List.length_eq_zero_iff.1 (by omega)
  subst this
  obtain ⟨k, rfl⟩ : ∃ m, k = m + 1 := ⟨k - 1, by omega⟩
  simp only [ints_writeRuns.l0]
  rw [if_neg (by simp)]; simp [runsB, runsF]
 | succ d ih =>
  intro l b k hl hd hI hb hk
  obtain ⟨k, rfl⟩ : ∃ m, k = m + 1 := ⟨k - 1, by omega⟩
  cases l with
  | nil =>
   simp only [ints_writeRuns.l0]
   rw [if_neg (by simp)]; simp [runsB, runsF]
  | cons x l =>
   simp only [List.length_cons] at hl hk
   have hle := lead_le x l
   have h9 := encU_len ((lead x l + 1 : Nat) : Int)
   have h9' := encI_len (x := x)
   have hI2 : I64 (l.drop (lead x l)) := fun y hy => hI.tail y (List.mem_of_mem_drop hy)
   simp only [ints_writeRuns.l0]
   rw [if_pos (by simp)]
   refine Runs_l1 hI (by omega) b (by omega) (2 * (l.length - lead x l) + 21) (by omega) _ (fun k' hk' => ?_) (lead x l) k 0 (by omega) (by omega)
   rw [ih (l.drop (lead x l)) (b ++ encU ((lead x l + 1 : Nat) : Int) ++ encI x) k' (by rw [List.length_drop]; omega) (by omega) hI2 (by rw [List.length_append, List.length_append]; omega) (by rw [List.length_drop]; omega), runsB_cons]
   simp only [List.append_assoc]
theorem Runs_f {l : List Int} (hI : I64 l) (hl : l.length ≤ 65536) {k : Nat} (hk : 140000 < k) {b : List Int} (hb : b.length ≤ 100) : ints_writeRuns.f k b l = some (b ++ runsB l) := by
 unfold ints_writeRuns.f
 exact Runs_l0 65536 l b k hl (Nat.le_refl _) hI (by omega) (by omega)
theorem Min_l0 {l : List Int} (hl : l.length ≤ 65536) : ∀ (d k i : Nat) (m : Int), i + d = l.length → d < k → slices_Min_int64_int64.l0 k l m i = some ((l.drop i).foldl mn m) := by
 intro d
 induction d with
 | zero =>
  intro k i m hi hk
  obtain ⟨k, rfl⟩ : ∃ m, k = m + 1 := ⟨k - 1, by omega⟩
  simp only [slices_Min_int64_int64.l0]
  rw [if_neg (by omega), List.drop_eq_nil_of_le (by omega)]; rfl
 | succ d ih =>
  intro k i m hi hk
  obtain ⟨k, rfl⟩ : ∃ m, k = m + 1 := ⟨k - 1, by omega⟩
  simp only [slices_Min_int64_int64.l0]
  rw [if_pos (by omega), if_pos (by omega), next_i (n := 0) (by omega), ih k (i + 1) _ (by omega) (by omega), drop_rd (l := l) (i := i) (by omega)]; rfl
theorem Min_f {l : List Int} (h0 : l ≠ []) (hl : l.length ≤ 65536) {k : Nat} (hk : 65540 < k) : slices_Min_int64_int64.f k l = some (minL l) := by
 cases l with
 | nil => exact absurd rfl h0
 | cons x l =>
  unfold slices_Min_int64_int64.f
  simp only [List.length_cons] at hl ⊢
  rw [if_neg (by omega), if_pos (by omega)]
  have := Min_l0 (l := x :: l) (by simpa using hl) l.length k 1 (rd (x :: l) 0) (by simp; omega) (by omega)
  exact this
theorem Above_l0 {l : List Int} {a : Int} (hI : I64 l) (ha : ∀ x ∈ l, a ≤ x) (hai : i64 a) (hl : l.length ≤ 65536) : ∀ (d k i : Nat) (b : List Int), i + d = l.length → d < k → b.length ≤ i → ints_above.l0 k a b l (l.length : Int) i = some (b ++ ints (offs a (l.drop i))) := by
 intro d
 induction d with
 | zero =>
  intro k i b hi hk hb
  obtain ⟨k, rfl⟩ : ∃ m, k = m + 1 := ⟨k - 1, by omega⟩
  simp only [ints_above.l0]
  rw [if_neg (by omega), List.drop_eq_nil_of_le (by omega)]; simp [offs, ints]
 | succ d ih =>
  intro k i b hi hk hb
  obtain ⟨k, rfl⟩ : ∃ m, k = m + 1 := ⟨k - 1, by omega⟩
  have hlt : i < l.length := by omega
  have h1 := hI _ (rd_mem hlt)
  have h2 := ha _ (rd_mem hlt)
  obtain ⟨x, hx⟩ : ∃ x, rd l (i : Int) = x := ⟨_, rfl⟩
  have e : IntKind.u64.wrap (wrap64 (x - a)) = (((x - a).toNat : Nat) : Int) := by
   rw [hx] at h1 h2
   obtain ⟨a0, a1⟩ := h1; obtain ⟨b0, b1⟩ := hai
   rw [wu64_def]; unfold wrap64; omega
  simp only [ints_above.l0]
  rw [if_pos (by omega), if_pos (by omega), if_pos (by omega), if_pos (by omega), next_i (n := 0) (by omega), hx, e, ih k (i + 1) _ (by omega) (by omega) (by simp; omega), drop_rd hlt, hx]
  simp [offs, ints]
theorem Above_f {l : List Int} {a : Int} (hI : I64 l) (ha : ∀ x ∈ l, a ≤ x) (hai : i64 a) (hl : l.length ≤ 65536) {k : Nat} (hk : 65540 < k) : ints_above.f k l a = some (ints (offs a l)) := by
 unfold ints_above.f
 exact Above_l0 hI ha hai hl l.length k 0 [] (by omega) (by omega) (by simp)
theorem Packed_f {l : List Int} (hI : I64 l) (hl : l.length ≤ 65536) {k : Nat} (hk : 70000 < k) {b : List Int} (hb : b.length ≤ 100) : ints_writePacked.f k b l = some (b ++ packB l) := by
 unfold ints_writePacked.f packB
 by_cases h0 : l = []
 ·subst h0; simp
 ·have hne : ¬ (l.length : Int) = 0 := fun h => h0 (List.length_eq_zero_iff.1 (by omega))
  have hw := wd_offs hI
  have ho := offs_64 hI
  have hln := offs_len (minL l) l
  have hmi := minL_i64 h0 hI
  have h9 := encI_len (x := minL l)
  have hU : U64 (ints (offs (minL l) l)) := ints_U64 (w := 64) (by omega) ho
  have hpl := pk_len (wd (offs (minL l) l)) (offs (minL l) l)
  have hnd : need (l.length * wd (offs (minL l) l)) ≤ 65536 * 64 := by
   have : l.length * wd (offs (minL l) l) ≤ 65536 * 64 := Nat.mul_le_mul hl hw
   unfold need; omega
  rw [if_neg hne, if_neg h0, Min_f h0 hl (by omega), Option.bind_some, Above_f hI (fun x hx => minL_le hx) hmi hl (by omega), Option.bind_some,
   bits_Pack.wid (by rw [ints_len, hln]; omega) hU (by rw [ints_len, hln]; omega), Option.bind_some, unats_ints, Pack_ok (by rw [ints_len, hln]; omega) hU hw (by rw [unats_ints]; exact Nat.le_refl _), Option.bind_some, unats_ints]
  rw [hln] at hpl
  simp only
  rw [Int_f (by omega) (by omega) hmi, Option.bind_some, if_pos (by rw [List.length_append]; omega), Option.bind_some, size_ints, hpl, if_pos (by rw [List.length_append, List.length_append]; simp; omega), bytesOf_strOfNums (ints_Bs (pk_lt _ _)), Int.emod_eq_of_lt (by omega) (by omega)]
  simp [List.append_assoc]
theorem With_f {l : List Int} (hI : I64 l) (a : Int) {k : Nat} (hk : 150000 < k) : ints_With.f k l a = some (if a < 0 ∨ 4 ≤ a then (⟨#[]⟩, 1) else if 65536 < l.length then (⟨#[]⟩, 3) else (strOfNums (EN a l), 0)) := by
 unfold ints_With.f
 by_cases c : a < 0 ∨ 4 ≤ a
 ·rw [if_pos c, if_pos c]
 ·rw [if_neg c, if_neg c]
  by_cases c2 : 65536 < l.length
  ·rw [if_pos c2, if_pos c2]
  ·rw [if_neg c2, if_neg c2]
   have h9 := encU_len (l.length : Int)
   have hb : ([a] ++ encU (l.length : Int)).length ≤ 100 := by rw [List.length_append]; simp; omega
   have hl : l.length ≤ 65536 := by omega
   rw [Uint_f (by omega) (by simp) (by unfold u64; omega), Option.bind_some]
   have e : ints_With.wr k a ([a] ++ encU (l.length : Int)) l = some (EN a l) := by
    unfold ints_With.wr EN enc
    split
    ·rw [Plain_f hI hl (by omega) hb]; simp
    ·split
     ·rw [Delta_f hI hl (by omega) hb]; simp
     ·split
      ·rw [Runs_f hI hl (by omega) hb]; simp
      ·rw [Packed_f hI hl (by omega) hb]; simp
   rw [e]; rfl
end Go.Proofs.Ytgeddoklmcjdcaa.G
namespace Go.Proofs.Ytgeddoklmcjdcaa.G
open Go.RowKit Go.Proofs.YtgeddoklmcjdcaaQ Go.Proofs.YtgeddoklmcjdcaaW.PrintWords Go.Proofs.YtgeddoklmcjdcaaW.PrintLast Go.Proofs.YtgeddoklmcjdcaaW.PrintMore
set_option linter.unusedVariables false
set_option linter.unusedSimpArgs false
theorem cErr_f (s : ByteArray) (e : Int) : tally_Cursor_Err.f s e = some (e, s, e) := rfl
theorem cLeft_f (s : ByteArray) (e : Int) : tally_Cursor_Left.f s e = some ((s.size : Int), s, e) := rfl
theorem str_bytes {r : List Int} (h : Bs r) : bytesOf (strOfNums r) = r := bytesOf_strOfNums h
theorem rPlain_l0 {n : Nat} (hn : n ≤ 65536) : ∀ (d k i : Nat) (acc : List Int) (s : ByteArray) (e : Int), i + d = n → d + 1 < k → acc.length ≤ i →
    ints_readPlain.l0 k acc (n : Int) (i : Int) s e = some ((rp d (bytesOf s) e acc).1, (rp d (bytesOf s) e acc).2.2, strOfNums (rp d (bytesOf s) e acc).2.1, (rp d (bytesOf s) e acc).2.2) := by
  intro d
  induction d with
  | zero =>
    intro k i acc s e hi hk ha
    obtain ⟨k, rfl⟩ : ∃ m, k = m + 1 := ⟨k - 1, by omega⟩
    simp only [ints_readPlain.l0]
    rw [if_neg (by omega), cErr_f]
    simp only [rp, Option.bind_some, strOfNums_bytesOf]
  | succ d ih =>
    intro k i acc s e hi hk ha
    obtain ⟨k, rfl⟩ : ∃ m, k = m + 1 := ⟨k - 1, by omega⟩
    simp only [ints_readPlain.l0]
    rw [if_pos (by omega), cErr_f, Option.bind_some]
    simp only
    by_cases he : e = 0
    · have hB := aInt_Bs (Bs.bytesOf s) e
      rw [if_pos he, cInt_f, Option.bind_some, if_pos (by omega), next_i (n := 0) (by omega)]
      simp only
      rw [ih k (i + 1) _ _ _ (by omega) (by omega) (by simp; omega), str_bytes hB, rp, if_pos he]
    · rw [if_neg he, cErr_f, Option.bind_some, rp_err he]
      simp only [strOfNums_bytesOf]
theorem rPlain_f {n : Nat} (hn : n ≤ 65536) {k : Nat} (hk : 65540 < k) (s : ByteArray) (e : Int) :
    ints_readPlain.f k s e (n : Int) = some ((rp n (bytesOf s) e []).1, (rp n (bytesOf s) e []).2.2, strOfNums (rp n (bytesOf s) e []).2.1, (rp n (bytesOf s) e []).2.2) := by
  unfold ints_readPlain.f
  exact rPlain_l0 hn n k 0 [] s e (by omega) (by omega) (by simp)
def cum : List Int → List Int
  | [] => []
  | x :: l => x :: psum x l
theorem cum_psum {l : List Int} (h : I64 l) : cum l = psum 0 l := by
  cases l with
  | nil => rfl
  | cons x l =>
    have e : wrap64 (0 + x) = x := by obtain ⟨a, b⟩ := h.head; unfold wrap64; omega
    rw [cum, psum, e]
theorem rd_app (P : List Int) (y : Int) (l : List Int) : rd (P ++ y :: l) ((P.length : Nat) : Int) = y := by
  unfold rd; simp
theorem rDelta_l0 (e e' : Int) (s : ByteArray) : ∀ (rest P : List Int) (a : Int) (k : Nat), P.length + rest.length ≤ 70000 → rest.length < k →
    ints_readDelta.l0 k (P ++ a :: rest) e ((P.length + 1 : Nat) : Int) s e' = some (P ++ a :: psum a rest, e, s, e') := by
  intro rest
  induction rest with
  | nil =>
    intro P a k hl hk
    obtain ⟨k, rfl⟩ : ∃ m, k = m + 1 := ⟨k - 1, by omega⟩
    simp only [ints_readDelta.l0]
    rw [if_neg (by simp)]; rfl
  | cons y rest ih =>
    intro P a k hl hk
    simp only [List.length_cons] at hl hk
    obtain ⟨k, rfl⟩ : ∃ m, k = m + 1 := ⟨k - 1, by omega⟩
    have e1 : wrap64 (((P.length + 1 : Nat) : Int) - 1) = ((P.length : Nat) : Int) := by rw [w64 (by omega) (by omega)]; omega
    have r1 : rd (P ++ a :: y :: rest) ((P.length + 1 : Nat) : Int) = y := by
      have := rd_app (P ++ [a]) y rest
      simpa using this
    have hs : (P ++ a :: y :: rest).set (P.length + 1) (wrap64 (y + a)) = (P ++ [a]) ++ wrap64 (a + y) :: rest := by
      rw [List.set_append_right _ _ (by omega)]
      simp [Int.add_comm]
    simp only [ints_readDelta.l0]
    rw [if_pos (by simp; omega), if_pos (by omega), e1, if_pos (by omega), if_pos (by simp; omega), r1, rd_app, next_i (n := 0) (by omega), Int.toNat_natCast, hs]
    have := ih (P ++ [a]) (wrap64 (a + y)) k (by simp; omega) (by omega)
    rw [List.length_append, List.length_singleton] at this
    rw [this, psum]
    simp
theorem rDelta_f {n : Nat} (hn : n ≤ 65536) {k : Nat} (hk : 70040 < k) (s : ByteArray) (e : Int) :
    ints_readDelta.f k s e (n : Int) = some (cum (rp n (bytesOf s) e []).1, (rp n (bytesOf s) e []).2.2, strOfNums (rp n (bytesOf s) e []).2.1, (rp n (bytesOf s) e []).2.2) := by
  unfold ints_readDelta.f
  rw [rPlain_f hn (by omega), Option.bind_some]
  have hl := rp_len n (bytesOf s) e []
  generalize rp n (bytesOf s) e [] = t at *
  obtain ⟨l, r, e1⟩ := t
  simp only at hl ⊢
  cases l with
  | nil =>
    obtain ⟨k, rfl⟩ : ∃ m, k = m + 1 := ⟨k - 1, by omega⟩
    simp only [ints_readDelta.l0]
    rw [if_neg (by simp)]; rfl
  | cons x l =>
    simp only [List.length_cons, List.length_nil] at hl
    exact rDelta_l0 e1 e1 _ l [] x k (by simp; omega) (by omega)
theorem last_rd {l : List Int} (h : 0 < l.length) (x : Int) : l.getLast? = some x ↔ rd l ((l.length - 1 : Nat) : Int) = x := by
  rw [List.getLast?_eq_getElem?, rd, Int.toNat_natCast, List.getD_eq_getElem?_getD, List.getElem?_eq_getElem (by omega)]
  simp
theorem Rep_f (x : Int) {t : Int} (h0 : 0 ≤ t) (h1 : t ≤ 65536) : slices_Repeat_int64_int64.f [x] (wrap64 t) = some (List.replicate t.toNat x) := by
  rw [w64 (by omega) (by omega)]
  unfold slices_Repeat_int64_int64.f
  rw [if_pos ⟨rfl, h0, by omega⟩]; rfl
theorem rRuns_read {n : Nat} (hn : n ≤ 65536) : ∀ (f k : Nat) (s : ByteArray) (out : List Int), out.length ≤ n → n ≤ out.length + f → 2 * f + 2 < k →
    ∃ s' e', ints_readRuns.l0 k (n : Int) out s 0 = some ((rr n f (bytesOf s) out).1, (rr n f (bytesOf s) out).2.1, s', e') ∧ ((rr n f (bytesOf s) out).2.1 = 0 → s' = strOfNums (rr n f (bytesOf s) out).2.2 ∧ e' = 0) := by
  intro f
  induction f with
  | zero =>
    intro k s out h1 h2 hk
    obtain ⟨k, rfl⟩ : ∃ m, k = m + 1 := ⟨k - 1, by omega⟩
    refine ⟨s, 0, ?_, fun _ => ⟨?_, rfl⟩⟩
    · simp only [ints_readRuns.l0]
      rw [if_neg (by omega)]; rfl
    · rw [rr, strOfNums_bytesOf]
  | succ f ih =>
    intro k s out h1 h2 hk
    obtain ⟨k, rfl⟩ : ∃ m, k = m + 2 := ⟨k - 2, by omega⟩
    by_cases hlt : out.length < n
    · have hw : IntKind.u64.wrap (wrap64 ((n : Int) - (out.length : Int))) = ((n - out.length : Nat) : Int) := by rw [w64 (by omega) (by omega), wu64 (by omega) (by omega)]; omega
      have hB1 := aUint_Bs (Bs.bytesOf s) 0
      have hu64 := aUint_u64 (Bs.bytesOf s) 0
      rw [show k + 2 = (k + 1) + 1 from rfl]
      simp only [ints_readRuns.l0]
      rw [if_pos (by omega), cUint_f, Option.bind_some, rr, if_pos hlt]
      generalize aUint (bytesOf s) 0 = U at *
      obtain ⟨t, r1, e1⟩ := U
      obtain ⟨u0, u1⟩ := hu64
      simp only at hB1 u0 u1 ⊢
      rw [cErr_f, Option.bind_some, hw]
      simp only
      -- the second half, once the count is fine
      have rest : ∀ b : Bool, b = false → (e1 = 0 → ¬ (t = 0 ∨ ((n - out.length : Nat) : Int) < t)) → ∃ s' e', ints_readRuns.j1 (k + 1) (n : Int) out t b (strOfNums r1) e1 = some
          ((if e1 = 0 then if (aInt r1 0).2.2 = 0 then if out.getLast? = some (aInt r1 0).1 then ([], 4, []) else rr n f (aInt r1 0).2.1 (out ++ List.replicate t.toNat (aInt r1 0).1) else ([], (aInt r1 0).2.2, []) else ([], e1, [])).1,
           (if e1 = 0 then if (aInt r1 0).2.2 = 0 then if out.getLast? = some (aInt r1 0).1 then ([], 4, []) else rr n f (aInt r1 0).2.1 (out ++ List.replicate t.toNat (aInt r1 0).1) else ([], (aInt r1 0).2.2, []) else ([], e1, [])).2.1, s', e') ∧
          ((if e1 = 0 then if (aInt r1 0).2.2 = 0 then if out.getLast? = some (aInt r1 0).1 then ([], 4, []) else rr n f (aInt r1 0).2.1 (out ++ List.replicate t.toNat (aInt r1 0).1) else ([], (aInt r1 0).2.2, []) else ([], e1, [])).2.1 = 0 → s' = strOfNums (if e1 = 0 then if (aInt r1 0).2.2 = 0 then if out.getLast? = some (aInt r1 0).1 then ([], 4, []) else rr n f (aInt r1 0).2.1 (out ++ List.replicate t.toNat (aInt r1 0).1) else ([], (aInt r1 0).2.2, []) else ([], e1, [])).2.2 ∧ e' = 0) := by
        intro b hb ht
        subst hb
        simp only [ints_readRuns.j1]
        rw [if_neg (by decide), cInt_f, str_bytes hB1, Option.bind_some, cErr_f, Option.bind_some]
        simp only
        by_cases he : e1 = 0
        · subst he
          have htt := ht rfl
          have hB2 := aInt_Bs hB1 0
          rw [if_pos rfl]
          generalize aInt r1 0 = V at *
          obtain ⟨x, r2, e2⟩ := V
          simp only at hB2 ⊢
          by_cases he2 : e2 = 0
          · subst he2
            rw [if_pos rfl, if_pos rfl]
            have hrep := Rep_f x u0 (by omega)
            have go : ∃ s' e', ints_readRuns.l0 k (n : Int) (out ++ List.replicate t.toNat x) (strOfNums r2) 0 = some ((rr n f r2 (out ++ List.replicate t.toNat x)).1, (rr n f r2 (out ++ List.replicate t.toNat x)).2.1, s', e') ∧ ((rr n f r2 (out ++ List.replicate t.toNat x)).2.1 = 0 → s' = strOfNums (rr n f r2 (out ++ List.replicate t.toNat x)).2.2 ∧ e' = 0) := by
              have := ih k (strOfNums r2) (out ++ List.replicate t.toNat x) (by simp; omega) (by simp; omega) (by omega)
              rwa [str_bytes hB2] at this
            have hlen : out.length + (List.replicate t.toNat x).length < 17592186044416 := by simp; omega
            by_cases hp : 0 < out.length
            · have e3 : wrap64 ((out.length : Int) - 1) = ((out.length - 1 : Nat) : Int) := by rw [w64 (by omega) (by omega)]; omega
              rw [if_pos (by omega), e3, if_pos (by omega), if_pos (by omega)]
              by_cases hl : out.getLast? = some x
              · rw [if_pos hl, if_pos ((last_rd hp x).1 hl)]
                exact ⟨_, _, rfl, fun h => absurd h (by decide)⟩
              · rw [if_neg hl, if_neg (fun h => hl ((last_rd hp x).2 h)), hrep, Option.bind_some, if_pos hlen]
                exact go
            · have h0 : out = [] := List.length_eq_zero_iff.1 (by omega)
              have hl : ¬ out.getLast? = some x := by rw [h0]; simp
              rw [if_neg (by omega), if_neg hl, hrep, Option.bind_some, if_pos hlen]
              exact go
          · rw [if_neg he2, if_neg he2, cErr_f, Option.bind_some]
            exact ⟨_, _, rfl, fun h => absurd h he2⟩
        · have e4 : (aInt r1 e1).2.2 = e1 := by unfold aInt aUint; rw [if_neg he]
          rw [e4, if_neg he, if_neg he, cErr_f, Option.bind_some]
          exact ⟨_, _, rfl, fun h => absurd h he⟩
      by_cases he : e1 = 0
      · rw [if_pos he, if_pos he]
        by_cases ht : t = 0
        · rw [if_pos ht, if_pos (Or.inl ht)]
          simp only [ints_readRuns.j1]
          rw [if_pos trivial]
          exact ⟨_, _, rfl, fun h => absurd h (by decide)⟩
        · rw [if_neg ht]
          by_cases ht2 : ((n - out.length : Nat) : Int) < t
          · rw [if_pos (Or.inr ht2), decide_eq_true (by omega)]
            simp only [ints_readRuns.j1]
            rw [if_pos trivial]
            exact ⟨_, _, rfl, fun h => absurd h (by decide)⟩
          · rw [if_neg (by omega), decide_eq_false (by omega)]
            have := rest false rfl (fun _ => by omega)
            rwa [if_pos he] at this
      · rw [if_neg he, if_neg he]
        have := rest false rfl (fun h => absurd h he)
        rwa [if_neg he] at this
    · refine ⟨s, 0, ?_, fun _ => ⟨?_, rfl⟩⟩
      · rw [show k + 2 = (k + 1) + 1 from rfl]
        simp only [ints_readRuns.l0]
        rw [if_neg (by omega), rr, if_neg hlt]
      · rw [rr, if_neg hlt, strOfNums_bytesOf]
theorem iPack_l1 {n w : Nat} (hn : n ≤ 65536) (h0 : 0 < n) (a : Int) (o : List Nat) (hol : o.length = n) (ho : ∀ x ∈ o, x < 2 ^ 64) (s : ByteArray) : ∀ (d k i : Nat) (acc : List Int), i + d = n → d + 70000 < k → acc.length ≤ i → acc ++ back a (o.drop i) = back a o →
    ints_readPacked.l1 k a (w : Int) (ints o) acc (ints o) (n : Int) (i : Int) s 0 = some (if minL (back a o) = a ∧ wd o = w then (back a o, 0, s, 0) else ([], 4, s, 0)) := by
  intro d
  induction d with
  | zero =>
    intro k i acc hi hk ha hacc
    obtain ⟨k, rfl⟩ : ∃ m, k = m + 1 := ⟨k - 1, by omega⟩
    rw [List.drop_eq_nil_of_le (by omega)] at hacc
    have e : acc = back a o := by simpa [back] using hacc
    subst e
    have hne : back a o ≠ [] := by intro h; have := congrArg List.length h; rw [back_len, hol] at this; simp at this; omega
    have hU : U64 (ints o) := ints_U64 (w := 64) (by omega) ho
    simp only [ints_readPacked.l1]
    rw [if_neg (by omega), Min_f hne (by rw [back_len, hol]; omega) (by omega), Option.bind_some]
    by_cases c : minL (back a o) = a
    · rw [if_pos c, bits_Pack.wid (by rw [ints_len, hol]; omega) hU (by rw [ints_len, hol]; omega), Option.bind_some, unats_ints]
      by_cases c2 : wd o = w
      · rw [if_pos (by omega), if_pos ⟨c, c2⟩]
      · rw [if_neg (by omega), if_neg (fun h => c2 h.2)]
    · rw [if_neg c, if_neg (fun h => c h.1)]
  | succ d ih =>
    intro k i acc hi hk ha hacc
    obtain ⟨k, rfl⟩ : ∃ m, k = m + 1 := ⟨k - 1, by omega⟩
    have hil : i < o.length := by omega
    have hr : rd (ints o) (i : Int) = ((o[i] : Nat) : Int) := rd_ints hil
    have e : wrap64 (a + wrap64 ((o[i] : Nat) : Int)) = wrap64 (a + ((o[i] : Nat) : Int)) := by unfold wrap64; omega
    simp only [ints_readPacked.l1]
    rw [if_pos (by omega), if_pos (by omega), if_pos (by rw [ints_len]; omega), if_pos (by omega), hr, e, next_i (n := 0) (by omega)]
    refine ih k (i + 1) _ (by omega) (by omega) (by simp; omega) ?_
    rw [List.drop_eq_getElem_cons hil] at hacc
    rw [← hacc]
    simp only [back, List.map_cons, List.append_assoc, List.singleton_append]
theorem mod_byte {b : Int} (h0 : 0 ≤ b) (h1 : b < 256) : b % 256 = b := Int.emod_eq_of_lt h0 h1
theorem iPack_l0 {n w : Nat} (hn : n ≤ 65536) (h0 : 0 < n) (hw : w ≤ 64) (a : Int) : ∀ (d k i : Nat) (acc : List Int) (R : List Int), i + d = need (n * w) → d + 140010 < k → acc.length ≤ i → Bs R → Bs acc → R.length ≤ 140737488355328 → d ≤ R.length →
    ∃ s', ints_readPacked.l0 k (n : Int) a (w : Int) acc ((need (n * w) : Nat) : Int) (i : Int) (strOfNums R) 0 = some (
      (if fitE (strOfNums (acc ++ R.take d)) (n * w) ≠ 0 then ([], fitE (strOfNums (acc ++ R.take d)) (n * w), s', 0)
       else if minL (back a (dig (2 ^ w) n (num (strOfNums (acc ++ R.take d))))) = a ∧ wd (dig (2 ^ w) n (num (strOfNums (acc ++ R.take d)))) = w then (back a (dig (2 ^ w) n (num (strOfNums (acc ++ R.take d)))), 0, s', 0) else ([], 4, s', 0))) ∧ s' = strOfNums (R.drop d) := by
  have hnd : need (n * w) ≤ 65536 * 64 := by
    have : n * w ≤ 65536 * 64 := Nat.mul_le_mul hn hw
    unfold need; omega
  intro d
  induction d with
  | zero =>
    intro k i acc R hi hk ha hR hA hRl hd
    obtain ⟨k, rfl⟩ : ∃ m, k = m + 1 := ⟨k - 1, by omega⟩
    refine ⟨_, ?_, rfl⟩
    simp only [ints_readPacked.l0]
    rw [List.take_zero, List.append_nil, List.drop_zero, if_neg (by omega)]
    have hsz : (strOfNums acc).size ≤ 140737488355328 := by rw [size_strOfNums]; omega
    by_cases c : fitE (strOfNums acc) (n * w) = 0
    · have hdl : (dig (2 ^ w) n (num (strOfNums acc))).length = n := dig_len _ _ _
      have hlt := dig_lt (p2 w) n (num (strOfNums acc))
      rw [Unpack_ok hsz hn hw c, Option.bind_some, if_neg (show ¬ (fitE (strOfNums acc) (n * w) ≠ 0) from fun h => h c)]
      simp only [if_true]
      rw [ints_len, hdl]
      have := iPack_l1 (w := w) hn h0 a (dig (2 ^ w) n (num (strOfNums acc))) hdl (fun x hx => Nat.lt_of_lt_of_le (hlt x hx) (Nat.pow_le_pow_right (by omega) hw)) (strOfNums R) n k 0 [] (by omega) (by omega) (by simp) (by simp)
      exact this
    · rw [Unpack_bad hsz hn hw c, Option.bind_some, if_pos c]
      simp only
      rw [if_neg c]
  | succ d ih =>
    intro k i acc R hi hk ha hR hA hRl hd
    obtain ⟨k, rfl⟩ : ∃ m, k = m + 1 := ⟨k - 1, by omega⟩
    cases R with
    | nil => simp at hd
    | cons b R =>
      obtain ⟨b0, b1⟩ := hR.head
      simp only [List.length_cons] at hRl hd
      simp only [ints_readPacked.l0]
      rw [if_pos (by omega), cByte_f _ _ (by rw [size_strOfNums]; simp; omega), str_bytes hR, aByte_cons, Option.bind_some, if_pos (by omega), next_i (n := 0) (by omega)]
      simp only
      rw [mod_byte b0 b1]
      have := ih k (i + 1) (acc ++ [b]) R (by omega) (by omega) (by simp; omega) hR.tail (hA.app (Bs.cons b0 b1 Bs.nil)) (by omega) (by omega)
      rw [List.append_assoc, List.singleton_append] at this
      rw [List.take_succ_cons, List.drop_succ_cons]
      exact this
theorem rPacked_read {n : Nat} (hn : n ≤ 65536) {k : Nat} (hk : 5000000 < k) (s : ByteArray) (hs : s.size ≤ 140737488355328) :
    ∃ s' e', ints_readPacked.f k s 0 (n : Int) = some ((bp n (bytesOf s)).1, (bp n (bytesOf s)).2.1, s', e') ∧ ((bp n (bytesOf s)).2.1 = 0 → s' = strOfNums (bp n (bytesOf s)).2.2 ∧ e' = 0) := by
  unfold ints_readPacked.f bp
  by_cases h0 : n = 0
  · rw [if_pos (by omega), if_pos h0]
    exact ⟨_, _, rfl, fun _ => ⟨(strOfNums_bytesOf s).symm, rfl⟩⟩
  · rw [if_neg (by omega), if_neg h0, cInt_f, Option.bind_some]
    have hB1 := aInt_Bs (Bs.bytesOf s) 0
    have hl1 : (aInt (bytesOf s) 0).2.1.length ≤ s.size := by
      show (aUint (bytesOf s) 0).2.1.length ≤ _
      rw [← bytesOf_size]; unfold aUint; rw [if_pos rfl]; simp
    generalize aInt (bytesOf s) 0 = V at *
    obtain ⟨a, r1, e1⟩ := V
    simp only at hB1 hl1 ⊢
    rw [cByte_f _ _ (by rw [size_strOfNums]; omega), str_bytes hB1, Option.bind_some, cErr_f, Option.bind_some]
    have hB2 := aByte_Bs hB1 e1
    have hb : 0 ≤ (aByte r1 e1).1 ∧ (aByte r1 e1).1 < 256 := by
      unfold aByte
      split
      · cases r1 with
        | nil => simp
        | cons b r => exact hB1.head
      · simp
    have hl2 : (aByte r1 e1).2.1.length ≤ r1.length := by
      unfold aByte
      split
      · cases r1 <;> simp
      · simp
    generalize aByte r1 e1 = Y at *
    obtain ⟨b, r2, e2⟩ := Y
    simp only at hB2 hb hl2 ⊢
    by_cases he : e2 = 0
    · subst he
      rw [if_pos rfl, if_neg (show ¬ ((0 : Int) ≠ 0) by simp)]
      by_cases hw : 64 < b
      · rw [if_pos (by omega), if_pos hw]
        exact ⟨_, _, rfl, fun h => absurd h (by decide)⟩
      · obtain ⟨w, rfl⟩ : ∃ w : Nat, b = (w : Int) := ⟨b.toNat, by omega⟩
        have hnw : n * w ≤ 65536 * 64 := Nat.mul_le_mul hn (by omega)
        have e3 : wrap64 (Int.tdiv (wrap64 ((wrap64 ((n : Int) * (w : Int))) + 7)) 8) = ((need (n * w) : Nat) : Int) := by
          rw [← Int.natCast_mul]
          generalize n * w = m at hnw
          rw [w64 (x := (m : Int)) (by omega) (by omega), w64 (x := (m : Int) + 7) (by omega) (by omega), Int.tdiv_eq_ediv_of_nonneg (by omega), w64 (by omega) (by omega)]
          unfold need; omega
        rw [if_neg (by omega), if_neg hw, cLeft_f, Option.bind_some]
        simp only
        rw [e3, size_strOfNums, Int.toNat_natCast]
        unfold bp.bq
        by_cases c : r2.length < need (n * w)
        · rw [if_pos (by omega), if_pos c]
          exact ⟨_, _, rfl, fun h => absurd h (by decide)⟩
        · rw [if_neg (by omega), if_neg c]
          obtain ⟨s', h1, h2⟩ := iPack_l0 (w := w) hn (by omega) (by omega) a (need (n * w)) k 0 [] r2 (by omega) (by generalize n * w = m at hnw; unfold need; omega) (by simp) hB2 Bs.nil (by omega) (by omega)
          refine ⟨s', 0, h1.trans ?_, ?_⟩
          · rw [List.nil_append]
            split
            · rfl
            · split <;> rfl
          · intro h
            refine ⟨?_, rfl⟩
            rw [h2]
            split at h
            · rename_i hc; exact absurd h hc
            · rename_i hc
              rw [if_neg hc]
              split at h
              · rename_i hc2; rw [if_pos hc2]
              · exact absurd h (by decide)
    · rw [if_neg he, if_pos he, cErr_f, Option.bind_some]
      exact ⟨_, _, rfl, fun h => absurd h he⟩
theorem rBody_f {n : Nat} (hn : n ≤ 65536) {k : Nat} (hk : 5000000 < k) (s : ByteArray) (hs : s.size ≤ 140737488355328) {a : Int} (ha : 0 ≤ a) (ha4 : a < 4) :
    ∃ l s' e', ints_Read.rd k a s 0 (n : Int) = some (l, (body a n (bytesOf s)).2.1, s', e') ∧ ((body a n (bytesOf s)).2.1 = 0 → l = (body a n (bytesOf s)).1 ∧ s' = strOfNums (body a n (bytesOf s)).2.2 ∧ e' = 0) := by
  unfold ints_Read.rd body
  by_cases c0 : a = 0
  · rw [if_pos c0, if_pos c0, rPlain_f hn (by omega)]
    exact ⟨_, _, _, rfl, fun h => ⟨rfl, rfl, h⟩⟩
  · rw [if_neg c0, if_neg c0]
    by_cases c1 : a = 1
    · rw [if_pos c1, if_pos c1, rDelta_f hn (by omega)]
      refine ⟨_, _, _, rfl, fun h => ⟨?_, rfl, h⟩⟩
      simp only at h
      obtain ⟨m, h4, h5, h6, h7⟩ := rp_dec n (bytesOf s) [] _ _ (Bs.bytesOf s) (Prod.ext rfl (Prod.ext rfl h))
      replace h4 : (rp n (bytesOf s) 0 []).fst = m := h4
      show cum (rp n (bytesOf s) 0 []).fst = psum 0 (rp n (bytesOf s) 0 []).fst
      rw [h4]; exact cum_psum h6
    · rw [if_neg c1, if_neg c1]
      by_cases c2 : a = 2
      · rw [if_pos c2, if_pos c2]
        unfold ints_readRuns.f
        obtain ⟨s', e', h1, h2⟩ := rRuns_read hn n k s [] (by simp) (by simp) (by omega)
        exact ⟨_, s', e', h1, fun h => ⟨rfl, h2 h⟩⟩
      · rw [if_neg c2, if_neg c2]
        obtain ⟨s', e', h1, h2⟩ := rPacked_read hn (k := k) (by omega) s hs
        exact ⟨_, s', e', h1, fun h => ⟨rfl, h2 h⟩⟩
theorem IRead_f (s : ByteArray) (hs : s.size ≤ 140737488355328) {k : Nat} (hk : 5000000 < k) : ints_Read.f k s = some (DR (bytesOf s)) := by
  unfold ints_Read.f DR
  rw [show tally_From.f s = some (s, 0) from rfl, Option.bind_some]
  simp only
  rw [cByte_f _ _ (by omega), Option.bind_some]
  have hB1 := aByte_Bs (Bs.bytesOf s) 0
  have hb : 0 ≤ (aByte (bytesOf s) 0).1 ∧ (aByte (bytesOf s) 0).1 < 256 := by
    have hh := Bs.bytesOf s
    unfold aByte
    rw [if_pos rfl]
    generalize bytesOf s = r at *
    cases r with
    | nil => simp
    | cons b r => exact hh.head
  have hl1 : (aByte (bytesOf s) 0).2.1.length ≤ s.size := by
    rw [← bytesOf_size]; unfold aByte; rw [if_pos rfl]
    generalize bytesOf s = r
    cases r <;> simp
  generalize aByte (bytesOf s) 0 = Y at *
  obtain ⟨a, r1, e1⟩ := Y
  simp only at hB1 hb hl1 ⊢
  by_cases c : e1 = 0 ∧ 4 ≤ a
  · rw [if_pos c, if_pos c]
  · rw [if_neg c, if_neg c]
    unfold ints_Read.go
    rw [cUint_f, str_bytes hB1, Option.bind_some]
    have hB2 := aUint_Bs hB1 e1
    have hu := aUint_u64 hB1 e1
    have hl2 : (aUint r1 e1).2.1.length ≤ r1.length := by unfold aUint; split <;> simp
    have he12 : (aUint r1 e1).2.2 = 0 → e1 = 0 := by unfold aUint; split <;> intro h <;> assumption
    generalize aUint r1 e1 = U at *
    obtain ⟨t, r2, e2⟩ := U
    obtain ⟨u0, u1⟩ := hu
    simp only at hB2 u0 u1 hl2 he12 ⊢
    by_cases he : e2 = 0
    · have he1 := he12 he
      subst he he1
      have z0 : ¬ ((0 : Int) ≠ 0) := fun h => h rfl
      rw [if_neg z0, if_neg z0]
      by_cases hn : 65536 < t
      · rw [if_pos hn, if_pos hn]
      · rw [if_neg hn, if_neg hn, if_pos ⟨rfl, hb.1, u0⟩]
        obtain ⟨n, rfl⟩ : ∃ n : Nat, t = (n : Int) := ⟨t.toNat, by omega⟩
        rw [Int.toNat_natCast]
        obtain ⟨l, s', e', h1, h2⟩ := rBody_f (n := n) (by omega) hk (strOfNums r2) (by rw [size_strOfNums]; omega) hb.1 (by omega)
        rw [str_bytes hB2] at h1 h2
        rw [h1, Option.bind_some]
        have hBr : (body a n r2).2.1 = 0 → Bs (body a n r2).2.2 := by
          intro h
          obtain ⟨_, _, h3⟩ := body_dec a hB2 (by omega) (l := (body a n r2).1) (r' := (body a n r2).2.2) (Prod.ext rfl (Prod.ext h rfl))
          have := hB2; rw [h3] at this; exact this.of_app_right
        generalize body a n r2 = t at *
        obtain ⟨l', e3, r3⟩ := t
        unfold ints_Read.fin DR.DB
        simp only at h2 hBr ⊢
        by_cases he3 : e3 = 0
        · subst he3
          obtain ⟨rfl, rfl, rfl⟩ := h2 rfl
          rw [if_pos rfl, if_neg (by simp), cDone_f, str_bytes (hBr rfl), Option.bind_some]
          unfold aDone
          rw [if_pos rfl]
          by_cases hr : r3 = []
          · rw [if_pos hr, if_pos hr]; rfl
          · rw [if_neg hr, if_neg hr]; rfl
        · rw [if_neg he3, if_pos he3]
    · rw [if_pos he, if_pos he]
end Go.Proofs.Ytgeddoklmcjdcaa.G
namespace Go.Proofs.Ytgeddoklmcjdcaa.G
open Go.RowKit Go.Proofs.YtgeddoklmcjdcaaQ Go.Proofs.YtgeddoklmcjdcaaW.PrintWords Go.Proofs.YtgeddoklmcjdcaaW.PrintLast Go.Proofs.YtgeddoklmcjdcaaW.PrintMore
attribute [local go_sem] max2_int min2_int max_two min_two max_three min_three max_four min_four   -- for this text's walks alone
set_option linter.unusedVariables false
set_option linter.unusedSimpArgs false
def ints_Best.rest (k : Nat) (l0 : List Int) : Nat → Nat → ByteArray → Option ByteArray
 | 0, _, b => some b
 | n + 1, i, b => (ints_With.f k l0 (i : Int)).bind fun t => ints_Best.rest k l0 n (i + 1) (if t.1.size < b.size then t.1 else b)
def ints_Best.f (k : Nat) (l0 : List Int) : Option (ByteArray × Int) := (ints_With.f k l0 0).bind fun t => if t.2 = 0 then (ints_Best.rest k l0 3 1 t.1).bind fun r => some (r, 0) else some (t.1, t.2)
end Go.Proofs.Ytgeddoklmcjdcaa.G
namespace Go.Proofs.Ytgeddoklmcjdcaa.G
open Go.RowKit Go.Proofs.YtgeddoklmcjdcaaQ Go.Proofs.YtgeddoklmcjdcaaW.PrintWords Go.Proofs.YtgeddoklmcjdcaaW.PrintLast Go.Proofs.YtgeddoklmcjdcaaW.PrintMore
set_option linter.unusedVariables false
set_option linter.unusedSimpArgs false
theorem sevens_I : I64 [7, 7, 7] := fun x hx => by simp at hx; subst hx; unfold i64; omega
theorem sevens_EN : EN 2 [7, 7, 7] = [2, 3, 3, 14] := by decide
theorem lives_f {k : Nat} (hk : 5000000 < k) : tithebarnlaw04_lives.f k = some true := by
 unfold tithebarnlaw04_lives.f
 have hb : bytesOf (⟨#[2, 3, 3, 14]⟩ : ByteArray) = EN 2 [7, 7, 7] := by rw [sevens_EN]; rfl
 have hw : ints_With.f k [7, 7, 7] 2 = some (strOfNums (EN 2 [7, 7, 7]), 0) := by rw [With_f sevens_I 2 (by omega), if_neg (by decide), if_neg (by decide)]
 rw [hw, Option.bind_some, IRead_f _ (by decide) hk, Option.bind_some, hb, DR_EN (by decide) (by decide) sevens_I (by decide)]
 simp only
 rw [if_pos trivial, sevens_EN, if_pos (by rw [ByteArray.toList_eq]; rfl), if_pos trivial, if_pos (by decide), if_pos (by decide)]
 rfl
theorem Same_l0 (l : List Int) (hl : l.length ≤ 1000000) : ∀ (d k i : Nat), i + d = l.length → d < k → tithebarnref04_Same.l0 k l l i = some true := by
 intro d
 induction d with
 | zero =>
  intro k i hi hk
  obtain ⟨k, rfl⟩ : ∃ m, k = m + 1 := ⟨k - 1, by omega⟩
  simp only [tithebarnref04_Same.l0]
  rw [if_neg (by omega)]
 | succ d ih =>
  intro k i hi hk
  obtain ⟨k, rfl⟩ : ∃ m, k = m + 1 := ⟨k - 1, by omega⟩
  simp only [tithebarnref04_Same.l0]
  rw [if_pos (by omega), if_pos (by omega), if_pos (by omega), if_pos trivial, next_i (n := 0) (by omega)]
  exact ih k (i + 1) (by omega) (by omega)
theorem Same_f {k : Nat} {l : List Int} (hl : l.length ≤ 1000000) (hk : l.length < k) : tithebarnref04_Same.f k l l = some true := by
 unfold tithebarnref04_Same.f
 rw [if_pos rfl]
 exact Same_l0 l hl l.length k 0 (by omega) hk
theorem DR_err {bs : List Int} (h : (DR bs).2 ≠ 0) : (DR bs).1 = [] := by
 unfold DR at h ⊢
 split
 ·rfl
 ·split
  ·rfl
  ·split
   ·rfl
   ·rename_i h1 h2 h3
    rw [if_neg h1, if_neg h2, if_neg h3] at h
    unfold DR.DB at h ⊢
    split
    ·rfl
    ·rename_i h4
     rw [if_neg h4] at h
     split
     ·rename_i h5; rw [if_pos h5] at h; exact absurd rfl h
     ·rfl
theorem DR_len {bs : List Int} (hB : Bs bs) : (DR bs).1.length ≤ 65536 := by
 by_cases h : (DR bs).2 = 0
 ·obtain ⟨_, _, _, _, h5, _⟩ := EN_DR hB (Prod.ext rfl h : DR bs = ((DR bs).1, 0))
  exact h5
 ·rw [DR_err h]; simp
end Go.Proofs.Ytgeddoklmcjdcaa.G
namespace Go.Proofs.Ytgeddoklmcjdcaa.G
open Go.RowKit Go.Proofs.YtgeddoklmcjdcaaQ Go.Proofs.YtgeddoklmcjdcaaW.PrintWords Go.Proofs.YtgeddoklmcjdcaaW.PrintLast Go.Proofs.YtgeddoklmcjdcaaW.PrintMore
attribute [local go_sem] max2_int min2_int max_two min_two max_three min_three max_four min_four   -- for this text's walks alone
set_option linter.unusedVariables false
set_option linter.unusedSimpArgs false
mutual
def tithebarnref04_runs.l0 : Nat → List Int → ByteArray → Int → Option (ByteArray)
 | 0, _, _, _ => none
 | k + 1, x0, x3, x4 => if x4 < (x0.length : Int) then (tithebarnref04_runs.l1 k x0 x3 x4 1) else (some x3)
def tithebarnref04_runs.l1 : Nat → List Int → ByteArray → Int → Int → Option (ByteArray)
 | 0, _, _, _, _ => none
 | k + 1, x0, x3, x4, x5 => if (wrap64 (x4 + x5)) < (x0.length : Int) then (if 0 ≤ (wrap64 (x4 + x5)) then (if 0 ≤ x4 then (if x4 < (x0.length : Int) then (if (rd x0 (wrap64 (x4 + x5))) = (rd x0 x4) then (tithebarnref04_runs.l1 k x0 x3 x4 (wrap64 (x5 + 1))) else ((tithebarnref01_Uint.f k (IntKind.u64.wrap (x5))).bind fun t319 => ((tithebarnref01_Int.f k (rd x0 x4)).bind fun t321 => (if t319.size + t321.size ≤ 9223372036854775807 then (if x3.size + (t319 ++ t321).size ≤ 9223372036854775807 then (tithebarnref04_runs.l0 k x0 (x3 ++ (t319 ++ t321)) (wrap64 (x4 + x5))) else (none)) else (none))))) else (none)) else (none)) else (none)) else ((tithebarnref01_Uint.f k (IntKind.u64.wrap (x5))).bind fun t322 => (if 0 ≤ x4 then (if x4 < (x0.length : Int) then ((tithebarnref01_Int.f k (rd x0 x4)).bind fun t324 => (if t322.size + t324.size ≤ 9223372036854775807 then (if x3.size + (t322 ++ t324).size ≤ 9223372036854775807 then (tithebarnref04_runs.l0 k x0 (x3 ++ (t322 ++ t324)) (wrap64 (x4 + x5))) else (none)) else (none))) else (none)) else (none)))
end
def tithebarnref04_runs.f (k : Nat) (l0 : List Int) : Option (ByteArray) := tithebarnref04_runs.l0 k l0 (⟨#[]⟩ : ByteArray) 0
end Go.Proofs.Ytgeddoklmcjdcaa.G
namespace Go.Proofs.Ytgeddoklmcjdcaa.G
open Go.RowKit Go.Proofs.YtgeddoklmcjdcaaQ Go.Proofs.YtgeddoklmcjdcaaW.PrintWords Go.Proofs.YtgeddoklmcjdcaaW.PrintLast Go.Proofs.YtgeddoklmcjdcaaW.PrintMore
attribute [local go_sem] max2_int min2_int max_two min_two max_three min_three max_four min_four   -- for this text's walks alone
set_option linter.unusedVariables false
set_option linter.unusedSimpArgs false
def tithebarnref04_packed.f (k : Nat) (l0 : List Int) : Option (ByteArray) := if (l0.length : Int) = 0 then (some (⟨#[]⟩ : ByteArray)) else ((tithebarnref04_offsets.f k l0).bind fun bt346 => ((tithebarnref03_Width.f k bt346.2).bind fun t350 => ((tithebarnref03_Pack.f k bt346.2 t350).bind fun bt351 => ((tithebarnref01_Int.f k bt346.1).bind fun t353 => ((some (([(t350) % 256] : List Int) : List Int)).bind fun y354 => (if t353.size + (strOfNums y354).size ≤ 9223372036854775807 then (if (t353 ++ (strOfNums y354)).size + bt351.1.size ≤ 9223372036854775807 then (some ((t353 ++ (strOfNums y354)) ++ bt351.1)) else (none)) else (none)))))))
end Go.Proofs.Ytgeddoklmcjdcaa.G
namespace Go.Proofs.Ytgeddoklmcjdcaa.G
open Go.RowKit Go.Proofs.YtgeddoklmcjdcaaQ Go.Proofs.YtgeddoklmcjdcaaW.PrintWords Go.Proofs.YtgeddoklmcjdcaaW.PrintLast Go.Proofs.YtgeddoklmcjdcaaW.PrintMore
attribute [local go_sem] max2_int min2_int max_two min_two max_three min_three max_four min_four   -- for this text's walks alone
set_option linter.unusedVariables false
set_option linter.unusedSimpArgs false
mutual
def tithebarnref04_With.j0 : Nat → List Int → Int → Bool → Option (ByteArray × Int)
 | 0, _, _, _ => none
 | k + 1, x0, x1, x14 => if x14 = true then (some ((⟨#[]⟩ : ByteArray), 1)) else (if (x0.length : Int) > 65536 then (some ((⟨#[]⟩ : ByteArray), 3)) else ((some (([(x1) % 256] : List Int) : List Int)).bind fun y357 => ((tithebarnref01_Uint.f k (IntKind.u64.wrap ((x0.length : Int)))).bind fun t360 => (if (strOfNums y357).size + t360.size ≤ 9223372036854775807 then (if x1 = 2 then ((tithebarnref04_runs.f k x0).bind fun t361 => (if ((strOfNums y357) ++ t360).size + t361.size ≤ 9223372036854775807 then (some (((strOfNums y357) ++ t360) ++ t361, 0)) else (none))) else (if x1 = 3 then ((tithebarnref04_packed.f k x0).bind fun t362 => (if ((strOfNums y357) ++ t360).size + t362.size ≤ 9223372036854775807 then (some (((strOfNums y357) ++ t360) ++ t362, 0)) else (none))) else (tithebarnref04_With.l0 k x0 x1 ((strOfNums y357) ++ t360) 0))) else (none)))))
def tithebarnref04_With.l0 : Nat → List Int → Int → ByteArray → Int → Option (ByteArray × Int)
 | 0, _, _, _, _ => none
 | k + 1, x0, x1, x6, x7 => if x7 < (x0.length : Int) then (if 0 ≤ x7 then (if x1 = 1 then (if x7 > 0 then (if 0 ≤ (wrap64 (x7 - 1)) then (if (wrap64 (x7 - 1)) < (x0.length : Int) then ((tithebarnref01_Int.f k (wrap64 (IntKind.u64.wrap ((IntKind.u64.wrap (rd x0 x7)) - (IntKind.u64.wrap (rd x0 (wrap64 (x7 - 1)))))))).bind fun t366 => (if x6.size + t366.size ≤ 9223372036854775807 then (tithebarnref04_With.l0 k x0 x1 (x6 ++ t366) (wrap64 (x7 + 1))) else (none))) else (none)) else (none)) else ((tithebarnref01_Int.f k (rd x0 x7)).bind fun t367 => (if x6.size + t367.size ≤ 9223372036854775807 then (tithebarnref04_With.l0 k x0 x1 (x6 ++ t367) (wrap64 (x7 + 1))) else (none)))) else ((tithebarnref01_Int.f k (rd x0 x7)).bind fun t368 => (if x6.size + t368.size ≤ 9223372036854775807 then (tithebarnref04_With.l0 k x0 x1 (x6 ++ t368) (wrap64 (x7 + 1))) else (none)))) else (none)) else (some (x6, 0))
end
def tithebarnref04_With.f (k : Nat) (l0 : List Int) (a1 : Int) : Option (ByteArray × Int) := if a1 < 0 then (tithebarnref04_With.j0 k l0 a1 true) else (tithebarnref04_With.j0 k l0 a1 (decide (a1 > 3)))
end Go.Proofs.Ytgeddoklmcjdcaa.G
namespace Go.Proofs.Ytgeddoklmcjdcaa.G
open Go.RowKit Go.Proofs.YtgeddoklmcjdcaaQ Go.Proofs.YtgeddoklmcjdcaaW.PrintWords Go.Proofs.YtgeddoklmcjdcaaW.PrintLast Go.Proofs.YtgeddoklmcjdcaaW.PrintMore
set_option linter.unusedVariables false
set_option linter.unusedSimpArgs false
theorem rOff_l1 {l : List Int} {a : Int} (hI : I64 l) (ha : ∀ x ∈ l, a ≤ x) (hai : i64 a) (hl : l.length ≤ 65536) : ∀ (d k i : Nat) (b : List Int), i + d = l.length → d < k → b.length ≤ i → tithebarnref04_offsets.l1 k l a b (i : Int) = some (a, b ++ ints (offs a (l.drop i))) := by
 intro d
 induction d with
 | zero =>
  intro k i b hi hk hb
  obtain ⟨k, rfl⟩ : ∃ m, k = m + 1 := ⟨k - 1, by omega⟩
  simp only [tithebarnref04_offsets.l1]
  rw [if_neg (by omega), List.drop_eq_nil_of_le (by omega)]; simp [offs, ints]
 | succ d ih =>
  intro k i b hi hk hb
  obtain ⟨k, rfl⟩ : ∃ m, k = m + 1 := ⟨k - 1, by omega⟩
  have hlt : i < l.length := by omega
  have h1 := hI _ (rd_mem hlt)
  have h2 := ha _ (rd_mem hlt)
  obtain ⟨x, hx⟩ : ∃ x, rd l (i : Int) = x := ⟨_, rfl⟩
  have e : IntKind.u64.wrap (IntKind.u64.wrap x - IntKind.u64.wrap a) = (((x - a).toNat : Nat) : Int) := by
   rw [hx] at h1 h2
   obtain ⟨a0, a1⟩ := h1; obtain ⟨b0, b1⟩ := hai
   rw [wu64_def, wu64_def, wu64_def]; omega
  simp only [tithebarnref04_offsets.l1]
  rw [if_pos (by omega), if_pos (by omega), if_pos (by omega), next_i (n := 0) (by omega), hx, e, ih k (i + 1) _ (by omega) (by omega) (by simp; omega), drop_rd hlt, hx]
  simp [offs, ints]
theorem rOff_l0 {l : List Int} (hI : I64 l) (hl : l.length ≤ 65536) (h0 : l ≠ []) : ∀ (d k i : Nat) (m : Int), i + d = l.length → d + l.length + 1 < k → (l.drop i).foldl mn m = minL l → tithebarnref04_offsets.l0 k l m (i : Int) = some (minL l, ints (offs (minL l) l)) := by
 intro d
 induction d with
 | zero =>
  intro k i m hi hk hm
  obtain ⟨k, rfl⟩ : ∃ m, k = m + 1 := ⟨k - 1, by omega⟩
  simp only [tithebarnref04_offsets.l0]
  rw [List.drop_eq_nil_of_le (by omega)] at hm
  rw [if_neg (by omega), show m = minL l from hm]
  exact rOff_l1 hI (fun x hx => minL_le hx) (minL_i64 h0 hI) hl l.length k 0 [] (by omega) (by omega) (by simp)
 | succ d ih =>
  intro k i m hi hk hm
  obtain ⟨k, rfl⟩ : ∃ m, k = m + 1 := ⟨k - 1, by omega⟩
  simp only [tithebarnref04_offsets.l0]
  rw [drop_rd (l := l) (i := i) (by omega)] at hm
  rw [if_pos (by omega), if_pos (by omega), next_i (n := 0) (by omega)]
  exact ih k (i + 1) _ (by omega) (by omega) hm
theorem rOff_f {l : List Int} (hI : I64 l) (hl : l.length ≤ 65536) (h0 : l ≠ []) {k : Nat} (hk : 140000 < k) : tithebarnref04_offsets.f k l = some (minL l, ints (offs (minL l) l)) := by
 unfold tithebarnref04_offsets.f
 have hp : 0 < l.length := List.length_pos_iff.2 h0
 rw [if_pos (by omega)]
 refine rOff_l0 hI hl h0 l.length k 0 (rd l 0) (by omega) (by omega) ?_
 cases l with
 | nil => exact absurd rfl h0
 | cons x l =>
  show (x :: l).foldl mn x = l.foldl mn x
  rw [List.foldl_cons]
  have : mn x x = x := by unfold mn; split <;> rfl
  rw [this]
where
 runsF_len : ∀ (f : Nat) (l : List Int), (runsF f l).length ≤ 20 * f
  | 0, _ => by simp [runsF]
  | f + 1, [] => by simp [runsF]
  | f + 1, x :: l => by
   have h1 := encU_len ((lead x l + 1 : Nat) : Int)
   have h2 := encI_len (x := x)
   have h3 := runsF_len f (l.drop (lead x l))
   rw [runsF, List.length_append, List.length_append]; omega
 packB_len {l : List Int} (hI : I64 l) (hl : l.length ≤ 65536) : (packB l).length ≤ 10000000 := by
  unfold packB
  split
  ·simp
  ·have h2 := encI_len (x := minL l)
   have hw := wd_offs hI
   have : l.length * wd (offs (minL l) l) ≤ 65536 * 64 := Nat.mul_le_mul hl hw
   rw [List.length_append, List.length_cons, ints_len, pk_len, offs_len]
   unfold need; omega
end Go.Proofs.Ytgeddoklmcjdcaa.G
namespace Go.Proofs.Ytgeddoklmcjdcaa.G
open Go.RowKit Go.Proofs.YtgeddoklmcjdcaaQ Go.Proofs.YtgeddoklmcjdcaaW.PrintWords Go.Proofs.YtgeddoklmcjdcaaW.PrintLast Go.Proofs.YtgeddoklmcjdcaaW.PrintMore
set_option linter.unusedVariables false
set_option linter.unusedSimpArgs false
def Lf (S : ByteArray) (a : Nat) : List Int := (bytesOf S).drop a
theorem Lf_Bs (S : ByteArray) (a : Nat) : Bs (Lf S a) := (Bs.bytesOf S).drop a
theorem Lf_len (S : ByteArray) (a : Nat) : (Lf S a).length = S.size - a := by unfold Lf; rw [List.length_drop, bytesOf_size]
theorem Lf_Uint {S : ByteArray} {a : Nat} {e : Int} (ha : a ≤ S.size) : ∃ a' : Nat, a' ≤ S.size ∧ ((a + pUint (Lf S a) e : Nat) : Int) = (a' : Int) ∧ Lf S a' = (aUint (Lf S a) e).2.1 := by
  refine ⟨a + pUint (Lf S a) e, ?_, rfl, ?_⟩
  · have := pUint_le (Lf S a) e; rw [Lf_len] at this; omega
  · rw [aUint_drop]; unfold Lf; rw [List.drop_drop]
theorem cI {k : Nat} (hk : 30 ≤ k) {S : ByteArray} (hS : S.size ≤ 4611686018427387904) {a : Nat} (ha : a ≤ S.size) (e : Int) : ∃ a' : Nat, a' ≤ S.size ∧ Lf S a' = (aInt (Lf S a) e).2.1 ∧ tithebarnref01_Cursor_Int.f k S (a : Int) e = some ((aInt (Lf S a) e).1, S, (a' : Int), (aInt (Lf S a) e).2.2) := by
  obtain ⟨a', h1, h2, h3⟩ := Lf_Uint (e := e) ha
  refine ⟨a', h1, h3, ?_⟩
  rw [rcInt_f hk S a e ha hS]
  show some ((aInt (Lf S a) e).1, S, ((a + pUint (Lf S a) e : Nat) : Int), (aInt (Lf S a) e).2.2) = _
  rw [h2]
theorem cU {k : Nat} (hk : 30 ≤ k) {S : ByteArray} (hS : S.size ≤ 4611686018427387904) {a : Nat} (ha : a ≤ S.size) (e : Int) : ∃ a' : Nat, a' ≤ S.size ∧ Lf S a' = (aUint (Lf S a) e).2.1 ∧ tithebarnref01_Cursor_Uint.f k S (a : Int) e = some ((aUint (Lf S a) e).1, S, (a' : Int), (aUint (Lf S a) e).2.2) := by
  obtain ⟨a', h1, h2, h3⟩ := Lf_Uint (e := e) ha
  refine ⟨a', h1, h3, ?_⟩
  rw [rcUint_f hk S a e ha hS]
  show some ((aUint (Lf S a) e).1, S, ((a + pUint (Lf S a) e : Nat) : Int), (aUint (Lf S a) e).2.2) = _
  rw [h2]
theorem cB {S : ByteArray} (hS : S.size ≤ 4611686018427387904) {a : Nat} (ha : a ≤ S.size) (e : Int) : ∃ a' : Nat, a' ≤ S.size ∧ Lf S a' = (aByte (Lf S a) e).2.1 ∧ tithebarnref01_Cursor_Byte.f S (a : Int) e = some ((aByte (Lf S a) e).1, S, (a' : Int), (aByte (Lf S a) e).2.2) := by
  refine ⟨a + pByte (Lf S a) e, ?_, ?_, ?_⟩
  · have : pByte (Lf S a) e ≤ (Lf S a).length := by
      unfold pByte; split
      · rename_i h; exact List.length_pos_iff.2 h.2
      · omega
    rw [Lf_len] at this; omega
  · rw [aByte_drop]; unfold Lf; rw [List.drop_drop]
  · exact rcByte_f S a e ha hS
theorem j4_f {k : Nat} {S : ByteArray} (hS : S.size ≤ 4611686018427387904) {a : Nat} (ha : a ≤ S.size) (l : List Int) {x e : Int} (he : x = 0 → e = 0) : tithebarnref04_Read.j4 (k + 1) l x S (a : Int) e = some (DR.DB (l, x, Lf S a)) := by
  simp only [tithebarnref04_Read.j4]
  unfold DR.DB
  by_cases c : x = 0
  · have e0 := he c
    subst c e0
    have hd := rcDone_f S a 0 ha hS
    rw [if_pos rfl, hd, Option.bind_some]
    simp only
    rw [if_neg (show ¬ ((0 : Int) ≠ 0) from fun h => h rfl)]
    unfold aDone
    rw [if_pos rfl]
    show (if (if Lf S a = [] then (0 : Int) else 5) = 0 then some (l, (0 : Int)) else some (([] : List Int), if Lf S a = [] then (0 : Int) else 5)) = _
    by_cases c2 : Lf S a = []
    · rw [if_pos c2, if_pos rfl, if_pos c2]
    · rw [if_neg c2, if_neg (by decide), if_neg c2]
  · rw [if_neg c, if_pos c]
def GG (c : Int) (acc : List Int) : List Int := if c = 1 then psum 0 acc else acc
theorem GG_len (c : Int) (acc : List Int) : (GG c acc).length = acc.length := by unfold GG; split; rw [psum_len]; rfl
theorem lastD_rd {l : List Int} (h : 0 < l.length) (a : Int) : rd l ((l.length - 1 : Nat) : Int) = l.getLastD a := by
  rw [List.getLastD_eq_getLast?, List.getLast?_eq_getElem?, rd, Int.toNat_natCast, List.getD_eq_getElem?_getD, List.getElem?_eq_getElem (by omega)]; rfl
theorem rRead_l0 {S : ByteArray} (hS : S.size ≤ 4611686018427387904) {n : Nat} (hn : n ≤ 65536) {c : Int} (hc : c < 2) : ∀ (d k i : Nat) (acc : List Int) (a : Nat) (e : Int), i + d = n → 2 * d + 40 < k → a ≤ S.size → (e = 0 → acc.length = i) →
    tithebarnref04_Read.l0 k c (n : Int) (GG c acc) (i : Int) S (a : Int) e = some (DR.DB (GG c (rp d (Lf S a) e acc).1, (rp d (Lf S a) e acc).2.2, (rp d (Lf S a) e acc).2.1)) := by
  intro d
  induction d with
  | zero =>
    intro k i acc a e hi hk ha hl
    obtain ⟨k, rfl⟩ : ∃ m, k = m + 3 := ⟨k - 3, by omega⟩
    rw [show k + 3 = (k + 2) + 1 from rfl]
    simp only [tithebarnref04_Read.l0]
    rw [if_neg (by omega), show k + 2 = (k + 1) + 1 from rfl]
    simp only [tithebarnref04_Read.j3]
    rw [if_neg (by decide), j4_f hS ha _ (fun h => h)]; rfl
  | succ d ih =>
    intro k i acc a e hi hk ha hl
    obtain ⟨k, rfl⟩ : ∃ m, k = m + 3 := ⟨k - 3, by omega⟩
    rw [show k + 3 = (k + 2) + 1 from rfl]
    simp only [tithebarnref04_Read.l0]
    rw [if_pos (by omega), show k + 2 = (k + 1) + 1 from rfl]
    simp only [tithebarnref04_Read.j3]
    by_cases he : e = 0
    · subst he
      have hl := hl rfl
      obtain ⟨a', h1, h2, h3⟩ := cI (k := k + 1) (by omega) hS ha 0
      have hB := Lf_Bs S a
      have hxi := aInt_i64 hB 0
      rw [show ((0 : Int) == 0) = true from rfl, if_pos rfl, h3, Option.bind_some]
      simp only
      have IH := ih (k + 1) (i + 1) (acc ++ [(aInt (Lf S a) 0).1]) a' (aInt (Lf S a) 0).2.2 (by omega) (by omega) h1 (fun _ => by simp; omega)
      rw [h2] at IH
      rw [rp, if_pos rfl, ← IH]
      have hln : (GG c acc).length = i := by rw [GG_len, hl]
      generalize (aInt (Lf S a) 0).1 = x at *
      have e9 : IntKind.u64.wrap ((i : Int) + 1) = ((i + 1 : Nat) : Int) := by rw [wu64 (by omega) (by omega)]; rfl
      by_cases c1 : c = 1
      · subst c1
        rw [if_pos rfl]
        by_cases hi0 : 0 < i
        · have e8 : IntKind.u64.wrap ((i : Int) - 1) = ((i - 1 : Nat) : Int) := by rw [wu64 (by omega) (by omega)]; omega
          have hlast := lastD_rd (l := GG 1 acc) (by omega) 0
          rw [hln] at hlast
          rw [if_pos (by omega), e8, if_pos (by omega), if_pos (by omega), if_pos (by omega), hlast, e9]
          have e7 : wrap64 (IntKind.u64.wrap (IntKind.u64.wrap ((GG 1 acc).getLastD 0) + IntKind.u64.wrap x)) = wrap64 ((GG 1 acc).getLastD 0 + x) := by rw [wu64_def, wu64_def, wu64_def]; unfold wrap64; omega
          have e6 : GG 1 (acc ++ [x]) = GG 1 acc ++ [wrap64 ((GG 1 acc).getLastD 0 + x)] := by unfold GG; rw [if_pos rfl, if_pos rfl, psum_snoc]
          rw [e7, e6]
        · have h0 : acc = [] := List.length_eq_zero_iff.1 (by omega)
          subst h0
          have e5 : GG 1 ([] ++ [x]) = GG 1 [] ++ [x] := by
            unfold GG
            rw [if_pos rfl, if_pos rfl, List.nil_append]
            have : wrap64 (0 + x) = x := by obtain ⟨q0, q1⟩ := hxi; unfold wrap64; omega
            show [wrap64 (0 + x)] = [x]
            rw [this]
          rw [if_neg (by omega), if_pos (by omega), e9, e5]
      · have e5 : GG c (acc ++ [x]) = GG c acc ++ [x] := by unfold GG; rw [if_neg c1, if_neg c1]
        rw [if_neg c1, if_pos (by omega), e9, e5]
    · have hb : (e == 0) = false := beq_eq_false_iff_ne.mpr he
      rw [hb, if_neg (by decide), j4_f hS ha _ (fun h => h), rp_err he]
theorem Rep_l1 {S : ByteArray} {n : Int} {t x : Int} (a e : Int) : ∀ (d k : Nat) (i : Nat) (out : List Int), ((i + d : Nat) : Int) = t → d < k → out.length + d ≤ 1000000 → t ≤ 1000000 → tithebarnref04_readRuns.l1 k n out t x (i : Int) S a e = tithebarnref04_readRuns.l0 (k - d - 1) n (out ++ List.replicate d x) S a e := by
  intro d
  induction d with
  | zero =>
    intro k i out hi hk ho ht
    obtain ⟨k, rfl⟩ : ∃ m, k = m + 1 := ⟨k - 1, by omega⟩
    simp only [tithebarnref04_readRuns.l1]
    rw [if_neg (by omega)]; simp
  | succ d ih =>
    intro k i out hi hk ho ht
    obtain ⟨k, rfl⟩ : ∃ m, k = m + 1 := ⟨k - 1, by omega⟩
    have e9 : IntKind.u64.wrap ((i : Int) + 1) = ((i + 1 : Nat) : Int) := by rw [wu64 (by omega) (by omega)]; rfl
    simp only [tithebarnref04_readRuns.l1]
    rw [if_pos (by omega), if_pos (by omega), e9, ih k (i + 1) (out ++ [x]) (by omega) (by omega) (by simp; omega) ht, List.append_assoc, List.singleton_append, ← List.replicate_succ, show k + 1 - (d + 1) - 1 = k - d - 1 by omega]
theorem last_rd' {l : List Int} (h : 0 < l.length) (x : Int) : l.getLast? = some x ↔ rd l ((l.length - 1 : Nat) : Int) = x := by
  rw [List.getLast?_eq_getElem?, rd, Int.toNat_natCast, List.getD_eq_getElem?_getD, List.getElem?_eq_getElem (by omega)]
  simp
theorem rRuns_ref {S : ByteArray} (hS : S.size ≤ 4611686018427387904) {n : Nat} (hn : n ≤ 65536) : ∀ (f k : Nat) (a : Nat) (out : List Int), a ≤ S.size → out.length ≤ n → n ≤ out.length + f → 5 * f + (n - out.length) + 50 < k →
    ∃ (a' : Nat) (e' : Int), tithebarnref04_readRuns.l0 k (n : Int) out S (a : Int) 0 = some ((rr n f (Lf S a) out).1, (rr n f (Lf S a) out).2.1, S, (a' : Int), e') ∧ ((rr n f (Lf S a) out).2.1 = 0 → a' ≤ S.size ∧ Lf S a' = (rr n f (Lf S a) out).2.2 ∧ e' = 0) := by
  intro f
  induction f with
  | zero =>
    intro k a out ha h1 h2 hk
    obtain ⟨k, rfl⟩ : ∃ m, k = m + 1 := ⟨k - 1, by omega⟩
    refine ⟨a, 0, ?_, fun _ => ⟨ha, ?_, rfl⟩⟩
    · simp only [tithebarnref04_readRuns.l0]
      rw [if_neg (by omega)]; rfl
    · rw [rr]
  | succ f ih =>
    intro k a out ha h1 h2 hk
    obtain ⟨k, rfl⟩ : ∃ m, k = m + 3 := ⟨k - 3, by omega⟩
    by_cases hlt : out.length < n
    · have hw : IntKind.u64.wrap (wrap64 ((n : Int) - (out.length : Int))) = ((n - out.length : Nat) : Int) := by rw [w64 (by omega) (by omega), wu64 (by omega) (by omega)]; omega
      obtain ⟨a1, g1, g2, g3⟩ := cU (k := k + 2) (by omega) hS ha 0
      have hB1 := aUint_Bs (Lf_Bs S a) 0
      have hu64 := aUint_u64 (Lf_Bs S a) 0
      rw [show k + 3 = (k + 2) + 1 from rfl]
      simp only [tithebarnref04_readRuns.l0]
      rw [if_pos (by omega), g3, Option.bind_some, rr, if_pos hlt]
      rw [← g2] at hB1 ⊢
      generalize aUint (Lf S a) 0 = U at *
      obtain ⟨t, r1, e1⟩ := U
      obtain ⟨u0, u1⟩ := hu64
      simp only at u0 u1 ⊢
      rw [hw]
      have rest : ∀ b : Bool, b = false → (e1 = 0 → ¬ (t = 0 ∨ ((n - out.length : Nat) : Int) < t)) → ∃ (a' : Nat) (e' : Int), tithebarnref04_readRuns.j1 (k + 2) (n : Int) out t b S (a1 : Int) e1 = some
          ((if e1 = 0 then if (aInt (Lf S a1) 0).2.2 = 0 then if out.getLast? = some (aInt (Lf S a1) 0).1 then ([], 4, []) else rr n f (aInt (Lf S a1) 0).2.1 (out ++ List.replicate t.toNat (aInt (Lf S a1) 0).1) else ([], (aInt (Lf S a1) 0).2.2, []) else ([], e1, [])).1,
           (if e1 = 0 then if (aInt (Lf S a1) 0).2.2 = 0 then if out.getLast? = some (aInt (Lf S a1) 0).1 then ([], 4, []) else rr n f (aInt (Lf S a1) 0).2.1 (out ++ List.replicate t.toNat (aInt (Lf S a1) 0).1) else ([], (aInt (Lf S a1) 0).2.2, []) else ([], e1, [])).2.1, S, (a' : Int), e') ∧
          ((if e1 = 0 then if (aInt (Lf S a1) 0).2.2 = 0 then if out.getLast? = some (aInt (Lf S a1) 0).1 then ([], 4, []) else rr n f (aInt (Lf S a1) 0).2.1 (out ++ List.replicate t.toNat (aInt (Lf S a1) 0).1) else ([], (aInt (Lf S a1) 0).2.2, []) else ([], e1, [])).2.1 = 0 → a' ≤ S.size ∧ Lf S a' = (if e1 = 0 then if (aInt (Lf S a1) 0).2.2 = 0 then if out.getLast? = some (aInt (Lf S a1) 0).1 then ([], 4, []) else rr n f (aInt (Lf S a1) 0).2.1 (out ++ List.replicate t.toNat (aInt (Lf S a1) 0).1) else ([], (aInt (Lf S a1) 0).2.2, []) else ([], e1, [])).2.2 ∧ e' = 0) := by
        intro b hb ht
        subst hb
        obtain ⟨a2, q1, q2, q3⟩ := cI (k := k + 1) (by omega) hS g1 e1
        rw [show k + 2 = (k + 1) + 1 from rfl]
        simp only [tithebarnref04_readRuns.j1]
        rw [if_neg (by decide), q3, Option.bind_some]
        simp only
        by_cases he : e1 = 0
        · subst he
          have htt := ht rfl
          rw [if_pos rfl]
          rw [← q2]
          generalize aInt (Lf S a1) 0 = V at *
          obtain ⟨x, r2, e2⟩ := V
          simp only
          by_cases he2 : e2 = 0
          · subst he2
            rw [if_pos rfl, if_pos rfl]
            have go : ∃ (a' : Nat) (e' : Int), tithebarnref04_readRuns.l1 k (n : Int) out t x 0 S (a2 : Int) 0 = some ((rr n f (Lf S a2) (out ++ List.replicate t.toNat x)).1, (rr n f (Lf S a2) (out ++ List.replicate t.toNat x)).2.1, S, (a' : Int), e') ∧ ((rr n f (Lf S a2) (out ++ List.replicate t.toNat x)).2.1 = 0 → a' ≤ S.size ∧ Lf S a' = (rr n f (Lf S a2) (out ++ List.replicate t.toNat x)).2.2 ∧ e' = 0) := by
              obtain ⟨j, rfl⟩ : ∃ j : Nat, t = (j : Int) := ⟨t.toNat, by omega⟩
              rw [Int.toNat_natCast]
              have hr : tithebarnref04_readRuns.l1 k (n : Int) out (j : Int) x 0 S (a2 : Int) 0 = tithebarnref04_readRuns.l0 (k - j - 1) (n : Int) (out ++ List.replicate j x) S (a2 : Int) 0 := Rep_l1 (S := S) (n := (n : Int)) (t := (j : Int)) (x := x) (a2 : Int) 0 j k 0 out (by omega) (by omega) (by omega) (by omega)
              rw [hr]
              exact ih (k - j - 1) a2 (out ++ List.replicate j x) q1 (by simp; omega) (by simp; omega) (by simp; omega)
            by_cases hp : 0 < out.length
            · have e3 : wrap64 ((out.length : Int) - 1) = ((out.length - 1 : Nat) : Int) := by rw [w64 (by omega) (by omega)]; omega
              rw [if_pos (by omega), e3, if_pos (by omega), if_pos (by omega)]
              have hl := last_rd' hp x
              simp only [tithebarnref04_readRuns.j2]
              by_cases hl2 : rd out ((out.length - 1 : Nat) : Int) = x
              · rw [beq_iff_eq.mpr hl2, if_pos rfl, if_pos (hl.2 hl2)]
                exact ⟨_, _, rfl, fun h => absurd h (by decide)⟩
              · rw [beq_eq_false_iff_ne.mpr hl2, if_neg (by decide), if_neg (fun h => hl2 (hl.1 h))]
                exact go
            · have h0 : out = [] := List.length_eq_zero_iff.1 (by omega)
              have hl : ¬ out.getLast? = some x := by rw [h0]; simp
              rw [if_neg (by omega), if_neg hl]
              simp only [tithebarnref04_readRuns.j2]
              rw [if_neg (by decide)]
              exact go
          · rw [if_neg he2, if_neg he2]
            exact ⟨_, _, rfl, fun h => absurd h he2⟩
        · have e4 : (aInt (Lf S a1) e1).2.2 = e1 := by unfold aInt aUint; rw [if_neg he]
          rw [e4, if_neg he, if_neg he]
          exact ⟨_, _, rfl, fun h => absurd h he⟩
      by_cases he : e1 = 0
      · rw [if_pos he, if_pos he]
        by_cases ht : t = 0
        · rw [if_pos ht, if_pos (Or.inl ht), show k + 2 = (k + 1) + 1 from rfl]
          simp only [tithebarnref04_readRuns.j1]
          rw [if_pos trivial]
          exact ⟨_, _, rfl, fun h => absurd h (by decide)⟩
        · rw [if_neg ht]
          by_cases ht2 : ((n - out.length : Nat) : Int) < t
          · rw [if_pos (Or.inr ht2), decide_eq_true (by omega), show k + 2 = (k + 1) + 1 from rfl]
            simp only [tithebarnref04_readRuns.j1]
            rw [if_pos trivial]
            exact ⟨_, _, rfl, fun h => absurd h (by decide)⟩
          · rw [if_neg (by omega), decide_eq_false (by omega)]
            have := rest false rfl (fun _ => by omega)
            rwa [if_pos he] at this
      · rw [if_neg he, if_neg he]
        have := rest false rfl (fun h => absurd h he)
        rwa [if_neg he] at this
    · refine ⟨a, 0, ?_, fun _ => ⟨ha, ?_, rfl⟩⟩
      · rw [show k + 3 = (k + 2) + 1 from rfl]
        simp only [tithebarnref04_readRuns.l0]
        rw [if_neg (by omega), rr, if_neg hlt]
      · rw [rr, if_neg hlt]
theorem raw_l0 {S : ByteArray} (hS : S.size ≤ 4611686018427387904) {n : Nat} (hn : n ≤ 4194304) : ∀ (d k i : Nat) (acc : List Int) (a : Nat), i + d = n → d + 2 < k → a ≤ S.size → acc.length ≤ i →
    (d ≤ (Lf S a).length → ∃ a' : Nat, a' ≤ S.size ∧ Lf S a' = (Lf S a).drop d ∧ tithebarnref04_raw.l0 k (n : Int) acc (i : Int) S (a : Int) 0 = some (strOfNums (acc ++ (Lf S a).take d), S, (a' : Int), 0)) ∧
    ((Lf S a).length < d → ∃ (x : ByteArray) (a' : Nat), tithebarnref04_raw.l0 k (n : Int) acc (i : Int) S (a : Int) 0 = some (x, S, (a' : Int), 2)) := by
  intro d
  induction d with
  | zero =>
    intro k i acc a hi hk ha hl
    obtain ⟨k, rfl⟩ : ∃ m, k = m + 1 := ⟨k - 1, by omega⟩
    refine ⟨fun _ => ⟨a, ha, rfl, ?_⟩, fun h => by omega⟩
    simp only [tithebarnref04_raw.l0]
    rw [if_neg (by omega), List.take_zero, List.append_nil]
  | succ d ih =>
    intro k i acc a hi hk ha hl
    obtain ⟨k, rfl⟩ : ∃ m, k = m + 1 := ⟨k - 1, by omega⟩
    obtain ⟨a', h1, h2, h3⟩ := cB hS ha 0
    have hB := Lf_Bs S a
    simp only [tithebarnref04_raw.l0]
    rw [if_pos (by omega), if_pos trivial, h3, Option.bind_some, if_pos (by omega), next_i (n := 0) (by omega)]
    simp only
    cases hc : Lf S a with
    | nil =>
      rw [hc] at h2
      rw [show aByte [] 0 = (0, [], 2) from rfl]
      simp only
      refine ⟨fun h => by simp at h, fun _ => ?_⟩
      obtain ⟨k, rfl⟩ : ∃ m, k = m + 1 := ⟨k - 1, by omega⟩
      simp only [tithebarnref04_raw.l0]
      by_cases c : ((i + 1 : Nat) : Int) < (n : Int)
      · rw [if_pos c, if_neg (by decide)]; exact ⟨_, _, rfl⟩
      · rw [if_neg c]; exact ⟨_, _, rfl⟩
    | cons b r =>
      rw [hc] at hB h2
      obtain ⟨b0, b1⟩ := hB.head
      rw [aByte_cons] at h2 ⊢
      simp only at h2 ⊢
      rw [Int.emod_eq_of_lt b0 b1]
      obtain ⟨g1, g2⟩ := ih k (i + 1) (acc ++ [b]) a' (by omega) (by omega) h1 (by simp; omega)
      rw [h2] at g1 g2
      refine ⟨fun h => ?_, fun h => g2 (by simp at h; omega)⟩
      obtain ⟨a2, q1, q2, q3⟩ := g1 (by simp at h; omega)
      refine ⟨a2, q1, by rw [q2, List.drop_succ_cons], ?_⟩
      rw [q3, List.take_succ_cons, List.append_assoc, List.singleton_append]
theorem rPk_l0 {n w : Nat} (hn : n ≤ 65536) (h0 : 0 < n) {a : Int} (hai : i64 a) (o : List Nat) (hol : o.length = n) (ho : ∀ x ∈ o, x < 2 ^ 64) (S : ByteArray) (p e : Int) : ∀ (d k i : Nat) (acc : List Int), i + d = n → d + 5000000 < k → acc = back a (o.take i) →
    tithebarnref04_readPacked.l0 k (n : Int) a (w : Int) (ints o) acc ((o.take i).any (· == 0)) (i : Int) S p e = some (if minL (back a o) = a ∧ wd o = w then (back a o, 0, S, p, e) else ([], 4, S, p, e)) := by
  intro d
  induction d with
  | zero =>
    intro k i acc hi hk hacc
    obtain ⟨k, rfl⟩ : ∃ m, k = m + 1 := ⟨k - 1, by omega⟩
    rw [List.take_of_length_le (by omega)] at hacc ⊢
    subst hacc
    have hne : back a o ≠ [] := by intro h; have := congrArg List.length h; rw [back_len, hol] at this; simp at this; omega
    have hU : U64 (ints o) := ints_U64 (w := 64) (by omega) ho
    have hz : minL (back a o) = a → o.any (· == 0) = true := by
      intro h
      have hm := minL_mem hne
      rw [h] at hm
      obtain ⟨x, hx, hxa⟩ := List.mem_map.1 hm
      have hx2 := ho x hx
      obtain ⟨i0, i1⟩ := hai
      rw [List.any_eq_true]
      refine ⟨x, hx, ?_⟩
      simp only [beq_iff_eq]
      unfold wrap64 at hxa; omega
    simp only [tithebarnref04_readPacked.l0]
    rw [if_neg (by omega), rOff_f (back_I64 a o) (by rw [back_len, hol]; omega) hne (by omega), Option.bind_some]
    simp only
    by_cases c : o.any (· == 0) = true
    · rw [if_pos c, rWidth_f hU (by rw [ints_len, hol]; omega) (by rw [ints_len, hol]; omega), Option.bind_some, unats_ints]
      by_cases c2 : wd o = w
      · rw [if_pos (by omega)]
        by_cases c3 : minL (back a o) = a
        · rw [if_pos c3, if_pos ⟨c3, c2⟩]
        · rw [if_neg c3, if_neg (fun h => c3 h.1)]
      · rw [if_neg (by omega), if_neg (fun h => c2 h.2)]
    · rw [if_neg c, if_neg (fun h => c (hz h.1))]
  | succ d ih =>
    intro k i acc hi hk hacc
    obtain ⟨k, rfl⟩ : ∃ m, k = m + 1 := ⟨k - 1, by omega⟩
    have hil : i < o.length := by omega
    have hr : rd (ints o) (i : Int) = ((o[i] : Nat) : Int) := rd_ints hil
    have e1 : wrap64 (IntKind.u64.wrap (IntKind.u64.wrap a + ((o[i] : Nat) : Int))) = wrap64 (a + ((o[i] : Nat) : Int)) := by rw [wu64_def, wu64_def]; unfold wrap64; omega
    have htk : o.take (i + 1) = o.take i ++ [o[i]] := List.take_succ_eq_append_getElem hil
    have hacc2 : acc ++ [wrap64 (a + ((o[i] : Nat) : Int))] = back a (o.take (i + 1)) := by rw [hacc, htk]; unfold back; rw [List.map_append]; rfl
    have hal : acc.length < 17592186044416 := by rw [hacc, back_len, List.length_take]; omega
    have hany : (o.take (i + 1)).any (· == 0) = ((o.take i).any (· == 0) || (o[i] == 0)) := by rw [htk, List.any_append]; simp
    have hz : ((((o[i] : Nat) : Int)) == 0) = (o[i] == 0) := by
      by_cases h : o[i] = 0
      · rw [h]; rfl
      · rw [beq_eq_false_iff_ne.mpr h, beq_eq_false_iff_ne.mpr (by omega)]
    have IH := ih k (i + 1) _ (by omega) (by omega) hacc2
    simp only [tithebarnref04_readPacked.l0]
    rw [if_pos (by omega)]
    by_cases c : (o.take i).any (· == 0) = true
    · rw [hany, c, Bool.true_or] at IH
      rw [if_pos c, if_pos (by omega), if_pos (by rw [ints_len]; omega), if_pos hal, hr, e1, next_i (n := 0) (by omega)]
      exact IH
    · rw [hany, Bool.eq_false_iff.mpr c, Bool.false_or] at IH
      rw [if_neg c, if_pos (by omega), if_pos (by rw [ints_len]; omega), if_pos hal, hr, e1, next_i (n := 0) (by omega), hz]
      exact IH
theorem rPacked_ref {S : ByteArray} (hS : S.size ≤ 140737488355328) {n : Nat} (hn : n ≤ 65536) (h0 : 0 < n) {k : Nat} (hk : 10000000 < k) {a : Nat} (ha : a ≤ S.size) :
    ∃ (a' : Nat) (e' : Int), tithebarnref04_readPacked.f k S (a : Int) 0 (n : Int) = some ((bp n (Lf S a)).1, (bp n (Lf S a)).2.1, S, (a' : Int), e') ∧ ((bp n (Lf S a)).2.1 = 0 → a' ≤ S.size ∧ Lf S a' = (bp n (Lf S a)).2.2 ∧ e' = 0) := by
  obtain ⟨a1, h1, h2, h3⟩ := cI (k := k) (by omega) (show S.size ≤ 4611686018427387904 by omega) ha 0
  have hxi := aInt_i64 (Lf_Bs S a) 0
  unfold tithebarnref04_readPacked.f bp
  rw [if_neg (show ¬ n = 0 by omega), h3, Option.bind_some]
  simp only
  rw [← h2]
  generalize aInt (Lf S a) 0 = V at *
  obtain ⟨x, r1, e1⟩ := V
  simp only at hxi ⊢
  obtain ⟨a2, g1, g2, g3⟩ := cB (show S.size ≤ 4611686018427387904 by omega) h1 e1
  rw [g3, Option.bind_some]
  simp only
  rw [← g2]
  have hb : 0 ≤ (aByte (Lf S a1) e1).1 ∧ (aByte (Lf S a1) e1).1 < 256 := by
    have hh := Lf_Bs S a1
    unfold aByte
    split
    · generalize Lf S a1 = r at *
      cases r with
      | nil => simp
      | cons b r => exact hh.head
    · simp
  generalize aByte (Lf S a1) e1 = Y at *
  obtain ⟨b, r2, e2⟩ := Y
  simp only at hb ⊢
  have z0 : ¬ ((0 : Int) ≠ 0) := fun h => h rfl
  by_cases he : e2 = 0
  · subst he
    rw [if_pos rfl, if_neg z0]
    by_cases hw : 64 < b
    · rw [if_pos (by omega), if_pos hw]
      exact ⟨_, _, rfl, fun h => absurd h (by decide)⟩
    · obtain ⟨w, rfl⟩ : ∃ w : Nat, b = (w : Int) := ⟨b.toNat, by omega⟩
      have hnw : n * w ≤ 65536 * 64 := Nat.mul_le_mul hn (by omega)
      have e3 : wrap64 (Int.tdiv (wrap64 ((wrap64 ((n : Int) * (w : Int))) + 7)) 8) = ((need (n * w) : Nat) : Int) := by
        rw [← Int.natCast_mul]
        generalize n * w = m at hnw
        rw [w64 (x := (m : Int)) (by omega) (by omega), w64 (x := (m : Int) + 7) (by omega) (by omega), Int.tdiv_eq_ediv_of_nonneg (by omega), w64 (by omega) (by omega)]
        unfold need; omega
      have hnd : need (n * w) ≤ 4194304 := by generalize n * w = m at hnw; unfold need; omega
      rw [if_neg (by omega), if_neg hw, e3, Int.toNat_natCast]
      unfold bp.bq tithebarnref04_raw.f
      obtain ⟨q1, q2⟩ := raw_l0 (S := S) (by omega) hnd (need (n * w)) k 0 [] a2 (by omega) (by omega) g1 (by simp)
      by_cases c : (Lf S a2).length < need (n * w)
      · obtain ⟨xs, a3, q3⟩ := q2 c
        have q3' : tithebarnref04_raw.l0 k ((need (n * w) : Nat) : Int) [] 0 S (a2 : Int) 0 = some (xs, S, (a3 : Int), 2) := q3
        rw [q3', Option.bind_some, if_pos c]
        simp only
        rw [if_neg (by decide)]
        exact ⟨a3, 2, rfl, fun h => absurd h (by decide)⟩
      · obtain ⟨a3, q4, q5, q6⟩ := q1 (by omega)
        have q6' : tithebarnref04_raw.l0 k ((need (n * w) : Nat) : Int) [] 0 S (a2 : Int) 0 = some (strOfNums ([] ++ (Lf S a2).take (need (n * w))), S, (a3 : Int), 0) := q6
        rw [q6', Option.bind_some, if_neg c, List.nil_append]
        simp only
        rw [if_pos trivial]
        generalize hss : strOfNums ((Lf S a2).take (need (n * w))) = s at *
        have hsz : s.size ≤ 140737488355328 := by rw [← hss, size_strOfNums, List.length_take]; omega
        rw [rUnpack_f (by omega) hsz hn (by omega)]
        by_cases cf : fitE s (n * w) = 0
        · have hdl : (dig (2 ^ w) n (num s)).length = n := dig_len _ _ _
          have hlt := dig_lt (p2 w) n (num s)
          rw [Unpack_ok hsz hn (by omega) cf, Option.bind_some, if_neg (show ¬ (fitE s (n * w) ≠ 0) from fun h => h cf)]
          simp only
          rw [if_pos trivial]
          have hl0 := rPk_l0 (w := w) hn h0 hxi (dig (2 ^ w) n (num s)) hdl (fun x hx => Nat.lt_of_lt_of_le (hlt x hx) (Nat.pow_le_pow_right (by omega) (by omega))) S (a3 : Int) 0 n k 0 [] (by omega) (by omega) (by simp [back])
          refine ⟨a3, 0, hl0.trans ?_, fun h => ⟨q4, ?_, rfl⟩⟩
          · split <;> rfl
          · split at h
            · rename_i hc; rw [if_pos hc, q5]
            · exact absurd h (by decide)
        · rw [Unpack_bad hsz hn (by omega) cf, Option.bind_some, if_pos cf]
          simp only
          rw [if_neg cf]
          exact ⟨_, _, rfl, fun h => absurd h cf⟩
  · rw [if_neg he, if_pos he]
    exact ⟨_, _, rfl, fun h => absurd h he⟩
end Go.Proofs.Ytgeddoklmcjdcaa.G
namespace Go.Proofs.Ytgeddoklmcjdcaa.G
open Go.RowKit Go.Proofs.YtgeddoklmcjdcaaQ Go.Proofs.YtgeddoklmcjdcaaW.PrintWords Go.Proofs.YtgeddoklmcjdcaaW.PrintLast Go.Proofs.YtgeddoklmcjdcaaW.PrintMore
set_option linter.unusedVariables false
set_option linter.unusedSimpArgs false
theorem RRead_f (s : ByteArray) (hs : s.size ≤ 140737488355328) {k : Nat} (hk : 10000100 < k) : tithebarnref04_Read.f k s = some (DR (bytesOf s)) := by
 have hS : s.size ≤ 4611686018427387904 := by omega
 obtain ⟨a1, g1, g2, g3⟩ := cB hS (Nat.zero_le s.size) 0
 have hL0 : Lf s 0 = bytesOf s := rfl
 rw [hL0] at g2 g3
 have hb : 0 ≤ (aByte (bytesOf s) 0).1 ∧ (aByte (bytesOf s) 0).1 < 256 := by
  have hh := Bs.bytesOf s
  unfold aByte
  rw [if_pos rfl]
  generalize bytesOf s = r at *
  cases r with
  | nil => simp
  | cons b r => exact hh.head
 have g3' : tithebarnref01_Cursor_Byte.f s 0 0 = some ((aByte (bytesOf s) 0).1, s, (a1 : Int), (aByte (bytesOf s) 0).2.2) := g3
 unfold tithebarnref04_Read.f DR
 rw [g3', Option.bind_some]
 simp only
 rw [← g2]
 generalize aByte (bytesOf s) 0 = Y at *
 obtain ⟨c, r1, e1⟩ := Y
 simp only at hb ⊢
 have key : ∀ b : Bool, b = false → ¬ (e1 = 0 ∧ 4 ≤ c) → tithebarnref04_Read.j0 k c b s (a1 : Int) e1 = some (if (aUint (Lf s a1) e1).2.2 ≠ 0 then ([], (aUint (Lf s a1) e1).2.2) else if 65536 < (aUint (Lf s a1) e1).1 then ([], 3) else DR.DB (body c (aUint (Lf s a1) e1).1.toNat (aUint (Lf s a1) e1).2.1)) := by
  intro b hbf hce
  subst hbf
  obtain ⟨k, rfl⟩ : ∃ m, k = m + 1 := ⟨k - 1, by omega⟩
  obtain ⟨a2, q1, q2, q3⟩ := cU (k := k) (by omega) hS g1 e1
  have hu := aUint_u64 (Lf_Bs s a1) e1
  have he12 : (aUint (Lf s a1) e1).2.2 = 0 → e1 = 0 := by unfold aUint; split <;> intro h <;> assumption
  simp only [tithebarnref04_Read.j0]
  rw [if_neg (by decide), q3, Option.bind_some]
  simp only
  rw [← q2]
  generalize aUint (Lf s a1) e1 = U at *
  obtain ⟨t, r2, e2⟩ := U
  obtain ⟨u0, u1⟩ := hu
  simp only at u0 u1 he12 ⊢
  by_cases he : e2 = 0
  ·have he1 := he12 he
   subst he he1
   have z0 : ¬ ((0 : Int) ≠ 0) := fun h => h rfl
   rw [if_pos rfl, if_neg z0]
   by_cases hn : 65536 < t
   ·rw [if_pos (by omega), if_pos hn]
   ·obtain ⟨n, rfl⟩ : ∃ n : Nat, t = (n : Int) := ⟨t.toNat, by omega⟩
    have hnn : n ≤ 65536 := by omega
    rw [if_neg (by omega), if_neg hn, w64 (x := (n : Int)) (by omega) (by omega), Int.toNat_natCast]
    obtain ⟨k, rfl⟩ : ∃ m, k = m + 1 := ⟨k - 1, by omega⟩
    by_cases c2 : c = 2
    ·subst c2
     rw [if_pos rfl]
     unfold tithebarnref04_readRuns.f
     obtain ⟨a3, e3, h1, h2⟩ := rRuns_ref hS hnn n (k + 1) a2 [] q1 (by simp) (by simp) (by simp; omega)
     have hbd : body 2 n (Lf s a2) = rr n n (Lf s a2) [] := by unfold body; rw [if_neg (by decide), if_neg (by decide), if_pos rfl]
     rw [h1, Option.bind_some, hbd]
     simp only
     by_cases hz : (rr n n (Lf s a2) []).2.1 = 0
     ·obtain ⟨h3, h4, h5⟩ := h2 hz
      rw [j4_f hS h3 _ (fun _ => h5), h4]
     ·simp only [tithebarnref04_Read.j4]
      unfold DR.DB
      rw [if_neg hz, if_pos hz]
    ·rw [if_neg c2]
     have j1_f : ∀ b : Bool, b = (decide (c = 3 ∧ 0 < n)) → tithebarnref04_Read.j1 (k + 1) c (n : Int) [] 0 b s (a2 : Int) 0 = some (DR.DB (body c n (Lf s a2))) := by
      intro b hbb
      simp only [tithebarnref04_Read.j1]
      by_cases c3 : c = 3
      ·subst c3
       have hbd : body 3 n (Lf s a2) = bp n (Lf s a2) := by unfold body; rw [if_neg (by decide), if_neg (by decide), if_neg (by decide)]
       rw [hbd]
       by_cases h0 : 0 < n
       ·have hbt : b = true := by rw [hbb]; simp [h0]
        obtain ⟨a3, e3, h1, h2⟩ := rPacked_ref hs hnn h0 (k := k) (by omega) q1
        rw [hbt, if_pos rfl, w64 (x := (n : Int)) (by omega) (by omega), h1, Option.bind_some]
        simp only
        obtain ⟨k, rfl⟩ : ∃ m, k = m + 1 := ⟨k - 1, by omega⟩
        by_cases hz : (bp n (Lf s a2)).2.1 = 0
        ·obtain ⟨h3, h4, h5⟩ := h2 hz
         rw [j4_f hS h3 _ (fun _ => h5), h4]
        ·simp only [tithebarnref04_Read.j4]
         unfold DR.DB
         rw [if_neg hz, if_pos hz]
       ·have hbt : b = false := by rw [hbb]; simp; omega
        obtain rfl : n = 0 := by omega
        obtain ⟨k, rfl⟩ : ∃ m, k = m + 1 := ⟨k - 1, by omega⟩
        rw [hbt, if_neg (by decide), if_neg (by decide), j4_f hS q1 _ (fun h => h)]
        unfold bp
        rw [if_pos rfl]
      ·have hbt : b = false := by rw [hbb]; simp [c3]
       have hc2 : c < 2 := by
        have : ¬ (4 ≤ c) := fun h => hce ⟨rfl, h⟩
        omega
       rw [hbt, if_neg (by decide), if_pos hc2]
       have h := rRead_l0 hS hnn hc2 n k 0 [] a2 0 (by omega) (by omega) q1 (fun _ => rfl)
       have hg : GG c [] = [] := by unfold GG; split <;> rfl
       rw [hg] at h
       refine h.trans ?_
       unfold body GG
       by_cases c1 : c = 1
       ·rw [if_pos c1, if_neg (by omega), if_pos c1]
       ·rw [if_neg c1, if_pos (by omega)]
     by_cases c3 : c = 3
     ·rw [if_pos c3]
      exact j1_f _ (by subst c3; simp)
     ·rw [if_neg c3]
      exact j1_f _ (by simp [c3])
  ·rw [if_neg he, if_pos he]
 by_cases he : e1 = 0
 ·rw [if_pos he]
  by_cases h4 : 4 ≤ c
  ·rw [if_pos ⟨he, h4⟩, decide_eq_true (by omega)]
   obtain ⟨k, rfl⟩ : ∃ m, k = m + 1 := ⟨k - 1, by omega⟩
   simp only [tithebarnref04_Read.j0]
   rw [if_pos trivial]
  ·rw [if_neg (fun h => h4 h.2), decide_eq_false (by omega)]
   exact key false rfl (fun h => h4 h.2)
 ·rw [if_neg he, if_neg (fun h => he h.1)]
  exact key false rfl (fun h => he h.1)
end Go.Proofs.Ytgeddoklmcjdcaa.G
namespace Go.Proofs.Ytgeddoklmcjdcaa.Pure
open Go.RowKit Go.Proofs.YtgeddoklmcjdcaaQ Go.Proofs.Ytgeddoklmcjdcaa.G Go.Proofs.YtgeddoklmcjdcaaW.PrintWords Go.Proofs.YtgeddoklmcjdcaaW.PrintLast Go.Proofs.YtgeddoklmcjdcaaW.PrintMore
theorem IntsRead_all {k : Nat} (hk : 10000100 < k) (s : ByteArray) (hs : s.size ≤ 140737488355328) : tithebarnlaw04_IntsRead.f k s = some true := by
 have hl := DR_len (Bs.bytesOf s)
 unfold tithebarnlaw04_IntsRead.f
 rw [lives_f (by omega), Option.bind_some, if_pos rfl, IRead_f s hs (by omega), Option.bind_some, RRead_f s hs hk, Option.bind_some, if_pos rfl, Same_f (by omega) (by omega)]; rfl
theorem IntsRead : tithebarnlaw04_IntsRead.Pure := fun s hs => ⟨10000101, IntsRead_all (by decide) s (by omega)⟩
end Go.Proofs.Ytgeddoklmcjdcaa.Pure
