import Derived.Test.YtofjpagpjkdapaaG
import Derived.Test.YtofjpagpjkdapaaQ2
/-! What the printed functions of layer 1 come to, in closed form. -/
namespace Go.Proofs.Ytofjpagpjkdapaa.G
open Go.RowKit Go.Proofs.YtofjpagpjkdapaaQ Go.Proofs.YtofjpagpjkdapaaW.PrintWords Go.Proofs.YtofjpagpjkdapaaW.PrintLast Go.Proofs.YtofjpagpjkdapaaW.PrintMore
set_option linter.unusedVariables false
set_option linter.unusedSimpArgs false
theorem w64' (x : Int) (h0 : -9223372036854775808 ≤ x) (h1 : x < 9223372036854775808) : wrap64 x = x := w64 h0 h1
/-- One round of 'big'. -/
theorem big_step (k : Nat) (l : List Int) (x : Int) (i : Nat) (hi : i ≤ 7) (hl : l.length < 140737488355328) :
    tally_big.l0 (k + 1) l x i = tally_big.l0 k (l ++ [x / 256 ^ i % 256]) x ((i : Int) - 1) := by
  simp only [tally_big.l0]
  rw [if_pos (by omega), w64' (8 * (i : Int)) (by omega) (by omega), if_pos (by omega), if_pos hl, w64' ((i : Int) - 1) (by omega) (by omega)]
  have e : (8 * (i : Int)) = ((8 * i : Nat) : Int) := by omega
  rw [e, shr_u64_lit x (8 * i) (by omega)]
  have e2 : (256 : Int) ^ i = 2 ^ (8 * i) := by rw [Int.pow_mul]; rfl
  rw [e2]
theorem big_end (k : Nat) (l : List Int) (x : Int) : tally_big.l0 (k + 1) l x (-1) = some l := by
  simp only [tally_big.l0]; rw [if_neg (by omega)]
/-- So many bytes of a number, the highest first. -/
def bigs (x : Int) : Nat → List Int
  | 0 => []
  | n + 1 => x / 256 ^ n % 256 :: bigs x n
theorem bigs_len (x : Int) (n : Nat) : (bigs x n).length = n := by induction n with | zero => rfl | succ n ih => simp [bigs, ih]
theorem big_f (n : Nat) (hn : n ≤ 8) : ∀ (k : Nat) (l : List Int) (x : Int), n < k → l.length + n ≤ 140737488355328 → tally_big.l0 k l x ((n : Int) - 1) = some (l ++ bigs x n) := by
  induction n with
  | zero =>
    intro k l x hk hl
    obtain ⟨k, rfl⟩ : ∃ m, k = m + 1 := ⟨k - 1, by omega⟩
    have e : ((0 : Nat) : Int) - 1 = -1 := by omega
    rw [e, big_end]; simp [bigs]
  | succ n ih =>
    intro k l x hk hl
    obtain ⟨k, rfl⟩ : ∃ m, k = m + 1 := ⟨k - 1, by omega⟩
    have e : ((n + 1 : Nat) : Int) - 1 = (n : Int) := by omega
    rw [e, big_step k l x n (by omega) (by omega), ih (by omega) k _ x (by omega) (by simp; omega)]
    simp [bigs]
theorem Uint_f {k : Nat} (hk : 10 ≤ k) {l : List Int} (hl : l.length + 9 ≤ 140737488355328) {x : Int} (hx : u64 x) : tally_Uint.f k l x = some (l ++ encU x) := by
  obtain ⟨h0, h1⟩ := hx
  unfold tally_Uint.f encU
  by_cases c1 : x < 64
  · rw [if_pos (by omega), if_pos (by omega), if_pos c1]
    simp; omega
  · rw [if_neg (by omega), if_neg c1]
    by_cases c2 : x < 16384
    · rw [if_pos (by omega), if_pos c2, or_join' 16384 x 14 (by omega) (by omega) (by omega) (by omega) (by decide) (by simp; omega)]
      unfold tally_big.f
      have e : wrap64 (2 - 1) = ((2 : Nat) : Int) - 1 := by unfold wrap64; decide
      rw [e, big_f 2 (by omega) k l _ (by omega) (by omega)]
      simp [bigs]; omega
    · rw [if_neg (by omega), if_neg c2]
      by_cases c3 : x < 1073741824
      · rw [if_pos (by omega), if_pos c3, or_join' 2147483648 x 30 (by omega) (by omega) (by omega) (by omega) (by decide) (by simp; omega)]
        unfold tally_big.f
        have e : wrap64 (4 - 1) = ((4 : Nat) : Int) - 1 := by unfold wrap64; decide
        rw [e, big_f 4 (by omega) k l _ (by omega) (by omega)]
        simp [bigs]; omega
      · rw [if_neg (by omega), if_neg c3, if_pos (by omega)]
        unfold tally_big.f
        have e : wrap64 (8 - 1) = ((8 : Nat) : Int) - 1 := by unfold wrap64; decide
        rw [e, big_f 8 (by omega) k _ _ (by omega) (by simp; omega)]
        simp [bigs]
theorem Int_f {k : Nat} (hk : 10 ≤ k) {l : List Int} (hl : l.length + 9 ≤ 140737488355328) {x : Int} (hx : i64 x) : tally_Int.f k l x = some (l ++ encI x) := by
  unfold tally_Int.f
  rw [zig x hx, Uint_f hk hl (fold_u64 hx)]; rfl
theorem Text_f {k : Nat} (hk : 10 ≤ k) {l : List Int} {s : ByteArray} (hl : l.length + 9 + s.size < 140737488355328) : tally_Text.f k l s = some (l ++ encT (bytesOf s)) := by
  unfold tally_Text.f
  have hu : u64 (s.size : Int) := by unfold u64; omega
  rw [wu64 hu.1 hu.2, Uint_f hk (by omega) hu]
  have := encU_len (s.size : Int)
  simp only [Option.bind_some]
  rw [if_pos (by simp; omega)]
  simp [encT, bytesOf_size]
/-! the reference's -/
theorem rUint_l0 (n : Nat) : ∀ (k : Nat) (a size mark : Int) (l : List Int), n ≤ 9 → (size = 1 ∨ size = 2 ∨ size = 4 ∨ size = 9) → (n : Int) ≤ size → n < k → l.length + n ≤ 140737488355328 →
    tithebarnref01_Uint.l0 k a size mark l ((n : Int) - 1) = some (strOfNums (l ++ (List.range n).reverse.map fun (i : Nat) => if (i : Int) = size - 1 then ((if i < 8 then a / 256 ^ i else 0) + mark) % 256 else (if i < 8 then a / 256 ^ i else 0) % 256)) := by
  induction n with
  | zero =>
    intro k a size mark l _ _ _ hk hl
    obtain ⟨k, rfl⟩ : ∃ m, k = m + 1 := ⟨k - 1, by omega⟩
    simp only [tithebarnref01_Uint.l0]
    rw [if_neg (by omega)]; simp
  | succ n ih =>
    intro k a size mark l h9 hsz hn hk hl
    obtain ⟨k, rfl⟩ : ∃ m, k = m + 1 := ⟨k - 1, by omega⟩
    have e : ((n + 1 : Nat) : Int) - 1 = (n : Int) := by omega
    rw [e]
    simp only [tithebarnref01_Uint.l0]
    have hs1 : wrap64 (size - 1) = size - 1 := w64 (by omega) (by omega)
    have hn1 : wrap64 ((n : Int) - 1) = (n : Int) - 1 := w64 (by omega) (by omega)
    rw [if_pos (by omega), hs1, hn1]
    rw [List.range_succ, List.reverse_append, List.reverse_singleton, List.singleton_append, List.map_cons]
    by_cases c : n < 8
    · have h8 : IntKind.u64.wrap (wrap64 (8 * (n : Int))) = ((8 * n : Nat) : Int) := by rw [w64 (by omega) (by omega), wu64 (by omega) (by omega)]; omega
      rw [if_pos (by omega), h8, if_pos (by omega), shr_u64_lit a (8 * n) (by omega)]
      have e2 : (2 : Int) ^ (8 * n) = 256 ^ n := by rw [Int.pow_mul]; rfl
      rw [e2]
      by_cases d : (n : Int) = size - 1
      · rw [if_pos d, if_pos (by omega), ih k a size mark _ (by omega) hsz (by omega) (by omega) (by simp; omega)]
        rw [List.append_assoc, List.singleton_append, if_pos d, if_pos c]
      · rw [if_neg d, if_pos (by omega), ih k a size mark _ (by omega) hsz (by omega) (by omega) (by simp; omega)]
        rw [List.append_assoc, List.singleton_append, if_neg d, if_pos c]
    · have h8 : n = 8 := by omega
      rw [if_neg (by omega)]
      by_cases d : (n : Int) = size - 1
      · rw [if_pos d, if_pos (by omega), ih k a size mark _ (by omega) hsz (by omega) (by omega) (by simp; omega)]
        rw [List.append_assoc, List.singleton_append, if_pos d, if_neg c]; simp
      · rw [if_neg d, if_pos (by omega), ih k a size mark _ (by omega) hsz (by omega) (by omega) (by simp; omega)]
        rw [List.append_assoc, List.singleton_append, if_neg d, if_neg c]; simp
theorem rUint_f {k : Nat} (hk : 12 ≤ k) {x : Int} (hx : u64 x) : tithebarnref01_Uint.f k x = some (strOfNums (encU x)) := by
  obtain ⟨h0, h1⟩ := hx
  obtain ⟨k, rfl⟩ : ∃ m, k = m + 1 := ⟨k - 1, by omega⟩
  have go : ∀ (n : Nat) (mark : Int), n ≤ 9 → (n = 1 ∨ n = 2 ∨ n = 4 ∨ n = 9) → tithebarnref01_Uint.j0 (k + 1) x n mark = some (strOfNums ((List.range n).reverse.map fun (i : Nat) => if (i : Int) = n - 1 then ((if i < 8 then x / 256 ^ i else 0) + mark) % 256 else (if i < 8 then x / 256 ^ i else 0) % 256)) := by
    intro n mark hn hs
    simp only [tithebarnref01_Uint.j0]
    rw [w64 (by omega) (by omega), rUint_l0 n k x n mark [] hn (by omega) (by omega) (by omega) (by simp; omega)]
    rfl
  unfold tithebarnref01_Uint.f encU
  by_cases c1 : x < 64
  · rw [if_pos c1, if_pos c1]
    refine (go 1 0 (by omega) (by omega)).trans ?_
    simp [List.range_succ]; congr 2; omega
  · rw [if_neg c1, if_neg c1]
    by_cases c2 : x < 16384
    · rw [if_pos c2, if_pos c2]
      refine (go 2 64 (by omega) (by omega)).trans ?_
      simp [List.range_succ]; congr 2; omega
    · rw [if_neg c2, if_neg c2]
      by_cases c3 : x < 1073741824
      · rw [if_pos c3, if_pos c3]
        refine (go 4 128 (by omega) (by omega)).trans ?_
        simp [List.range_succ]; congr 2; omega
      · rw [if_neg c3, if_neg c3]
        refine (go 9 192 (by omega) (by omega)).trans ?_
        simp [List.range_succ]
theorem rFold_f {x : Int} (hx : i64 x) : tithebarnref01_Fold.f x = some (fold x) := by
  obtain ⟨h0, h1⟩ := hx
  unfold tithebarnref01_Fold.f fold
  by_cases c : x < 0
  · rw [if_pos c, if_pos c, w64 (x := x + 1) (by omega) (by omega), w64 (x := -(x + 1)) (by omega) (by omega), wu64 (x := -(x + 1)) (by omega) (by omega), wu64 (x := 2 * -(x + 1)) (by omega) (by omega), wu64 (by omega) (by omega)]
    congr 1; omega
  · rw [if_neg c, if_neg c, wu64 (x := x) (by omega) (by omega), wu64 (by omega) (by omega)]
theorem rInt_f {k : Nat} (hk : 12 ≤ k) {x : Int} (hx : i64 x) : tithebarnref01_Int.f k x = some (strOfNums (encI x)) := by
  unfold tithebarnref01_Int.f
  rw [rFold_f hx]
  simp only [Option.bind_some]
  rw [rUint_f hk (fold_u64 hx)]; rfl
theorem rText_f {k : Nat} (hk : 12 ≤ k) {s : ByteArray} (hl : s.size < 9223372036854775000) : tithebarnref01_Text.f k s = some (strOfNums (encT (bytesOf s))) := by
  unfold tithebarnref01_Text.f
  have hu : u64 (s.size : Int) := by unfold u64; omega
  rw [wu64 hu.1 hu.2, rUint_f hk hu]
  have := encU_len (s.size : Int)
  simp only [Option.bind_some]
  rw [if_pos (by rw [size_strOfNums]; omega), encT, strOfNums_append, strOfNums_bytesOf, bytesOf_size]
/-! the cursors: what they do to the bytes that are left, and to the first error -/
def aUint (r : List Int) (e : Int) : Int × List Int × Int := if e = 0 then ((decU r).1, r.drop (decU r).2.1, (decU r).2.2) else (0, r, e)
def aInt (r : List Int) (e : Int) : Int × List Int × Int := (unfold_ (aUint r e).1, (aUint r e).2)
def aByte (r : List Int) (e : Int) : Int × List Int × Int := if e = 0 then (match r with | [] => (0, [], 2) | b :: t => (b, t, 0)) else (0, r, e)
def aText (most : Int) (r : List Int) (e : Int) : List Int × List Int × Int :=
  if e = 0 then
    if (decU r).2.2 = 0 then
      if most < 0 ∨ most < (decU r).1 then ([], r, 3)
      else if ((r.drop (decU r).2.1).length : Int) < (decU r).1 then ([], r, 2)
      else ((r.drop (decU r).2.1).take (decU r).1.toNat, (r.drop (decU r).2.1).drop (decU r).1.toNat, 0)
    else ([], r, (decU r).2.2)
  else ([], r, e)
def aDone (r : List Int) (e : Int) : Int := if e = 0 then (if r = [] then 0 else 5) else e
theorem decU_u64 {r : List Int} (hr : Bs r) : u64 (decU r).1 := by
  rcases h : decU r with ⟨x, n, e⟩
  rcases decU_err h with ⟨rfl, _⟩ | ⟨_, rfl, _⟩
  · exact (decU_bytes hr h).2.1
  · unfold u64; simp
theorem aUint_u64 {r : List Int} (hr : Bs r) (e : Int) : u64 (aUint r e).1 := by
  unfold aUint; split
  · exact decU_u64 hr
  · unfold u64; simp
theorem aUint_Bs {r : List Int} (hr : Bs r) (e : Int) : Bs (aUint r e).2.1 := by
  unfold aUint; split
  · exact hr.drop _
  · exact hr
theorem aInt_Bs {r : List Int} (hr : Bs r) (e : Int) : Bs (aInt r e).2.1 := aUint_Bs hr e
theorem aByte_Bs {r : List Int} (hr : Bs r) (e : Int) : Bs (aByte r e).2.1 := by
  unfold aByte; split
  · split
    · exact Bs.nil
    · exact hr.tail
  · exact hr
theorem aText_Bs {r : List Int} (hr : Bs r) (m e : Int) : Bs (aText m r e).1 ∧ Bs (aText m r e).2.1 := by
  unfold aText
  repeat' split
  all_goals first | exact ⟨Bs.nil, hr⟩ | exact ⟨(hr.drop _).take _, (hr.drop _).drop _⟩
theorem cUint_f (s : ByteArray) (e : Int) : tally_Cursor_Uint.f s e = some ((aUint (bytesOf s) e).1, strOfNums (aUint (bytesOf s) e).2.1, (aUint (bytesOf s) e).2.2) := by
  unfold tally_Cursor_Uint.f tally_Cursor_ok.f tally_next.f aUint
  simp only [Option.bind_some]
  by_cases c : e = 0
  · rw [if_pos (by simpa using c), if_pos c]
    simp only
    rw [← bytesOf_tail, strOfNums_bytesOf]
  · rw [if_neg (by simpa using c), if_neg c]
    simp only
    rw [strOfNums_bytesOf]
theorem cInt_f (s : ByteArray) (e : Int) : tally_Cursor_Int.f s e = some ((aInt (bytesOf s) e).1, strOfNums (aInt (bytesOf s) e).2.1, (aInt (bytesOf s) e).2.2) := by
  unfold tally_Cursor_Int.f
  rw [cUint_f]
  simp only [Option.bind_some]
  rw [zag _ (aUint_u64 (Bs.bytesOf s) e)]; rfl
theorem toList_nil (s : ByteArray) : s.toList = [] ↔ bytesOf s = [] := by rw [ByteArray.toList_eq]; unfold bytesOf; simp
theorem cByte_f (s : ByteArray) (e : Int) (hs : s.size ≤ 9223372036854775807) : tally_Cursor_Byte.f s e = some ((aByte (bytesOf s) e).1, strOfNums (aByte (bytesOf s) e).2.1, (aByte (bytesOf s) e).2.2) := by
  unfold tally_Cursor_Byte.f tally_Cursor_ok.f aByte
  simp only [Option.bind_some]
  by_cases c : e = 0
  · rw [if_pos (by simpa using c), if_pos c]
    by_cases d : bytesOf s = []
    · rw [if_pos ((toList_nil s).2 d), d, eq_nil_of_bytes d]; rfl
    · rw [if_neg (fun h => d ((toList_nil s).1 h))]
      rcases hl : bytesOf s with _ | ⟨b, t⟩
      · exact absurd hl d
      · have hsz : s.size = t.length + 1 := by rw [size_eq, hl]; rfl
        rw [if_pos (by omega), if_pos (by omega)]
        have hb : bt s 0 = b := by rw [bt_rd, hl]; rfl
        have hr := bt_range s 0
        have ht : bytesOf (s.extract 1 s.size) = t := by rw [bytesOf_tail, hl]; rfl
        simp only
        rw [w64 (by omega) (by omega), hb, ← ht, strOfNums_bytesOf, c]
  · rw [if_neg (by simpa using c), if_neg c]
    simp only
    rw [strOfNums_bytesOf]
theorem cDone_f (s : ByteArray) (e : Int) : tally_Cursor_Done.f s e = some (aDone (bytesOf s) e, s, e) := by
  unfold tally_Cursor_Done.f tally_Cursor_ok.f tally_Cursor_Err.f aDone
  simp only [Option.bind_some]
  by_cases c : e = 0
  · rw [if_pos (by simpa using c), if_pos c]
    by_cases d : bytesOf s = []
    · rw [if_pos ((toList_nil s).2 d), if_pos d, c]
    · rw [if_neg (fun h => d ((toList_nil s).1 h)), if_neg d]
  · rw [if_neg (by simpa using c), if_neg c]
theorem cText_f {k : Nat} (hk : 1 ≤ k) (s : ByteArray) (e m : Int) (hs : s.size ≤ 9223372036854775807) (hm : m < 9223372036854775808) : tally_Cursor_Text.f k s e m = some (strOfNums (aText m (bytesOf s) e).1, strOfNums (aText m (bytesOf s) e).2.1, (aText m (bytesOf s) e).2.2) := by
  obtain ⟨k, rfl⟩ : ∃ n, k = n + 1 := ⟨k - 1, by omega⟩
  unfold tally_Cursor_Text.f tally_Cursor_ok.f tally_next.f aText
  simp only [Option.bind_some]
  by_cases c : e = 0
  · rw [if_pos (by simpa using c), if_pos c]
    by_cases d : (decU (bytesOf s)).2.2 = 0
    · rw [if_pos d, if_pos d]
      have hx := decU_u64 (Bs.bytesOf s)
      have ht := bytesOf_tail s (decU (bytesOf s)).2.1
      have hsz : (s.extract (decU (bytesOf s)).2.1 s.size).size ≤ s.size := by simp
      generalize s.extract (decU (bytesOf s)).2.1 s.size = r at *
      rw [← ht]
      generalize (decU (bytesOf s)).1 = x at *
      obtain ⟨x0, x1⟩ := hx
      by_cases g : m < 0
      · rw [if_pos g, if_pos (Or.inl g)]
        simp only [tally_Cursor_Text.j0]
        rw [if_pos trivial, strOfNums_bytesOf]; rfl
      · rw [if_neg g, wu64 (x := m) (by omega) (by omega)]
        simp only [tally_Cursor_Text.j0]
        by_cases g2 : m < x
        · rw [if_pos (by simpa using g2), if_pos (Or.inr g2), strOfNums_bytesOf]; rfl
        · rw [if_neg (by simpa using g2), wu64 (x := (r.size : Int)) (by omega) (by omega), if_neg (show ¬ (m < 0 ∨ m < x) by omega), bytesOf_size]
          by_cases g3 : (r.size : Int) < x
          · rw [if_pos g3, if_pos g3, strOfNums_bytesOf]; rfl
          · rw [if_neg g3, if_neg g3, if_pos x0, if_pos (by omega), c]
            simp only
            have e1 : bytesOf (r.extract 0 x.toNat) = (bytesOf r).take x.toNat := by rw [bytesOf_extract]; rfl
            have e2 : bytesOf (r.extract x.toNat r.size) = (bytesOf r).drop x.toNat := bytesOf_tail r _
            rw [← e1, ← e2, strOfNums_bytesOf, strOfNums_bytesOf]
    · rw [if_neg d, if_neg d, strOfNums_bytesOf]; rfl
  · rw [if_neg (by simpa using c), if_neg c, strOfNums_bytesOf]; rfl
theorem strOfNums_nil : strOfNums [] = (⟨#[]⟩ : ByteArray) := rfl
end Go.Proofs.Ytofjpagpjkdapaa.G
