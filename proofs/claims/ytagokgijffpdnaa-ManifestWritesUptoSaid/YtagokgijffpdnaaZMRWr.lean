import Derived.Test.YtagokgijffpdnaaZMWr
import Derived.Test.YtagokgijffpdnaaZG14
namespace Go.Proofs.Ytagokgijffpdnaa.G
open Go.RowKit Go.Proofs.YtagokgijffpdnaaQ Go.Proofs.YtagokgijffpdnaaW.PrintWords Go.Proofs.YtagokgijffpdnaaW.PrintLast Go.Proofs.YtagokgijffpdnaaW.PrintMore
set_option linter.unusedVariables false
set_option linter.unusedSimpArgs false
theorem rUint_l0 (n : Nat) : ∀ (k : Nat) (a size mark : Int) (l : List Int), n ≤ 9 → (size = 1 ∨ size = 2 ∨ size = 4 ∨ size = 9) → (n : Int) ≤ size → n < k → l.length + n ≤ 140737488355328 →
    tithebarnref01_Uint.l0 k a size mark l ((n : Int) - 1) = some (strOfNums (l ++ (List.range n).reverse.map fun (i : Nat) => if (i : Int) = size - 1 then ((if i < 8 then a / 256 ^ i else 0) + mark) % 256 else (if i < 8 then a / 256 ^ i else 0) % 256)) := by
  induction n with
  | zero =>
    intro k a size mark l _ _ _ hk hl
    obtain ⟨k, rfl⟩ : ∃ m, k = m + 1 := ⟨k - 1, by omega⟩
    simp only [tithebarnref01_Uint.l0]
    rw [if_neg (by omega)]; simp
  | succ n ih =>
    intro k a size mark l h9 hsz hn hk hl
    obtain ⟨k, rfl⟩ : ∃ m, k = m + 1 := ⟨k - 1, by omega⟩
    have e : ((n + 1 : Nat) : Int) - 1 = (n : Int) := by omega
    rw [e]
    simp only [tithebarnref01_Uint.l0]
    have hs1 : wrap64 (size - 1) = size - 1 := w64 (by omega) (by omega)
    have hn1 : wrap64 ((n : Int) - 1) = (n : Int) - 1 := w64 (by omega) (by omega)
    rw [if_pos (by omega), hs1, hn1]
    rw [List.range_succ, List.reverse_append, List.reverse_singleton, List.singleton_append, List.map_cons]
    by_cases c : n < 8
    · have h8 : IntKind.u64.wrap (wrap64 (8 * (n : Int))) = ((8 * n : Nat) : Int) := by rw [w64 (by omega) (by omega), wu64 (by omega) (by omega)]; omega
      rw [if_pos (by omega), h8, if_pos (by omega), shr_u64_lit a (8 * n) (by omega)]
      have e2 : (2 : Int) ^ (8 * n) = 256 ^ n := by rw [Int.pow_mul]; rfl
      rw [e2]
      by_cases d : (n : Int) = size - 1
      · rw [if_pos d, if_pos (by omega), ih k a size mark _ (by omega) hsz (by omega) (by omega) (by simp; omega)]
        rw [List.append_assoc, List.singleton_append, if_pos d, if_pos c]
      · rw [if_neg d, if_pos (by omega), ih k a size mark _ (by omega) hsz (by omega) (by omega) (by simp; omega)]
        rw [List.append_assoc, List.singleton_append, if_neg d, if_pos c]
    · have h8 : n = 8 := by omega
      rw [if_neg (by omega)]
      by_cases d : (n : Int) = size - 1
      · rw [if_pos d, if_pos (by omega), ih k a size mark _ (by omega) hsz (by omega) (by omega) (by simp; omega)]
        rw [List.append_assoc, List.singleton_append, if_pos d, if_neg c]; simp
      · rw [if_neg d, if_pos (by omega), ih k a size mark _ (by omega) hsz (by omega) (by omega) (by simp; omega)]
        rw [List.append_assoc, List.singleton_append, if_neg d, if_neg c]; simp
theorem rUint_f {k : Nat} (hk : 12 ≤ k) {x : Int} (hx : u64 x) : tithebarnref01_Uint.f k x = some (strOfNums (encU x)) := by
  obtain ⟨h0, h1⟩ := hx
  obtain ⟨k, rfl⟩ : ∃ m, k = m + 1 := ⟨k - 1, by omega⟩
  have go : ∀ (n : Nat) (mark : Int), n ≤ 9 → (n = 1 ∨ n = 2 ∨ n = 4 ∨ n = 9) → tithebarnref01_Uint.j0 (k + 1) x n mark = some (strOfNums ((List.range n).reverse.map fun (i : Nat) => if (i : Int) = n - 1 then ((if i < 8 then x / 256 ^ i else 0) + mark) % 256 else (if i < 8 then x / 256 ^ i else 0) % 256)) := by
    intro n mark hn hs
    simp only [tithebarnref01_Uint.j0]
    rw [w64 (by omega) (by omega), rUint_l0 n k x n mark [] hn (by omega) (by omega) (by omega) (by simp; omega)]
    rfl
  unfold tithebarnref01_Uint.f encU
  by_cases c1 : x < 64
  · rw [if_pos c1, if_pos c1]
    refine (go 1 0 (by omega) (by omega)).trans ?_
    simp [List.range_succ]; congr 2; omega
  · rw [if_neg c1, if_neg c1]
    by_cases c2 : x < 16384
    · rw [if_pos c2, if_pos c2]
      refine (go 2 64 (by omega) (by omega)).trans ?_
      simp [List.range_succ]; congr 2; omega
    · rw [if_neg c2, if_neg c2]
      by_cases c3 : x < 1073741824
      · rw [if_pos c3, if_pos c3]
        refine (go 4 128 (by omega) (by omega)).trans ?_
        simp [List.range_succ]; congr 2; omega
      · rw [if_neg c3, if_neg c3]
        refine (go 9 192 (by omega) (by omega)).trans ?_
        simp [List.range_succ]
theorem rFold_f {x : Int} (hx : i64 x) : tithebarnref01_Fold.f x = some (fold x) := by
  obtain ⟨h0, h1⟩ := hx
  unfold tithebarnref01_Fold.f fold
  by_cases c : x < 0
  · rw [if_pos c, if_pos c, w64 (x := x + 1) (by omega) (by omega), w64 (x := -(x + 1)) (by omega) (by omega), wu64 (x := -(x + 1)) (by omega) (by omega), wu64 (x := 2 * -(x + 1)) (by omega) (by omega), wu64 (by omega) (by omega)]
    congr 1; omega
  · rw [if_neg c, if_neg c, wu64 (x := x) (by omega) (by omega), wu64 (by omega) (by omega)]
theorem rInt_f {k : Nat} (hk : 12 ≤ k) {x : Int} (hx : i64 x) : tithebarnref01_Int.f k x = some (strOfNums (encI x)) := by
  unfold tithebarnref01_Int.f
  rw [rFold_f hx]
  simp only [Option.bind_some]
  rw [rUint_f hk (fold_u64 hx)]; rfl
theorem rText_f {k : Nat} (hk : 12 ≤ k) {s : ByteArray} (hl : s.size < 9223372036854775000) : tithebarnref01_Text.f k s = some (strOfNums (encT (bytesOf s))) := by
  unfold tithebarnref01_Text.f
  have hu : u64 (s.size : Int) := by unfold u64; omega
  rw [wu64 hu.1 hu.2, rUint_f hk hu]
  have := encU_len (s.size : Int)
  simp only [Option.bind_some]
  rw [if_pos (by rw [size_strOfNums]; omega), encT, strOfNums_append, strOfNums_bytesOf, bytesOf_size]
theorem rsum_f {s : ByteArray} (hs : s.size ≤ 4611686018427387904) : tithebarnref08_Sum.f s = some ((crc (bytesOf s) : Nat) : Int) := by unfold tithebarnref08_Sum.f; rw [if_pos hs]
theorem rWrite_f {s : ByteArray} (hs : s.size + 8 < 140737488355328) : tithebarnref08_Write.f s = some (strOfNums (frm (bytesOf s))) := by
  unfold tithebarnref08_Write.f tithebarnref08_four.f
  simp only [Option.bind_some]
  rw [if_pos (by rw [size_strOfNums]; simp; omega), rsum_f (by omega)]
  simp only [Option.bind_some]
  rw [if_pos (by rw [ByteArray.size_append, size_strOfNums, size_strOfNums]; simp; omega)]
  unfold frm le4
  rw [strOfNums_append, strOfNums_append, strOfNums_bytesOf, bytesOf_size]
theorem num_f {n : Int} (h : u64 n) {k : Nat} (hk : 12 ≤ k) : tithebarnref16_num.f k n = some (strOfNums (encU n)) := by
  unfold tithebarnref16_num.f
  rw [wu64 h.1 h.2, rUint_f hk h]; rfl
theorem value_f (v : SV) (hv : i64 v.f1) (hs : v.f2.size ≤ 64) {k : Nat} (hk : 12 ≤ k) : tithebarnref16_value.f k v.f0 v.f1 v.f2 = some (strOfNums (valB v)) := by
  unfold tithebarnref16_value.f
  have h1 : (encI v.f1).length ≤ 9 := (encU_len _).2
  have h2 := (encU_len ((bytesOf v.f2).length : Int)).2
  have h3 := bytesOf_size v.f2
  rw [rInt_f hk hv, Option.bind_some, rText_f hk (by omega), Option.bind_some, if_pos (by rw [size_strOfNums, size_strOfNums]; unfold encT; rw [List.length_append]; omega), ← strOfNums_append]
  rfl
theorem sapp (b c : List Int) : strOfNums b ++ strOfNums c = strOfNums (b ++ c) := (strOfNums_append b c).symm
theorem rWrite_l1 (d : List Int) (a : List SP) (fl nx : Int) (ha : a.length ≤ 1000) (hp : (a.all fun p => !oddP p) = true) (hok : ∀ p ∈ a, OkP p) (hfl : u64 fl) (hnx : u64 nx) : ∀ (m i k : Nat) (b : List Int), i + m = a.length → m + 20 ≤ k → b.length + 200 * m ≤ 1000000 →
    tithebarnref16_Write.l1 k (strOfNums b) (i : Int) d a fl nx = some (strOfNums (frm (bytesOf (strOfNums (b ++ ((a.drop i).flatMap partB ++ (encU fl ++ encU nx)))))), 0) := by
  intro m
  induction m with
  | zero =>
    intro i k b hi hk hb
    obtain ⟨k, rfl⟩ : ∃ m, k = m + 1 := ⟨k - 1, by omega⟩
    simp only [tithebarnref16_Write.l1]
    have l1 := (encU_len fl).2
    have l2 := (encU_len nx).2
    rw [if_neg (by omega), num_f hfl (by omega), Option.bind_some, if_pos (by rw [size_strOfNums, size_strOfNums]; omega), sapp, num_f hnx (by omega), Option.bind_some, if_pos (by rw [size_strOfNums, size_strOfNums, List.length_append]; omega), sapp, rWrite_f (by rw [size_strOfNums, List.length_append, List.length_append]; omega), Option.bind_some, List.drop_eq_nil_of_le (show a.length ≤ i by omega)]
    simp
  | succ m ih =>
    intro i k b hi hk hb
    obtain ⟨k, rfl⟩ : ∃ m, k = m + 1 := ⟨k - 1, by omega⟩
    simp only [tithebarnref16_Write.l1]
    have EW : Aside0 (wrap64 ((i : Int) + 1) = ((i + 1 : Nat) : Int)) := ⟨by rw [w64 (by omega) (by omega)]; omega⟩
    have hdr := rdP_drop (show i < a.length by omega)
    have hm : rd_T36 a (i : Int) ∈ a := List.mem_of_mem_drop (hdr ▸ List.mem_cons_self : rd_T36 a (i : Int) ∈ a.drop i)
    obtain ⟨p, hpe⟩ : ∃ p, rd_T36 a (i : Int) = p := ⟨_, rfl⟩
    rw [hpe] at hdr hm ⊢
    have hodd : oddP p = false := by have := List.all_eq_true.mp hp p hm; simpa using this
    obtain ⟨h0, h1, h2, h3⟩ := not_oddP hodd
    obtain ⟨g2, g3⟩ := (hok p hm).ints
    have lp := partB_len hodd
    have lq := lp
    unfold partB at lq
    simp only [List.length_append] at lq
    rw [if_pos (by omega), if_pos (by omega), num_f h0 (by omega), Option.bind_some, num_f h1 (by omega), Option.bind_some, if_pos (by rw [size_strOfNums, size_strOfNums]; omega), sapp, value_f p.f2 g2 h2 (by omega), Option.bind_some, if_pos (by rw [size_strOfNums, size_strOfNums, List.length_append]; omega), sapp, value_f p.f3 g3 h3 (by omega), Option.bind_some,
      if_pos (by rw [size_strOfNums, size_strOfNums, List.length_append, List.length_append]; omega), sapp, if_pos (by rw [size_strOfNums, size_strOfNums, List.length_append, List.length_append, List.length_append]; omega), sapp, EW.out, ih (i + 1) k _ (by omega) (by omega) (by simp only [List.length_append]; omega), hdr]
    simp [partB]
theorem rWrite_l0 (d : List Int) (a : List SP) (fl nx : Int) (ha : a.length ≤ 1000) (hp : (a.all fun p => !oddP p) = true) (hok : ∀ p ∈ a, OkP p) (hfl : u64 fl) (hnx : u64 nx) (hd : d.length ≤ 1000) (hu : ∀ x ∈ d, u64 x) : ∀ (m i k : Nat) (b : List Int), i + m = d.length → m + 1100 ≤ k → b.length + 9 * m ≤ 100000 →
    tithebarnref16_Write.l0 k (strOfNums b) (i : Int) d a fl nx = some (strOfNums (frm (bytesOf (strOfNums (b ++ ((d.drop i).flatMap encU ++ (encU (a.length : Int) ++ (a.flatMap partB ++ (encU fl ++ encU nx)))))))), 0) := by
  intro m
  induction m with
  | zero =>
    intro i k b hi hk hb
    obtain ⟨k, rfl⟩ : ∃ m, k = m + 1 := ⟨k - 1, by omega⟩
    simp only [tithebarnref16_Write.l0]
    have l1 := (encU_len (a.length : Int)).2
    have w := rWrite_l1 d a fl nx ha hp hok hfl hnx a.length 0 k (b ++ encU (a.length : Int)) (by omega) (by omega) (by rw [List.length_append]; omega)
    rw [show ((0 : Nat) : Int) = 0 from rfl, List.drop_zero] at w
    rw [if_neg (by omega), num_f (by unfold u64; omega) (by omega), Option.bind_some, if_pos (by rw [size_strOfNums, size_strOfNums]; omega), sapp, w, List.drop_eq_nil_of_le (show d.length ≤ i by omega)]
    simp
  | succ m ih =>
    intro i k b hi hk hb
    obtain ⟨k, rfl⟩ : ∃ m, k = m + 1 := ⟨k - 1, by omega⟩
    simp only [tithebarnref16_Write.l0]
    have EW : Aside0 (wrap64 ((i : Int) + 1) = ((i + 1 : Nat) : Int)) := ⟨by rw [w64 (by omega) (by omega)]; omega⟩
    have hdr : d.drop i = rd d (i : Int) :: d.drop (i + 1) := by
      rw [List.drop_eq_getElem_cons (show i < d.length by omega)]
      unfold rd
      rw [Int.toNat_natCast, List.getD_eq_getElem?_getD, List.getElem?_eq_getElem (show i < d.length by omega)]; rfl
    have hx := hu (rd d (i : Int)) (by have := List.mem_of_mem_drop (hdr ▸ List.mem_cons_self : rd d (i : Int) ∈ d.drop i); exact this)
    have he := (encU_len (rd d (i : Int))).2
    rw [if_pos (by omega), if_pos (by omega), num_f hx (by omega), Option.bind_some, if_pos (by rw [size_strOfNums, size_strOfNums]; omega), sapp, EW.out, ih (i + 1) k _ (by omega) (by omega) (by rw [List.length_append]; omega), hdr]
    simp
theorem rWrite_is (d : List Int) (a : List SP) (fl nx : Int) (hok : ∀ p ∈ a, OkP p) {k : Nat} (hk : 3000 ≤ k) : tithebarnref16_Write.f k d a fl nx = some (writeL d a fl nx) := by
  unfold tithebarnref16_Write.f writeL
  rw [rRight_f d a fl nx hk, Option.bind_some]
  cases hr : rightB d a fl nx
  · rfl
  · have hB := editB_Bs hr hok
    rw [if_pos rfl, if_pos rfl]
    have h := hr
    unfold rightB at h
    simp only [Bool.and_eq_true, decide_eq_true_eq, Bool.not_eq_true'] at h
    obtain ⟨h1, h2, h3, h4, h5, h6⟩ := h
    have l1 := (encU_len (d.length : Int)).2
    have hu : ∀ x ∈ d, u64 x := fun x hx => not_odd (by have := List.all_eq_true.mp h5 x hx; simpa using this)
    have w := rWrite_l0 d a fl nx h2 h6 hok (not_odd h3) (not_odd h4) h1 hu d.length 0 k (encU (d.length : Int)) (by omega) (by omega) (by omega)
    rw [show ((0 : Nat) : Int) = 0 from rfl, List.drop_zero] at w
    rw [num_f (by unfold u64; omega) (by omega), Option.bind_some, w]
    have e : encU (d.length : Int) ++ (d.flatMap encU ++ (encU (a.length : Int) ++ (a.flatMap partB ++ (encU fl ++ encU nx)))) = editB d a fl nx := rfl
    rw [e, bytesOf_strOfNums hB]
end Go.Proofs.Ytagokgijffpdnaa.G
