import Derived.Test.YtofjpagpjkdapaaR1
/-! The reference's cursor of layer 1, in closed form. -/
namespace Go.Proofs.Ytofjpagpjkdapaa.G
open Go.RowKit Go.Proofs.YtofjpagpjkdapaaQ Go.Proofs.YtofjpagpjkdapaaW.PrintWords Go.Proofs.YtofjpagpjkdapaaW.PrintLast Go.Proofs.YtofjpagpjkdapaaW.PrintMore
set_option linter.unusedVariables false
set_option linter.unusedSimpArgs false
theorem rd_drop (l : List Int) (a i : Nat) : rd (l.drop a) (i : Int) = rd l ((a + i : Nat) : Int) := by
  simp only [rd, List.getD_eq_getElem?_getD, List.getElem?_drop, Int.toNat_natCast]
theorem rd_B {l : List Int} (hl : Bs l) (i : Int) : 0 ≤ rd l i ∧ rd l i < 256 := by
  unfold rd
  by_cases h : i.toNat < l.length
  · rw [List.getD_eq_getElem?_getD, List.getElem?_eq_getElem h]; exact hl _ (List.getElem_mem h)
  · rw [List.getD_eq_getElem?_getD, List.getElem?_eq_none (by omega)]; simp
/-- The loop of peek, from the i-th byte on. -/
theorem peek_l0 (S : ByteArray) (a n : Nat) (e : Int) (b : Int) (hb0 : 0 ≤ b) (hn : n ≤ 9) (ha : a + n ≤ S.size) (hS : S.size ≤ 4611686018427387904) (hbn : (b + 1) * 256 ^ (n - 1) ≤ 18446744073709551616) (d : Nat) : ∀ (k i : Nat), 1 ≤ i → i + d = n → d + 13 ≤ k →
    tithebarnref01_Cursor_peek.l0 k n (numI b (((bytesOf S).drop (a + 1)).take (i - 1))) i S a e =
      (if ((encU (numI b (((bytesOf S).drop (a + 1)).take (n - 1)))).length : Int) = n then some (numI b (((bytesOf S).drop (a + 1)).take (n - 1)), (n : Int), 0, S, (a : Int), e) else some (0, 0, 5, S, (a : Int), e)) := by
  have hB := Bs.bytesOf S
  have hsz := bytesOf_size S
  have bd : ∀ j, j ≤ n - 1 → 0 ≤ numI b (((bytesOf S).drop (a + 1)).take j) ∧ numI b (((bytesOf S).drop (a + 1)).take j) < (b + 1) * 256 ^ j := by
    intro j hj
    have h := numI_bd hb0 (((bytesOf S).drop (a + 1)).take j) ((hB.drop _).take _)
    rw [List.length_take, List.length_drop, hsz, Nat.min_eq_left (by omega)] at h
    exact h
  have up : ∀ j, j ≤ n - 1 → (b + 1) * (256 : Int) ^ j ≤ 18446744073709551616 := by
    intro j hj
    have e1 : (256 : Int) ^ (n - 1) = 256 ^ j * 256 ^ (n - 1 - j) := by rw [← Int.pow_add]; congr 1; omega
    have p1 : (1 : Int) ≤ 256 ^ (n - 1 - j) := by have : (0 : Int) < 256 ^ (n - 1 - j) := Int.pow_pos (by omega); omega
    have p2 : (0 : Int) ≤ (b + 1) * 256 ^ j := Int.mul_nonneg (by omega) (Int.pow_nonneg (by omega))
    rw [e1, ← Int.mul_assoc] at hbn
    have := Int.mul_le_mul_of_nonneg_left p1 p2
    omega
  induction d with
  | zero =>
    intro k i h1 hi hk
    obtain ⟨k, rfl⟩ : ∃ m, k = m + 1 := ⟨k - 1, by omega⟩
    obtain rfl : i = n := by omega
    simp only [tithebarnref01_Cursor_peek.l0]
    have hu : u64 (numI b (((bytesOf S).drop (a + 1)).take (i - 1))) := by
      have := bd (i - 1) (Nat.le_refl _); unfold u64; omega
    rw [if_neg (by omega), rUint_f (by omega) hu]
    simp only [Option.bind_some, size_strOfNums]
  | succ d ih =>
    intro k i h1 hi hk
    obtain ⟨k, rfl⟩ : ∃ m, k = m + 1 := ⟨k - 1, by omega⟩
    have IH := ih k (i + 1) (by omega) (by omega) (by omega)
    rw [Nat.add_sub_cancel] at IH
    clear ih
    have IH' := Aside0.mk IH
    clear IH
    simp only [tithebarnref01_Cursor_peek.l0]
    have e1 : wrap64 ((a : Int) + (i : Int)) = ((a + i : Nat) : Int) := by rw [w64 (by omega) (by omega)]; omega
    rw [if_pos (by omega), e1, if_pos (by omega), if_pos (by omega)]
    have hbt : bt S ((a + i : Nat) : Int) = rd ((bytesOf S).drop (a + 1)) ((i - 1 : Nat) : Int) := by
      rw [bt_rd, rd_drop]; congr 2; omega
    have hr := rd_B (hB.drop (a + 1)) ((i - 1 : Nat) : Int)
    have b0 := bd (i - 1) (by omega)
    have b1 := up i (by omega)
    have ei : (256 : Int) ^ i = 256 ^ (i - 1) * 256 := by rw [← Int.pow_succ]; congr 1; omega
    have hs := numI_step b ((bytesOf S).drop (a + 1)) (i - 1) (by rw [List.length_drop, hsz]; omega)
    have ei2 : i - 1 + 1 = i := by omega
    rw [ei2] at hs
    have b2 := bd i (by omega)
    rw [hs] at b2
    have hx : IntKind.u64.wrap ((IntKind.u64.wrap (256 * numI b (((bytesOf S).drop (a + 1)).take (i - 1)))) + (IntKind.u64.wrap (bt S ((a + i : Nat) : Int)))) = numI b (((bytesOf S).drop (a + 1)).take i) := by
      rw [hbt, hs, wu64 (x := rd _ _) (by omega) (by omega), wu64 (x := 256 * _) (by omega) (by omega), wu64 (by omega) (by omega)]
      omega
    have hw : wrap64 ((i : Int) + 1) = ((i + 1 : Nat) : Int) := by rw [w64 (by omega) (by omega)]; omega
    rw [hx, hw]
    exact IH'.out
/-- A number's bytes are as many as its first one says, just if there are no fewer that do. -/
theorem len_least (b : Int) (r : List Int) (hb : 0 ≤ b) (hb2 : b ≤ 192) (hr : Bs r) (hl : r.length = szU b) : (((encU (numI (b % 64) r)).length : Int) = ((szU b + 1 : Nat) : Int)) ↔ ¬ numI (b % 64) r < leastU (szU b) := by
  have L : ∀ x : Int, (encU x).length = if x < 64 then 1 else if x < 16384 then 2 else if x < 1073741824 then 4 else 9 := by
    intro x; unfold encU
    split
    · rfl
    · split
      · rfl
      · split <;> rfl
  rw [L]
  have bd := numI_bd (x := b % 64) (by omega) r hr
  rw [hl] at bd
  generalize numI (b % 64) r = x at *
  unfold szU leastU at *
  by_cases c1 : b < 64
  · simp only [if_pos c1] at *
    simp at bd ⊢
    rw [if_pos (by omega)]; omega
  · simp only [if_neg c1] at *
    by_cases c2 : b < 128
    · simp only [if_pos c2] at *
      simp at bd ⊢
      constructor
      · intro h; split at h <;> omega
      · intro h; rw [if_neg (by omega), if_pos (by omega)]; rfl
    · simp only [if_neg c2] at *
      by_cases c3 : b < 192
      · simp only [if_pos c3] at *
        simp at bd ⊢
        constructor
        · intro h
          split at h
          · omega
          · split at h <;> omega
        · intro h; rw [if_neg (by omega), if_neg (by omega), if_pos (by omega)]; rfl
      · simp only [if_neg c3] at *
        simp at bd ⊢
        constructor
        · intro h
          split at h
          · omega
          · split at h
            · omega
            · split at h <;> omega
        · intro h; rw [if_neg (by omega), if_neg (by omega), if_neg (by omega)]; rfl
theorem rsize_f (b : Int) : tithebarnref01_size.f b = some ((szU b + 1 : Nat) : Int) := by
  unfold tithebarnref01_size.f szU
  split
  · rfl
  · split
    · rfl
    · split <;> rfl
theorem rpeek_f {k : Nat} (hk : 30 ≤ k) (S : ByteArray) (a : Nat) (e : Int) (ha : a ≤ S.size) (hS : S.size ≤ 4611686018427387904) :
    tithebarnref01_Cursor_peek.f k S a e = some ((decU ((bytesOf S).drop a)).1, ((decU ((bytesOf S).drop a)).2.1 : Int), (decU ((bytesOf S).drop a)).2.2, S, (a : Int), e) := by
  have hB := Bs.bytesOf S
  have hsz := bytesOf_size S
  have hleft : wrap64 ((S.size : Int) - (a : Int)) = ((S.size - a : Nat) : Int) := by rw [w64 (by omega) (by omega)]; omega
  unfold tithebarnref01_Cursor_peek.f tithebarnref01_Cursor_Left.f
  simp only [Option.bind_some, hleft]
  rcases hl : (bytesOf S).drop a with _ | ⟨b, r⟩
  · have : S.size - a = 0 := by rw [← hsz, ← List.length_drop, hl]; rfl
    rw [if_pos (by omega)]; rfl
  · have hlen : S.size - a = r.length + 1 := by rw [← hsz, ← List.length_drop, hl]; rfl
    rw [if_neg (by omega), if_pos (by omega), if_pos (by omega)]
    have hb : bt S (a : Int) = b := by
      have := rd_drop (bytesOf S) a 0
      rw [hl] at this
      rw [bt_rd]; exact this.symm
    have hbl := hB.drop a
    rw [hl] at hbl
    have hb' := hbl.head
    have hr : r = (bytesOf S).drop (a + 1) := by rw [← List.drop_drop, hl]; rfl
    rw [hb, rsize_f]
    simp only [Option.bind_some]
    have hsz9 : szU b ≤ 8 := by unfold szU; split <;> (try split) <;> (try split) <;> omega
    have body : ∀ k, 25 ≤ k → ¬ 192 < b → tithebarnref01_Cursor_peek.j0 k ((szU b + 1 : Nat) : Int) false S a e = some ((decU (b :: r)).1, ((decU (b :: r)).2.1 : Int), (decU (b :: r)).2.2, S, (a : Int), e) := by
      intro k hk hb3
      obtain ⟨k, rfl⟩ : ∃ m, k = m + 1 := ⟨k - 1, by omega⟩
      simp only [tithebarnref01_Cursor_peek.j0, tithebarnref01_Cursor_Left.f, Option.bind_some, hleft, decU]
      rw [if_neg (by simp), if_neg hb3]
      by_cases c : r.length < szU b
      · rw [if_pos (by omega), if_pos c]; rfl
      · rw [if_neg (by omega), if_pos (by omega), if_pos (by omega), if_neg c, hb]
        have e1 : IntKind.u64.wrap (Int.tmod b 64) = b % 64 := by
          rw [Int.tmod_eq_emod_of_nonneg (by omega), wu64 (by omega) (by omega)]
        have hbn : (b % 64 + 1) * 256 ^ (szU b + 1 - 1) ≤ 18446744073709551616 := by
          unfold szU
          split
          · simp; omega
          · split
            · simp; omega
            · split
              · simp; omega
              · have : b = 192 := by omega
                subst this; decide
        have h := peek_l0 S a (szU b + 1) e (b % 64) (by omega) (by omega) (by omega) hS hbn (szU b) k 1 (by omega) (by omega) (by omega)
        simp only [Nat.sub_self, List.take_zero, numI_nil, Nat.add_sub_cancel] at h
        rw [e1]
        refine h.trans ?_
        rw [← hr]
        have hll := len_least b (r.take (szU b)) hb'.1 (by omega) (hbl.tail.take _) (by rw [List.length_take]; omega)
        by_cases c2 : numI (b % 64) (r.take (szU b)) < leastU (szU b)
        · rw [if_neg (fun hh => (hll.1 hh) c2), if_pos c2]; rfl
        · rw [if_pos (hll.2 c2), if_neg c2]
    by_cases c9 : ((szU b + 1 : Nat) : Int) = 9
    · rw [if_pos c9]
      by_cases cb : 192 < b
      · obtain ⟨k, rfl⟩ : ∃ m, k = m + 1 := ⟨k - 1, by omega⟩
        have : (b != 192) = true := by rw [bne_iff_ne]; omega
        simp only [tithebarnref01_Cursor_peek.j0, this, decU]
        rw [if_pos trivial, if_pos cb]; rfl
      · have h192 : b = 192 := by
          unfold szU at c9
          split at c9
          · simp at c9
          · split at c9
            · simp at c9
            · split at c9
              · simp at c9
              · omega
        have hf : (b != 192) = false := by rw [h192]; rfl
        rw [hf]
        exact body k (by omega) cb
    · rw [if_neg c9]
      refine body k (by omega) ?_
      intro hb3
      apply c9
      unfold szU
      rw [if_neg (by omega), if_neg (by omega), if_neg (by omega)]; rfl
/-- How many bytes the reading takes. -/
def pUint (r : List Int) (e : Int) : Nat := if e = 0 then (decU r).2.1 else 0
theorem aUint_drop (r : List Int) (e : Int) : (aUint r e).2.1 = r.drop (pUint r e) := by unfold aUint pUint; split <;> rfl
theorem pUint_le (r : List Int) (e : Int) : pUint r e ≤ r.length := by
  unfold pUint; split
  · exact decU_le (x := (decU r).1) (n := (decU r).2.1) (e := (decU r).2.2) rfl
  · omega
theorem rcUint_f {k : Nat} (hk : 30 ≤ k) (S : ByteArray) (a : Nat) (e : Int) (ha : a ≤ S.size) (hS : S.size ≤ 4611686018427387904) :
    tithebarnref01_Cursor_Uint.f k S a e = some ((aUint ((bytesOf S).drop a) e).1, S, ((a + pUint ((bytesOf S).drop a) e : Nat) : Int), (aUint ((bytesOf S).drop a) e).2.2) := by
  unfold tithebarnref01_Cursor_Uint.f aUint pUint
  have hle := decU_le (l := (bytesOf S).drop a) (x := (decU ((bytesOf S).drop a)).1) (n := (decU ((bytesOf S).drop a)).2.1) (e := (decU ((bytesOf S).drop a)).2.2) rfl
  rw [List.length_drop, bytesOf_size] at hle
  by_cases c : e = 0
  · subst c
    rw [if_pos rfl, rpeek_f hk S a 0 ha hS, if_pos rfl, if_pos rfl]
    simp only [Option.bind_some]
    by_cases d : (decU ((bytesOf S).drop a)).2.2 = 0
    · rw [if_pos d, w64 (by omega) (by omega), d]; rfl
    · rw [if_neg d]
      rcases decU_err (l := (bytesOf S).drop a) (x := (decU ((bytesOf S).drop a)).1) (n := (decU ((bytesOf S).drop a)).2.1) (e := (decU ((bytesOf S).drop a)).2.2) rfl with ⟨h, _⟩ | ⟨_, h1, h2⟩
      · exact absurd h d
      · unfold tithebarnref01_Cursor_fail.f
        rw [if_pos rfl, h1, h2]; rfl
  · rw [if_neg c, if_neg c, if_neg c]; rfl
theorem rOpen_f {x : Int} (h : u64 x) : tithebarnref01_Open.f x = some (unfold_ x) := by
  obtain ⟨h0, h1⟩ := h
  unfold tithebarnref01_Open.f unfold_
  rw [Int.tmod_eq_emod_of_nonneg h0, Int.tdiv_eq_ediv_of_nonneg h0, wu64 (x := x / 2) (by omega) (by omega), w64 (x := x / 2) (by omega) (by omega)]
  by_cases c : x % 2 = 1
  · rw [if_pos c, if_pos c, w64 (x := -(x / 2)) (by omega) (by omega), w64 (by omega) (by omega)]
  · rw [if_neg c, if_neg c]
theorem rcInt_f {k : Nat} (hk : 30 ≤ k) (S : ByteArray) (a : Nat) (e : Int) (ha : a ≤ S.size) (hS : S.size ≤ 4611686018427387904) :
    tithebarnref01_Cursor_Int.f k S a e = some ((aInt ((bytesOf S).drop a) e).1, S, ((a + pUint ((bytesOf S).drop a) e : Nat) : Int), (aUint ((bytesOf S).drop a) e).2.2) := by
  unfold tithebarnref01_Cursor_Int.f
  rw [rcUint_f hk S a e ha hS]
  simp only [Option.bind_some]
  rw [rOpen_f (aUint_u64 ((Bs.bytesOf S).drop a) e)]; rfl
def pByte (r : List Int) (e : Int) : Nat := if e = 0 ∧ r ≠ [] then 1 else 0
theorem aByte_drop (r : List Int) (e : Int) : (aByte r e).2.1 = r.drop (pByte r e) := by
  unfold aByte pByte
  by_cases c : e = 0
  · rw [if_pos c]; cases r <;> simp [c]
  · simp [c]
theorem rcByte_f (S : ByteArray) (a : Nat) (e : Int) (ha : a ≤ S.size) (hS : S.size ≤ 4611686018427387904) :
    tithebarnref01_Cursor_Byte.f S a e = some ((aByte ((bytesOf S).drop a) e).1, S, ((a + pByte ((bytesOf S).drop a) e : Nat) : Int), (aByte ((bytesOf S).drop a) e).2.2) := by
  have hB := Bs.bytesOf S
  have hsz := bytesOf_size S
  have hleft : wrap64 ((S.size : Int) - (a : Int)) = ((S.size - a : Nat) : Int) := by rw [w64 (by omega) (by omega)]; omega
  unfold tithebarnref01_Cursor_Byte.f tithebarnref01_Cursor_Left.f aByte pByte
  by_cases c : e = 0
  · subst c
    rw [if_pos rfl, if_pos rfl]
    simp only [Option.bind_some, hleft]
    rcases hl : (bytesOf S).drop a with _ | ⟨b, r⟩
    · have : S.size - a = 0 := by rw [← hsz, ← List.length_drop, hl]; rfl
      rw [if_pos (by omega)]
      unfold tithebarnref01_Cursor_fail.f
      rw [if_pos rfl]; rfl
    · have hlen : S.size - a = r.length + 1 := by rw [← hsz, ← List.length_drop, hl]; rfl
      have hb : bt S (a : Int) = b := by
        have := rd_drop (bytesOf S) a 0
        rw [hl] at this
        rw [bt_rd]; exact this.symm
      have hbl := hB.drop a
      rw [hl] at hbl
      have hb' := hbl.head
      have e1 : wrap64 ((wrap64 ((a : Int) + 1)) - 1) = (a : Int) := by rw [w64 (x := (a : Int) + 1) (by omega) (by omega), w64 (by omega) (by omega)]; omega
      rw [if_neg (by omega), e1, if_pos (by omega), if_pos (by omega), hb, w64 (x := b) (by omega) (by omega), w64 (by omega) (by omega)]
      simp
  · rw [if_neg c, if_neg c, if_neg (fun h => c h.1)]; rfl
def pText (m : Int) (r : List Int) (e : Int) : Nat := if e = 0 ∧ (decU r).2.2 = 0 ∧ ¬ (m < 0 ∨ m < (decU r).1) ∧ ¬ (((r.drop (decU r).2.1).length : Int) < (decU r).1) then (decU r).2.1 + (decU r).1.toNat else 0
theorem aText_drop (m : Int) (r : List Int) (e : Int) : (aText m r e).2.1 = r.drop (pText m r e) := by
  unfold aText pText
  by_cases c : e = 0
  · rw [if_pos c]
    by_cases d : (decU r).2.2 = 0
    · rw [if_pos d]
      by_cases g : m < 0 ∨ m < (decU r).1
      · rw [if_pos g, if_neg (by simp [g])]; rfl
      · rw [if_neg g]
        by_cases g2 : ((r.drop (decU r).2.1).length : Int) < (decU r).1
        · rw [if_pos g2, if_neg (fun h => h.2.2.2 g2)]; rfl
        · rw [if_neg g2, if_pos ⟨c, d, g, g2⟩]; simp only; rw [List.drop_drop]
    · rw [if_neg d, if_neg (fun h => d h.2.1)]; rfl
  · rw [if_neg c, if_neg (fun h => c h.1)]; rfl
theorem pText_le (m : Int) {r : List Int} (hr : Bs r) (e : Int) : pText m r e ≤ r.length := by
  unfold pText; split
  · rename_i h
    obtain ⟨_, _, _, h4⟩ := h
    have hle := decU_le (l := r) (x := (decU r).1) (n := (decU r).2.1) (e := (decU r).2.2) rfl
    have := decU_u64 hr
    obtain ⟨h0, _⟩ := this
    rw [List.length_drop] at h4
    omega
  · omega
theorem rcText_f {k : Nat} (hk : 31 ≤ k) (S : ByteArray) (a : Nat) (e m : Int) (hm0 : -9223372036854775808 ≤ m) (hm : m < 9223372036854775808) (ha : a ≤ S.size) (hS : S.size ≤ 4611686018427387904) :
    tithebarnref01_Cursor_Text.f k S a e m = some (strOfNums (aText m ((bytesOf S).drop a) e).1, S, ((a + pText m ((bytesOf S).drop a) e : Nat) : Int), (aText m ((bytesOf S).drop a) e).2.2) := by
  have hB := Bs.bytesOf S
  have hsz := bytesOf_size S
  have hleft : wrap64 ((S.size : Int) - (a : Int)) = ((S.size - a : Nat) : Int) := by rw [w64 (by omega) (by omega)]; omega
  obtain ⟨k, rfl⟩ : ∃ n, k = n + 1 := ⟨k - 1, by omega⟩
  unfold tithebarnref01_Cursor_Text.f aText pText
  have hle := decU_le (l := (bytesOf S).drop a) (x := (decU ((bytesOf S).drop a)).1) (n := (decU ((bytesOf S).drop a)).2.1) (e := (decU ((bytesOf S).drop a)).2.2) rfl
  have hu := decU_u64 (hB.drop a)
  rw [List.length_drop, hsz] at hle
  by_cases c : e = 0
  · subst c
    rw [if_pos rfl, rpeek_f (by omega) S a 0 ha hS, if_pos rfl]
    simp only [Option.bind_some]
    have hdd : ((bytesOf S).drop a).drop (decU ((bytesOf S).drop a)).2.1 = (bytesOf S).drop (a + (decU ((bytesOf S).drop a)).2.1) := by rw [List.drop_drop]
    rw [hdd]
    generalize hD : decU ((bytesOf S).drop a) = D at *
    obtain ⟨x, n, er⟩ := D
    simp only at *
    obtain ⟨u0, u1⟩ := hu
    by_cases d : er = 0
    · subst d
      rw [if_pos rfl, if_pos rfl]
      by_cases g1 : m < 0
      · rw [if_pos g1, if_pos (Or.inl g1), if_neg (by simp [g1])]
        simp only [tithebarnref01_Cursor_Text.j0]
        rw [if_pos trivial]
        unfold tithebarnref01_Cursor_fail.f
        rw [if_pos rfl]; rfl
      · rw [if_neg g1, wu64 (x := m) (by omega) (by omega)]
        simp only [tithebarnref01_Cursor_Text.j0]
        by_cases g2 : m < x
        · rw [if_pos (by simpa using g2), if_pos (Or.inr g2), if_neg (by simp [g2])]
          unfold tithebarnref01_Cursor_fail.f
          rw [if_pos rfl]; rfl
        · rw [if_neg (by simpa using g2), if_neg (show ¬ (m < 0 ∨ m < x) by omega)]
          unfold tithebarnref01_Cursor_Left.f
          simp only [Option.bind_some, hleft]
          have e1 : IntKind.u64.wrap (wrap64 (((S.size - a : Nat) : Int) - (n : Int))) = (((bytesOf S).drop (a + n)).length : Int) := by
            rw [w64 (by omega) (by omega), wu64 (by omega) (by omega), List.length_drop, hsz]; omega
          rw [e1]
          by_cases g3 : (((bytesOf S).drop (a + n)).length : Int) < x
          · rw [if_pos g3, if_pos g3, if_neg (fun h => h.2.2.2 g3)]
            unfold tithebarnref01_Cursor_fail.f
            rw [if_pos rfl]; rfl
          · rw [if_neg g3, if_neg g3]
            have g5 : True ∧ True ∧ ¬ (m < 0 ∨ m < x) ∧ ¬ (((bytesOf S).drop (a + n)).length : Int) < x := ⟨trivial, trivial, (by clear e1 hleft; omega), g3⟩
            rw [List.length_drop, hsz] at g3
            have hx64 : wrap64 x = x := by clear e1 hleft; exact w64 (by omega) (by omega)
            have e2 : wrap64 ((a : Int) + (n : Int)) = ((a + n : Nat) : Int) := by clear hx64 e1 hleft; rw [w64 (by omega) (by omega)]; omega
            have e3 : wrap64 (((a + n : Nat) : Int) + x) = ((a + n + x.toNat : Nat) : Int) := by clear e2 hx64 e1 hleft; rw [w64 (by omega) (by omega)]; omega
            have e4 : wrap64 ((a : Int) + wrap64 ((n : Int) + x)) = ((a + (n + x.toNat) : Nat) : Int) := by clear e3 e2 hx64 e1 hleft; rw [w64 (x := (n : Int) + x) (by omega) (by omega), w64 (by omega) (by omega)]; omega
            have g4 : (0 : Int) ≤ ((a + n : Nat) : Int) ∧ ((a + n : Nat) : Int) ≤ ((a + n + x.toNat : Nat) : Int) ∧ ((a + n + x.toNat : Nat) : Int) ≤ (S.size : Int) := by clear e1 e2 e3 e4 hx64 hleft; omega
            rw [hx64, e2, e3, e4, if_pos g4.1, if_pos g4.2.1, if_pos g4.2.2, if_pos g5]
            clear e1 e2 e3 e4 hx64 hleft
            have e5 : S.extract (((a + n : Nat) : Int)).toNat (((a + n + x.toNat : Nat) : Int)).toNat = strOfNums (((bytesOf S).drop (a + n)).take x.toNat) := by
              apply bytesOf_inj
              rw [bytesOf_extract, bytesOf_strOfNums ((hB.drop _).take _), Int.toNat_natCast, Int.toNat_natCast, List.drop_take]
              congr 1; omega
            rw [e5]
    · rcases decU_err hD with ⟨h, _⟩ | ⟨_, h1, h2⟩
      · exact absurd h d
      · rw [if_neg d, if_neg d, if_neg (fun h => d h.2.1)]
        unfold tithebarnref01_Cursor_fail.f
        rw [if_pos rfl]; rfl
  · rw [if_neg c, if_neg c, if_neg (fun h => c h.1)]; rfl
theorem rcDone_f (S : ByteArray) (a : Nat) (e : Int) (ha : a ≤ S.size) (hS : S.size ≤ 4611686018427387904) :
    tithebarnref01_Cursor_Done.f S a e = some (aDone ((bytesOf S).drop a) e, S, (a : Int), e) := by
  have hsz := bytesOf_size S
  have hleft : wrap64 ((S.size : Int) - (a : Int)) = ((S.size - a : Nat) : Int) := by rw [w64 (by omega) (by omega)]; omega
  unfold tithebarnref01_Cursor_Done.f tithebarnref01_Cursor_Left.f aDone
  by_cases c : e = 0
  · rw [if_pos c, if_pos c]
    simp only [Option.bind_some, hleft]
    by_cases d : (bytesOf S).drop a = []
    · have : S.size - a = 0 := by rw [← hsz, ← List.length_drop, d]; rfl
      rw [if_neg (by omega), if_pos d, c]
    · have : ((bytesOf S).drop a).length ≠ 0 := fun h => d (List.length_eq_zero_iff.1 h)
      rw [List.length_drop, hsz] at this
      rw [if_pos (by omega), if_neg d]
  · rw [if_neg c, if_neg c]
end Go.Proofs.Ytofjpagpjkdapaa.G
