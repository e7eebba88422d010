import Derived.Test.YtpbeppmldckjlaaZE4
import Derived.Test.YtpbeppmldckjlaaZE2
import Derived.Test.YtpbeppmldckjlaaZE3r
import Derived.Test.YtpbeppmldckjlaaZG14
namespace Go.Proofs.Ytpbeppmldckjlaa.G
open Go.RowKit Go.Proofs.YtpbeppmldckjlaaQ Go.Proofs.YtpbeppmldckjlaaW.PrintWords Go.Proofs.YtpbeppmldckjlaaW.PrintLast Go.Proofs.YtpbeppmldckjlaaW.PrintMore
set_option linter.unusedVariables false
set_option linter.unusedSimpArgs false
theorem rd_drop (l : List Int) (a i : Nat) : rd (l.drop a) (i : Int) = rd l ((a + i : Nat) : Int) := by
  simp only [rd, List.getD_eq_getElem?_getD, List.getElem?_drop, Int.toNat_natCast]
theorem rd_B {l : List Int} (hl : Bs l) (i : Int) : 0 ≤ rd l i ∧ rd l i < 256 := by
  unfold rd
  by_cases h : i.toNat < l.length
  · rw [List.getD_eq_getElem?_getD, List.getElem?_eq_getElem h]; exact hl _ (List.getElem_mem h)
  · rw [List.getD_eq_getElem?_getD, List.getElem?_eq_none (by omega)]; simp
theorem peek_l0 (S : ByteArray) (a n : Nat) (e : Int) (b : Int) (hb0 : 0 ≤ b) (hn : n ≤ 9) (ha : a + n ≤ S.size) (hS : S.size ≤ 4611686018427387904) (hbn : (b + 1) * 256 ^ (n - 1) ≤ 18446744073709551616) (d : Nat) : ∀ (k i : Nat), 1 ≤ i → i + d = n → d + 13 ≤ k →
    tithebarnref01_Cursor_peek.l0 k n (numI b (((bytesOf S).drop (a + 1)).take (i - 1))) i S a e =
      (if ((encU (numI b (((bytesOf S).drop (a + 1)).take (n - 1)))).length : Int) = n then some (numI b (((bytesOf S).drop (a + 1)).take (n - 1)), (n : Int), 0, S, (a : Int), e) else some (0, 0, 5, S, (a : Int), e)) := by
  have hB := Bs.bytesOf S
  have hsz := bytesOf_size S
  have bd : ∀ j, j ≤ n - 1 → 0 ≤ numI b (((bytesOf S).drop (a + 1)).take j) ∧ numI b (((bytesOf S).drop (a + 1)).take j) < (b + 1) * 256 ^ j := by
    intro j hj
    have h := numI_bd hb0 (((bytesOf S).drop (a + 1)).take j) ((hB.drop _).take _)
    rw [List.length_take, List.length_drop, hsz, Nat.min_eq_left (by omega)] at h
    exact h
  have up : ∀ j, j ≤ n - 1 → (b + 1) * (256 : Int) ^ j ≤ 18446744073709551616 := by
    intro j hj
    have e1 : (256 : Int) ^ (n - 1) = 256 ^ j * 256 ^ (n - 1 - j) := by rw [← Int.pow_add]; congr 1; omega
    have p1 : (1 : Int) ≤ 256 ^ (n - 1 - j) := by have : (0 : Int) < 256 ^ (n - 1 - j) := Int.pow_pos (by omega); omega
    have p2 : (0 : Int) ≤ (b + 1) * 256 ^ j := Int.mul_nonneg (by omega) (Int.pow_nonneg (by omega))
    rw [e1, ← Int.mul_assoc] at hbn
    have := Int.mul_le_mul_of_nonneg_left p1 p2
    omega
  induction d with
  | zero =>
    intro k i h1 hi hk
    obtain ⟨k, rfl⟩ : ∃ m, k = m + 1 := ⟨k - 1, by omega⟩
    obtain rfl : i = n := by omega
    simp only [tithebarnref01_Cursor_peek.l0]
    have hu : u64 (numI b (((bytesOf S).drop (a + 1)).take (i - 1))) := by
      have := bd (i - 1) (Nat.le_refl _); unfold u64; omega
    rw [if_neg (by omega), rUint_f (by omega) hu]
    simp only [Option.bind_some, size_strOfNums]
  | succ d ih =>
    intro k i h1 hi hk
    obtain ⟨k, rfl⟩ : ∃ m, k = m + 1 := ⟨k - 1, by omega⟩
    have IH := ih k (i + 1) (by omega) (by omega) (by omega)
    rw [Nat.add_sub_cancel] at IH
    clear ih
    have IH' := Aside0.mk IH
    clear IH
    simp only [tithebarnref01_Cursor_peek.l0]
    have e1 : wrap64 ((a : Int) + (i : Int)) = ((a + i : Nat) : Int) := by rw [w64 (by omega) (by omega)]; omega
    rw [if_pos (by omega), e1, if_pos (by omega), if_pos (by omega)]
    have hbt : bt S ((a + i : Nat) : Int) = rd ((bytesOf S).drop (a + 1)) ((i - 1 : Nat) : Int) := by
      rw [bt_rd, rd_drop]; congr 2; omega
    have hr := rd_B (hB.drop (a + 1)) ((i - 1 : Nat) : Int)
    have b0 := bd (i - 1) (by omega)
    have b1 := up i (by omega)
    have ei : (256 : Int) ^ i = 256 ^ (i - 1) * 256 := by rw [← Int.pow_succ]; congr 1; omega
    have hs := numI_step b ((bytesOf S).drop (a + 1)) (i - 1) (by rw [List.length_drop, hsz]; omega)
    have ei2 : i - 1 + 1 = i := by omega
    rw [ei2] at hs
    have b2 := bd i (by omega)
    rw [hs] at b2
    have hx : IntKind.u64.wrap ((IntKind.u64.wrap (256 * numI b (((bytesOf S).drop (a + 1)).take (i - 1)))) + (IntKind.u64.wrap (bt S ((a + i : Nat) : Int)))) = numI b (((bytesOf S).drop (a + 1)).take i) := by
      rw [hbt, hs, wu64 (x := rd _ _) (by omega) (by omega), wu64 (x := 256 * _) (by omega) (by omega), wu64 (by omega) (by omega)]
      omega
    have hw : wrap64 ((i : Int) + 1) = ((i + 1 : Nat) : Int) := by rw [w64 (by omega) (by omega)]; omega
    rw [hx, hw]
    exact IH'.out
theorem len_least (b : Int) (r : List Int) (hb : 0 ≤ b) (hb2 : b ≤ 192) (hr : Bs r) (hl : r.length = szU b) : (((encU (numI (b % 64) r)).length : Int) = ((szU b + 1 : Nat) : Int)) ↔ ¬ numI (b % 64) r < leastU (szU b) := by
  have L : ∀ x : Int, (encU x).length = if x < 64 then 1 else if x < 16384 then 2 else if x < 1073741824 then 4 else 9 := by
    intro x; unfold encU
    split
    · rfl
    · split
      · rfl
      · split <;> rfl
  rw [L]
  have bd := numI_bd (x := b % 64) (by omega) r hr
  rw [hl] at bd
  generalize numI (b % 64) r = x at *
  unfold szU leastU at *
  by_cases c1 : b < 64
  · simp only [if_pos c1] at *
    simp at bd ⊢
    rw [if_pos (by omega)]; omega
  · simp only [if_neg c1] at *
    by_cases c2 : b < 128
    · simp only [if_pos c2] at *
      simp at bd ⊢
      constructor
      · intro h; split at h <;> omega
      · intro h; rw [if_neg (by omega), if_pos (by omega)]; rfl
    · simp only [if_neg c2] at *
      by_cases c3 : b < 192
      · simp only [if_pos c3] at *
        simp at bd ⊢
        constructor
        · intro h
          split at h
          · omega
          · split at h <;> omega
        · intro h; rw [if_neg (by omega), if_neg (by omega), if_pos (by omega)]; rfl
      · simp only [if_neg c3] at *
        simp at bd ⊢
        constructor
        · intro h
          split at h
          · omega
          · split at h
            · omega
            · split at h <;> omega
        · intro h; rw [if_neg (by omega), if_neg (by omega), if_neg (by omega)]; rfl
theorem rsize_f (b : Int) : tithebarnref01_size.f b = some ((szU b + 1 : Nat) : Int) := by
  unfold tithebarnref01_size.f szU
  split
  · rfl
  · split
    · rfl
    · split <;> rfl
theorem rpeek_f {k : Nat} (hk : 30 ≤ k) (S : ByteArray) (a : Nat) (e : Int) (ha : a ≤ S.size) (hS : S.size ≤ 4611686018427387904) :
    tithebarnref01_Cursor_peek.f k S a e = some ((decU ((bytesOf S).drop a)).1, ((decU ((bytesOf S).drop a)).2.1 : Int), (decU ((bytesOf S).drop a)).2.2, S, (a : Int), e) := by
  have hB := Bs.bytesOf S
  have hsz := bytesOf_size S
  have hleft : wrap64 ((S.size : Int) - (a : Int)) = ((S.size - a : Nat) : Int) := by rw [w64 (by omega) (by omega)]; omega
  unfold tithebarnref01_Cursor_peek.f tithebarnref01_Cursor_Left.f
  simp only [Option.bind_some, hleft]
  rcases hl : (bytesOf S).drop a with _ | ⟨b, r⟩
  · have : S.size - a = 0 := by rw [← hsz, ← List.length_drop, hl]; rfl
    rw [if_pos (by omega)]; rfl
  · have hlen : S.size - a = r.length + 1 := by rw [← hsz, ← List.length_drop, hl]; rfl
    rw [if_neg (by omega), if_pos (by omega), if_pos (by omega)]
    have hb : bt S (a : Int) = b := by
      have := rd_drop (bytesOf S) a 0
      rw [hl] at this
      rw [bt_rd]; exact this.symm
    have hbl := hB.drop a
    rw [hl] at hbl
    have hb' := hbl.head
    have hr : r = (bytesOf S).drop (a + 1) := by rw [← List.drop_drop, hl]; rfl
    rw [hb, rsize_f]
    simp only [Option.bind_some]
    have hsz9 : szU b ≤ 8 := by unfold szU; split <;> (try split) <;> (try split) <;> omega
    have body : ∀ k, 25 ≤ k → ¬ 192 < b → tithebarnref01_Cursor_peek.j0 k ((szU b + 1 : Nat) : Int) false S a e = some ((decU (b :: r)).1, ((decU (b :: r)).2.1 : Int), (decU (b :: r)).2.2, S, (a : Int), e) := by
      intro k hk hb3
      obtain ⟨k, rfl⟩ : ∃ m, k = m + 1 := ⟨k - 1, by omega⟩
      simp only [tithebarnref01_Cursor_peek.j0, tithebarnref01_Cursor_Left.f, Option.bind_some, hleft, decU]
      rw [if_neg (by simp), if_neg hb3]
      by_cases c : r.length < szU b
      · rw [if_pos (by omega), if_pos c]; rfl
      · rw [if_neg (by omega), if_pos (by omega), if_pos (by omega), if_neg c, hb]
        have e1 : IntKind.u64.wrap (Int.tmod b 64) = b % 64 := by
          rw [Int.tmod_eq_emod_of_nonneg (by omega), wu64 (by omega) (by omega)]
        have hbn : (b % 64 + 1) * 256 ^ (szU b + 1 - 1) ≤ 18446744073709551616 := by
          unfold szU
          split
          · simp; omega
          · split
            · simp; omega
            · split
              · simp; omega
              · have : b = 192 := by omega
                subst this; decide
        have h := peek_l0 S a (szU b + 1) e (b % 64) (by omega) (by omega) (by omega) hS hbn (szU b) k 1 (by omega) (by omega) (by omega)
        simp only [Nat.sub_self, List.take_zero, numI_nil, Nat.add_sub_cancel] at h
        rw [e1]
        refine h.trans ?_
        rw [← hr]
        have hll := len_least b (r.take (szU b)) hb'.1 (by omega) (hbl.tail.take _) (by rw [List.length_take]; omega)
        by_cases c2 : numI (b % 64) (r.take (szU b)) < leastU (szU b)
        · rw [if_neg (fun hh => (hll.1 hh) c2), if_pos c2]; rfl
        · rw [if_pos (hll.2 c2), if_neg c2]
    by_cases c9 : ((szU b + 1 : Nat) : Int) = 9
    · rw [if_pos c9]
      by_cases cb : 192 < b
      · obtain ⟨k, rfl⟩ : ∃ m, k = m + 1 := ⟨k - 1, by omega⟩
        have : (b != 192) = true := by rw [bne_iff_ne]; omega
        simp only [tithebarnref01_Cursor_peek.j0, this, decU]
        rw [if_pos trivial, if_pos cb]; rfl
      · have h192 : b = 192 := by
          unfold szU at c9
          split at c9
          · simp at c9
          · split at c9
            · simp at c9
            · split at c9
              · simp at c9
              · omega
        have hf : (b != 192) = false := by rw [h192]; rfl
        rw [hf]
        exact body k (by omega) cb
    · rw [if_neg c9]
      refine body k (by omega) ?_
      intro hb3
      apply c9
      unfold szU
      rw [if_neg (by omega), if_neg (by omega), if_neg (by omega)]; rfl
def pUint (r : List Int) (e : Int) : Nat := if e = 0 then (decU r).2.1 else 0
theorem aUint_drop (r : List Int) (e : Int) : (aUint r e).2.1 = r.drop (pUint r e) := by unfold aUint pUint; split <;> rfl
theorem pUint_le (r : List Int) (e : Int) : pUint r e ≤ r.length := by
  unfold pUint; split
  · exact decU_le (x := (decU r).1) (n := (decU r).2.1) (e := (decU r).2.2) rfl
  · omega
theorem rcUint_f {k : Nat} (hk : 30 ≤ k) (S : ByteArray) (a : Nat) (e : Int) (ha : a ≤ S.size) (hS : S.size ≤ 4611686018427387904) :
    tithebarnref01_Cursor_Uint.f k S a e = some ((aUint ((bytesOf S).drop a) e).1, S, ((a + pUint ((bytesOf S).drop a) e : Nat) : Int), (aUint ((bytesOf S).drop a) e).2.2) := by
  unfold tithebarnref01_Cursor_Uint.f aUint pUint
  have hle := decU_le (l := (bytesOf S).drop a) (x := (decU ((bytesOf S).drop a)).1) (n := (decU ((bytesOf S).drop a)).2.1) (e := (decU ((bytesOf S).drop a)).2.2) rfl
  rw [List.length_drop, bytesOf_size] at hle
  by_cases c : e = 0
  · subst c
    rw [if_pos rfl, rpeek_f hk S a 0 ha hS, if_pos rfl, if_pos rfl]
    simp only [Option.bind_some]
    by_cases d : (decU ((bytesOf S).drop a)).2.2 = 0
    · rw [if_pos d, w64 (by omega) (by omega), d]; rfl
    · rw [if_neg d]
      rcases decU_err (l := (bytesOf S).drop a) (x := (decU ((bytesOf S).drop a)).1) (n := (decU ((bytesOf S).drop a)).2.1) (e := (decU ((bytesOf S).drop a)).2.2) rfl with ⟨h, _⟩ | ⟨_, h1, h2⟩
      · exact absurd h d
      · unfold tithebarnref01_Cursor_fail.f
        rw [if_pos rfl, h1, h2]; rfl
  · rw [if_neg c, if_neg c, if_neg c]; rfl
theorem rOpen_f {x : Int} (h : u64 x) : tithebarnref01_Open.f x = some (unfold_ x) := by
  obtain ⟨h0, h1⟩ := h
  unfold tithebarnref01_Open.f unfold_
  rw [Int.tmod_eq_emod_of_nonneg h0, Int.tdiv_eq_ediv_of_nonneg h0, wu64 (x := x / 2) (by omega) (by omega), w64 (x := x / 2) (by omega) (by omega)]
  by_cases c : x % 2 = 1
  · rw [if_pos c, if_pos c, w64 (x := -(x / 2)) (by omega) (by omega), w64 (by omega) (by omega)]
  · rw [if_neg c, if_neg c]
theorem rcInt_f {k : Nat} (hk : 30 ≤ k) (S : ByteArray) (a : Nat) (e : Int) (ha : a ≤ S.size) (hS : S.size ≤ 4611686018427387904) :
    tithebarnref01_Cursor_Int.f k S a e = some ((aInt ((bytesOf S).drop a) e).1, S, ((a + pUint ((bytesOf S).drop a) e : Nat) : Int), (aUint ((bytesOf S).drop a) e).2.2) := by
  unfold tithebarnref01_Cursor_Int.f
  rw [rcUint_f hk S a e ha hS]
  simp only [Option.bind_some]
  rw [rOpen_f (aUint_u64 ((Bs.bytesOf S).drop a) e)]; rfl
def pByte (r : List Int) (e : Int) : Nat := if e = 0 ∧ r ≠ [] then 1 else 0
theorem aByte_drop (r : List Int) (e : Int) : (aByte r e).2.1 = r.drop (pByte r e) := by
  unfold aByte pByte
  by_cases c : e = 0
  · rw [if_pos c]; cases r <;> simp [c]
  · simp [c]
theorem rcByte_f (S : ByteArray) (a : Nat) (e : Int) (ha : a ≤ S.size) (hS : S.size ≤ 4611686018427387904) :
    tithebarnref01_Cursor_Byte.f S a e = some ((aByte ((bytesOf S).drop a) e).1, S, ((a + pByte ((bytesOf S).drop a) e : Nat) : Int), (aByte ((bytesOf S).drop a) e).2.2) := by
  have hB := Bs.bytesOf S
  have hsz := bytesOf_size S
  have hleft : wrap64 ((S.size : Int) - (a : Int)) = ((S.size - a : Nat) : Int) := by rw [w64 (by omega) (by omega)]; omega
  unfold tithebarnref01_Cursor_Byte.f tithebarnref01_Cursor_Left.f aByte pByte
  by_cases c : e = 0
  · subst c
    rw [if_pos rfl, if_pos rfl]
    simp only [Option.bind_some, hleft]
    rcases hl : (bytesOf S).drop a with _ | ⟨b, r⟩
    · have : S.size - a = 0 := by rw [← hsz, ← List.length_drop, hl]; rfl
      rw [if_pos (by omega)]
      unfold tithebarnref01_Cursor_fail.f
      rw [if_pos rfl]; rfl
    · have hlen : S.size - a = r.length + 1 := by rw [← hsz, ← List.length_drop, hl]; rfl
      have hb : bt S (a : Int) = b := by
        have := rd_drop (bytesOf S) a 0
        rw [hl] at this
        rw [bt_rd]; exact this.symm
      have hbl := hB.drop a
      rw [hl] at hbl
      have hb' := hbl.head
      have e1 : wrap64 ((wrap64 ((a : Int) + 1)) - 1) = (a : Int) := by rw [w64 (x := (a : Int) + 1) (by omega) (by omega), w64 (by omega) (by omega)]; omega
      rw [if_neg (by omega), e1, if_pos (by omega), if_pos (by omega), hb, w64 (x := b) (by omega) (by omega), w64 (by omega) (by omega)]
      simp
  · rw [if_neg c, if_neg c, if_neg (fun h => c h.1)]; rfl
def pText (m : Int) (r : List Int) (e : Int) : Nat := if e = 0 ∧ (decU r).2.2 = 0 ∧ ¬ (m < 0 ∨ m < (decU r).1) ∧ ¬ (((r.drop (decU r).2.1).length : Int) < (decU r).1) then (decU r).2.1 + (decU r).1.toNat else 0
theorem aText_drop (m : Int) (r : List Int) (e : Int) : (aText m r e).2.1 = r.drop (pText m r e) := by
  unfold aText pText
  by_cases c : e = 0
  · rw [if_pos c]
    by_cases d : (decU r).2.2 = 0
    · rw [if_pos d]
      by_cases g : m < 0 ∨ m < (decU r).1
      · rw [if_pos g, if_neg (by simp [g])]; rfl
      · rw [if_neg g]
        by_cases g2 : ((r.drop (decU r).2.1).length : Int) < (decU r).1
        · rw [if_pos g2, if_neg (fun h => h.2.2.2 g2)]; rfl
        · rw [if_neg g2, if_pos ⟨c, d, g, g2⟩]; simp only; rw [List.drop_drop]
    · rw [if_neg d, if_neg (fun h => d h.2.1)]; rfl
  · rw [if_neg c, if_neg (fun h => c h.1)]; rfl
theorem pText_le (m : Int) {r : List Int} (hr : Bs r) (e : Int) : pText m r e ≤ r.length := by
  unfold pText; split
  · rename_i h
    obtain ⟨_, _, _, h4⟩ := h
    have hle := decU_le (l := r) (x := (decU r).1) (n := (decU r).2.1) (e := (decU r).2.2) rfl
    have := decU_u64 hr
    obtain ⟨h0, _⟩ := this
    rw [List.length_drop] at h4
    omega
  · omega
theorem rcText_f {k : Nat} (hk : 31 ≤ k) (S : ByteArray) (a : Nat) (e m : Int) (hm0 : -9223372036854775808 ≤ m) (hm : m < 9223372036854775808) (ha : a ≤ S.size) (hS : S.size ≤ 4611686018427387904) :
    tithebarnref01_Cursor_Text.f k S a e m = some (strOfNums (aText m ((bytesOf S).drop a) e).1, S, ((a + pText m ((bytesOf S).drop a) e : Nat) : Int), (aText m ((bytesOf S).drop a) e).2.2) := by
  have hB := Bs.bytesOf S
  have hsz := bytesOf_size S
  have hleft : wrap64 ((S.size : Int) - (a : Int)) = ((S.size - a : Nat) : Int) := by rw [w64 (by omega) (by omega)]; omega
  obtain ⟨k, rfl⟩ : ∃ n, k = n + 1 := ⟨k - 1, by omega⟩
  unfold tithebarnref01_Cursor_Text.f aText pText
  have hle := decU_le (l := (bytesOf S).drop a) (x := (decU ((bytesOf S).drop a)).1) (n := (decU ((bytesOf S).drop a)).2.1) (e := (decU ((bytesOf S).drop a)).2.2) rfl
  have hu := decU_u64 (hB.drop a)
  rw [List.length_drop, hsz] at hle
  by_cases c : e = 0
  · subst c
    rw [if_pos rfl, rpeek_f (by omega) S a 0 ha hS, if_pos rfl]
    simp only [Option.bind_some]
    have hdd : ((bytesOf S).drop a).drop (decU ((bytesOf S).drop a)).2.1 = (bytesOf S).drop (a + (decU ((bytesOf S).drop a)).2.1) := by rw [List.drop_drop]
    rw [hdd]
    generalize hD : decU ((bytesOf S).drop a) = D at *
    obtain ⟨x, n, er⟩ := D
    simp only at *
    obtain ⟨u0, u1⟩ := hu
    by_cases d : er = 0
    · subst d
      rw [if_pos rfl, if_pos rfl]
      by_cases g1 : m < 0
      · rw [if_pos g1, if_pos (Or.inl g1), if_neg (by simp [g1])]
        simp only [tithebarnref01_Cursor_Text.j0]
        rw [if_pos trivial]
        unfold tithebarnref01_Cursor_fail.f
        rw [if_pos rfl]; rfl
      · rw [if_neg g1, wu64 (x := m) (by omega) (by omega)]
        simp only [tithebarnref01_Cursor_Text.j0]
        by_cases g2 : m < x
        · rw [if_pos (by simpa using g2), if_pos (Or.inr g2), if_neg (by simp [g2])]
          unfold tithebarnref01_Cursor_fail.f
          rw [if_pos rfl]; rfl
        · rw [if_neg (by simpa using g2), if_neg (show ¬ (m < 0 ∨ m < x) by omega)]
          unfold tithebarnref01_Cursor_Left.f
          simp only [Option.bind_some, hleft]
          have e1 : IntKind.u64.wrap (wrap64 (((S.size - a : Nat) : Int) - (n : Int))) = (((bytesOf S).drop (a + n)).length : Int) := by
            rw [w64 (by omega) (by omega), wu64 (by omega) (by omega), List.length_drop, hsz]; omega
          rw [e1]
          by_cases g3 : (((bytesOf S).drop (a + n)).length : Int) < x
          · rw [if_pos g3, if_pos g3, if_neg (fun h => h.2.2.2 g3)]
            unfold tithebarnref01_Cursor_fail.f
            rw [if_pos rfl]; rfl
          · rw [if_neg g3, if_neg g3]
            have g5 : True ∧ True ∧ ¬ (m < 0 ∨ m < x) ∧ ¬ (((bytesOf S).drop (a + n)).length : Int) < x := ⟨trivial, trivial, (by clear e1 hleft; omega), g3⟩
            rw [List.length_drop, hsz] at g3
            have hx64 : wrap64 x = x := by clear e1 hleft; exact w64 (by omega) (by omega)
            have e2 : wrap64 ((a : Int) + (n : Int)) = ((a + n : Nat) : Int) := by clear hx64 e1 hleft; rw [w64 (by omega) (by omega)]; omega
            have e3 : wrap64 (((a + n : Nat) : Int) + x) = ((a + n + x.toNat : Nat) : Int) := by clear e2 hx64 e1 hleft; rw [w64 (by omega) (by omega)]; omega
            have e4 : wrap64 ((a : Int) + wrap64 ((n : Int) + x)) = ((a + (n + x.toNat) : Nat) : Int) := by clear e3 e2 hx64 e1 hleft; rw [w64 (x := (n : Int) + x) (by omega) (by omega), w64 (by omega) (by omega)]; omega
            have g4 : (0 : Int) ≤ ((a + n : Nat) : Int) ∧ ((a + n : Nat) : Int) ≤ ((a + n + x.toNat : Nat) : Int) ∧ ((a + n + x.toNat : Nat) : Int) ≤ (S.size : Int) := by clear e1 e2 e3 e4 hx64 hleft; omega
            rw [hx64, e2, e3, e4, if_pos g4.1, if_pos g4.2.1, if_pos g4.2.2, if_pos g5]
            clear e1 e2 e3 e4 hx64 hleft
            have e5 : S.extract (((a + n : Nat) : Int)).toNat (((a + n + x.toNat : Nat) : Int)).toNat = strOfNums (((bytesOf S).drop (a + n)).take x.toNat) := by
              apply bytesOf_inj
              rw [bytesOf_extract, bytesOf_strOfNums ((hB.drop _).take _), Int.toNat_natCast, Int.toNat_natCast, List.drop_take]
              congr 1; omega
            rw [e5]
    · rcases decU_err hD with ⟨h, _⟩ | ⟨_, h1, h2⟩
      · exact absurd h d
      · rw [if_neg d, if_neg d, if_neg (fun h => d h.2.1)]
        unfold tithebarnref01_Cursor_fail.f
        rw [if_pos rfl]; rfl
  · rw [if_neg c, if_neg c, if_neg (fun h => c h.1)]; rfl
theorem rcDone_f (S : ByteArray) (a : Nat) (e : Int) (ha : a ≤ S.size) (hS : S.size ≤ 4611686018427387904) :
    tithebarnref01_Cursor_Done.f S a e = some (aDone ((bytesOf S).drop a) e, S, (a : Int), e) := by
  have hsz := bytesOf_size S
  have hleft : wrap64 ((S.size : Int) - (a : Int)) = ((S.size - a : Nat) : Int) := by rw [w64 (by omega) (by omega)]; omega
  unfold tithebarnref01_Cursor_Done.f tithebarnref01_Cursor_Left.f aDone
  by_cases c : e = 0
  · rw [if_pos c, if_pos c]
    simp only [Option.bind_some, hleft]
    by_cases d : (bytesOf S).drop a = []
    · have : S.size - a = 0 := by rw [← hsz, ← List.length_drop, d]; rfl
      rw [if_neg (by omega), if_pos d, c]
    · have : ((bytesOf S).drop a).length ≠ 0 := fun h => d (List.length_eq_zero_iff.1 h)
      rw [List.length_drop, hsz] at this
      rw [if_pos (by omega), if_neg d]
  · rw [if_neg c, if_neg c]
def oneE (e : Int) (odd : Bool) : Int := if odd = true then 4 else e
theorem aByte_end (r : List Int) (e : Int) : (aByte r e).2.2 ≠ 0 → (aByte r e).1 = 0 := by
  unfold aByte; split
  · cases r <;> simp
  · simp
theorem pByte_le (r : List Int) (e : Int) : pByte r e ≤ r.length := by
  unfold pByte; split
  · rename_i h
    have : r.length ≠ 0 := fun h' => h.2 (List.length_eq_zero_iff.1 h')
    omega
  · omega
theorem at_ {S : ByteArray} {a p : Nat} (ha : a ≤ S.size) (hp : p ≤ ((bytesOf S).drop a).length) : a + p ≤ S.size ∧ (bytesOf S).drop (a + p) = ((bytesOf S).drop a).drop p := by
  rw [List.length_drop, bytesOf_size] at hp
  exact ⟨by omega, by rw [List.drop_drop]⟩
theorem rtruth_f (S : ByteArray) (a : Nat) (ha : a ≤ S.size) (hS : S.size ≤ 4611686018427387904) :
    tithebarnref07_truth.f S a 0 = some (((aByte ((bytesOf S).drop a) 0).1 == 1), oneE (aByte ((bytesOf S).drop a) 0).2.2 (decide (1 < (aByte ((bytesOf S).drop a) 0).1)), S, ((a + pByte ((bytesOf S).drop a) 0 : Nat) : Int), (aByte ((bytesOf S).drop a) 0).2.2) := by
  unfold tithebarnref07_truth.f oneE
  rw [rcByte_f S a 0 ha hS]
  simp only [Option.bind_some]
  have h := aByte_end ((bytesOf S).drop a) 0
  generalize aByte ((bytesOf S).drop a) 0 = q at *
  obtain ⟨b, r, e⟩ := q
  simp only at *
  by_cases he : e = 0
  · rw [if_pos he]
    by_cases hb : 1 < b
    · rw [if_pos hb, if_pos (by simpa using hb)]
      rw [show (b == 1) = false from by simp; omega]
    · rw [if_neg (by omega), if_neg (by simpa using hb), he]
  · have := h he
    subst this
    rw [if_neg he]; rfl
theorem rrest_f {K : Nat} (hK : 31 ≤ K) (S : ByteArray) (a : Nat) (k : Int) (ha : a ≤ S.size) (hS : S.size ≤ 4611686018427387904) :
    ∃ a' : Nat, tithebarnref07_value.rest K S a 0 k = some ((restL k ((bytesOf S).drop a) 0 false).1.f0, (restL k ((bytesOf S).drop a) 0 false).1.f1, (restL k ((bytesOf S).drop a) 0 false).1.f2, (restL k ((bytesOf S).drop a) 0 false).2.2, S, (a' : Int), (restL k ((bytesOf S).drop a) 0 false).2.2) ∧ a' ≤ S.size ∧ (bytesOf S).drop a' = (restL k ((bytesOf S).drop a) 0 false).2.1 := by
  unfold tithebarnref07_value.rest restL
  simp only [Bool.false_eq_true, if_false]
  by_cases hk : k = 1
  · rw [if_pos hk, if_pos hk, rcInt_f (by omega) S a 0 ha hS]
    have h := at_ ha (pUint_le ((bytesOf S).drop a) 0)
    exact ⟨_, rfl, h.1, h.2.trans (aUint_drop _ _).symm⟩
  · rw [if_neg hk, if_neg hk, rcText_f hK S a 0 64 (by omega) (by omega) ha hS]
    have h := at_ ha (pText_le 64 ((Bs.bytesOf S).drop a) 0)
    exact ⟨_, rfl, h.1, h.2.trans (aText_drop _ _ _).symm⟩
theorem rvalue_f {K : Nat} (hK : 31 ≤ K) (S : ByteArray) (a : Nat) (k : Int) (null : Bool) (ha : a ≤ S.size) (hS : S.size ≤ 4611686018427387904) {v : SV} {r' : List Int} {e' : Int} {odd' : Bool} (hv : valL k null ((bytesOf S).drop a) 0 false = (v, r', e', odd')) :
    ∃ (y : SV) (a' : Nat), tithebarnref07_value.f K S a 0 k null = some (y.f0, y.f1, y.f2, oneE e' odd', S, (a' : Int), e') ∧ a' ≤ S.size ∧ (bytesOf S).drop a' = r' ∧ (oneE e' odd' = 0 → y = v) := by
  unfold valL at hv
  unfold tithebarnref07_value.f
  cases null
  · simp only [Bool.false_eq_true, if_false] at hv ⊢
    obtain ⟨a', h1, h2, h3⟩ := rrest_f hK S a k ha hS
    obtain ⟨rfl, rfl, rfl, rfl⟩ := by simpa using hv
    exact ⟨_, a', h1, h2, h3, fun _ => rfl⟩
  · simp only [if_true] at hv ⊢
    rw [rtruth_f S a ha hS]
    simp only [Option.bind_some]
    have h := at_ ha (pByte_le ((bytesOf S).drop a) 0)
    have hd := h.2.trans (aByte_drop _ _).symm
    have he := aByte_end ((bytesOf S).drop a) 0
    generalize a + pByte ((bytesOf S).drop a) 0 = a1 at *
    rw [← hd] at hv
    generalize aByte ((bytesOf S).drop a) 0 = q at *
    obtain ⟨b, r1, e1⟩ := q
    simp only at *
    by_cases hb1 : b = 1
    · subst hb1
      rw [if_pos rfl] at hv
      obtain ⟨rfl, rfl, rfl, rfl⟩ := by simpa using hv
      have e10 : e1 = 0 := Classical.byContradiction fun hc => by have := he hc; omega
      subst e10
      rw [if_neg (by simp)]
      exact ⟨⟨true, 0, ⟨#[]⟩⟩, a1, by simp [oneE], h.1, rfl, fun _ => rfl⟩
    · rw [if_neg hb1] at hv
      have hb1' : (b == 1) = false := by simpa using hb1
      rw [hb1']
      by_cases hb2 : 1 < b
      · have hd2 : (false || decide (1 < b)) = true := by simpa using hb2
        have hd3 : decide (1 < b) = true := by simpa using hb2
        rw [hd2] at hv
        unfold restL at hv
        simp only [if_true] at hv
        obtain ⟨rfl, rfl, rfl, rfl⟩ := by simpa using hv
        rw [hd3, if_neg (by simp [oneE])]
        refine ⟨⟨false, 0, ⟨#[]⟩⟩, a1, rfl, h.1, rfl, fun hz => ?_⟩
        exact absurd hz (by simp [oneE])
      · have hd2 : (false || decide (1 < b)) = false := by simpa using hb2
        have hd3 : decide (1 < b) = false := by simpa using hb2
        rw [hd2] at hv
        rw [hd3]
        by_cases e10 : e1 = 0
        · subst e10
          rw [if_pos (by simp [oneE])]
          obtain ⟨a', h1, h2, h3⟩ := rrest_f hK S a1 k h.1 hS
          obtain ⟨rfl, rfl, rfl, rfl⟩ := by simpa using hv
          exact ⟨_, a', h1, h2, h3, fun _ => rfl⟩
        · rw [if_neg (by simp [oneE, e10])]
          have hr : restL k ((bytesOf S).drop a1) e1 false = (⟨false, (if k = 1 then (aInt ((bytesOf S).drop a1) e1).1 else 0), ⟨#[]⟩⟩, (bytesOf S).drop a1, e1) := by
            unfold restL
            simp only [Bool.false_eq_true, if_false]
            by_cases hk : k = 1
            · rw [if_pos hk, if_pos hk]; unfold aUint; rw [if_neg e10]
            · rw [if_neg hk, if_neg hk]; unfold aText; rw [if_neg e10]; rfl
          rw [hr] at hv
          obtain ⟨rfl, rfl, rfl, rfl⟩ := by simpa using hv
          refine ⟨⟨false, 0, ⟨#[]⟩⟩, a1, rfl, h.1, rfl, fun hz => absurd hz ?_⟩
          simpa [oneE] using e10
theorem rrows_f {K : Nat} (hK : 31 ≤ K) (S : ByteArray) (hS : S.size ≤ 4611686018427387904) : ∀ (l : List SC) (a : Nat) (accR acc : List SV) (e : Int) (odd : Bool) (res : List SV) (r' : List Int) (e' : Int) (odd' : Bool), a ≤ S.size → (oneE e odd = 0 → accR = acc) → rowsL l ((bytesOf S).drop a) e odd acc = (res, r', e', odd') →
    ∃ (resR : List SV) (a' : Nat), tithebarnref07_Read.rows K l S a e accR (oneE e odd) = some (resR, oneE e' odd', S, (a' : Int), e') ∧ a' ≤ S.size ∧ (bytesOf S).drop a' = r' ∧ (oneE e' odd' = 0 → resR = res)
  | [], a, accR, acc, e, odd, res, r', e', odd', ha, hacc, h => by
    unfold rowsL at h
    obtain ⟨rfl, rfl, rfl, rfl⟩ := by simpa using h
    exact ⟨accR, a, rfl, ha, rfl, hacc⟩
  | x :: l, a, accR, acc, e, odd, res, r', e', odd', ha, hacc, h => by
    unfold tithebarnref07_Read.rows
    by_cases h0 : oneE e odd = 0
    · obtain ⟨rfl, rfl⟩ : odd = false ∧ e = 0 := by unfold oneE at h0; cases odd <;> simp_all
      obtain rfl := hacc h0
      rw [if_pos h0]
      obtain ⟨⟨v, r1, e1, odd1⟩, hv⟩ : ∃ z, valL x.f0 x.f1 ((bytesOf S).drop a) 0 false = z := ⟨_, rfl⟩
      rw [rows_on (by decide) hv] at h
      obtain ⟨y, a1, h1, h2, h3, h4⟩ := rvalue_f hK S a x.f0 x.f1 ha hS hv
      rw [h1]
      simp only [Option.bind_some]
      subst h3
      exact rrows_f hK S hS l a1 _ _ e1 odd1 res r' e' odd' h2 (fun hz => by rw [h4 hz]) h
    · rw [if_neg h0]
      have hno : (!odd && (e == 0)) = false := by unfold oneE at h0; cases odd <;> simp_all
      rw [rows_no hno] at h
      obtain ⟨rfl, rfl, rfl, rfl⟩ := by simpa using h
      exact ⟨accR, a, rfl, ha, rfl, hacc⟩
theorem rend_f {S : ByteArray} (hS : S.size ≤ 4611686018427387904) {gone : Bool} {accR acc : List SV} {a : Nat} (ha : a ≤ S.size) {e : Int} {odd : Bool} (hacc : oneE e odd = 0 → accR = acc) :
    tithebarnref07_Read.end_ gone (accR, oneE e odd, S, (a : Int), e) = some (endL gone (acc, (bytesOf S).drop a, e, odd)) := by
  unfold tithebarnref07_Read.end_ endL
  simp only
  by_cases h0 : oneE e odd = 0
  · obtain ⟨rfl, rfl⟩ : odd = false ∧ e = 0 := by unfold oneE at h0; cases odd <;> simp_all
    obtain rfl := hacc h0
    rw [if_pos h0, rcDone_f S a 0 ha hS]
    simp only [Option.bind_some, Bool.false_eq_true, if_false]
    split <;> rfl
  · rw [if_neg h0]
    cases odd
    · have he : e ≠ 0 := by simpa [oneE] using h0
      have hd : aDone ((bytesOf S).drop a) e = e := by unfold aDone; rw [if_neg he]
      rw [hd, if_neg (by decide), if_neg he]; rfl
    · rfl
theorem rRead_f {K : Nat} (l : List SC) (S : ByteArray) (hK : l.length + 31 ≤ K) (hl : l.length ≤ 4611686018427387904) (hS : S.size ≤ 4611686018427387904) : tithebarnref07_Read.f K l S = deeds_Read.f l S := by
  unfold tithebarnref07_Read.f deeds_Read.f
  rw [rRight_f (by omega) hl, right_f]
  simp only [Option.bind_some]
  cases hR : rightB l
  · rw [if_neg (by decide), if_neg (by simp)]
  · rw [if_pos rfl, if_pos rfl, if_pos (right_bd hR), if_pos hS]
    have ht := rtruth_f S 0 (Nat.zero_le _) hS
    rw [show ((0 : Nat) : Int) = 0 from rfl, List.drop_zero, Nat.zero_add] at ht
    rw [ht]
    simp only [Option.bind_some]
    unfold readL
    have h := at_ (S := S) (Nat.zero_le _) (pByte_le ((bytesOf S).drop 0) 0)
    rw [List.drop_zero, Nat.zero_add] at h
    have hd := h.2.trans (aByte_drop _ _).symm
    rw [← hd]
    obtain ⟨⟨res, r', e', odd'⟩, hv⟩ : ∃ z, rowsL (l.take (if ((aByte (bytesOf S) 0).1 == 1) = true then 1 else l.length)) ((bytesOf S).drop (pByte (bytesOf S) 0)) (aByte (bytesOf S) 0).2.2 (decide (1 < (aByte (bytesOf S) 0).1)) [] = z := ⟨_, rfl⟩
    rw [hv]
    obtain ⟨resR, a', h1, h2, h3, h4⟩ := rrows_f (K := K) (by omega) S hS _ _ [] [] _ _ res r' e' odd' h.1 (fun _ => rfl) hv
    rw [h1]
    simp only [Option.bind_some]
    rw [rend_f hS h2 h4, h3]
theorem rowsL_len : ∀ (l : List SC) (r : List Int) (e : Int) (odd : Bool) (acc : List SV), (rowsL l r e odd acc).1.length ≤ acc.length + l.length
  | [], r, e, odd, acc => by unfold rowsL; simp
  | x :: l, r, e, odd, acc => by
    unfold rowsL
    split
    · have := rowsL_len l (valL x.f0 x.f1 r e odd).2.1 (valL x.f0 x.f1 r e odd).2.2.1 (valL x.f0 x.f1 r e odd).2.2.2 (acc ++ [(valL x.f0 x.f1 r e odd).1])
      simp only [List.length_append, List.length_cons, List.length_nil] at this ⊢
      omega
    · simp
theorem endL_len (g : Bool) (q : List SV × List Int × Int × Bool) : (endL g q).2.1.length ≤ q.1.length := by
  unfold endL
  split
  · exact Nat.zero_le _
  · split
    · exact Nat.le_refl _
    · exact Nat.zero_le _
theorem readL_len (l : List SC) (r : List Int) : (readL l r).2.1.length ≤ l.length := by
  unfold readL
  refine Nat.le_trans (endL_len _ _) (Nat.le_trans (rowsL_len _ _ _ _ _) ?_)
  rw [List.length_nil, Nat.zero_add]
  exact List.length_take_le' _ _
theorem DeedsRead_f {K : Nat} (l : List SC) (S : ByteArray) (hK : l.length + 50 < K) (hl : l.length ≤ 4611686018427387904) (hS : S.size ≤ 4611686018427387904) : tithebarnlaw07_DeedsRead.f K l S = some true := by
  unfold tithebarnlaw07_DeedsRead.f
  rw [lives_f (by omega)]
  simp only [Option.bind_some]
  rw [if_pos trivial, rRead_f l S (by omega) hl hS]
  obtain ⟨g, r, e, hq, hr⟩ : ∃ g r e, deeds_Read.f l S = some (g, r, e) ∧ r.length ≤ l.length := by
    unfold deeds_Read.f
    by_cases hR : kinds_Right.f l = some true
    · rw [if_pos hR, if_pos hS]
      exact ⟨_, _, _, rfl, readL_len l (bytesOf S)⟩
    · rw [if_neg hR]
      exact ⟨_, _, _, rfl, Nat.zero_le _⟩
  rw [hq]
  simp only [Option.bind_some]
  rw [if_pos trivial, rSame_f _ _ _ _ (by omega) (by omega), (sameB_iff _ _ _ _).mpr ⟨rfl, rfl⟩]
  rfl
theorem DeedsRead.law (A : Option Addr) (c : Nat) (l : List SC) (s : ByteArray) (w : World) (hc : l.length ≤ c) (hr : k39.C w A l.length l) (hm : l.length ≤ maxLen) (ok : ∀ x ∈ l, True) (hb : l.length * 16 ≤ 140737488351232) (hs : s.size ≤ 140737488351232) :
    Calls Try.prog 4 #[.slice A l.length c, .string s] w fun e w' => e = .returned (.bool true) ∧ Below w.heap.size w w' :=
  tithebarnlaw07_DeedsRead.calls (l.length + 51) A c l s true w hr hc (DeedsRead_f l s (by omega) (by omega) (by omega))
end Go.Proofs.Ytpbeppmldckjlaa.G
