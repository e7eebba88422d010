import Derived.Test.YtbcjbgmjiehamaaD1
import Derived.Test.YtbcjbgmjiehamaaQT
/-! Layer 3, plain: the reference's answers. -/
namespace Go.Proofs.Ytbcjbgmjiehamaa.G
open Go.RowKit Go.Proofs.YtbcjbgmjiehamaaQ Go.Proofs.YtbcjbgmjiehamaaW.PrintWords Go.Proofs.YtbcjbgmjiehamaaW.PrintLast Go.Proofs.YtbcjbgmjiehamaaW.PrintMore
set_option linter.unusedVariables false
set_option linter.unusedSimpArgs false
theorem u64wr (x : Int) : IntKind.u64.wrap x = x % 18446744073709551616 := by simp [IntKind.wrap, IntKind.bits, IntKind.signed]
theorem shr8 (x a : Nat) (ha : a ≤ 8) : shr .u8 (x : Int) (a : Int) = ((x / 2 ^ a : Nat) : Int) := by
  unfold shr
  rw [Int.toNat_natCast, Nat.min_eq_left (show a ≤ IntKind.u8.bits from ha)]
  simp
theorem shr64 (x a : Nat) (ha : a ≤ 64) : shr .u64 (x : Int) (a : Int) = ((x / 2 ^ a : Nat) : Int) := by
  unfold shr
  rw [Int.toNat_natCast, Nat.min_eq_left (show a ≤ IntKind.u64.bits from ha)]
  simp
theorem shl64 (a : Nat) (ha : a ≤ 63) : shl .u64 1 (a : Int) = ((2 ^ a : Nat) : Int) := by
  unfold shl
  have h : 2 ^ a ≤ 2 ^ 63 := Nat.pow_le_pow_right (by omega) ha
  have e : (1 : Int) * 2 ^ a = ((2 ^ a : Nat) : Int) := by simp
  rw [Int.toNat_natCast, Nat.min_eq_left (show a ≤ IntKind.u64.bits from Nat.le_trans ha (by decide)), e, u64_nat (by omega)]
theorem shl8 (a : Nat) (ha : a ≤ 7) : shl .u8 1 (a : Int) = ((2 ^ a : Nat) : Int) := by
  unfold shl
  have h : 2 ^ a ≤ 2 ^ 7 := Nat.pow_le_pow_right (by omega) ha
  have e : (1 : Int) * 2 ^ a = ((2 ^ a : Nat) : Int) := by simp
  rw [Int.toNat_natCast, Nat.min_eq_left (show a ≤ IntKind.u8.bits from Nat.le_trans ha (by decide)), e, u8_nat (by omega)]
theorem mod2 (x : Nat) : (Int.tmod ((x : Nat) : Int) 2 == 1) = decide (x % 2 = 1) := by
  have e : Int.tmod ((x : Nat) : Int) 2 = ((x % 2 : Nat) : Int) := by rw [Int.tmod_eq_emod_of_nonneg (by omega)]; omega
  rw [e, Bool.eq_iff_iff, beq_iff_eq, decide_eq_true_iff]; omega
theorem Bit_f {s : ByteArray} {k : Nat} (hs : s.size ≤ 140737488355328) (hk : k < 8 * s.size) : tithebarnref03_Bit.f s (k : Int) = some ((num s).testBit k) := by
  have e1 : wrap64 (Int.tdiv (k : Int) 8) = ((k / 8 : Nat) : Int) := by rw [Int.tdiv_eq_ediv_of_nonneg (by omega), w64 (by omega) (by omega)]; omega
  have e2 : IntKind.u64.wrap (Int.tmod (k : Int) 8) = ((k % 8 : Nat) : Int) := by rw [Int.tmod_eq_emod_of_nonneg (by omega), u64wr]; omega
  have e3 : bt s ((k / 8 : Nat) : Int) = ((byt s (k / 8) : Nat) : Int) := by
    have h1 := byt_at s (k / 8) (by omega)
    have h2 := bt_at s ((k / 8 : Nat) : Int) (by rw [Int.toNat_natCast]; omega)
    rw [← h2, ← h1]; rfl
  unfold tithebarnref03_Bit.f
  rw [e1, e2, if_pos (by omega), if_pos (by omega), if_pos (by omega), e3, shr8 _ _ (by omega), mod2, tb]
  have e4 : byt s (k / 8) / 2 ^ (k % 8) % 2 = num s / 2 ^ k % 2 := by
    rw [num_byte s (k / 8) (by omega)]
    have h := mod_part (num s / 256 ^ (k / 8)) (k % 8) 1 (by omega)
    rw [Nat.pow_one] at h
    rw [h, pow8, Nat.div_div_eq_div_mul, ← Nat.pow_add, show 8 * (k / 8) + k % 8 = k by omega]
  rw [e4]
theorem unbits_l0 {s : ByteArray} {m : Nat} (hs : s.size = need m) (hm : m ≤ 4194304) : ∀ (d k i : Nat), i + d = 8 * need m → 2 * d + 1 < k → (∀ j, m ≤ j → j < i → (num s).testBit j = false) →
    tithebarnref03_unbits.l0 k s (m : Int) ((need m : Nat) : Int) (bitsN (num s) (min i m)) (i : Int) = some (if num s < 2 ^ m then (bitsN (num s) m, 0) else ([], 5)) := by
  have hn : need m ≤ 524288 + 1 := by unfold need; omega
  have hnl := need_le m
  have e8 : wrap64 (8 * ((need m : Nat) : Int)) = ((8 * need m : Nat) : Int) := by rw [w64 (by omega) (by omega)]; omega
  intro d
  induction d with
  | zero =>
    intro k i hi hk hz
    obtain ⟨k, rfl⟩ : ∃ m, k = m + 1 := ⟨k - 1, by omega⟩
    simp only [tithebarnref03_unbits.l0]
    have hlt : num s < 2 ^ m := lt_of_bits fun j hj => by
      by_cases c : j < i
      · exact hz j hj c
      · refine Nat.testBit_lt_two_pow (Nat.lt_of_lt_of_le (num_lt s) (Nat.pow_le_pow_right (by omega) ?_))
        rw [hs]; omega
    rw [e8, if_neg (by omega), if_pos hlt, Nat.min_eq_right (by omega)]
  | succ d ih =>
    intro k i hi hk hz
    obtain ⟨k, rfl⟩ : ∃ m, k = m + 2 := ⟨k - 2, by omega⟩
    have e : wrap64 ((i : Int) + 1) = ((i + 1 : Nat) : Int) := by rw [w64 (by omega) (by omega)]; omega
    simp only [tithebarnref03_unbits.l0]
    rw [e8, if_pos (by omega), Bit_f (by omega) (by rw [hs]; omega), Option.bind_some]
    by_cases c : m ≤ i
    · rw [if_pos (by omega)]
      simp only [tithebarnref03_unbits.j1]
      cases hb : (num s).testBit i with
      | true => rw [if_pos rfl, if_neg (bit_big hb c)]
      | false =>
        rw [if_neg (by decide), if_neg (by omega), e, show min i m = min (i + 1) m by omega]
        exact ih k (i + 1) (by omega) (by omega) (fun j h1 h2 => by
          by_cases h3 : j = i
          · rw [h3]; exact hb
          · exact hz j h1 (by omega))
    · rw [if_neg (by omega)]
      simp only [tithebarnref03_unbits.j1]
      rw [if_neg (by decide), if_pos (by omega), if_pos (by rw [bitsN_len]; omega), e, show min i m = i by omega, ← bitsN_succ]
      have := ih k (i + 1) (by omega) (by omega) (fun j h1 h2 => by omega)
      rw [show min (i + 1) m = i + 1 by omega] at this
      exact this
theorem unbits_f {s : ByteArray} {m k : Nat} (hss : s.size ≤ 140737488355328) (hm : m ≤ 4194304) (hk : 8388700 < k) : tithebarnref03_unbits.f k s (m : Int) = some (if fitE s m = 0 then (bitsN (num s) m, 0) else ([], fitE s m)) := by
  have hn : need m ≤ 524288 + 1 := by unfold need; omega
  have e1 : wrap64 ((m : Int) + 7) = ((m + 7 : Nat) : Int) := by rw [w64 (by omega) (by omega)]; omega
  have e2 : wrap64 (Int.tdiv ((m + 7 : Nat) : Int) 8) = ((need m : Nat) : Int) := by
    have : Int.tdiv ((m + 7 : Nat) : Int) 8 = ((need m : Nat) : Int) := by rw [Int.tdiv_eq_ediv_of_nonneg (by omega)]; unfold need; omega
    rw [this, w64 (by omega) (by omega)]
  unfold tithebarnref03_unbits.f
  rw [e1, e2]
  by_cases c1 : s.size < need m
  · have hf : fitE s m = 2 := by unfold fitE; rw [if_pos c1]
    rw [if_pos (by omega), hf, if_neg (by decide)]
  · rw [if_neg (by omega)]
    by_cases c2 : need m < s.size
    · have hf : fitE s m = 3 := by unfold fitE; rw [if_neg c1, if_pos c2]
      rw [if_pos (by omega), hf, if_neg (by decide)]
    · rw [if_neg (by omega)]
      have hs : s.size = need m := by omega
      have h := unbits_l0 hs hm (8 * need m) k 0 (by omega) (by omega) (fun j h1 h2 => by omega)
      rw [show min 0 m = 0 by omega] at h
      have hf : fitE s m = if num s < 2 ^ m then 0 else 5 := by unfold fitE; rw [if_neg c1, if_neg c2]
      rw [hf]
      refine h.trans ?_
      by_cases c3 : num s < 2 ^ m
      · rw [if_pos c3, if_pos c3, if_pos rfl]
      · rw [if_neg c3, if_neg c3, if_neg (by decide)]
theorem rUnpack_l1 {N n w : Nat} (hn : n ≤ 65536) (hw : w ≤ 64) {i : Nat} (hi : i < n) : ∀ (d k j : Nat), j + d = w → d < k →
    tithebarnref03_Unpack.l1 k (n : Int) (w : Int) (bitsN N (n * w)) (ints (dig (2 ^ w) i N)) (i : Int) ((N / 2 ^ (i * w) % 2 ^ j : Nat) : Int) (j : Int) = tithebarnref03_Unpack.l0 (k - d - 1) (n : Int) (w : Int) (bitsN N (n * w)) (ints (dig (2 ^ w) (i + 1) N)) ((i + 1 : Nat) : Int) := by
  have hnw : n * w ≤ 4194304 := Nat.le_trans (Nat.mul_le_mul hn hw) (by decide)
  have hiw : (i + 1) * w ≤ n * w := Nat.mul_le_mul_right _ hi
  rw [Nat.succ_mul] at hiw
  have em : Aside0 (wrap64 ((i : Int) * (w : Int)) = ((i * w : Nat) : Int)) := ⟨by rw [← Int.natCast_mul, w64 (by omega) (by omega)]⟩
  intro d
  induction d with
  | zero =>
    intro k j hj hk
    obtain ⟨k, rfl⟩ : ∃ m, k = m + 1 := ⟨k - 1, by omega⟩
    obtain rfl : j = w := by omega
    have e : wrap64 ((i : Int) + 1) = ((i + 1 : Nat) : Int) := by rw [w64 (by omega) (by omega)]; omega
    simp only [tithebarnref03_Unpack.l1]
    rw [if_neg (by omega), if_pos (by rw [ints_len, dig_len]; omega), e]
    have e2 : ints (dig (2 ^ j) i N) ++ [((N / 2 ^ (i * j) % 2 ^ j : Nat) : Int)] = ints (dig (2 ^ j) (i + 1) N) := by
      rw [dig_succ, ints_app, ← Nat.pow_mul, Nat.mul_comm j i]; rfl
    rw [e2]; rfl
  | succ d ih =>
    intro k j hj hk
    obtain ⟨k, rfl⟩ : ∃ m, k = m + 1 := ⟨k - 1, by omega⟩
    have e : Aside0 (wrap64 ((j : Int) + 1) = ((j + 1 : Nat) : Int)) := ⟨by rw [w64 (by omega) (by omega)]; omega⟩
    have e3 : Aside0 (wrap64 (((i * w : Nat) : Int) + (j : Int)) = ((i * w + j : Nat) : Int)) := ⟨by rw [w64 (by omega) (by omega)]; omega⟩
    have e4 : Aside0 (IntKind.u64.wrap (j : Int) = (j : Int)) := ⟨u64_nat (by omega)⟩
    have q1 : (j : Int) < (w : Int) := by omega
    have q2 : (0 : Int) ≤ ((i * w + j : Nat) : Int) := by omega
    have q3 : ((i * w + j : Nat) : Int) < ((bitsN N (n * w)).length : Int) := by rw [bitsN_len]; omega
    have q4 : i * w + j < n * w := by omega
    have q5 : (0 : Int) ≤ (j : Int) := by omega
    have q6 : j + 1 + d = w := by omega
    have q7 : d < k := by omega
    have q8 : j ≤ 63 := by omega
    have hr : k + 1 - (d + 1) - 1 = k - d - 1 := by omega
    have q9 : j + 1 ≤ 64 := by omega
    have hs := mod_step (N / 2 ^ (i * w)) j 1
    rw [Nat.pow_one] at hs
    have hb : (N.testBit (i * w + j)).toNat = N / 2 ^ (i * w) / 2 ^ j % 2 := by rw [tb_nat, div_step]
    have hl : N / 2 ^ (i * w) % 2 ^ (j + 1) < 2 ^ (j + 1) := Nat.mod_lt _ (p2 _)
    have hp : 2 ^ (j + 1) ≤ 2 ^ 64 := Nat.pow_le_pow_right (by decide) q9
    have hz : N / 2 ^ (i * w) % 2 ^ (j + 1) < 18446744073709551616 := Nat.lt_of_lt_of_le hl hp
    clear hl hp
    simp only [tithebarnref03_Unpack.l1]
    rw [em.out, e3.out, if_pos q1, if_pos q2, if_pos q3, bitsN_get q4, hr]
    rw [← hb] at hs
    cases hbit : N.testBit (i * w + j) with
    | true =>
      rw [hbit] at hs
      rw [show (true : Bool).toNat = 1 from rfl, Nat.one_mul] at hs
      rw [if_pos rfl, e4.out, if_pos q5, shl64 _ q8, e.out]
      have e5 : IntKind.u64.wrap (((N / 2 ^ (i * w) % 2 ^ j : Nat) : Int) + ((2 ^ j : Nat) : Int)) = ((N / 2 ^ (i * w) % 2 ^ (j + 1) : Nat) : Int) := by
        rw [← Int.natCast_add, hs]; exact u64_nat hz
      rw [e5]
      exact ih k (j + 1) q6 q7
    | false =>
      rw [hbit] at hs
      rw [show (false : Bool).toNat = 0 from rfl, Nat.zero_mul, Nat.add_zero] at hs
      rw [if_neg (by decide), e.out, hs]
      exact ih k (j + 1) q6 q7
theorem rUnpack_l0 {N n w : Nat} (hn : n ≤ 65536) (hw : w ≤ 64) : ∀ (d k i : Nat), i + d = n → 70 * d + 1 < k →
    tithebarnref03_Unpack.l0 k (n : Int) (w : Int) (bitsN N (n * w)) (ints (dig (2 ^ w) i N)) (i : Int) = some (ints (dig (2 ^ w) n N), 0) := by
  intro d
  induction d with
  | zero =>
    intro k i hi hk
    obtain ⟨k, rfl⟩ : ∃ m, k = m + 1 := ⟨k - 1, by omega⟩
    obtain rfl : i = n := by omega
    simp only [tithebarnref03_Unpack.l0]
    rw [if_neg (by omega)]
  | succ d ih =>
    intro k i hi hk
    obtain ⟨k, rfl⟩ : ∃ m, k = m + 1 := ⟨k - 1, by omega⟩
    simp only [tithebarnref03_Unpack.l0]
    have h := rUnpack_l1 (N := N) hn hw (show i < n by omega) w k 0 (by omega) (by omega)
    rw [Nat.pow_zero, Nat.mod_one] at h
    rw [if_pos (by omega)]
    refine h.trans ?_
    exact ih (k - w - 1) (i + 1) (by omega) (by omega)
theorem rUnpack_arg {k : Nat} {s : ByteArray} {n w : Int} (hk : 1 ≤ k) (h : w < 0 ∨ 64 < w ∨ n < 0 ∨ 65536 < n) : tithebarnref03_Unpack.f k s n w = some ([], 1) := by
  obtain ⟨k, rfl⟩ : ∃ m, k = m + 1 := ⟨k - 1, by omega⟩
  have hj : tithebarnref03_Unpack.j0 (k + 1) s n w true = some ([], 1) := by simp only [tithebarnref03_Unpack.j0]; rw [if_pos trivial]
  unfold tithebarnref03_Unpack.f
  by_cases c1 : w < 0
  · rw [if_pos c1]; exact hj
  · rw [if_neg c1]
    by_cases c2 : w > 64
    · rw [if_pos c2]; exact hj
    · rw [if_neg c2]
      by_cases c3 : n < 0
      · rw [if_pos c3]; exact hj
      · rw [if_neg c3, decide_eq_true (show n > 65536 by omega)]; exact hj
theorem rUnpack_f {k : Nat} {s : ByteArray} {n w : Nat} (hk : 8388800 < k) (hs : s.size ≤ 140737488355328) (hn : n ≤ 65536) (hw : w ≤ 64) : tithebarnref03_Unpack.f k s (n : Int) (w : Int) = bits_Unpack.f s (n : Int) (w : Int) := by
  obtain ⟨k, rfl⟩ : ∃ m, k = m + 1 := ⟨k - 1, by omega⟩
  have hnw : n * w ≤ 4194304 := Nat.le_trans (Nat.mul_le_mul hn hw) (by decide)
  have em : wrap64 ((n : Int) * (w : Int)) = ((n * w : Nat) : Int) := by rw [← Int.natCast_mul, w64 (by omega) (by omega)]
  unfold tithebarnref03_Unpack.f
  rw [if_neg (by omega), if_neg (by omega), if_neg (by omega), decide_eq_false (by omega)]
  simp only [tithebarnref03_Unpack.j0]
  rw [if_neg (by decide), em, unbits_f hs hnw (by omega), Option.bind_some]
  by_cases c : fitE s (n * w) = 0
  · rw [if_pos c, if_pos rfl, Unpack_ok hs hn hw c]
    exact rUnpack_l0 hn hw n k 0 (by omega) (by omega)
  · rw [if_neg c, if_neg c, Unpack_bad hs hn hw c]
theorem Unpack_len {s : ByteArray} {n w : Nat} (hs : s.size ≤ 140737488355328) (hn : n ≤ 65536) (hw : w ≤ 64) : ∃ l e, bits_Unpack.f s (n : Int) (w : Int) = some (l, e) ∧ l.length ≤ 65536 := by
  by_cases c : fitE s (n * w) = 0
  · exact ⟨_, _, Unpack_ok hs hn hw c, by rw [ints_len, dig_len]; exact hn⟩
  · exact ⟨_, _, Unpack_bad hs hn hw c, by simp⟩
theorem Unpack_pure : tithebarnlaw03_BitsUnpack.Pure := by
  intro s n w hs _ _
  refine ⟨8400000, ?_⟩
  obtain ⟨k, hk⟩ : ∃ k, k = 8400000 := ⟨_, rfl⟩
  rw [← hk]
  unfold tithebarnlaw03_BitsUnpack.f
  rw [lives_f, Option.bind_some, if_pos rfl]
  by_cases c : w < 0 ∨ 64 < w ∨ n < 0 ∨ 65536 < n
  · rw [Unpack_arg (by omega) c, Option.bind_some, rUnpack_arg (by omega) c, Option.bind_some, if_pos rfl, SameNums_f (l := []) (by simp) (by simp; omega)]
    rfl
  · obtain ⟨q, rfl⟩ : ∃ q : Nat, w = (q : Int) := ⟨w.toNat, by omega⟩
    obtain ⟨m, rfl⟩ : ∃ m : Nat, n = (m : Int) := ⟨n.toNat, by omega⟩
    obtain ⟨l, e, hu, hl⟩ := Unpack_len (s := s) (n := m) (w := q) (by omega) (by omega) (by omega)
    rw [rUnpack_f (by omega) (by omega) (by omega) (by omega), hu, Option.bind_some, Option.bind_some, if_pos rfl, SameNums_f (l := l) (by omega) (by omega)]
    rfl
end Go.Proofs.Ytbcjbgmjiehamaa.G
