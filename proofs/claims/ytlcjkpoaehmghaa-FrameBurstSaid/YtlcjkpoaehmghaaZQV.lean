import Derived.Test.YtlcjkpoaehmghaaZQU
import Derived.Test.YtlcjkpoaehmghaaZQW
namespace Go.Proofs.YtlcjkpoaehmghaaQ
open Go.RowKit Go.Proofs.YtlcjkpoaehmghaaW.PrintWords
set_option linter.unusedVariables false
set_option linter.unusedSimpArgs false
theorem nats_ints (l : List Nat) : nats (ints l) = l := by simp [nats, ints, Function.comp_def]
theorem ints_nats {l : List Int} (h : Bs l) : ints (nats l) = l := by
  unfold ints nats
  rw [List.map_map]
  conv => rhs; rw [← List.map_id l]
  exact List.map_congr_left fun x hx => by have := h x hx; simp only [Function.comp, id]; omega
theorem nats_len (l : List Int) : (nats l).length = l.length := by simp [nats]
theorem sub_xor {c : Nat} (h : c < 4294967296) : 4294967295 - c = 4294967295 ^^^ c := by
  have e : (4294967295 : Nat) = 2 ^ 32 - 1 := by decide
  have e2 : 4294967295 - c = 2 ^ 32 - (c + 1) := by omega
  refine Nat.eq_of_testBit_eq fun i => ?_
  rw [e2, Nat.testBit_two_pow_sub_succ (by omega), Nat.testBit_xor, e, Nat.testBit_two_pow_sub_one]
  by_cases hi : i < 32
  · simp [hi]
  · have : c.testBit i = false := Nat.testBit_lt_two_pow (Nat.lt_of_lt_of_le (by omega : c < 2 ^ 32) (Nat.pow_le_pow_right (by omega) (by omega)))
    simp [hi, this]
theorem dig_flip {M k V : Nat} (hk : k / 8 < M) : dig 256 M (V ^^^ 2 ^ k) = (dig 256 M V).set (k / 8) ((dig 256 M V).getD (k / 8) 0 ^^^ 2 ^ (k % 8)) := by
  rw [dig_get 256 M V (k / 8) hk, pow8]
  refine List.ext_getElem (by rw [List.length_set, dig_len, dig_len]) fun j h1 h2 => ?_
  have hj : j < M := by rw [dig_len] at h1; exact h1
  have g : ∀ N, ∀ h : j < (dig 256 M N).length, (dig 256 M N)[j] = N / 2 ^ (8 * j) % 2 ^ 8 := by
    intro N h
    have := dig_get 256 M N j hj
    rw [List.getD_eq_getElem?_getD, List.getElem?_eq_getElem h, pow8] at this
    exact this
  rw [List.getElem_set, g]
  have hx : ∀ i, ((V ^^^ 2 ^ k) / 2 ^ (8 * j) % 2 ^ 8).testBit i = (decide (i < 8) && (V.testBit (8 * j + i) ^^ decide (k = 8 * j + i))) := by
    intro i
    rw [Nat.testBit_mod_two_pow, Nat.testBit_div_two_pow, Nat.testBit_xor, Nat.testBit_two_pow, Nat.add_comm i]
  by_cases e : k / 8 = j
  · rw [if_pos e]
    refine Nat.eq_of_testBit_eq fun i => ?_
    have h256 : (256 : Nat) = 2 ^ 8 := by decide
    rw [hx, Nat.testBit_xor, h256, Nat.testBit_mod_two_pow, Nat.testBit_div_two_pow, Nat.testBit_two_pow, Nat.add_comm i, e]
    by_cases hi : i < 8
    · have : (k = 8 * j + i) ↔ (k % 8 = i) := by omega
      simp [hi, this]
    · have : ¬ k % 8 = i := by omega
      simp [hi, this]
  · rw [if_neg e, g]
    refine Nat.eq_of_testBit_eq fun i => ?_
    rw [hx, Nat.testBit_mod_two_pow, Nat.testBit_div_two_pow, Nat.add_comm i]
    by_cases hi : i < 8
    · have : ¬ (k = 8 * j + i) := by omega
      simp [this]
    · simp [hi]
theorem mask_succ (B i : Nat) : B % 2 ^ (i + 1) = (B % 2 ^ i) ^^^ (if B.testBit i = true then 2 ^ i else 0) := by
  refine Nat.eq_of_testBit_eq fun j => ?_
  rw [Nat.testBit_xor, Nat.testBit_mod_two_pow, Nat.testBit_mod_two_pow]
  split
  · rename_i h
    rw [Nat.testBit_two_pow]
    by_cases e : j = i
    · subst e; simp [h]
    · have : ¬ i = j := fun x => e x.symm
      by_cases hj : j < i
      · have : j < i + 1 := by omega
        simp [*]
      · have : ¬ j < i + 1 := by omega
        simp [*]
  · rename_i h
    rw [Nat.zero_testBit]
    by_cases e : j = i
    · subst e; simp [h]
    · by_cases hj : j < i
      · have : j < i + 1 := by omega
        simp [*]
      · have : ¬ j < i + 1 := by omega
        simp [*]
theorem shift_xor (a b n : Nat) : (a ^^^ b) * 2 ^ n = a * 2 ^ n ^^^ b * 2 ^ n := by
  rw [← Nat.shiftLeft_eq, ← Nat.shiftLeft_eq, ← Nat.shiftLeft_eq, Nat.shiftLeft_xor_distrib]
def tsum (t : List Int) : Nat := val 256 (nats (t ++ le4 ((crc t : Nat) : Int)))
def turnV (t : List Int) (at_ B i : Nat) : Nat := tsum t ^^^ (B % 2 ^ i * 2 ^ at_)
def turnL (t : List Int) (at_ B i : Nat) : List Int := le4 ((t.length : Int) % 4294967296) ++ ints (dig 256 (t.length + 4) (turnV t at_ B i))
theorem turnL_len (t : List Int) (at_ B i : Nat) : (turnL t at_ B i).length = t.length + 8 := by unfold turnL; rw [List.length_append, ints_len, dig_len, le4_len]; omega
theorem turnL_Bs (t : List Int) (at_ B i : Nat) : Bs (turnL t at_ B i) := (le4_Bs _).app (ints_Bs (dig_lt (by omega) _ _))
theorem body_len (t : List Int) : (t ++ le4 ((crc t : Nat) : Int)).length = t.length + 4 := by simp [le4_len]
theorem turnL_same {t : List Int} (ht : Bs t) {at_ B i : Nat} (h : B % 2 ^ i = 0) : turnL t at_ B i = frm t := by
  unfold turnL turnV frm
  rw [h, Nat.zero_mul, Nat.xor_zero, List.append_assoc]
  have hb := ht.app (le4_Bs ((crc t : Nat) : Int))
  have e := dig_val (b := 256) (by omega) (nats (t ++ le4 ((crc t : Nat) : Int))) (nats_lt hb)
  rw [nats_len, body_len] at e
  unfold tsum
  rw [e, ints_nats hb]
theorem turnL_no {t : List Int} {at_ B i : Nat} (h : B.testBit i = false) : turnL t at_ B (i + 1) = turnL t at_ B i := by
  unfold turnL turnV
  rw [mask_succ, if_neg (by simp [h]), Nat.xor_zero]
theorem turnL_yes {t : List Int} {at_ B i : Nat} (h : B.testBit i = true) (hk : at_ + i < 8 * (t.length + 4)) :
    turnL t at_ B (i + 1) = (turnL t at_ B i).set (4 + (at_ + i) / 8) (((rd (turnL t at_ B i) ((4 + (at_ + i) / 8 : Nat) : Int)).toNat ^^^ 2 ^ ((at_ + i) % 8) : Nat) : Int) := by
  have e : turnV t at_ B (i + 1) = turnV t at_ B i ^^^ 2 ^ (at_ + i) := by
    unfold turnV
    rw [mask_succ, if_pos h, shift_xor, ← Nat.pow_add, Nat.add_comm i, Nat.xor_assoc]
  have hr : rd (turnL t at_ B i) ((4 + (at_ + i) / 8 : Nat) : Int) = (((dig 256 (t.length + 4) (turnV t at_ B i)).getD ((at_ + i) / 8) 0 : Nat) : Int) := by
    unfold turnL rd
    rw [Int.toNat_natCast, List.getD_eq_getElem?_getD, List.getElem?_append_right (by rw [le4_len]; omega), le4_len, show 4 + (at_ + i) / 8 - 4 = (at_ + i) / 8 by omega]
    unfold ints
    rw [List.getElem?_map, List.getD_eq_getElem?_getD]
    rw [List.getElem?_eq_getElem (by rw [dig_len]; omega)]; rfl
  rw [hr, Int.toNat_natCast]
  unfold turnL
  rw [e, dig_flip (by omega), List.set_append_right _ _ (by rw [le4_len]; omega), le4_len, show 4 + (at_ + i) / 8 - 4 = (at_ + i) / 8 by omega]
  congr 1
  unfold ints
  rw [List.map_set]
theorem num4_val {x : Nat} (h : x < 4294967296) : num4 (ints (dig 256 4 x)) = (x : Int) := by
  show ((x % 256 : Nat) : Int) + 256 * ((x / 256 % 256 : Nat) : Int) + 65536 * ((x / 256 / 256 % 256 : Nat) : Int) + 16777216 * ((x / 256 / 256 / 256 % 256 : Nat) : Int) = (x : Int)
  omega
theorem le4_nats {x : Nat} (h : x < 4294967296) : nats (le4 (x : Int)) = dig 256 4 x := by
  have : le4 (x : Int) = ints (dig 256 4 x) := by
    show [((x : Nat) : Int) % 256, (x : Int) / 256 % 256, (x : Int) / 65536 % 256, (x : Int) / 16777216 % 256] = [((x % 256 : Nat) : Int), ((x / 256 % 256 : Nat) : Int), ((x / 256 / 256 % 256 : Nat) : Int), ((x / 256 / 256 / 256 % 256 : Nat) : Int)]
    refine List.cons_eq_cons.2 ⟨by omega, List.cons_eq_cons.2 ⟨by omega, List.cons_eq_cons.2 ⟨by omega, List.cons_eq_cons.2 ⟨by omega, rfl⟩⟩⟩⟩
  rw [this, nats_ints]
theorem turn_bad {t : List Int} (ht : Bs t) (hl : t.length ≤ 1048576) {at_ B i : Nat} (hi : i ≤ 32) (hn : at_ + i ≤ 8 * (t.length + 4)) (h : B % 2 ^ i ≠ 0) : frI (turnL t at_ B i) = .bad := by
  have hc := crc_lt ht
  have hbody := ht.app (le4_Bs ((crc t : Nat) : Int))
  -- the number that the bytes behind the length are
  have hV0 : tsum t = val 256 (nats t) + 256 ^ t.length * crc t := by
    unfold tsum nats
    rw [List.map_append, val_append, List.length_map]
    have : val 256 (List.map Int.toNat (le4 ((crc t : Nat) : Int))) = crc t := by
      have e := le4_nats hc
      unfold nats at e
      rw [e, val_dig, Nat.mod_eq_of_lt hc]
    rw [this]
  have hd : B % 2 ^ i < 2 ^ i := Nat.mod_lt _ (p2 _)
  have hpos : B % 2 ^ i * 2 ^ at_ < 2 ^ (8 * (t.length + 4)) := by
    refine Nat.lt_of_lt_of_le ((Nat.mul_lt_mul_right (p2 at_)).2 hd) ?_
    rw [← Nat.pow_add]
    exact Nat.pow_le_pow_right (by omega) (by omega)
  have hv := val_lt (b := 256) (by omega) (nats t) (nats_lt ht)
  rw [nats_len] at hv
  have hV0lt : tsum t < 2 ^ (8 * (t.length + 4)) := by
    have := val_lt (b := 256) (by omega) (nats (t ++ le4 ((crc t : Nat) : Int))) (nats_lt hbody)
    rw [nats_len, body_len, pow8] at this
    exact this
  have hVlt : turnV t at_ B i < 2 ^ (8 * (t.length + 4)) := Nat.xor_lt_two_pow hV0lt hpos
  obtain ⟨V, hV⟩ : ∃ V, turnV t at_ B i = V := ⟨_, rfl⟩
  have hVdef : V = tsum t ^^^ (B % 2 ^ i * 2 ^ at_) := hV.symm
  rw [hV] at hVlt
  have hsplit : ints (dig 256 (t.length + 4) V) = ints (dig 256 t.length V) ++ ints (dig 256 4 (V / 256 ^ t.length)) := by rw [dig_append, ints_app]
  have hx' : V / 256 ^ t.length < 4294967296 := by
    rw [pow8]
    refine Nat.div_lt_of_lt_mul ?_
    rw [show (4294967296 : Nat) = 2 ^ 32 from rfl, ← Nat.pow_add]
    exact Nat.lt_of_lt_of_le hVlt (Nat.pow_le_pow_right (by omega) (by omega))
  obtain ⟨T, hT⟩ : ∃ T, dig 256 t.length V = T := ⟨_, rfl⟩
  have hTl : T.length = t.length := by rw [← hT, dig_len]
  have hTB : ∀ b ∈ T, b < 256 := by rw [← hT]; exact dig_lt (by omega) _ _
  have hTv : val 256 T = V % 256 ^ t.length := by rw [← hT, val_dig]
  -- what stands there
  have hL : turnL t at_ B i = le4 ((t.length : Int) % 4294967296) ++ (ints T ++ ints (dig 256 4 (V / 256 ^ t.length))) := by
    unfold turnL; rw [hV, hsplit, hT]
  have hn4 : num4 (turnL t at_ B i) = (t.length : Int) := by
    rw [hL, num4_le4 (by omega) (by omega)]; omega
  have hlen := turnL_len t at_ B i
  have hdr : (turnL t at_ B i).drop 4 = ints T ++ ints (dig 256 4 (V / 256 ^ t.length)) := by
    rw [hL, List.drop_append_of_le_length (Nat.le_of_eq (le4_len _).symm), List.drop_of_length_le (Nat.le_of_eq (le4_len _)), List.nil_append]
  have hIl : (ints T).length = t.length := by rw [ints_len, hTl]
  have htk : ((turnL t at_ B i).drop 4).take t.length = ints T := by rw [hdr, ← hIl, List.take_left]
  have hdd : (turnL t at_ B i).drop (4 + t.length) = ints (dig 256 4 (V / 256 ^ t.length)) := by
    rw [← List.drop_drop, hdr, ← hIl, List.drop_left]
  unfold frI
  rw [if_neg (by omega), hn4, if_neg (by omega), if_neg (by omega), Int.toNat_natCast, htk, hdd, num4_val hx']
  rw [if_neg]
  intro he
  have he' : V / 256 ^ t.length = crc (ints T) := by exact_mod_cast he
  refine burst_sum (t := nats t) (t' := T) (s := []) (s' := []) (by rw [nats_len, hTl]) (nats_lt ht) hTB (a := at_) (d := B % 2 ^ i) ?_ h (x := crc t) (x' := V / 256 ^ t.length) ?_ ?_
  · exact Nat.lt_of_lt_of_le hd (Nat.le_trans (Nat.pow_le_pow_right (by omega) hi) (by decide : 2 ^ 32 ≤ 4294967296))
  · rw [nats_len]
    have hval : val 256 T < 256 ^ t.length := by rw [hTv]; exact Nat.mod_lt _ (Nat.pow_pos (by omega))
    have j : ∀ y z : Nat, y < 256 ^ t.length → y + 256 ^ t.length * z = y ^^^ (z * 2 ^ (8 * t.length)) := fun y z hy => by
      rw [xor_mul_pow _ _ _ (by rwa [pow8] at hy), pow8, Nat.mul_comm]
    have hVs : V = val 256 T + 256 ^ t.length * (V / 256 ^ t.length) := by rw [hTv]; exact (Nat.mod_add_div _ _).symm
    have hB : B % 2 ^ i * 2 ^ at_ = tsum t ^^^ V := by rw [hVdef, ← Nat.xor_assoc, Nat.xor_self, Nat.zero_xor]
    rw [hB, hV0]
    conv => rhs; rw [hVs]
    rw [j _ _ hv, j _ _ hval, j _ _ hv, j _ _ hval]
    have comm : ∀ p q r u : Nat, p ^^^ q ^^^ (r ^^^ u) = p ^^^ u ^^^ (r ^^^ q) := fun p q r u => by
      rw [Nat.xor_assoc, Nat.xor_assoc]
      congr 1
      rw [← Nat.xor_assoc, ← Nat.xor_assoc, Nat.xor_comm q r, Nat.xor_assoc, Nat.xor_comm q u, ← Nat.xor_assoc, Nat.xor_comm r u]
    exact comm _ _ _ _
  · rw [he']
    unfold crc
    rw [nats_ints, sub_xor (creg_lt _ (by omega) hTB), sub_xor (creg_lt _ (by omega) (nats_lt ht))]
    rw [← Nat.xor_assoc, ← Nat.xor_assoc, Nat.xor_comm (creg 4294967295 (nats t)), Nat.xor_comm (creg 4294967295 T) 4294967295, Nat.xor_assoc, Nat.xor_assoc, Nat.xor_comm (creg 4294967295 (nats t))]
theorem scan_turn {a t : List Int} (ha : Bs a) (hal : a.length ≤ 1048576) (ht : Bs t) (hl : t.length ≤ 1048576) {at_ B i : Nat} (hi : i ≤ 32) (hn : at_ + i ≤ 8 * (t.length + 4)) :
    scan (frm a ++ turnL t at_ B i) = if B % 2 ^ i = 0 then some ([a, t], []) else none := by
  have h := scan_frms [a] (fun x hx => by simp only [List.mem_singleton] at hx; subst hx; exact ⟨ha, hal⟩) (q := turnL t at_ B i) (turnL_Bs _ _ _ _)
  simp only [List.flatMap_cons, List.flatMap_nil, List.append_nil] at h
  rw [h]
  split
  · rename_i h0
    rw [turnL_same ht h0]
    have h2 := scan_frms [t] (fun x hx => by simp only [List.mem_singleton] at hx; subst hx; exact ⟨ht, hl⟩) (q := []) Bs.nil
    simp only [List.flatMap_cons, List.flatMap_nil, List.append_nil] at h2
    rw [h2, scan_part frI_nil]; rfl
  · rename_i h0
    rw [scan_bad (turn_bad ht hl hi hn h0)]; rfl
end Go.Proofs.YtlcjkpoaehmghaaQ
