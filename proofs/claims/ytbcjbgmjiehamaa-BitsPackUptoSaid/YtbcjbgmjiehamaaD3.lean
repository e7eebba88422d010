import Derived.Test.YtbcjbgmjiehamaaD2
/-! Layer 3, plain: truths, and numbers packed, by the reference. -/
namespace Go.Proofs.Ytbcjbgmjiehamaa.G
open Go.RowKit Go.Proofs.YtbcjbgmjiehamaaQ Go.Proofs.YtbcjbgmjiehamaaW.PrintWords Go.Proofs.YtbcjbgmjiehamaaW.PrintLast Go.Proofs.YtbcjbgmjiehamaaW.PrintMore
set_option linter.unusedVariables false
set_option linter.unusedSimpArgs false
theorem Bytes_l0 (l : List Bool) (hl : l.length ≤ 140737488355328) : ∀ (d k i : Nat), i + d = l.length → d < k →
    tithebarnref03_Bytes.l0 k l (ints (dig 256 (need l.length) (val 2 ((bitn l).take i)))) (i : Int) = some (strOfNums (ints (pk 1 (bitn l)))) := by
  have hnl : need l.length ≤ 140737488355328 := by unfold need; omega
  intro d
  induction d with
  | zero =>
    intro k i hi hk
    obtain ⟨k, rfl⟩ : ∃ m, k = m + 1 := ⟨k - 1, by omega⟩
    simp only [tithebarnref03_Bytes.l0]
    rw [if_neg (by omega), List.take_of_length_le (by rw [bitn_len]; omega)]
    unfold pk
    rw [bitn_len, Nat.mul_one, Nat.pow_one]
  | succ d ih =>
    intro k i hi hk
    obtain ⟨k, rfl⟩ : ∃ m, k = m + 1 := ⟨k - 1, by omega⟩
    have hil : i < l.length := by omega
    have htk := take_bitn hil
    have hvn := val_snoc 2 ((bitn l).take i) (rdOf false l (i : Int)).toNat
    rw [← htk, List.length_take, Nat.min_eq_left (by rw [bitn_len]; omega)] at hvn
    have hN := val_take_lt (w := 1) (l := bitn l) (i := i) (bitn_lt l) (by rw [bitn_len]; omega)
    rw [Nat.pow_one, Nat.mul_one] at hN
    have hq : i / 8 < need l.length := by unfold need; omega
    have q1 : (i : Int) < (l.length : Int) := by omega
    have q2 : (0 : Int) ≤ (i : Int) := by omega
    have q3 : (0 : Int) ≤ ((i / 8 : Nat) : Int) := by omega
    have q4 : ((i / 8 : Nat) : Int) < ((ints (dig 256 (need l.length) (val 2 ((bitn l).take i)))).length : Int) := by rw [ints_len, dig_len]; omega
    have q5 : (0 : Int) ≤ ((i % 8 : Nat) : Int) := by omega
    have q6 : i + 1 + d = l.length := by omega
    have q7 : d < k := by omega
    have q8 : i % 8 ≤ 7 := by omega
    have e : Aside0 (wrap64 ((i : Int) + 1) = ((i + 1 : Nat) : Int)) := ⟨by rw [w64 (by omega) (by omega)]; omega⟩
    have e1 : Aside0 (wrap64 (Int.tdiv (i : Int) 8) = ((i / 8 : Nat) : Int)) := ⟨by rw [Int.tdiv_eq_ediv_of_nonneg (by omega), w64 (by omega) (by omega)]; omega⟩
    have e2 : Aside0 (IntKind.u64.wrap (Int.tmod (i : Int) 8) = ((i % 8 : Nat) : Int)) := ⟨by rw [Int.tmod_eq_emod_of_nonneg (by omega), u64wr]; omega⟩
    simp only [tithebarnref03_Bytes.l0]
    rw [if_pos q1, if_pos q2, e1.out, e2.out, if_pos q3, if_pos q4, if_pos q5, e.out]
    cases hb : rdOf false l (i : Int) with
    | true =>
      rw [hb, show (true : Bool).toNat = 1 from rfl, Nat.mul_one] at hvn
      have hd := dig_bit hN hq
      have hg : rd (ints (dig 256 (need l.length) (val 2 ((bitn l).take i)))) ((i / 8 : Nat) : Int) = ((val 2 ((bitn l).take i) / 256 ^ (i / 8) % 256 : Nat) : Int) := by
        have h := dig_get 256 (need l.length) (val 2 ((bitn l).take i)) (i / 8) hq
        have hl2 : i / 8 < (dig 256 (need l.length) (val 2 ((bitn l).take i))).length := by rw [dig_len]; exact hq
        rw [rd_ints hl2, ← h, List.getD_eq_getElem?_getD, List.getElem?_eq_getElem hl2]; rfl
      have h1 := pow8_lt hN
      have hp : 2 ^ (i % 8) ≤ 2 ^ 7 := Nat.pow_le_pow_right (by decide) q8
      have e3 : (((val 2 ((bitn l).take i) / 256 ^ (i / 8) % 256 : Nat) : Int) + ((2 ^ (i % 8) : Nat) : Int)) % 256 = ((val 2 ((bitn l).take i) / 256 ^ (i / 8) % 256 + 2 ^ (i % 8) : Nat) : Int) := by
        generalize val 2 ((bitn l).take i) / 256 ^ (i / 8) = y at *
        generalize 2 ^ (i % 8) = u at *
        omega
      rw [if_pos rfl, Int.toNat_natCast, hg, shl8 _ q8, e3, set_ints, ← hd, ← hvn]
      exact ih k (i + 1) q6 q7
    | false =>
      rw [hb] at hvn
      have hv2 : val 2 ((bitn l).take (i + 1)) = val 2 ((bitn l).take i) := hvn
      rw [if_neg (by decide), ← hv2]
      exact ih k (i + 1) q6 q7
theorem Bytes_f {l : List Bool} {k : Nat} (hl : l.length ≤ 140737488355328) (hk : l.length < k) : tithebarnref03_Bytes.f k l = some (strOfNums (ints (pk 1 (bitn l)))) := by
  have hnl : need l.length ≤ 140737488355328 := by unfold need; omega
  have e1 : wrap64 ((l.length : Int) + 7) = ((l.length + 7 : Nat) : Int) := by rw [w64 (by omega) (by omega)]; omega
  have e2 : wrap64 (Int.tdiv ((l.length + 7 : Nat) : Int) 8) = ((need l.length : Nat) : Int) := by
    have : Int.tdiv ((l.length + 7 : Nat) : Int) 8 = ((need l.length : Nat) : Int) := by rw [Int.tdiv_eq_ediv_of_nonneg (by omega)]; unfold need; omega
    rw [this, w64 (by omega) (by omega)]
  unfold tithebarnref03_Bytes.f
  rw [e1, e2, if_pos (by omega), Int.toNat_natCast, if_pos (by omega), ints_zero]
  exact Bytes_l0 l hl l.length k 0 (by omega) hk
theorem rUntruths_f {k : Nat} {s : ByteArray} {n : Nat} (hk : 8388800 < k) (hs : s.size ≤ 140737488355328) (hn : n ≤ 65536) : tithebarnref03_Untruths.f k s (n : Int) = some (if fitE s n = 0 then (bitsN (num s) n, 0) else ([], fitE s n)) := by
  unfold tithebarnref03_Untruths.f
  rw [if_neg (by omega), if_neg (by omega), unbits_f hs (by omega) (by omega), Option.bind_some]
theorem tru_dig (N n : Nat) : tru (dig 2 n N) = bitsN N n := by rw [← bitn_bitsN, tru_bitn]
theorem Truths_pure {l : List Bool} {s : ByteArray} (n : Int) {k : Nat} (hl : l.length ≤ 140737488355328) (hs : s.size ≤ 140737488355328) (hk : 8388800 < k) (hk2 : l.length < k) : tithebarnlaw03_BitsTruths.f k l s n = some true := by
  unfold tithebarnlaw03_BitsTruths.f
  rw [lives_f, Option.bind_some, if_pos rfl]
  by_cases c : n < 0 ∨ 65536 < n
  · have hr : tithebarnref03_Untruths.f k s n = some ([], 1) := by
      unfold tithebarnref03_Untruths.f
      by_cases c1 : n < 0
      · rw [if_pos c1]
      · rw [if_neg c1, if_pos (by omega)]
    rw [Untruths_arg hs c, Option.bind_some, hr, Option.bind_some, Truths_f (by omega), Option.bind_some, Bytes_f hl hk2, Option.bind_some, if_pos rfl, if_pos rfl, SameTruths_f (l := []) (by simp) (by simp; omega)]
    rfl
  · obtain ⟨m, rfl⟩ : ∃ m : Nat, n = (m : Int) := ⟨n.toNat, by omega⟩
    have hm : m ≤ 65536 := by omega
    by_cases c2 : fitE s m = 0
    · rw [Untruths_ok (by omega) hs hm c2, Option.bind_some, rUntruths_f hk hs hm, Option.bind_some, Truths_f (by omega), Option.bind_some, Bytes_f hl hk2, Option.bind_some, if_pos rfl, if_pos c2, if_pos rfl, tru_dig, SameTruths_f (l := bitsN (num s) m) (by rw [bitsN_len]; omega) (by rw [bitsN_len]; omega)]
      rfl
    · rw [Untruths_bad hs hm c2, Option.bind_some, rUntruths_f hk hs hm, Option.bind_some, Truths_f (by omega), Option.bind_some, Bytes_f hl hk2, Option.bind_some, if_pos rfl, if_neg c2, if_pos rfl, SameTruths_f (l := []) (by simp) (by simp; omega)]
      rfl
theorem BitsTruths.law (A0 : Option Addr) (c0 : Nat) (l : List Bool) (s : ByteArray) (n : Int) (w : World)
    (hc0 : l.length ≤ c0) (hr0 : Kd.bool.C w A0 l.length l) (hm0 : l.length ≤ maxLen) (hok0 : ∀ x ∈ l, True) (hb0 : l.length * 1 ≤ 140737488351232) (hs : s.size ≤ 140737488351232) (hn : (Lit.int .i64 n).wf = true) :
    Calls Try.prog 7 #[.slice A0 l.length c0, .string s, .int .i64 n] w fun e w' => e = .returned (.bool true) ∧ Below w.heap.size w w' :=
  tithebarnlaw03_BitsTruths.calls (140737488355328 + 1) A0 c0 l s n true w hr0 hc0 (Truths_pure n (by omega) (by omega) (by omega) (by omega))
theorem rfits_f {x w : Nat} (hx : x < 18446744073709551616) (hw : w ≤ 64) : tithebarnref03_fits.f (x : Int) (w : Int) = some (decide (x < 2 ^ w)) := by
  unfold tithebarnref03_fits.f
  by_cases c : w = 64
  · subst c
    rw [if_pos (by omega), decide_eq_true (show x < 2 ^ 64 from hx)]
  · have hw63 : w ≤ 63 := by omega
    have e : IntKind.u64.wrap (w : Int) = (w : Int) := u64_nat (by omega)
    have q1 : ¬ (w : Int) ≥ 64 := by omega
    have q2 : (0 : Int) ≤ (w : Int) := by omega
    rw [if_neg q1, e, if_pos q2, shl64 _ hw63]
    congr 1
    rw [Bool.eq_iff_iff, decide_eq_true_iff, decide_eq_true_iff]
    exact Int.ofNat_lt
theorem rWidth_l1 {l : List Int} (hU : U64 l) (hl : l.length ≤ 1048576) {i : Nat} (hi : i < l.length) : ∀ (d k v : Nat), v ≤ 64 → max v (blen ((unats l).getD i 0)) = v + d → d < k →
    tithebarnref03_Width.l1 k l (v : Int) (i : Int) = tithebarnref03_Width.l0 (k - d - 1) l ((max v (blen ((unats l).getD i 0)) : Nat) : Int) ((i + 1 : Nat) : Int) := by
  obtain ⟨hx1, hx2⟩ := rd_unats hU hi
  have hb := blen_64 hx2
  have e : Aside0 (wrap64 ((i : Int) + 1) = ((i + 1 : Nat) : Int)) := ⟨by rw [w64 (by omega) (by omega)]; omega⟩
  have q1 : (0 : Int) ≤ (i : Int) := by omega
  have q2 : (i : Int) < (l.length : Int) := by omega
  intro d
  induction d with
  | zero =>
    intro k v hv hm hk
    obtain ⟨k, rfl⟩ : ∃ m, k = m + 1 := ⟨k - 1, by omega⟩
    have hle : blen ((unats l).getD i 0) ≤ v := by omega
    simp only [tithebarnref03_Width.l1]
    rw [if_pos q1, if_pos q2, hx1, rfits_f hx2 hv, Option.bind_some, decide_eq_true (blen_le.1 hle), if_pos rfl, e.out, Nat.max_eq_left hle]
    rfl
  | succ d ih =>
    intro k v hv hm hk
    obtain ⟨k, rfl⟩ : ∃ m, k = m + 1 := ⟨k - 1, by omega⟩
    have hgt : v < blen ((unats l).getD i 0) := by omega
    have e2 : wrap64 ((v : Int) + 1) = ((v + 1 : Nat) : Int) := by rw [w64 (by omega) (by omega)]; omega
    have hr : k + 1 - (d + 1) - 1 = k - d - 1 := by omega
    have hmx : max v (blen ((unats l).getD i 0)) = max (v + 1) (blen ((unats l).getD i 0)) := by omega
    have hnl : ¬ (unats l).getD i 0 < 2 ^ v := fun h => by have := blen_le.2 h; omega
    simp only [tithebarnref03_Width.l1]
    rw [if_pos q1, if_pos q2, hx1, rfits_f hx2 hv, Option.bind_some, decide_eq_false hnl, if_neg (by decide), e2, hr, hmx]
    exact ih k (v + 1) (by omega) (by omega) (by omega)
theorem rWidth_l0 {l : List Int} (hU : U64 l) (hl : l.length ≤ 1048576) : ∀ (d k i : Nat), i + d = l.length → 70 * d + 1 < k →
    tithebarnref03_Width.l0 k l ((wd ((unats l).take i) : Nat) : Int) (i : Int) = some ((wd (unats l) : Nat) : Int) := by
  intro d
  induction d with
  | zero =>
    intro k i hi hk
    obtain ⟨k, rfl⟩ : ∃ m, k = m + 1 := ⟨k - 1, by omega⟩
    simp only [tithebarnref03_Width.l0]
    rw [if_neg (by omega), List.take_of_length_le (by rw [unats_len]; omega)]
  | succ d ih =>
    intro k i hi hk
    obtain ⟨k, rfl⟩ : ∃ m, k = m + 1 := ⟨k - 1, by omega⟩
    have hil : i < l.length := by omega
    obtain ⟨hx1, hx2⟩ := rd_unats hU hil
    have hb := blen_64 hx2
    have hw : wd ((unats l).take i) ≤ 64 := wd_le.2 (take_lt (unats_64 hU))
    have hsn := wd_snoc ((unats l).take i) ((unats l).getD i 0)
    rw [← take_unats hil] at hsn
    have h := rWidth_l1 hU hl hil (max (wd ((unats l).take i)) (blen ((unats l).getD i 0)) - wd ((unats l).take i)) k (wd ((unats l).take i)) hw (by omega) (by omega)
    simp only [tithebarnref03_Width.l0]
    rw [if_pos (by omega)]
    refine h.trans ?_
    rw [← hsn]
    exact ih _ (i + 1) (by omega) (by omega)
theorem rWidth_f {l : List Int} {k : Nat} (hU : U64 l) (hl : l.length ≤ 1048576) (hk : 70 * l.length + 1 < k) : tithebarnref03_Width.f k l = some ((wd (unats l) : Nat) : Int) := by
  unfold tithebarnref03_Width.f
  exact rWidth_l0 hU hl l.length k 0 (by omega) hk
theorem rPack_l1 {l : List Int} {w : Nat} (hU : U64 l) (hw : w ≤ 64) (hl : l.length ≤ 1048576) {i : Nat} (hi : i < l.length) : ∀ (d k j : Nat), j + d = w → d < k →
    tithebarnref03_Pack.l1 k l (w : Int) (((unats l).take i).flatMap (fun x => bitsN x w) ++ bitsN ((unats l).getD i 0) j) (i : Int) (j : Int) = tithebarnref03_Pack.l0 (k - d - 1) l (w : Int) (((unats l).take (i + 1)).flatMap (fun x => bitsN x w)) ((i + 1 : Nat) : Int) := by
  obtain ⟨hx1, hx2⟩ := rd_unats hU hi
  have hfl : ((unats l).take i).length * w ≤ 1048576 * 64 := Nat.mul_le_mul (by rw [List.length_take]; omega) hw
  have hft := flat_take (l := unats l) (w := w) (i := i) (by rw [unats_len]; exact hi)
  intro d
  induction d with
  | zero =>
    intro k j hj hk
    obtain ⟨k, rfl⟩ : ∃ m, k = m + 1 := ⟨k - 1, by omega⟩
    obtain rfl : j = w := by omega
    have e : wrap64 ((i : Int) + 1) = ((i + 1 : Nat) : Int) := by rw [w64 (by omega) (by omega)]; omega
    simp only [tithebarnref03_Pack.l1]
    rw [if_neg (by omega), e, hft]
    rfl
  | succ d ih =>
    intro k j hj hk
    obtain ⟨k, rfl⟩ : ∃ m, k = m + 1 := ⟨k - 1, by omega⟩
    have e : Aside0 (wrap64 ((j : Int) + 1) = ((j + 1 : Nat) : Int)) := ⟨by rw [w64 (by omega) (by omega)]; omega⟩
    have e2 : Aside0 (IntKind.u64.wrap (j : Int) = (j : Int)) := ⟨u64_nat (by omega)⟩
    have q1 : (j : Int) < (w : Int) := by omega
    have q2 : (0 : Int) ≤ (i : Int) := by omega
    have q3 : (i : Int) < (l.length : Int) := by omega
    have q4 : (0 : Int) ≤ (j : Int) := by omega
    have q5 : (((unats l).take i).flatMap (fun x => bitsN x w) ++ bitsN ((unats l).getD i 0) j).length < 140737488355328 := by
      rw [List.length_append, flat_len, bitsN_len]; omega
    have hr : k + 1 - (d + 1) - 1 = k - d - 1 := by omega
    simp only [tithebarnref03_Pack.l1]
    rw [if_pos q1, if_pos q2, if_pos q3, e2.out, if_pos q4, if_pos q5, hx1, shr64 _ _ (by omega), mod2, ← tb, List.append_assoc, ← bitsN_succ, e.out, hr]
    exact ih k (j + 1) (by omega) (by omega)
theorem rPack_l0 {l : List Int} {w : Nat} (hU : U64 l) (hw : w ≤ 64) (hl : l.length ≤ 1048576) : ∀ (d k i : Nat), i + d = l.length → 70 * d + 67108870 < k → (∀ x ∈ (unats l).take i, x < 2 ^ w) →
    tithebarnref03_Pack.l0 k l (w : Int) (((unats l).take i).flatMap (fun x => bitsN x w)) (i : Int) = some (if wd (unats l) ≤ w then (strOfNums (ints (pk w (unats l))), 0) else (⟨#[]⟩, 4)) := by
  intro d
  induction d with
  | zero =>
    intro k i hi hk hlt
    obtain ⟨k, rfl⟩ : ∃ m, k = m + 1 := ⟨k - 1, by omega⟩
    have ht : (unats l).take i = unats l := List.take_of_length_le (by rw [unats_len]; omega)
    rw [ht] at hlt ⊢
    have hfl : (unats l).length * w ≤ 1048576 * 64 := Nat.mul_le_mul (by rw [unats_len]; omega) hw
    simp only [tithebarnref03_Pack.l0]
    rw [if_neg (by omega), if_pos (wd_le.2 hlt), Bytes_f (by rw [flat_len]; omega) (by rw [flat_len]; omega)]
    have e : pk 1 (bitn ((unats l).flatMap fun x => bitsN x w)) = pk w (unats l) := by
      unfold pk
      rw [bitn_len, flat_len, Nat.mul_one, flat_bitn, Nat.pow_one, val_flat _ hlt]
    rw [e]; rfl
  | succ d ih =>
    intro k i hi hk hlt
    obtain ⟨k, rfl⟩ : ∃ m, k = m + 1 := ⟨k - 1, by omega⟩
    have hil : i < l.length := by omega
    obtain ⟨hx1, hx2⟩ := rd_unats hU hil
    have q1 : (i : Int) < (l.length : Int) := by omega
    have q2 : (0 : Int) ≤ (i : Int) := by omega
    simp only [tithebarnref03_Pack.l0]
    rw [if_pos q1, if_pos q2, hx1, rfits_f hx2 hw, Option.bind_some]
    have hmem : (unats l).getD i 0 ∈ unats l := by
      have h : i < (unats l).length := by rw [unats_len]; exact hil
      rw [List.getD_eq_getElem?_getD, List.getElem?_eq_getElem h]; exact List.getElem_mem h
    by_cases c : (unats l).getD i 0 < 2 ^ w
    · have h := rPack_l1 hU hw hl hil w k 0 (by omega) (by omega)
      rw [show bitsN ((unats l).getD i 0) 0 = [] from rfl, List.append_nil] at h
      rw [decide_eq_true c, if_pos rfl]
      refine h.trans ?_
      refine ih _ (i + 1) (by omega) (by omega) ?_
      rw [take_unats hil]
      intro x hx
      rcases List.mem_append.1 hx with hx | hx
      · exact hlt x hx
      · rw [List.mem_singleton.1 hx]; exact c
    · rw [decide_eq_false c, if_neg (by decide), if_neg (fun h => c (wd_le.1 h _ hmem))]
theorem rPack_f {l : List Int} {w : Int} {k : Nat} (hU : U64 l) (hl : l.length ≤ 1048576) (hk : 140509200 < k) : tithebarnref03_Pack.f k l w = bits_Pack.f l w := by
  obtain ⟨k, rfl⟩ : ∃ m, k = m + 1 := ⟨k - 1, by omega⟩
  have hj : tithebarnref03_Pack.j0 (k + 1) l w true = some (⟨#[]⟩, 1) := by simp only [tithebarnref03_Pack.j0]; rw [if_pos trivial]
  unfold tithebarnref03_Pack.f
  by_cases c1 : w < 0
  · rw [if_pos c1, Pack_err (by omega) hU (by omega)]; exact hj
  · rw [if_neg c1]
    by_cases c2 : w > 64
    · rw [decide_eq_true c2, Pack_err (by omega) hU (by omega)]; exact hj
    · rw [decide_eq_false c2]
      obtain ⟨q, rfl⟩ : ∃ q : Nat, w = (q : Int) := ⟨w.toNat, by omega⟩
      simp only [tithebarnref03_Pack.j0]
      rw [if_neg (by decide)]
      refine (rPack_l0 hU (by omega) hl l.length k 0 (by omega) (by omega) (by simp)).trans ?_
      by_cases c3 : wd (unats l) ≤ q
      · rw [if_pos c3, Pack_ok (by omega) hU (by omega) c3]
      · rw [if_neg c3, Pack_wide (by omega) hU (by omega) (by omega)]
theorem Pack_some {l : List Int} {w : Int} (hU : U64 l) (hl : l.length ≤ 1048576) : ∃ s e, bits_Pack.f l w = some (s, e) := by
  unfold bits_Pack.f
  rw [if_pos ⟨by omega, hU⟩]
  exact ⟨_, _, rfl⟩
theorem Pack_pure {l : List Int} (w : Int) {k : Nat} (hU : U64 l) (hl : l.length ≤ 1048576) (hk : 140509200 < k) : tithebarnlaw03_BitsPack.f k l w = some true := by
  unfold tithebarnlaw03_BitsPack.f
  obtain ⟨s, e, hp⟩ := Pack_some (w := w) hU hl
  rw [lives_f, Option.bind_some, if_pos rfl, rPack_f hU hl hk, hp, Option.bind_some, Option.bind_some, if_pos rfl, if_pos rfl, bits_Pack.wid (by omega) hU (by omega), Option.bind_some, rWidth_f hU hl (by omega), Option.bind_some]
  simp
theorem BitsPack.law (A0 : Option Addr) (c0 : Nat) (l : List Int) (n : Int) (w : World)
    (hc0 : l.length ≤ c0) (hr0 : (Kd.int .u64).C w A0 l.length l) (hm0 : l.length ≤ maxLen) (hok0 : ∀ x ∈ l, (Lit.int .u64 x).wf = true) (hn : (Lit.int .i64 n).wf = true) (hb : (l.map fun _ => 1).sum + 1 ≤ 1048576) :
    Calls Try.prog 3 #[.slice A0 l.length c0, .int .i64 n] w fun e w' => e = .returned (.bool true) ∧ Below w.heap.size w w' := by
  have hs : ∀ l : List Int, (l.map fun _ => 1).sum = l.length := fun l => by induction l with | nil => rfl | cons x l ih => rw [List.map_cons, List.sum_cons, ih, List.length_cons]; omega
  rw [hs] at hb
  exact tithebarnlaw03_BitsPack.calls 140600000 A0 c0 l n true w hr0 hc0 (Pack_pure n (wf_U64 hok0) (by omega) (by omega))
end Go.Proofs.Ytbcjbgmjiehamaa.G
