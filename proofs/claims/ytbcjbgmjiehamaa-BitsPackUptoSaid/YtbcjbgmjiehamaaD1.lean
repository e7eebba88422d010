import Derived.Test.YtbcjbgmjiehamaaG
/-! Layer 3, plain: bits without the reference. -/
namespace Go.Proofs.Ytbcjbgmjiehamaa.G
open Go.RowKit Go.Proofs.YtbcjbgmjiehamaaQ Go.Proofs.YtbcjbgmjiehamaaW.PrintWords Go.Proofs.YtbcjbgmjiehamaaW.PrintLast Go.Proofs.YtbcjbgmjiehamaaW.PrintMore
set_option linter.unusedVariables false
set_option linter.unusedSimpArgs false
theorem lives_f : tithebarnlaw03_lives.f = some true := by kernel_rfl
theorem natsOf_str {l : List Nat} (h : ∀ x ∈ l, x < 256) : natsOf (strOfNums (ints l)) = l := by
  have h1 := ints_natsOf (strOfNums (ints l))
  rw [bytesOf_strOfNums (ints_Bs h)] at h1
  rw [← unats_ints (natsOf (strOfNums (ints l))), h1, unats_ints]
theorem str_natsOf (S : ByteArray) : strOfNums (ints (natsOf S)) = S := by rw [ints_natsOf, strOfNums_bytesOf]
theorem num_str {l : List Nat} (h : ∀ x ∈ l, x < 256) : num (strOfNums (ints l)) = val 256 l := by unfold num; rw [natsOf_str h]
theorem size_ints (l : List Nat) : (strOfNums (ints l)).size = l.length := by rw [size_strOfNums, ints_len]
theorem ints_U64 {l : List Nat} {w : Nat} (hw : w ≤ 64) (h : ∀ x ∈ l, x < 2 ^ w) : U64 (ints l) := by
  intro y hy
  obtain ⟨x, hx, rfl⟩ := List.mem_map.1 hy
  have h1 := h x hx
  have h2 : 2 ^ w ≤ 2 ^ 64 := Nat.pow_le_pow_right (by omega) hw
  omega
theorem wf_U64 {l : List Int} (h : ∀ x ∈ l, (Lit.int .u64 x).wf = true) : U64 l := by
  intro x hx
  have := h x hx
  simp [Lit.wf, IntKind.min, IntKind.max, IntKind.bits, IntKind.signed] at this
  omega
theorem Pack_err {l : List Int} {w : Int} (hl : l.length ≤ 17592186043904) (hU : U64 l) (h : w < 0 ∨ 64 < w) : bits_Pack.f l w = some (⟨#[]⟩, 1) := by
  unfold bits_Pack.f; rw [if_pos ⟨hl, hU⟩, if_pos h]
theorem Pack_wide {l : List Int} {w : Nat} (hl : l.length ≤ 17592186043904) (hU : U64 l) (hw : w ≤ 64) (h : w < wd (unats l)) : bits_Pack.f l (w : Int) = some (⟨#[]⟩, 4) := by
  unfold bits_Pack.f; rw [if_pos ⟨hl, hU⟩, if_neg (by omega), if_neg (by omega)]
theorem Pack_ok {l : List Int} {w : Nat} (hl : l.length ≤ 17592186043904) (hU : U64 l) (hw : w ≤ 64) (h : wd (unats l) ≤ w) : bits_Pack.f l (w : Int) = some (strOfNums (ints (pk w (unats l))), 0) := by
  unfold bits_Pack.f; rw [if_pos ⟨hl, hU⟩, if_neg (by omega), if_pos (by omega), Int.toNat_natCast]
theorem Unpack_arg {s : ByteArray} {n w : Int} (hs : s.size ≤ 140737488355328) (h : w < 0 ∨ 64 < w ∨ n < 0 ∨ 65536 < n) : bits_Unpack.f s n w = some ([], 1) := by
  unfold bits_Unpack.f; rw [if_pos hs, if_pos h]
theorem Unpack_ok {s : ByteArray} {n w : Nat} (hs : s.size ≤ 140737488355328) (hn : n ≤ 65536) (hw : w ≤ 64) (h : fitE s (n * w) = 0) : bits_Unpack.f s (n : Int) (w : Int) = some (ints (dig (2 ^ w) n (num s)), 0) := by
  unfold bits_Unpack.f; rw [if_pos hs, if_neg (by omega), Int.toNat_natCast, Int.toNat_natCast, if_pos h]
theorem Unpack_bad {s : ByteArray} {n w : Nat} (hs : s.size ≤ 140737488355328) (hn : n ≤ 65536) (hw : w ≤ 64) (h : fitE s (n * w) ≠ 0) : bits_Unpack.f s (n : Int) (w : Int) = some ([], fitE s (n * w)) := by
  unfold bits_Unpack.f; rw [if_pos hs, if_neg (by omega), Int.toNat_natCast, Int.toNat_natCast, if_neg h]
theorem fitE_zero {s : ByteArray} {m : Nat} : fitE s m = 0 ↔ s.size = need m ∧ num s < 2 ^ m := by
  unfold fitE
  by_cases c1 : s.size < need m
  · rw [if_pos c1]; exact ⟨fun h => absurd h (by decide), fun h => by omega⟩
  · rw [if_neg c1]
    by_cases c2 : need m < s.size
    · rw [if_pos c2]; exact ⟨fun h => absurd h (by decide), fun h => by omega⟩
    · rw [if_neg c2]
      by_cases c3 : num s < 2 ^ m
      · rw [if_pos c3]; exact ⟨fun _ => ⟨by omega, c3⟩, fun _ => rfl⟩
      · rw [if_neg c3]; exact ⟨fun h => absurd h (by decide), fun h => absurd h.2 c3⟩
theorem num_eqs {x : Int} {b : Bool} (h : (x == 0) = b) : True := trivial
theorem Only_pure : tithebarnlaw03_BitsOnly.Pure := by
  intro s n w hs hn hw
  unfold tithebarnlaw03_BitsOnly.f
  rw [lives_f, Option.bind_some, if_pos rfl]
  by_cases c : w < 0 ∨ 64 < w ∨ n < 0 ∨ 65536 < n
  · rw [Unpack_arg (by omega) c, Option.bind_some]; rfl
  · obtain ⟨q, rfl⟩ : ∃ q : Nat, w = (q : Int) := ⟨w.toNat, by omega⟩
    obtain ⟨m, rfl⟩ : ∃ m : Nat, n = (m : Int) := ⟨n.toNat, by omega⟩
    by_cases c2 : fitE s (m * q) = 0
    · obtain ⟨h1, h2⟩ := fitE_zero.1 c2
      have hlt := dig_lt (p2 q) m (num s)
      have hU := ints_U64 (show q ≤ 64 by omega) hlt
      have hwd : wd (unats (ints (dig (2 ^ q) m (num s)))) ≤ q := by rw [unats_ints]; exact wd_le.2 hlt
      have hpk : strOfNums (ints (pk q (unats (ints (dig (2 ^ q) m (num s)))))) = s := by
        rw [unats_ints]
        unfold num at h2 ⊢
        rw [pk_unpk (natsOf_lt s) (by rw [natsOf_len]; exact h1) h2, str_natsOf]
      have hlen : (ints (dig (2 ^ q) m (num s))).length = m := by rw [ints_len, dig_len]
      rw [Unpack_ok (by omega) (by omega) (by omega) c2, Option.bind_some, if_pos rfl, Pack_ok (by rw [hlen]; omega) hU (by omega) hwd, Option.bind_some, if_pos rfl, hpk, if_pos rfl, hlen]
      simp
    · rw [Unpack_bad (by omega) (by omega) (by omega) c2, Option.bind_some, if_neg c2]; rfl
theorem Least_pure : tithebarnlaw03_BitsLeast.Pure := by
  intro l hm hl hwf
  have hU := wf_U64 hwf
  have h64 := wd_64 hU
  refine ⟨l.length + 2, ?_⟩
  unfold tithebarnlaw03_BitsLeast.f
  rw [lives_f, Option.bind_some, if_pos rfl, bits_Pack.wid (by omega) hU (by omega), Option.bind_some, Pack_ok (by omega) hU h64 (Nat.le_refl _), Option.bind_some]
  by_cases c : wd (unats l) = 0
  · rw [c]
    rw [show wrap64 (((0 : Nat) : Int) - 1) = -1 from by unfold wrap64; decide, Pack_err (by omega) hU (by omega), Option.bind_some, if_pos rfl]
    rfl
  · have e : wrap64 (((wd (unats l) : Nat) : Int) - 1) = ((wd (unats l) - 1 : Nat) : Int) := by rw [w64 (by omega) (by omega)]; omega
    rw [e, Pack_wide (by omega) hU (by omega) (by omega), Option.bind_some, if_pos rfl, if_neg (by omega), if_pos (by omega)]
    rfl
theorem SameNums_l0 (l : List Int) (hl : l.length ≤ 140737488355328) : ∀ (d k i : Nat), i + d = l.length → d < k → tithebarnref03_SameNums.l0 k l l i = some true := by
  intro d
  induction d with
  | zero =>
    intro k i hi hk
    obtain ⟨k, rfl⟩ : ∃ m, k = m + 1 := ⟨k - 1, by omega⟩
    simp only [tithebarnref03_SameNums.l0]
    rw [if_neg (by omega)]
  | succ d ih =>
    intro k i hi hk
    obtain ⟨k, rfl⟩ : ∃ m, k = m + 1 := ⟨k - 1, by omega⟩
    simp only [tithebarnref03_SameNums.l0]
    have e : wrap64 ((i : Int) + 1) = ((i + 1 : Nat) : Int) := by rw [w64 (by omega) (by omega)]; omega
    rw [if_pos (by omega), if_pos (by omega), if_pos (by omega), e, if_pos trivial]
    exact ih k (i + 1) (by omega) (by omega)
theorem SameNums_f {k : Nat} {l : List Int} (hl : l.length ≤ 140737488355328) (hk : l.length < k) : tithebarnref03_SameNums.f k l l = some true := by
  unfold tithebarnref03_SameNums.f
  rw [if_pos rfl]
  exact SameNums_l0 l hl l.length k 0 (by omega) hk
theorem SameTruths_l0 (l : List Bool) (hl : l.length ≤ 140737488355328) : ∀ (d k i : Nat), i + d = l.length → d < k → tithebarnref03_SameTruths.l0 k l l i = some true := by
  intro d
  induction d with
  | zero =>
    intro k i hi hk
    obtain ⟨k, rfl⟩ : ∃ m, k = m + 1 := ⟨k - 1, by omega⟩
    simp only [tithebarnref03_SameTruths.l0]
    rw [if_neg (by omega)]
  | succ d ih =>
    intro k i hi hk
    obtain ⟨k, rfl⟩ : ∃ m, k = m + 1 := ⟨k - 1, by omega⟩
    simp only [tithebarnref03_SameTruths.l0]
    have e : wrap64 ((i : Int) + 1) = ((i + 1 : Nat) : Int) := by rw [w64 (by omega) (by omega)]; omega
    have e2 : (rdOf false l (i : Int) != rdOf false l (i : Int)) = false := by simp
    rw [if_pos (by omega), if_pos (by omega), if_pos (by omega), e, e2, if_neg (by decide)]
    exact ih k (i + 1) (by omega) (by omega)
theorem SameTruths_f {k : Nat} {l : List Bool} (hl : l.length ≤ 140737488355328) (hk : l.length < k) : tithebarnref03_SameTruths.f k l l = some true := by
  unfold tithebarnref03_SameTruths.f
  rw [if_pos rfl]
  exact SameTruths_l0 l hl l.length k 0 (by omega) hk
/-- Numbers that are packed are unpacked again. -/
theorem fit_pk {w : Nat} {l : List Nat} (h : ∀ x ∈ l, x < 2 ^ w) : fitE (strOfNums (ints (pk w l))) (l.length * w) = 0 := by
  rw [fitE_zero, size_ints, pk_len, num_str (pk_lt w l)]
  exact ⟨rfl, pk_small h⟩
theorem back_pk {w : Nat} {l : List Nat} (h : ∀ x ∈ l, x < 2 ^ w) : dig (2 ^ w) l.length (num (strOfNums (ints (pk w l)))) = l := by
  rw [num_str (pk_lt w l)]; exact unpk_pk h
theorem wb_pk1 (l : List Bool) : wb (val 2 (bitn l)) l.length = pk 1 (bitn l) := by unfold pk wb; rw [bitn_len, Nat.mul_one]
/-- Numbers of one bit as truths. -/
def tru (l : List Nat) : List Bool := l.map fun x : Nat => (((x : Nat) : Int) == 1)
theorem tru_bitn (l : List Bool) : tru (bitn l) = l := by
  unfold tru bitn
  rw [List.map_map]
  exact (List.map_congr_left (fun b _ => by cases b <;> rfl)).trans (List.map_id l)
theorem rd_ints {l : List Nat} {i : Nat} (h : i < l.length) : rd (ints l) (i : Int) = ((l[i] : Nat) : Int) := by
  unfold rd ints
  rw [Int.toNat_natCast, List.getD_eq_getElem?_getD, List.getElem?_map, List.getElem?_eq_getElem h]; rfl
theorem Untruths_l0 (l : List Nat) (hl : l.length ≤ 65536) : ∀ (d k i : Nat), i + d = l.length → d < k → bits_Untruths.l0 k (tru (l.take i)) (ints l) (l.length : Int) i = some (tru l, 0) := by
  intro d
  induction d with
  | zero =>
    intro k i hi hk
    obtain ⟨k, rfl⟩ : ∃ m, k = m + 1 := ⟨k - 1, by omega⟩
    simp only [bits_Untruths.l0]
    rw [if_neg (by omega), List.take_of_length_le (by omega)]
  | succ d ih =>
    intro k i hi hk
    obtain ⟨k, rfl⟩ : ∃ m, k = m + 1 := ⟨k - 1, by omega⟩
    simp only [bits_Untruths.l0]
    have e : wrap64 ((i : Int) + 1) = ((i + 1 : Nat) : Int) := by rw [w64 (by omega) (by omega)]; omega
    have hlt : i < l.length := by omega
    have e2 : tru (l.take i) ++ [(rd (ints l) (i : Int) == 1)] = tru (l.take (i + 1)) := by
      unfold tru
      rw [rd_ints hlt, List.take_add_one, List.getElem?_eq_getElem hlt, List.map_append]; rfl
    rw [if_pos (by omega), if_pos (by omega), if_pos (by rw [ints_len]; omega), if_pos (by simp [tru]; omega), e, e2]
    exact ih k (i + 1) (by omega) (by omega)
theorem Untruths_ok {k : Nat} {s : ByteArray} {n : Nat} (hk : 65537 < k) (hs : s.size ≤ 140737488355328) (hn : n ≤ 65536) (h : fitE s n = 0) : bits_Untruths.f k s (n : Int) = some (tru (dig 2 n (num s)), 0) := by
  unfold bits_Untruths.f
  rw [show (1 : Int) = ((1 : Nat) : Int) from rfl, Unpack_ok hs hn (by omega) (by rw [Nat.mul_one]; exact h), Option.bind_some, if_pos rfl]
  have hl : (dig 2 n (num s)).length = n := dig_len _ _ _
  have h := Untruths_l0 (dig 2 n (num s)) (by omega) n k 0 (by omega) (by omega)
  show bits_Untruths.l0 k (tru ((dig 2 n (num s)).take 0)) (ints (dig 2 n (num s))) ((ints (dig 2 n (num s))).length : Int) ((0 : Nat) : Int) = _
  rw [ints_len]
  exact h
theorem Untruths_bad {k : Nat} {s : ByteArray} {n : Nat} (hs : s.size ≤ 140737488355328) (hn : n ≤ 65536) (h : fitE s n ≠ 0) : bits_Untruths.f k s (n : Int) = some ([], fitE s n) := by
  unfold bits_Untruths.f
  rw [show (1 : Int) = ((1 : Nat) : Int) from rfl, Unpack_bad hs hn (by omega) (by rw [Nat.mul_one]; exact h), Option.bind_some, Nat.mul_one, if_neg h]
theorem Untruths_arg {k : Nat} {s : ByteArray} {n : Int} (hs : s.size ≤ 140737488355328) (h : n < 0 ∨ 65536 < n) : bits_Untruths.f k s n = some ([], 1) := by
  unfold bits_Untruths.f
  rw [Unpack_arg hs (by omega), Option.bind_some, if_neg (by decide)]
theorem Truths_f {l : List Bool} (hl : l.length ≤ 1125899906842000) : bits_Truths.f l = some (strOfNums (ints (pk 1 (bitn l)))) := by
  unfold bits_Truths.f; rw [if_pos hl, wb_pk1]
theorem Back_pure {l : List Int} {t : List Bool} (more : Int) (hU : U64 l) (hl : l.length ≤ 17592186043904) (ht : t.length ≤ 140737488355328) {k : Nat} (hk : 65540 < k) : tithebarnlaw03_BitsBack.f k l more t = some true := by
  obtain ⟨k, rfl⟩ : ∃ m, k = m + 1 := ⟨k - 1, by omega⟩
  have hbig : tithebarnlaw03_BitsBack.j0 (k + 1) l more t true = some true := by
    simp only [tithebarnlaw03_BitsBack.j0]
    rw [if_pos trivial, lives_f]; rfl
  unfold tithebarnlaw03_BitsBack.f
  rw [lives_f, Option.bind_some, if_pos rfl]
  by_cases c1 : (l.length : Int) > 65536
  · rw [if_pos c1]; exact hbig
  · rw [if_neg c1]
    by_cases c2 : (t.length : Int) > 65536
    · rw [decide_eq_true c2]; exact hbig
    · rw [decide_eq_false c2]
      simp only [tithebarnlaw03_BitsBack.j0]
      rw [if_neg (by decide)]
      have h64 := wd_64 hU
      obtain ⟨q, hq, hq1, hq2⟩ : ∃ q : Nat, mn (wrap64 (((wd (unats l) : Nat) : Int) + (wrap64 (Int.tmod (IntKind.u64.wrap more) 65)))) 64 = (q : Int) ∧ wd (unats l) ≤ q ∧ q ≤ 64 := by
        have hw : 0 ≤ IntKind.u64.wrap more := by simp [IntKind.wrap, IntKind.bits, IntKind.signed]; omega
        have e1 : Int.tmod (IntKind.u64.wrap more) 65 = (IntKind.u64.wrap more) % 65 := Int.tmod_eq_emod_of_nonneg hw
        rw [e1, w64 (x := (IntKind.u64.wrap more) % 65) (by omega) (by omega), w64 (by omega) (by omega)]
        unfold mn
        split
        · exact ⟨64, by omega, h64, by omega⟩
        · exact ⟨wd (unats l) + ((IntKind.u64.wrap more) % 65).toNat, by omega, by omega, by omega⟩
      have hlt : ∀ x ∈ unats l, x < 2 ^ q := wd_le.1 hq1
      have hb := back_pk hlt
      have hf := fit_pk hlt
      have hul : (unats l).length = l.length := unats_len l
      rw [hul] at hb hf
      have hsz : (strOfNums (ints (pk q (unats l)))).size ≤ 140737488355328 := by
        rw [size_ints, pk_len, hul]
        have : l.length * q ≤ 65536 * 64 := Nat.mul_le_mul (by omega) hq2
        unfold need; omega
      have htf := fit_pk (w := 1) (bitn_lt t)
      have htb := back_pk (w := 1) (bitn_lt t)
      rw [bitn_len, Nat.mul_one] at htf
      rw [bitn_len] at htb
      have htsz : (strOfNums (ints (pk 1 (bitn t)))).size ≤ 140737488355328 := by
        rw [size_ints, pk_len, bitn_len]; unfold need; omega
      rw [bits_Pack.wid (by omega) hU (by omega), Option.bind_some, hq, Pack_ok (by omega) hU hq2 hq1, Option.bind_some, if_pos rfl, Unpack_ok hsz (by omega) hq2 hf, Option.bind_some, hb, ints_unats (fun x hx => (hU x hx).1), Truths_f (by omega), Option.bind_some, Untruths_ok (by omega) htsz (by omega) htf, Option.bind_some, show (2 : Nat) = 2 ^ 1 from rfl, htb, tru_bitn, if_pos rfl, SameNums_f (l := l) (by omega) (by omega), Option.bind_some, if_pos rfl, if_pos rfl, SameTruths_f (l := t) (by omega) (by omega), Option.bind_some]
end Go.Proofs.Ytbcjbgmjiehamaa.G
