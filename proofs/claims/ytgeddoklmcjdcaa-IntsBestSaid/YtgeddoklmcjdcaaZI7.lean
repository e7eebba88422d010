import Derived.Test.YtgeddoklmcjdcaaZG24
import Derived.Test.YtgeddoklmcjdcaaZG7
import Derived.Test.YtgeddoklmcjdcaaZQA
import Derived.Test.YtgeddoklmcjdcaaZG17
import Derived.SizedLaws
import Derived.ChangeSlices
namespace Go.Proofs.Ytgeddoklmcjdcaa.G
open Go.RowKit Go.Proofs.YtgeddoklmcjdcaaQ Go.Proofs.YtgeddoklmcjdcaaW.PrintWords Go.Proofs.YtgeddoklmcjdcaaW.PrintLast Go.Proofs.YtgeddoklmcjdcaaW.PrintMore
set_option linter.unusedVariables false
set_option linter.unusedSimpArgs false
theorem cErr_f (s : ByteArray) (e : Int) : tally_Cursor_Err.f s e = some (e, s, e) := rfl
theorem cLeft_f (s : ByteArray) (e : Int) : tally_Cursor_Left.f s e = some ((s.size : Int), s, e) := rfl
theorem str_bytes {r : List Int} (h : Bs r) : bytesOf (strOfNums r) = r := bytesOf_strOfNums h
theorem rPlain_l0 {n : Nat} (hn : n ≤ 65536) : ∀ (d k i : Nat) (acc : List Int) (s : ByteArray) (e : Int), i + d = n → d + 1 < k → acc.length ≤ i →
    ints_readPlain.l0 k acc (n : Int) (i : Int) s e = some ((rp d (bytesOf s) e acc).1, (rp d (bytesOf s) e acc).2.2, strOfNums (rp d (bytesOf s) e acc).2.1, (rp d (bytesOf s) e acc).2.2) := by
  intro d
  induction d with
  | zero =>
    intro k i acc s e hi hk ha
    obtain ⟨k, rfl⟩ : ∃ m, k = m + 1 := ⟨k - 1, by omega⟩
    simp only [ints_readPlain.l0]
    rw [if_neg (by omega), cErr_f]
    simp only [rp, Option.bind_some, strOfNums_bytesOf]
  | succ d ih =>
    intro k i acc s e hi hk ha
    obtain ⟨k, rfl⟩ : ∃ m, k = m + 1 := ⟨k - 1, by omega⟩
    simp only [ints_readPlain.l0]
    rw [if_pos (by omega), cErr_f, Option.bind_some]
    simp only
    by_cases he : e = 0
    · have hB := aInt_Bs (Bs.bytesOf s) e
      rw [if_pos he, cInt_f, Option.bind_some, if_pos (by omega), next_i (n := 0) (by omega)]
      simp only
      rw [ih k (i + 1) _ _ _ (by omega) (by omega) (by simp; omega), str_bytes hB, rp, if_pos he]
    · rw [if_neg he, cErr_f, Option.bind_some, rp_err he]
      simp only [strOfNums_bytesOf]
theorem rPlain_f {n : Nat} (hn : n ≤ 65536) {k : Nat} (hk : 65540 < k) (s : ByteArray) (e : Int) :
    ints_readPlain.f k s e (n : Int) = some ((rp n (bytesOf s) e []).1, (rp n (bytesOf s) e []).2.2, strOfNums (rp n (bytesOf s) e []).2.1, (rp n (bytesOf s) e []).2.2) := by
  unfold ints_readPlain.f
  exact rPlain_l0 hn n k 0 [] s e (by omega) (by omega) (by simp)
def cum : List Int → List Int
  | [] => []
  | x :: l => x :: psum x l
theorem cum_psum {l : List Int} (h : I64 l) : cum l = psum 0 l := by
  cases l with
  | nil => rfl
  | cons x l =>
    have e : wrap64 (0 + x) = x := by obtain ⟨a, b⟩ := h.head; unfold wrap64; omega
    rw [cum, psum, e]
theorem rd_app (P : List Int) (y : Int) (l : List Int) : rd (P ++ y :: l) ((P.length : Nat) : Int) = y := by
  unfold rd; simp
theorem rDelta_l0 (e e' : Int) (s : ByteArray) : ∀ (rest P : List Int) (a : Int) (k : Nat), P.length + rest.length ≤ 70000 → rest.length < k →
    ints_readDelta.l0 k (P ++ a :: rest) e ((P.length + 1 : Nat) : Int) s e' = some (P ++ a :: psum a rest, e, s, e') := by
  intro rest
  induction rest with
  | nil =>
    intro P a k hl hk
    obtain ⟨k, rfl⟩ : ∃ m, k = m + 1 := ⟨k - 1, by omega⟩
    simp only [ints_readDelta.l0]
    rw [if_neg (by simp)]; rfl
  | cons y rest ih =>
    intro P a k hl hk
    simp only [List.length_cons] at hl hk
    obtain ⟨k, rfl⟩ : ∃ m, k = m + 1 := ⟨k - 1, by omega⟩
    have e1 : wrap64 (((P.length + 1 : Nat) : Int) - 1) = ((P.length : Nat) : Int) := by rw [w64 (by omega) (by omega)]; omega
    have r1 : rd (P ++ a :: y :: rest) ((P.length + 1 : Nat) : Int) = y := by
      have := rd_app (P ++ [a]) y rest
      simpa using this
    have hs : (P ++ a :: y :: rest).set (P.length + 1) (wrap64 (y + a)) = (P ++ [a]) ++ wrap64 (a + y) :: rest := by
      rw [List.set_append_right _ _ (by omega)]
      simp [Int.add_comm]
    simp only [ints_readDelta.l0]
    rw [if_pos (by simp; omega), if_pos (by omega), e1, if_pos (by omega), if_pos (by simp; omega), r1, rd_app, next_i (n := 0) (by omega), Int.toNat_natCast, hs]
    have := ih (P ++ [a]) (wrap64 (a + y)) k (by simp; omega) (by omega)
    rw [List.length_append, List.length_singleton] at this
    rw [this, psum]
    simp
theorem rDelta_f {n : Nat} (hn : n ≤ 65536) {k : Nat} (hk : 70040 < k) (s : ByteArray) (e : Int) :
    ints_readDelta.f k s e (n : Int) = some (cum (rp n (bytesOf s) e []).1, (rp n (bytesOf s) e []).2.2, strOfNums (rp n (bytesOf s) e []).2.1, (rp n (bytesOf s) e []).2.2) := by
  unfold ints_readDelta.f
  rw [rPlain_f hn (by omega), Option.bind_some]
  have hl := rp_len n (bytesOf s) e []
  generalize rp n (bytesOf s) e [] = t at *
  obtain ⟨l, r, e1⟩ := t
  simp only at hl ⊢
  cases l with
  | nil =>
    obtain ⟨k, rfl⟩ : ∃ m, k = m + 1 := ⟨k - 1, by omega⟩
    simp only [ints_readDelta.l0]
    rw [if_neg (by simp)]; rfl
  | cons x l =>
    simp only [List.length_cons, List.length_nil] at hl
    exact rDelta_l0 e1 e1 _ l [] x k (by simp; omega) (by omega)
theorem last_rd {l : List Int} (h : 0 < l.length) (x : Int) : l.getLast? = some x ↔ rd l ((l.length - 1 : Nat) : Int) = x := by
  rw [List.getLast?_eq_getElem?, rd, Int.toNat_natCast, List.getD_eq_getElem?_getD, List.getElem?_eq_getElem (by omega)]
  simp
theorem Rep_f (x : Int) {t : Int} (h0 : 0 ≤ t) (h1 : t ≤ 65536) : slices_Repeat_int64_int64.f [x] (wrap64 t) = some (List.replicate t.toNat x) := by
  rw [w64 (by omega) (by omega)]
  unfold slices_Repeat_int64_int64.f
  rw [if_pos ⟨rfl, h0, by omega⟩]; rfl
theorem rRuns_read {n : Nat} (hn : n ≤ 65536) : ∀ (f k : Nat) (s : ByteArray) (out : List Int), out.length ≤ n → n ≤ out.length + f → 2 * f + 2 < k →
    ∃ s' e', ints_readRuns.l0 k (n : Int) out s 0 = some ((rr n f (bytesOf s) out).1, (rr n f (bytesOf s) out).2.1, s', e') ∧ ((rr n f (bytesOf s) out).2.1 = 0 → s' = strOfNums (rr n f (bytesOf s) out).2.2 ∧ e' = 0) := by
  intro f
  induction f with
  | zero =>
    intro k s out h1 h2 hk
    obtain ⟨k, rfl⟩ : ∃ m, k = m + 1 := ⟨k - 1, by omega⟩
    refine ⟨s, 0, ?_, fun _ => ⟨?_, rfl⟩⟩
    · simp only [ints_readRuns.l0]
      rw [if_neg (by omega)]; rfl
    · rw [rr, strOfNums_bytesOf]
  | succ f ih =>
    intro k s out h1 h2 hk
    obtain ⟨k, rfl⟩ : ∃ m, k = m + 2 := ⟨k - 2, by omega⟩
    by_cases hlt : out.length < n
    · have hw : IntKind.u64.wrap (wrap64 ((n : Int) - (out.length : Int))) = ((n - out.length : Nat) : Int) := by rw [w64 (by omega) (by omega), wu64 (by omega) (by omega)]; omega
      have hB1 := aUint_Bs (Bs.bytesOf s) 0
      have hu64 := aUint_u64 (Bs.bytesOf s) 0
      rw [show k + 2 = (k + 1) + 1 from rfl]
      simp only [ints_readRuns.l0]
      rw [if_pos (by omega), cUint_f, Option.bind_some, rr, if_pos hlt]
      generalize aUint (bytesOf s) 0 = U at *
      obtain ⟨t, r1, e1⟩ := U
      obtain ⟨u0, u1⟩ := hu64
      simp only at hB1 u0 u1 ⊢
      rw [cErr_f, Option.bind_some, hw]
      simp only
      -- the second half, once the count is fine
      have rest : ∀ b : Bool, b = false → (e1 = 0 → ¬ (t = 0 ∨ ((n - out.length : Nat) : Int) < t)) → ∃ s' e', ints_readRuns.j1 (k + 1) (n : Int) out t b (strOfNums r1) e1 = some
          ((if e1 = 0 then if (aInt r1 0).2.2 = 0 then if out.getLast? = some (aInt r1 0).1 then ([], 4, []) else rr n f (aInt r1 0).2.1 (out ++ List.replicate t.toNat (aInt r1 0).1) else ([], (aInt r1 0).2.2, []) else ([], e1, [])).1,
           (if e1 = 0 then if (aInt r1 0).2.2 = 0 then if out.getLast? = some (aInt r1 0).1 then ([], 4, []) else rr n f (aInt r1 0).2.1 (out ++ List.replicate t.toNat (aInt r1 0).1) else ([], (aInt r1 0).2.2, []) else ([], e1, [])).2.1, s', e') ∧
          ((if e1 = 0 then if (aInt r1 0).2.2 = 0 then if out.getLast? = some (aInt r1 0).1 then ([], 4, []) else rr n f (aInt r1 0).2.1 (out ++ List.replicate t.toNat (aInt r1 0).1) else ([], (aInt r1 0).2.2, []) else ([], e1, [])).2.1 = 0 → s' = strOfNums (if e1 = 0 then if (aInt r1 0).2.2 = 0 then if out.getLast? = some (aInt r1 0).1 then ([], 4, []) else rr n f (aInt r1 0).2.1 (out ++ List.replicate t.toNat (aInt r1 0).1) else ([], (aInt r1 0).2.2, []) else ([], e1, [])).2.2 ∧ e' = 0) := by
        intro b hb ht
        subst hb
        simp only [ints_readRuns.j1]
        rw [if_neg (by decide), cInt_f, str_bytes hB1, Option.bind_some, cErr_f, Option.bind_some]
        simp only
        by_cases he : e1 = 0
        · subst he
          have htt := ht rfl
          have hB2 := aInt_Bs hB1 0
          rw [if_pos rfl]
          generalize aInt r1 0 = V at *
          obtain ⟨x, r2, e2⟩ := V
          simp only at hB2 ⊢
          by_cases he2 : e2 = 0
          · subst he2
            rw [if_pos rfl, if_pos rfl]
            have hrep := Rep_f x u0 (by omega)
            have go : ∃ s' e', ints_readRuns.l0 k (n : Int) (out ++ List.replicate t.toNat x) (strOfNums r2) 0 = some ((rr n f r2 (out ++ List.replicate t.toNat x)).1, (rr n f r2 (out ++ List.replicate t.toNat x)).2.1, s', e') ∧ ((rr n f r2 (out ++ List.replicate t.toNat x)).2.1 = 0 → s' = strOfNums (rr n f r2 (out ++ List.replicate t.toNat x)).2.2 ∧ e' = 0) := by
              have := ih k (strOfNums r2) (out ++ List.replicate t.toNat x) (by simp; omega) (by simp; omega) (by omega)
              rwa [str_bytes hB2] at this
            have hlen : out.length + (List.replicate t.toNat x).length < 17592186044416 := by simp; omega
            by_cases hp : 0 < out.length
            · have e3 : wrap64 ((out.length : Int) - 1) = ((out.length - 1 : Nat) : Int) := by rw [w64 (by omega) (by omega)]; omega
              rw [if_pos (by omega), e3, if_pos (by omega), if_pos (by omega)]
              by_cases hl : out.getLast? = some x
              · rw [if_pos hl, if_pos ((last_rd hp x).1 hl)]
                exact ⟨_, _, rfl, fun h => absurd h (by decide)⟩
              · rw [if_neg hl, if_neg (fun h => hl ((last_rd hp x).2 h)), hrep, Option.bind_some, if_pos hlen]
                exact go
            · have h0 : out = [] := List.length_eq_zero_iff.1 (by omega)
              have hl : ¬ out.getLast? = some x := by rw [h0]; simp
              rw [if_neg (by omega), if_neg hl, hrep, Option.bind_some, if_pos hlen]
              exact go
          · rw [if_neg he2, if_neg he2, cErr_f, Option.bind_some]
            exact ⟨_, _, rfl, fun h => absurd h he2⟩
        · have e4 : (aInt r1 e1).2.2 = e1 := by unfold aInt aUint; rw [if_neg he]
          rw [e4, if_neg he, if_neg he, cErr_f, Option.bind_some]
          exact ⟨_, _, rfl, fun h => absurd h he⟩
      by_cases he : e1 = 0
      · rw [if_pos he, if_pos he]
        by_cases ht : t = 0
        · rw [if_pos ht, if_pos (Or.inl ht)]
          simp only [ints_readRuns.j1]
          rw [if_pos trivial]
          exact ⟨_, _, rfl, fun h => absurd h (by decide)⟩
        · rw [if_neg ht]
          by_cases ht2 : ((n - out.length : Nat) : Int) < t
          · rw [if_pos (Or.inr ht2), decide_eq_true (by omega)]
            simp only [ints_readRuns.j1]
            rw [if_pos trivial]
            exact ⟨_, _, rfl, fun h => absurd h (by decide)⟩
          · rw [if_neg (by omega), decide_eq_false (by omega)]
            have := rest false rfl (fun _ => by omega)
            rwa [if_pos he] at this
      · rw [if_neg he, if_neg he]
        have := rest false rfl (fun h => absurd h he)
        rwa [if_neg he] at this
    · refine ⟨s, 0, ?_, fun _ => ⟨?_, rfl⟩⟩
      · rw [show k + 2 = (k + 1) + 1 from rfl]
        simp only [ints_readRuns.l0]
        rw [if_neg (by omega), rr, if_neg hlt]
      · rw [rr, if_neg hlt, strOfNums_bytesOf]
theorem iPack_l1 {n w : Nat} (hn : n ≤ 65536) (h0 : 0 < n) (a : Int) (o : List Nat) (hol : o.length = n) (ho : ∀ x ∈ o, x < 2 ^ 64) (s : ByteArray) : ∀ (d k i : Nat) (acc : List Int), i + d = n → d + 70000 < k → acc.length ≤ i → acc ++ back a (o.drop i) = back a o →
    ints_readPacked.l1 k a (w : Int) (ints o) acc (ints o) (n : Int) (i : Int) s 0 = some (if minL (back a o) = a ∧ wd o = w then (back a o, 0, s, 0) else ([], 4, s, 0)) := by
  intro d
  induction d with
  | zero =>
    intro k i acc hi hk ha hacc
    obtain ⟨k, rfl⟩ : ∃ m, k = m + 1 := ⟨k - 1, by omega⟩
    rw [List.drop_eq_nil_of_le (by omega)] at hacc
    have e : acc = back a o := by simpa [back] using hacc
    subst e
    have hne : back a o ≠ [] := by intro h; have := congrArg List.length h; rw [back_len, hol] at this; simp at this; omega
    have hU : U64 (ints o) := ints_U64 (w := 64) (by omega) ho
    simp only [ints_readPacked.l1]
    rw [if_neg (by omega), Min_f hne (by rw [back_len, hol]; omega) (by omega), Option.bind_some]
    by_cases c : minL (back a o) = a
    · rw [if_pos c, bits_Pack.wid (by rw [ints_len, hol]; omega) hU (by rw [ints_len, hol]; omega), Option.bind_some, unats_ints]
      by_cases c2 : wd o = w
      · rw [if_pos (by omega), if_pos ⟨c, c2⟩]
      · rw [if_neg (by omega), if_neg (fun h => c2 h.2)]
    · rw [if_neg c, if_neg (fun h => c h.1)]
  | succ d ih =>
    intro k i acc hi hk ha hacc
    obtain ⟨k, rfl⟩ : ∃ m, k = m + 1 := ⟨k - 1, by omega⟩
    have hil : i < o.length := by omega
    have hr : rd (ints o) (i : Int) = ((o[i] : Nat) : Int) := rd_ints hil
    have e : wrap64 (a + wrap64 ((o[i] : Nat) : Int)) = wrap64 (a + ((o[i] : Nat) : Int)) := by unfold wrap64; omega
    simp only [ints_readPacked.l1]
    rw [if_pos (by omega), if_pos (by omega), if_pos (by rw [ints_len]; omega), if_pos (by omega), hr, e, next_i (n := 0) (by omega)]
    refine ih k (i + 1) _ (by omega) (by omega) (by simp; omega) ?_
    rw [List.drop_eq_getElem_cons hil] at hacc
    rw [← hacc]
    simp only [back, List.map_cons, List.append_assoc, List.singleton_append]
theorem mod_byte {b : Int} (h0 : 0 ≤ b) (h1 : b < 256) : b % 256 = b := Int.emod_eq_of_lt h0 h1
theorem iPack_l0 {n w : Nat} (hn : n ≤ 65536) (h0 : 0 < n) (hw : w ≤ 64) (a : Int) : ∀ (d k i : Nat) (acc : List Int) (R : List Int), i + d = need (n * w) → d + 140010 < k → acc.length ≤ i → Bs R → Bs acc → R.length ≤ 140737488355328 → d ≤ R.length →
    ∃ s', ints_readPacked.l0 k (n : Int) a (w : Int) acc ((need (n * w) : Nat) : Int) (i : Int) (strOfNums R) 0 = some (
      (if fitE (strOfNums (acc ++ R.take d)) (n * w) ≠ 0 then ([], fitE (strOfNums (acc ++ R.take d)) (n * w), s', 0)
       else if minL (back a (dig (2 ^ w) n (num (strOfNums (acc ++ R.take d))))) = a ∧ wd (dig (2 ^ w) n (num (strOfNums (acc ++ R.take d)))) = w then (back a (dig (2 ^ w) n (num (strOfNums (acc ++ R.take d)))), 0, s', 0) else ([], 4, s', 0))) ∧ s' = strOfNums (R.drop d) := by
  have hnd : need (n * w) ≤ 65536 * 64 := by
    have : n * w ≤ 65536 * 64 := Nat.mul_le_mul hn hw
    unfold need; omega
  intro d
  induction d with
  | zero =>
    intro k i acc R hi hk ha hR hA hRl hd
    obtain ⟨k, rfl⟩ : ∃ m, k = m + 1 := ⟨k - 1, by omega⟩
    refine ⟨_, ?_, rfl⟩
    simp only [ints_readPacked.l0]
    rw [List.take_zero, List.append_nil, List.drop_zero, if_neg (by omega)]
    have hsz : (strOfNums acc).size ≤ 140737488355328 := by rw [size_strOfNums]; omega
    by_cases c : fitE (strOfNums acc) (n * w) = 0
    · have hdl : (dig (2 ^ w) n (num (strOfNums acc))).length = n := dig_len _ _ _
      have hlt := dig_lt (p2 w) n (num (strOfNums acc))
      rw [Unpack_ok hsz hn hw c, Option.bind_some, if_neg (show ¬ (fitE (strOfNums acc) (n * w) ≠ 0) from fun h => h c)]
      simp only [if_true]
      rw [ints_len, hdl]
      have := iPack_l1 (w := w) hn h0 a (dig (2 ^ w) n (num (strOfNums acc))) hdl (fun x hx => Nat.lt_of_lt_of_le (hlt x hx) (Nat.pow_le_pow_right (by omega) hw)) (strOfNums R) n k 0 [] (by omega) (by omega) (by simp) (by simp)
      exact this
    · rw [Unpack_bad hsz hn hw c, Option.bind_some, if_pos c]
      simp only
      rw [if_neg c]
  | succ d ih =>
    intro k i acc R hi hk ha hR hA hRl hd
    obtain ⟨k, rfl⟩ : ∃ m, k = m + 1 := ⟨k - 1, by omega⟩
    cases R with
    | nil => simp at hd
    | cons b R =>
      obtain ⟨b0, b1⟩ := hR.head
      simp only [List.length_cons] at hRl hd
      simp only [ints_readPacked.l0]
      rw [if_pos (by omega), cByte_f _ _ (by rw [size_strOfNums]; simp; omega), str_bytes hR, aByte_cons, Option.bind_some, if_pos (by omega), next_i (n := 0) (by omega)]
      simp only
      rw [mod_byte b0 b1]
      have := ih k (i + 1) (acc ++ [b]) R (by omega) (by omega) (by simp; omega) hR.tail (hA.app (Bs.cons b0 b1 Bs.nil)) (by omega) (by omega)
      rw [List.append_assoc, List.singleton_append] at this
      rw [List.take_succ_cons, List.drop_succ_cons]
      exact this
theorem rPacked_read {n : Nat} (hn : n ≤ 65536) {k : Nat} (hk : 5000000 < k) (s : ByteArray) (hs : s.size ≤ 140737488355328) :
    ∃ s' e', ints_readPacked.f k s 0 (n : Int) = some ((bp n (bytesOf s)).1, (bp n (bytesOf s)).2.1, s', e') ∧ ((bp n (bytesOf s)).2.1 = 0 → s' = strOfNums (bp n (bytesOf s)).2.2 ∧ e' = 0) := by
  unfold ints_readPacked.f bp
  by_cases h0 : n = 0
  · rw [if_pos (by omega), if_pos h0]
    exact ⟨_, _, rfl, fun _ => ⟨(strOfNums_bytesOf s).symm, rfl⟩⟩
  · rw [if_neg (by omega), if_neg h0, cInt_f, Option.bind_some]
    have hB1 := aInt_Bs (Bs.bytesOf s) 0
    have hl1 : (aInt (bytesOf s) 0).2.1.length ≤ s.size := by
      show (aUint (bytesOf s) 0).2.1.length ≤ _
      rw [← bytesOf_size]; unfold aUint; rw [if_pos rfl]; simp
    generalize aInt (bytesOf s) 0 = V at *
    obtain ⟨a, r1, e1⟩ := V
    simp only at hB1 hl1 ⊢
    rw [cByte_f _ _ (by rw [size_strOfNums]; omega), str_bytes hB1, Option.bind_some, cErr_f, Option.bind_some]
    have hB2 := aByte_Bs hB1 e1
    have hb : 0 ≤ (aByte r1 e1).1 ∧ (aByte r1 e1).1 < 256 := by
      unfold aByte
      split
      · cases r1 with
        | nil => simp
        | cons b r => exact hB1.head
      · simp
    have hl2 : (aByte r1 e1).2.1.length ≤ r1.length := by
      unfold aByte
      split
      · cases r1 <;> simp
      · simp
    generalize aByte r1 e1 = Y at *
    obtain ⟨b, r2, e2⟩ := Y
    simp only at hB2 hb hl2 ⊢
    by_cases he : e2 = 0
    · subst he
      rw [if_pos rfl, if_neg (show ¬ ((0 : Int) ≠ 0) by simp)]
      by_cases hw : 64 < b
      · rw [if_pos (by omega), if_pos hw]
        exact ⟨_, _, rfl, fun h => absurd h (by decide)⟩
      · obtain ⟨w, rfl⟩ : ∃ w : Nat, b = (w : Int) := ⟨b.toNat, by omega⟩
        have hnw : n * w ≤ 65536 * 64 := Nat.mul_le_mul hn (by omega)
        have e3 : wrap64 (Int.tdiv (wrap64 ((wrap64 ((n : Int) * (w : Int))) + 7)) 8) = ((need (n * w) : Nat) : Int) := by
          rw [← Int.natCast_mul]
          generalize n * w = m at hnw
          rw [w64 (x := (m : Int)) (by omega) (by omega), w64 (x := (m : Int) + 7) (by omega) (by omega), Int.tdiv_eq_ediv_of_nonneg (by omega), w64 (by omega) (by omega)]
          unfold need; omega
        rw [if_neg (by omega), if_neg hw, cLeft_f, Option.bind_some]
        simp only
        rw [e3, size_strOfNums, Int.toNat_natCast]
        unfold bp.bq
        by_cases c : r2.length < need (n * w)
        · rw [if_pos (by omega), if_pos c]
          exact ⟨_, _, rfl, fun h => absurd h (by decide)⟩
        · rw [if_neg (by omega), if_neg c]
          obtain ⟨s', h1, h2⟩ := iPack_l0 (w := w) hn (by omega) (by omega) a (need (n * w)) k 0 [] r2 (by omega) (by generalize n * w = m at hnw; unfold need; omega) (by simp) hB2 Bs.nil (by omega) (by omega)
          refine ⟨s', 0, h1.trans ?_, ?_⟩
          · rw [List.nil_append]
            split
            · rfl
            · split <;> rfl
          · intro h
            refine ⟨?_, rfl⟩
            rw [h2]
            split at h
            · rename_i hc; exact absurd h hc
            · rename_i hc
              rw [if_neg hc]
              split at h
              · rename_i hc2; rw [if_pos hc2]
              · exact absurd h (by decide)
    · rw [if_neg he, if_pos he, cErr_f, Option.bind_some]
      exact ⟨_, _, rfl, fun h => absurd h he⟩
theorem rBody_f {n : Nat} (hn : n ≤ 65536) {k : Nat} (hk : 5000000 < k) (s : ByteArray) (hs : s.size ≤ 140737488355328) {a : Int} (ha : 0 ≤ a) (ha4 : a < 4) :
    ∃ l s' e', ints_Read.rd k a s 0 (n : Int) = some (l, (body a n (bytesOf s)).2.1, s', e') ∧ ((body a n (bytesOf s)).2.1 = 0 → l = (body a n (bytesOf s)).1 ∧ s' = strOfNums (body a n (bytesOf s)).2.2 ∧ e' = 0) := by
  unfold ints_Read.rd body
  by_cases c0 : a = 0
  · rw [if_pos c0, if_pos c0, rPlain_f hn (by omega)]
    exact ⟨_, _, _, rfl, fun h => ⟨rfl, rfl, h⟩⟩
  · rw [if_neg c0, if_neg c0]
    by_cases c1 : a = 1
    · rw [if_pos c1, if_pos c1, rDelta_f hn (by omega)]
      refine ⟨_, _, _, rfl, fun h => ⟨?_, rfl, h⟩⟩
      simp only at h
      obtain ⟨m, h4, h5, h6, h7⟩ := rp_dec n (bytesOf s) [] _ _ (Bs.bytesOf s) (Prod.ext rfl (Prod.ext rfl h))
      replace h4 : (rp n (bytesOf s) 0 []).fst = m := h4
      show cum (rp n (bytesOf s) 0 []).fst = psum 0 (rp n (bytesOf s) 0 []).fst
      rw [h4]; exact cum_psum h6
    · rw [if_neg c1, if_neg c1]
      by_cases c2 : a = 2
      · rw [if_pos c2, if_pos c2]
        unfold ints_readRuns.f
        obtain ⟨s', e', h1, h2⟩ := rRuns_read hn n k s [] (by simp) (by simp) (by omega)
        exact ⟨_, s', e', h1, fun h => ⟨rfl, h2 h⟩⟩
      · rw [if_neg c2, if_neg c2]
        obtain ⟨s', e', h1, h2⟩ := rPacked_read hn (k := k) (by omega) s hs
        exact ⟨_, s', e', h1, fun h => ⟨rfl, h2 h⟩⟩
theorem IRead_f (s : ByteArray) (hs : s.size ≤ 140737488355328) {k : Nat} (hk : 5000000 < k) : ints_Read.f k s = some (DR (bytesOf s)) := by
  unfold ints_Read.f DR
  rw [show tally_From.f s = some (s, 0) from rfl, Option.bind_some]
  simp only
  rw [cByte_f _ _ (by omega), Option.bind_some]
  have hB1 := aByte_Bs (Bs.bytesOf s) 0
  have hb : 0 ≤ (aByte (bytesOf s) 0).1 ∧ (aByte (bytesOf s) 0).1 < 256 := by
    have hh := Bs.bytesOf s
    unfold aByte
    rw [if_pos rfl]
    generalize bytesOf s = r at *
    cases r with
    | nil => simp
    | cons b r => exact hh.head
  have hl1 : (aByte (bytesOf s) 0).2.1.length ≤ s.size := by
    rw [← bytesOf_size]; unfold aByte; rw [if_pos rfl]
    generalize bytesOf s = r
    cases r <;> simp
  generalize aByte (bytesOf s) 0 = Y at *
  obtain ⟨a, r1, e1⟩ := Y
  simp only at hB1 hb hl1 ⊢
  by_cases c : e1 = 0 ∧ 4 ≤ a
  · rw [if_pos c, if_pos c]
  · rw [if_neg c, if_neg c]
    unfold ints_Read.go
    rw [cUint_f, str_bytes hB1, Option.bind_some]
    have hB2 := aUint_Bs hB1 e1
    have hu := aUint_u64 hB1 e1
    have hl2 : (aUint r1 e1).2.1.length ≤ r1.length := by unfold aUint; split <;> simp
    have he12 : (aUint r1 e1).2.2 = 0 → e1 = 0 := by unfold aUint; split <;> intro h <;> assumption
    generalize aUint r1 e1 = U at *
    obtain ⟨t, r2, e2⟩ := U
    obtain ⟨u0, u1⟩ := hu
    simp only at hB2 u0 u1 hl2 he12 ⊢
    by_cases he : e2 = 0
    · have he1 := he12 he
      subst he he1
      have z0 : ¬ ((0 : Int) ≠ 0) := fun h => h rfl
      rw [if_neg z0, if_neg z0]
      by_cases hn : 65536 < t
      · rw [if_pos hn, if_pos hn]
      · rw [if_neg hn, if_neg hn, if_pos ⟨rfl, hb.1, u0⟩]
        obtain ⟨n, rfl⟩ : ∃ n : Nat, t = (n : Int) := ⟨t.toNat, by omega⟩
        rw [Int.toNat_natCast]
        obtain ⟨l, s', e', h1, h2⟩ := rBody_f (n := n) (by omega) hk (strOfNums r2) (by rw [size_strOfNums]; omega) hb.1 (by omega)
        rw [str_bytes hB2] at h1 h2
        rw [h1, Option.bind_some]
        have hBr : (body a n r2).2.1 = 0 → Bs (body a n r2).2.2 := by
          intro h
          obtain ⟨_, _, h3⟩ := body_dec a hB2 (by omega) (l := (body a n r2).1) (r' := (body a n r2).2.2) (Prod.ext rfl (Prod.ext h rfl))
          have := hB2; rw [h3] at this; exact this.of_app_right
        generalize body a n r2 = t at *
        obtain ⟨l', e3, r3⟩ := t
        unfold ints_Read.fin DR.DB
        simp only at h2 hBr ⊢
        by_cases he3 : e3 = 0
        · subst he3
          obtain ⟨rfl, rfl, rfl⟩ := h2 rfl
          rw [if_pos rfl, if_neg (by simp), cDone_f, str_bytes (hBr rfl), Option.bind_some]
          unfold aDone
          rw [if_pos rfl]
          by_cases hr : r3 = []
          · rw [if_pos hr, if_pos hr]; rfl
          · rw [if_neg hr, if_neg hr]; rfl
        · rw [if_neg he3, if_pos he3]
    · rw [if_pos he, if_pos he]
end Go.Proofs.Ytgeddoklmcjdcaa.G
namespace Go.Proofs.Ytgeddoklmcjdcaa.G
open Go.RowKit Go.Proofs.YtgeddoklmcjdcaaQ Go.Proofs.YtgeddoklmcjdcaaW.PrintWords Go.Proofs.YtgeddoklmcjdcaaW.PrintLast Go.Proofs.YtgeddoklmcjdcaaW.PrintMore
attribute [local go_sem] max2_int min2_int max_two min_two max_three min_three max_four min_four   -- for this text's walks alone
set_option linter.unusedVariables false
set_option linter.unusedSimpArgs false
def tithebarnref04_Same.l0 : Nat → List Int → List Int → Int → Option (Bool)
 | 0, _, _, _ => none
 | k + 1, x0, x1, x5 => if x5 < (x0.length : Int) then (if 0 ≤ x5 then (if x5 < (x1.length : Int) then (if (rd x0 x5) = (rd x1 x5) then (tithebarnref04_Same.l0 k x0 x1 (wrap64 (x5 + 1))) else (some false)) else (none)) else (none)) else (some true)
def tithebarnref04_Same.f (k : Nat) (l0 : List Int) (l1 : List Int) : Option (Bool) := if (l0.length : Int) = (l1.length : Int) then (tithebarnref04_Same.l0 k l0 l1 0) else (some false)
end Go.Proofs.Ytgeddoklmcjdcaa.G
namespace Go.Proofs.Ytgeddoklmcjdcaa.G
open Go.RowKit Go.Proofs.YtgeddoklmcjdcaaQ Go.Proofs.YtgeddoklmcjdcaaW.PrintWords Go.Proofs.YtgeddoklmcjdcaaW.PrintLast Go.Proofs.YtgeddoklmcjdcaaW.PrintMore
set_option linter.unusedVariables false
set_option linter.unusedSimpArgs false
theorem sevens_I : I64 [7, 7, 7] := fun x hx => by simp at hx; subst hx; unfold i64; omega
theorem sevens_EN : EN 2 [7, 7, 7] = [2, 3, 3, 14] := by decide
theorem lives_f {k : Nat} (hk : 5000000 < k) : tithebarnlaw04_lives.f k = some true := by
 unfold tithebarnlaw04_lives.f
 have hb : bytesOf (⟨#[2, 3, 3, 14]⟩ : ByteArray) = EN 2 [7, 7, 7] := by rw [sevens_EN]; rfl
 have hw : ints_With.f k [7, 7, 7] 2 = some (strOfNums (EN 2 [7, 7, 7]), 0) := by rw [With_f sevens_I 2 (by omega), if_neg (by decide), if_neg (by decide)]
 rw [hw, Option.bind_some, IRead_f _ (by decide) hk, Option.bind_some, hb, DR_EN (by decide) (by decide) sevens_I (by decide)]
 simp only
 rw [if_pos trivial, sevens_EN, if_pos (by rw [ByteArray.toList_eq]; rfl), if_pos trivial, if_pos (by decide), if_pos (by decide)]
 rfl
def sm (a b : ByteArray) : ByteArray := if a.size < b.size then a else b
theorem sm_le (a b : ByteArray) : (sm a b).size ≤ a.size ∧ (sm a b).size ≤ b.size := by unfold sm; split <;> omega
def wk (l : List Int) (i : Int) : ByteArray := strOfNums (EN i l)
def bst (l : List Int) : ByteArray := sm (wk l 3) (sm (wk l 2) (sm (wk l 1) (wk l 0)))
theorem bst_le (l : List Int) {i : Int} (h0 : 0 ≤ i) (h4 : i < 4) : (bst l).size ≤ (wk l i).size := by
 have h1 := sm_le (wk l 3) (sm (wk l 2) (sm (wk l 1) (wk l 0)))
 have h2 := sm_le (wk l 2) (sm (wk l 1) (wk l 0))
 have h3 := sm_le (wk l 1) (wk l 0)
 unfold bst
 rcases (by omega : i = 0 ∨ i = 1 ∨ i = 2 ∨ i = 3) with rfl | rfl | rfl | rfl <;> omega
theorem With_ok {l : List Int} (hI : I64 l) (hl : l.length ≤ 65536) {a : Int} (h0 : 0 ≤ a) (h4 : a < 4) {k : Nat} (hk : 150000 < k) : ints_With.f k l a = some (wk l a, 0) := by
 rw [With_f hI a hk, if_neg (by omega), if_neg (by omega)]; rfl
theorem Best_f {l : List Int} (hI : I64 l) {k : Nat} (hk : 150000 < k) : ints_Best.f k l = some (if 65536 < l.length then (⟨#[]⟩, 3) else (bst l, 0)) := by
 unfold ints_Best.f
 by_cases c : 65536 < l.length
 ·rw [With_f hI 0 hk, if_neg (by omega), if_pos c, Option.bind_some, if_pos c]; rfl
 ·have hl : l.length ≤ 65536 := by omega
  have w0 := With_ok hI hl (a := 0) (by decide) (by decide) hk
  have w1 := With_ok hI hl (a := 1) (by decide) (by decide) hk
  have w2 := With_ok hI hl (a := 2) (by decide) (by decide) hk
  have w3 := With_ok hI hl (a := 3) (by decide) (by decide) hk
  rw [w0, if_neg c, Option.bind_some, if_pos rfl]
  have r1 : ints_Best.rest k l 3 1 (wk l 0) = some (bst l) := by
   rw [ints_Best.rest, show ((1 : Nat) : Int) = 1 from rfl, w1, Option.bind_some, ints_Best.rest, show ((1 + 1 : Nat) : Int) = 2 from rfl, w2, Option.bind_some, ints_Best.rest, show ((1 + 1 + 1 : Nat) : Int) = 3 from rfl, w3, Option.bind_some, ints_Best.rest]
   rfl
  rw [r1]; rfl
end Go.Proofs.Ytgeddoklmcjdcaa.G
namespace Go.Proofs.Ytgeddoklmcjdcaa.G
open Go.RowKit Go.Proofs.YtgeddoklmcjdcaaQ Go.Proofs.YtgeddoklmcjdcaaW.PrintWords Go.Proofs.YtgeddoklmcjdcaaW.PrintLast Go.Proofs.YtgeddoklmcjdcaaW.PrintMore
set_option linter.unusedVariables false
set_option linter.unusedSimpArgs false
theorem str_app {a b : List Int} : strOfNums a ++ strOfNums b = strOfNums (a ++ b) := (strOfNums_append a b).symm
theorem add_i {i j : Nat} (h : i + j ≤ 1000000) : wrap64 ((i : Int) + (j : Int)) = ((i + j : Nat) : Int) := by rw [w64 (by omega) (by omega)]; rfl
theorem rRuns_l1 {l : List Int} {i : Nat} {x : Int} {m : List Int} (hdr : l.drop i = x :: m) (hl : l.length ≤ 65536) (hI : I64 l) (b : List Int) (hb : b.length ≤ 100000000) (k0 : Nat) (hk0 : 14 < k0) (R : ByteArray)
  (h0 : ∀ k, k0 ≤ k → tithebarnref04_runs.l0 k l (strOfNums (b ++ (encU ((lead x m + 1 : Nat) : Int) ++ encI x))) ((i + (lead x m + 1) : Nat) : Int) = some R) :
  ∀ (d k j : Nat), j + d = lead x m → d + k0 < k → tithebarnref04_runs.l1 k l (strOfNums b) (i : Int) ((j + 1 : Nat) : Int) = some R := by
 have hle := lead_le x m
 have hil : i < l.length := by
  rcases Nat.lt_or_ge i l.length with h | h
  ·exact h
  ·rw [List.drop_eq_nil_of_le h] at hdr; cases hdr
 have hlen : l.length = i + (m.length + 1) := by
  have := congrArg List.length hdr
  rw [List.length_drop, List.length_cons] at this; omega
 have hri : ∀ j : Nat, rd l ((i + j : Nat) : Int) = rd (x :: m) (j : Int) := by
  intro j; rw [← hdr, rd_drop]
 have hx0 : rd l (i : Int) = x := by have := hri 0; rw [Nat.add_zero] at this; rw [this]; rfl
 have hxi : i64 x := by rw [← hx0]; exact hI _ (rd_mem hil)
 have hu : u64 ((lead x m + 1 : Nat) : Int) := by unfold u64; omega
 have h9 := encU_len ((lead x m + 1 : Nat) : Int)
 have h9' := encI_len (x := x)
 have h1 : ∀ k, 14 < k → ((tithebarnref01_Uint.f k (IntKind.u64.wrap ((lead x m + 1 : Nat) : Int))).bind fun t => (tithebarnref01_Int.f k (rd l (i : Int))).bind fun t2 => if t.size + t2.size ≤ 9223372036854775807 then (if (strOfNums b).size + (t ++ t2).size ≤ 9223372036854775807 then tithebarnref04_runs.l0 k l (strOfNums b ++ (t ++ t2)) (wrap64 ((i : Int) + ((lead x m + 1 : Nat) : Int))) else none) else none) = tithebarnref04_runs.l0 k l (strOfNums (b ++ (encU ((lead x m + 1 : Nat) : Int) ++ encI x))) ((i + (lead x m + 1) : Nat) : Int) := by
  intro k hk
  rw [wu64 (by omega) (by omega), rUint_f (by omega) hu, Option.bind_some, hx0, rInt_f (by omega) hxi, Option.bind_some, if_pos (by rw [size_strOfNums, size_strOfNums]; omega), str_app, if_pos (by rw [size_strOfNums, size_strOfNums, List.length_append]; omega), str_app, add_i (by omega)]
 intro d
 induction d with
 | zero =>
  intro k j hi hk
  obtain ⟨k, rfl⟩ : ∃ m, k = m + 1 := ⟨k - 1, by omega⟩
  obtain rfl : j = lead x m := by omega
  simp only [tithebarnref04_runs.l1]
  rw [add_i (by omega)]
  have h3 := (h1 k (by omega)).trans (h0 k (by omega))
  by_cases hend : lead x m < m.length
  ·have hne := lead_end x m hend
   rw [if_pos (by omega), if_pos (by omega), if_pos (by omega), if_pos (by omega), hri, hx0, if_neg hne]
   rw [hx0, add_i (by omega)] at h3
   exact h3
  ·rw [if_neg (by omega)]
   rw [← h3]
   congr 1; funext t
   rw [if_pos (by omega), if_pos (by omega), add_i (by omega)]
 | succ d ih =>
  intro k j hi hk
  obtain ⟨k, rfl⟩ : ∃ m, k = m + 1 := ⟨k - 1, by omega⟩
  simp only [tithebarnref04_runs.l1]
  rw [add_i (by omega), if_pos (by omega), if_pos (by omega), if_pos (by omega), if_pos (by omega), hri, hx0, if_pos (lead_at x m j (by omega)), next_i (n := 0) (by omega)]
  exact ih k (j + 1) (by omega) (by omega)
theorem rRuns_l0 {l : List Int} (hl : l.length ≤ 65536) (hI : I64 l) : ∀ (d i : Nat) (b : List Int) (k : Nat), i ≤ l.length → l.length - i ≤ d → d ≤ 65536 → b.length + 20 * d ≤ 100000000 → 2 * (l.length - i) + 20 < k → tithebarnref04_runs.l0 k l (strOfNums b) (i : Int) = some (strOfNums (b ++ runsB (l.drop i))) := by
 intro d
 induction d with
 | zero =>
  intro i b k hi hd _ hb hk
  obtain ⟨k, rfl⟩ : ∃ m, k = m + 1 := ⟨k - 1, by omega⟩
  simp only [tithebarnref04_runs.l0]
  rw [if_neg (by omega), List.drop_eq_nil_of_le (by omega)]; simp [runsB, runsF]
 | succ d ih =>
  intro i b k hi hd hd2 hb hk
  obtain ⟨k, rfl⟩ : ∃ m, k = m + 1 := ⟨k - 1, by omega⟩
  by_cases hlt : i < l.length
  ·obtain ⟨x, m, hdr⟩ : ∃ x m, l.drop i = x :: m := ⟨_, _, drop_rd hlt⟩
   have hml : l.length - i = m.length + 1 := by have := congrArg List.length hdr; rw [List.length_drop, List.length_cons] at this; exact this
   have hle := lead_le x m
   have h9 := encU_len ((lead x m + 1 : Nat) : Int)
   have h9' := encI_len (x := x)
   have hdd : l.drop (i + (lead x m + 1)) = m.drop (lead x m) := by rw [← List.drop_drop, hdr, List.drop_succ_cons]
   simp only [tithebarnref04_runs.l0]
   rw [if_pos (by omega)]
   refine rRuns_l1 hdr hl hI b (by omega) (2 * (m.length - lead x m) + 21) (by omega) _ (fun k' hk' => ?_) (lead x m) k 0 (by omega) (by omega)
   rw [ih (i + (lead x m + 1)) _ k' (by omega) (by omega) (by omega) (by rw [List.length_append, List.length_append]; omega) (by omega), hdd, hdr, runsB_cons]
   simp only [List.append_assoc]
  ·simp only [tithebarnref04_runs.l0]
   rw [if_neg (by omega), List.drop_eq_nil_of_le (by omega)]; simp [runsB, runsF]
theorem rRuns_f {l : List Int} (hI : I64 l) (hl : l.length ≤ 65536) {k : Nat} (hk : 140000 < k) : tithebarnref04_runs.f k l = some (strOfNums (runsB l)) := by
 unfold tithebarnref04_runs.f
 have := rRuns_l0 hl hI 65536 0 [] k (by omega) (by omega) (Nat.le_refl _) (by simp) (by omega)
 exact this
theorem rOff_l1 {l : List Int} {a : Int} (hI : I64 l) (ha : ∀ x ∈ l, a ≤ x) (hai : i64 a) (hl : l.length ≤ 65536) : ∀ (d k i : Nat) (b : List Int), i + d = l.length → d < k → b.length ≤ i → tithebarnref04_offsets.l1 k l a b (i : Int) = some (a, b ++ ints (offs a (l.drop i))) := by
 intro d
 induction d with
 | zero =>
  intro k i b hi hk hb
  obtain ⟨k, rfl⟩ : ∃ m, k = m + 1 := ⟨k - 1, by omega⟩
  simp only [tithebarnref04_offsets.l1]
  rw [if_neg (by omega), List.drop_eq_nil_of_le (by omega)]; simp [offs, ints]
 | succ d ih =>
  intro k i b hi hk hb
  obtain ⟨k, rfl⟩ : ∃ m, k = m + 1 := ⟨k - 1, by omega⟩
  have hlt : i < l.length := by omega
  have h1 := hI _ (rd_mem hlt)
  have h2 := ha _ (rd_mem hlt)
  obtain ⟨x, hx⟩ : ∃ x, rd l (i : Int) = x := ⟨_, rfl⟩
  have e : IntKind.u64.wrap (IntKind.u64.wrap x - IntKind.u64.wrap a) = (((x - a).toNat : Nat) : Int) := by
   rw [hx] at h1 h2
   obtain ⟨a0, a1⟩ := h1; obtain ⟨b0, b1⟩ := hai
   rw [wu64_def, wu64_def, wu64_def]; omega
  simp only [tithebarnref04_offsets.l1]
  rw [if_pos (by omega), if_pos (by omega), if_pos (by omega), next_i (n := 0) (by omega), hx, e, ih k (i + 1) _ (by omega) (by omega) (by simp; omega), drop_rd hlt, hx]
  simp [offs, ints]
theorem rOff_l0 {l : List Int} (hI : I64 l) (hl : l.length ≤ 65536) (h0 : l ≠ []) : ∀ (d k i : Nat) (m : Int), i + d = l.length → d + l.length + 1 < k → (l.drop i).foldl mn m = minL l → tithebarnref04_offsets.l0 k l m (i : Int) = some (minL l, ints (offs (minL l) l)) := by
 intro d
 induction d with
 | zero =>
  intro k i m hi hk hm
  obtain ⟨k, rfl⟩ : ∃ m, k = m + 1 := ⟨k - 1, by omega⟩
  simp only [tithebarnref04_offsets.l0]
  rw [List.drop_eq_nil_of_le (by omega)] at hm
  rw [if_neg (by omega), show m = minL l from hm]
  exact rOff_l1 hI (fun x hx => minL_le hx) (minL_i64 h0 hI) hl l.length k 0 [] (by omega) (by omega) (by simp)
 | succ d ih =>
  intro k i m hi hk hm
  obtain ⟨k, rfl⟩ : ∃ m, k = m + 1 := ⟨k - 1, by omega⟩
  simp only [tithebarnref04_offsets.l0]
  rw [drop_rd (l := l) (i := i) (by omega)] at hm
  rw [if_pos (by omega), if_pos (by omega), next_i (n := 0) (by omega)]
  exact ih k (i + 1) _ (by omega) (by omega) hm
theorem rOff_f {l : List Int} (hI : I64 l) (hl : l.length ≤ 65536) (h0 : l ≠ []) {k : Nat} (hk : 140000 < k) : tithebarnref04_offsets.f k l = some (minL l, ints (offs (minL l) l)) := by
 unfold tithebarnref04_offsets.f
 have hp : 0 < l.length := List.length_pos_iff.2 h0
 rw [if_pos (by omega)]
 refine rOff_l0 hI hl h0 l.length k 0 (rd l 0) (by omega) (by omega) ?_
 cases l with
 | nil => exact absurd rfl h0
 | cons x l =>
  show (x :: l).foldl mn x = l.foldl mn x
  rw [List.foldl_cons]
  have : mn x x = x := by unfold mn; split <;> rfl
  rw [this]
theorem rPacked_f {l : List Int} (hI : I64 l) (hl : l.length ≤ 65536) {k : Nat} (hk : 140509200 < k) : tithebarnref04_packed.f k l = some (strOfNums (packB l)) := by
 unfold tithebarnref04_packed.f packB
 by_cases h0 : l = []
 ·subst h0; simp [strOfNums]
 ·have hne : ¬ (l.length : Int) = 0 := fun h => h0 (List.length_eq_zero_iff.1 (by omega))
  have hw := wd_offs hI
  have ho := offs_64 hI
  have hln := offs_len (minL l) l
  have hmi := minL_i64 h0 hI
  have h9 := encI_len (x := minL l)
  have hU : U64 (ints (offs (minL l) l)) := ints_U64 (w := 64) (by omega) ho
  have hpl := pk_len (wd (offs (minL l) l)) (offs (minL l) l)
  have hnd : need (l.length * wd (offs (minL l) l)) ≤ 65536 * 64 := by
   have : l.length * wd (offs (minL l) l) ≤ 65536 * 64 := Nat.mul_le_mul hl hw
   unfold need; omega
  rw [if_neg hne, if_neg h0, rOff_f hI hl h0 (by omega), Option.bind_some]
  simp only
  rw [rWidth_f hU (by rw [ints_len, hln]; omega) (by rw [ints_len, hln]; omega), Option.bind_some, unats_ints, rPack_f hU (by rw [ints_len, hln]; omega) (by omega), Pack_ok (by rw [ints_len, hln]; omega) hU hw (by rw [unats_ints]; exact Nat.le_refl _), Option.bind_some, unats_ints]
  simp only
  rw [hln] at hpl
  rw [rInt_f (by omega) hmi, Option.bind_some, Option.bind_some, Int.emod_eq_of_lt (by omega) (by omega), if_pos (by rw [size_strOfNums, size_strOfNums]; simp; omega), str_app, if_pos (by rw [size_strOfNums, size_ints, hpl, List.length_append]; simp; omega), str_app]
  simp [List.append_assoc]
theorem rWith_l0 {l : List Int} (hI : I64 l) (hl : l.length ≤ 65536) {c : Int} (hc : c ≠ 1) : ∀ (d k i : Nat) (b : List Int), i + d = l.length → d + 14 < k → b.length + 9 * d ≤ 100000000 → tithebarnref04_With.l0 k l c (strOfNums b) (i : Int) = some (strOfNums (b ++ encL (l.drop i)), 0) := by
 intro d
 induction d with
 | zero =>
  intro k i b hi hk hb
  obtain ⟨k, rfl⟩ : ∃ m, k = m + 1 := ⟨k - 1, by omega⟩
  simp only [tithebarnref04_With.l0]
  rw [if_neg (by omega), List.drop_eq_nil_of_le (by omega)]; simp [encL]
 | succ d ih =>
  intro k i b hi hk hb
  obtain ⟨k, rfl⟩ : ∃ m, k = m + 1 := ⟨k - 1, by omega⟩
  have hlt : i < l.length := by omega
  have h9 := encI_len (x := rd l (i : Int))
  simp only [tithebarnref04_With.l0]
  rw [if_pos (by omega), if_pos (by omega), if_neg hc, rInt_f (by omega) (hI _ (rd_mem hlt)), Option.bind_some, if_pos (by rw [size_strOfNums, size_strOfNums]; omega), str_app, next_i (n := 0) (by omega), ih k (i + 1) _ (by omega) (by omega) (by rw [List.length_append]; omega), drop_rd hlt]
  simp [encL]
theorem rWith_l0d {l : List Int} (hI : I64 l) (hl : l.length ≤ 65536) : ∀ (d k i : Nat) (b : List Int), i + d = l.length → d + 14 < k → b.length + 9 * d ≤ 100000000 → tithebarnref04_With.l0 k l 1 (strOfNums b) (i : Int) = some (strOfNums (b ++ encL (deltas (if i = 0 then 0 else rd l ((i - 1 : Nat) : Int)) (l.drop i))), 0) := by
 intro d
 induction d with
 | zero =>
  intro k i b hi hk hb
  obtain ⟨k, rfl⟩ : ∃ m, k = m + 1 := ⟨k - 1, by omega⟩
  simp only [tithebarnref04_With.l0]
  rw [if_neg (by omega), List.drop_eq_nil_of_le (by omega)]; simp [encL, deltas]
 | succ d ih =>
  intro k i b hi hk hb
  obtain ⟨k, rfl⟩ : ∃ m, k = m + 1 := ⟨k - 1, by omega⟩
  have hlt : i < l.length := by omega
  have IH := fun b' hb' => ih k (i + 1) b' (by omega) (by omega) hb'
  rw [if_neg (by omega), Nat.add_sub_cancel] at IH
  simp only [tithebarnref04_With.l0]
  rw [if_pos (by omega), if_pos (by omega), if_pos trivial, next_i (n := 0) (by omega), drop_rd hlt, deltas]
  by_cases h0 : i = 0
  ·subst h0
   have hx := hI _ (rd_mem hlt)
   have h9 := encI_len (x := rd l ((0 : Nat) : Int))
   rw [if_neg (by omega), if_pos rfl, rInt_f (by omega) hx, Option.bind_some, if_pos (by rw [size_strOfNums, size_strOfNums]; omega), str_app, IH _ (by rw [List.length_append]; omega)]
   have e : wrap64 (rd l ((0 : Nat) : Int) - 0) = rd l ((0 : Nat) : Int) := by obtain ⟨a0, a1⟩ := hx; unfold wrap64; omega
   rw [e]
   simp [encL]
  ·have e0 : wrap64 ((i : Int) - 1) = ((i - 1 : Nat) : Int) := by rw [w64 (by omega) (by omega)]; omega
   obtain ⟨x, hx⟩ : ∃ x, rd l (i : Int) = x := ⟨_, rfl⟩
   obtain ⟨y, hy⟩ : ∃ y, rd l ((i - 1 : Nat) : Int) = y := ⟨_, rfl⟩
   have e : wrap64 (IntKind.u64.wrap (IntKind.u64.wrap x - IntKind.u64.wrap y)) = wrap64 (x - y) := by rw [wu64_def, wu64_def, wu64_def]; unfold wrap64; omega
   have h9 := encI_len (x := wrap64 (x - y))
   rw [if_pos (by omega), if_neg h0, e0, if_pos (by omega), if_pos (by omega), hy, hx, e, rInt_f (by omega) (wrap_i64 _), Option.bind_some, if_pos (by rw [size_strOfNums, size_strOfNums]; omega), str_app, IH _ (by rw [List.length_append]; omega), hx]
   simp [encL]
theorem rWith_f {l : List Int} (hI : I64 l) (a : Int) {k : Nat} (hk : 140509300 < k) : tithebarnref04_With.f k l a = some (if a < 0 ∨ 4 ≤ a then (⟨#[]⟩, 1) else if 65536 < l.length then (⟨#[]⟩, 3) else (strOfNums (EN a l), 0)) := by
 obtain ⟨k, rfl⟩ : ∃ m, k = m + 1 := ⟨k - 1, by omega⟩
 unfold tithebarnref04_With.f
 by_cases c : a < 0 ∨ 4 ≤ a
 ·rw [if_pos c]
  have : tithebarnref04_With.j0 (k + 1) l a true = some (⟨#[]⟩, 1) := by simp only [tithebarnref04_With.j0]; rw [if_pos trivial]
  by_cases c2 : a < 0
  ·rw [if_pos c2, this]
  ·rw [if_neg c2, decide_eq_true (by omega), this]
 ·rw [if_neg c, if_neg (by omega), decide_eq_false (by omega)]
  simp only [tithebarnref04_With.j0]
  rw [if_neg (by decide)]
  by_cases c2 : 65536 < l.length
  ·rw [if_pos (by omega), if_pos c2]
  ·have hl : l.length ≤ 65536 := by omega
   have h9 := encU_len (l.length : Int)
   rw [if_neg (by omega), if_neg c2, Option.bind_some, wu64 (by omega) (by omega), rUint_f (by omega) (by unfold u64; omega), Option.bind_some, if_pos (by rw [size_strOfNums, size_strOfNums]; simp; omega), str_app, Int.emod_eq_of_lt (by omega) (by omega)]
   have hEN : ∀ x, EN a x = [a] ++ encU (x.length : Int) ++ enc a x := fun x => by simp [EN]
   rw [hEN]
   unfold enc
   have hsz : ∀ x : List Int, (strOfNums ([a] ++ encU (l.length : Int))).size ≤ 100 := fun x => by rw [size_strOfNums, List.length_append]; simp; omega
   by_cases d2 : a = 2
   ·have hB := runsF_Bs l.length l hI hl
    rw [if_pos d2, if_neg (by omega), if_neg (by omega), if_pos d2, rRuns_f hI hl (by omega), Option.bind_some]
    have hrl : (runsB l).length ≤ 20 * l.length := runsF_len l.length l
    rw [if_pos (by rw [size_strOfNums (runsB l)]; have := hsz []; omega), str_app]
   ·rw [if_neg d2]
    by_cases d3 : a = 3
    ·rw [if_pos d3, if_neg (by omega), if_neg (by omega), if_neg (by omega), rPacked_f hI hl (by omega), Option.bind_some]
     have hpl := packB_len hI hl
     rw [if_pos (by rw [size_strOfNums (packB l)]; have := hsz []; omega), str_app]
    ·rw [if_neg d3]
     by_cases d1 : a = 1
     ·subst d1
      have := rWith_l0d hI hl l.length k 0 ([1] ++ encU (l.length : Int)) (by omega) (by omega) (by rw [List.length_append]; simp; omega)
      rw [if_neg (by omega), if_pos rfl]
      exact this
     ·have d0 : a = 0 := by omega
      have := rWith_l0 hI hl (c := a) d1 l.length k 0 ([a] ++ encU (l.length : Int)) (by omega) (by omega) (by rw [List.length_append]; simp; omega)
      rw [if_pos d0]
      exact this
where
 runsF_len : ∀ (f : Nat) (l : List Int), (runsF f l).length ≤ 20 * f
  | 0, _ => by simp [runsF]
  | f + 1, [] => by simp [runsF]
  | f + 1, x :: l => by
   have h1 := encU_len ((lead x l + 1 : Nat) : Int)
   have h2 := encI_len (x := x)
   have h3 := runsF_len f (l.drop (lead x l))
   rw [runsF, List.length_append, List.length_append]; omega
 packB_len {l : List Int} (hI : I64 l) (hl : l.length ≤ 65536) : (packB l).length ≤ 10000000 := by
  unfold packB
  split
  ·simp
  ·have h2 := encI_len (x := minL l)
   have hw := wd_offs hI
   have : l.length * wd (offs (minL l) l) ≤ 65536 * 64 := Nat.mul_le_mul hl hw
   rw [List.length_append, List.length_cons, ints_len, pk_len, offs_len]
   unfold need; omega
end Go.Proofs.Ytgeddoklmcjdcaa.G
namespace Go.Proofs.Ytgeddoklmcjdcaa.Pure
open Go.RowKit Go.Proofs.YtgeddoklmcjdcaaQ Go.Proofs.Ytgeddoklmcjdcaa.G Go.Proofs.YtgeddoklmcjdcaaW.PrintWords Go.Proofs.YtgeddoklmcjdcaaW.PrintLast Go.Proofs.YtgeddoklmcjdcaaW.PrintMore
theorem rWith_ok {l : List Int} (hI : I64 l) (hl : l.length ≤ 65536) {a : Int} (h0 : 0 ≤ a) (h4 : a < 4) {k : Nat} (hk : 140509300 < k) : tithebarnref04_With.f k l a = some (wk l a, 0) := by
 rw [rWith_f hI a hk, if_neg (by omega), if_neg (by omega)]; rfl
theorem rBest_step {l : List Int} (hI : I64 l) (hl : l.length ≤ 65536) {i : Nat} (hi : i < 4) (b : ByteArray) {k : Nat} (hk : 140509300 < k) : tithebarnref04_Best.l0 (k + 2) l b 0 (i : Int) = tithebarnref04_Best.l0 k l (sm (wk l (i : Int)) b) 0 ((i + 1 : Nat) : Int) := by
 rw [show k + 2 = (k + 1) + 1 from rfl]
 simp only [tithebarnref04_Best.l0]
 rw [if_pos (by omega)]
 simp only [tithebarnref04_Best.j1]
 rw [if_pos (show ((0 : Int) == 0) = true from rfl), rWith_ok hI hl (by omega) (by omega) hk, Option.bind_some, next_i (n := 0) (by omega)]
 simp only
 unfold sm
 by_cases c : (wk l (i : Int)).size < b.size
 ·rw [if_pos (by omega), if_pos c]
 ·rw [if_neg (by omega), if_neg c]
theorem rBest_f {l : List Int} (hI : I64 l) {k : Nat} (hk : 140509400 < k) : tithebarnref04_Best.f k l = some (if 65536 < l.length then (⟨#[]⟩, 3) else (bst l, 0)) := by
 unfold tithebarnref04_Best.f
 obtain ⟨k, rfl⟩ : ∃ m, k = m + 8 := ⟨k - 8, by omega⟩
 by_cases c : 65536 < l.length
 ·rw [rWith_f hI 0 (by omega), if_neg (by omega), if_pos c, Option.bind_some, if_pos c, show k + 8 = (k + 7) + 1 from rfl]
  simp only [tithebarnref04_Best.l0]
  rw [if_pos (by decide), show k + 7 = (k + 6) + 1 from rfl]
  simp only [tithebarnref04_Best.j1]
  rw [if_neg (by decide)]
 ·have hl : l.length ≤ 65536 := by omega
  rw [rWith_ok hI hl (by decide) (by decide) (by omega), if_neg c, Option.bind_some]
  simp only
  have h1 := rBest_step hI hl (i := 1) (by decide) (wk l 0) (k := k + 6) (by omega)
  have h2 := rBest_step hI hl (i := 2) (by decide) (sm (wk l 1) (wk l 0)) (k := k + 4) (by omega)
  have h3 := rBest_step hI hl (i := 3) (by decide) (sm (wk l 2) (sm (wk l 1) (wk l 0))) (k := k + 2) (by omega)
  refine h1.trans (h2.trans (h3.trans ?_))
  rw [show k + 2 = (k + 1) + 1 from rfl]
  simp only [tithebarnref04_Best.l0]
  rw [if_neg (by decide)]
  simp only [tithebarnref04_Best.j1]
  rw [if_neg (by decide)]; rfl
theorem Best_l0 {l : List Int} (hI : I64 l) {s : ByteArray} {e : Int} (hs : ∀ i : Int, 0 ≤ i → i < 4 → l.length ≤ 65536 → s.size ≤ (wk l i).size) : ∀ (d k i : Nat), i + d = 4 → d + 150001 < k → tithebarnlaw04_IntsBest.l0 k l s e s e (i : Int) = some true := by
 intro d
 induction d with
 | zero =>
  intro k i hi hk
  obtain ⟨k, rfl⟩ : ∃ m, k = m + 1 := ⟨k - 1, by omega⟩
  simp only [tithebarnlaw04_IntsBest.l0]
  rw [if_neg (by omega), if_pos trivial, beq_self_eq_true]
 | succ d ih =>
  intro k i hi hk
  obtain ⟨k, rfl⟩ : ∃ m, k = m + 1 := ⟨k - 1, by omega⟩
  have IH := ih k (i + 1) (by omega) (by omega)
  simp only [tithebarnlaw04_IntsBest.l0]
  have hlt : (i : Int) < 4 := by omega
  rw [if_pos hlt, next_i (n := 0) (by omega)]
  by_cases c : 65536 < l.length
  ·have hw : ints_With.f k l (i : Int) = some (⟨#[]⟩, 3) := by rw [With_f hI _ (by omega), if_neg (by omega), if_pos c]
   rw [hw, Option.bind_some]
   simp only
   rw [if_neg (by decide)]; exact IH
  ·have h := hs (i : Int) (by omega) (by omega) (by omega)
   rw [With_ok hI (by omega) (by omega) hlt (by omega), Option.bind_some]
   simp only
   rw [if_pos trivial, if_neg (by omega)]; exact IH
theorem IntsBest_all {k : Nat} (hk : 140509400 < k) {l : List Int} (hI : I64 l) : tithebarnlaw04_IntsBest.f k l = some true := by
 unfold tithebarnlaw04_IntsBest.f
 rw [lives_f (by omega), Option.bind_some, if_pos rfl]
 by_cases c : 65536 < l.length
 ·have h1 : ints_Best.f k l = some (⟨#[]⟩, 3) := by rw [Best_f hI (by omega), if_pos c]
  have h2 : tithebarnref04_Best.f k l = some (⟨#[]⟩, 3) := by rw [rBest_f hI hk, if_pos c]
  rw [h1, Option.bind_some, h2, Option.bind_some]
  simp only
  have h := Best_l0 hI (s := ⟨#[]⟩) (e := 3) (fun i h0 h4 hl => by omega) 4
  exact h k 0 rfl (by omega)
 ·have h1 : ints_Best.f k l = some (bst l, 0) := by rw [Best_f hI (by omega), if_neg c]
  have h2 : tithebarnref04_Best.f k l = some (bst l, 0) := by rw [rBest_f hI hk, if_neg c]
  rw [h1, Option.bind_some, h2, Option.bind_some]
  simp only
  have h := Best_l0 hI (s := bst l) (e := 0) (fun i h0 h4 hl => bst_le l h0 h4) 4
  exact h k 0 rfl (by omega)
theorem IntsBest : tithebarnlaw04_IntsBest.Pure := by
 intro l _ _ hwf
 obtain ⟨k, hk⟩ : ∃ k, 140509400 < k := ⟨140509401, by omega⟩
 exact ⟨k, IntsBest_all hk (wf_I64 hwf)⟩
end Go.Proofs.Ytgeddoklmcjdcaa.Pure
namespace Go.Proofs.YtgeddoklmcjdcaaW.PrintWords
open Go.ChangeShapes Go.WideShapes
theorem sized_ints {H : Type} {enc : TypeId × Value → H} {P : Program} {W : World} {base : Nat} {spare : Nat → Bool} {held : Bool} {t e : TypeId} {k : IntKind} {a : Option Addr} {len cap : Nat} {d : DataW H} {ps : List MemPlace} {ts : List TypeId} {ds : List (DataW H)} {j : Nat}
  (hsz : (DataW.weightsEach P ts ds).all (· ≤ reachBytes) = true) (ht : ts[j]? = some t) (hd : ds[j]? = some d) (hu : P.underlying t = some (.slice e)) (he : P.underlying e = some (.int k)) (hc : P.cellsOf e = 1) {B : Nat} (hB : P.bytesOf e = B)
  (h : DataW.Trod enc P W base spare held t (.slice a len cap) d ps) : len * B ≤ 140737488351232 := by
 obtain ⟨fuel, hf⟩ := h
 rcases open_ints hu he hc hf with ⟨hcs, _⟩ | ⟨x, l, c, zs, hcs, _, hl, _, hz, hx, _, _⟩
 ·simp [Value.cells] at hcs
  obtain ⟨rfl, rfl, rfl⟩ := hcs
  simp
 ·simp [Value.cells] at hcs
  obtain ⟨rfl, rfl, rfl⟩ := hcs
  obtain ⟨hx, _⟩ := Prod.mk.inj hx
  subst hx
  have z := sized_slice hsz ht hd hu
  rw [hB] at z
  have hl2 : len ≤ zs.length := by
   rw [hz]
   split
   ·exact hl
   ·exact Nat.le_refl _
  have h1 : (lits (H := H) k (zs.take len)).length + (lits (H := H) k (zs.drop len)).length = zs.length := by
   simp [lits]
   omega
  rw [h1] at z
  exact Nat.le_trans (Nat.mul_le_mul_right _ hl2) z
end Go.Proofs.YtgeddoklmcjdcaaW.PrintWords
