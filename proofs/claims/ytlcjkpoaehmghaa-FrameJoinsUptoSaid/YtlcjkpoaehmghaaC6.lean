import Derived.Test.YtlcjkpoaehmghaaC5
/-! FrameTorn and FrameJoins, in closed form. -/
namespace Go.Proofs.Ytlcjkpoaehmghaa.G
open Go.RowKit Go.Proofs.YtlcjkpoaehmghaaQ Go.Proofs.YtlcjkpoaehmghaaW.PrintWords Go.Proofs.YtlcjkpoaehmghaaW.PrintLast Go.Proofs.YtlcjkpoaehmghaaW.PrintMore
set_option linter.unusedVariables false
set_option linter.unusedSimpArgs false
theorem fE_mono {l : List ByteArray} {i j : Nat} (h : i ≤ j) (hj : j ≤ l.length) : fE l i ≤ fE l j := by
  induction j with
  | zero => have : i = 0 := by omega
            subst this; exact Nat.le_refl _
  | succ j ih =>
    by_cases e : i = j + 1
    · subst e; exact Nat.le_refl _
    · have := ih (by omega) (by omega)
      rw [fE_succ (show j < l.length by omega)]; omega
/-- How many frames are whole in a beginning. -/
theorem fE_which (l : List ByteArray) (K : Nat) : ∀ (d i : Nat), i + d = l.length → fE l i ≤ K → ∃ m, i ≤ m ∧ m ≤ l.length ∧ fE l m ≤ K ∧ (m < l.length → K < fE l (m + 1)) := by
  intro d
  induction d with
  | zero => intro i hi hK; exact ⟨i, Nat.le_refl _, by omega, hK, fun h => by omega⟩
  | succ d ih =>
    intro i hi hK
    by_cases c : fE l (i + 1) ≤ K
    · obtain ⟨m, h1, h2, h3, h4⟩ := ih (i + 1) (by omega) c
      exact ⟨m, by omega, h2, h3, h4⟩
    · exact ⟨i, Nat.le_refl _, by omega, hK, fun _ => by omega⟩
def ends (l : List ByteArray) (i : Nat) : List Int := (List.range i).map fun j => ((fE l (j + 1) : Nat) : Int)
theorem ends_len (l : List ByteArray) (i : Nat) : (ends l i).length = i := by simp [ends]
theorem ends_succ (l : List ByteArray) (i : Nat) : ends l (i + 1) = ends l i ++ [((fE l (i + 1) : Nat) : Int)] := by simp [ends, List.range_succ]
theorem ends_rd {l : List ByteArray} {n i : Nat} (h : i < n) : rd (ends l n) (i : Int) = ((fE l (i + 1) : Nat) : Int) := by
  unfold rd ends
  rw [Int.toNat_natCast, List.getD_eq_getElem?_getD, List.getElem?_map, List.getElem?_range h]; rfl
theorem Torn_l1 (l : List ByteArray) (hl : l.length ≤ 67108864) (K m : Nat) (hm : m ≤ l.length) (h1 : fE l m ≤ K) (h2 : m < l.length → K < fE l (m + 1)) : ∀ (d k i : Nat), i + d = m → d + l.length + 1 < k →
    tithebarnlaw08_FrameTorn.l1 k l (ends l l.length) K (l.take m) ((fE l m : Nat) : Int) 0 i = some true := by
  intro d
  induction d with
  | zero =>
    intro k i hi hk
    obtain rfl : i = m := by omega
    obtain ⟨k, rfl⟩ : ∃ m, k = m + 1 := ⟨k - 1, by omega⟩
    have hS : tithebarnref05_Same.f k (l.take i) (l.take ((i : Int)).toNat) = some true := by
      rw [Int.toNat_natCast]
      exact Same_f (by rw [List.length_take]; omega) (by rw [List.length_take]; omega)
    simp only [tithebarnlaw08_FrameTorn.l1, ends_len]
    have htail : (if (i : Int) > 0 then (if 0 ≤ (wrap64 ((i : Int) - 1)) then (if (wrap64 ((i : Int) - 1)) < (l.length : Int) then (if (0 : Int) = 0 then (if ((fE l i : Nat) : Int) = (rd (ends l l.length) (wrap64 ((i : Int) - 1))) then (if (i : Int) ≤ (l.length : Int) then ((tithebarnref05_Same.f k (l.take i) (l.take ((i : Int)).toNat)).bind fun t204 => (some t204)) else (none)) else (some false)) else (some false)) else (none)) else (none)) else (if (0 : Int) = 0 then (if ((fE l i : Nat) : Int) = 0 then (if (i : Int) ≤ (l.length : Int) then ((tithebarnref05_Same.f k (l.take i) (l.take ((i : Int)).toNat)).bind fun t206 => (some t206)) else (none)) else (some false)) else (some false))) = some true := by
      by_cases c0 : i = 0
      · subst c0
        rw [if_neg (by omega), if_pos rfl, if_pos (by rw [fE_zero]; rfl), if_pos (by omega), hS]; rfl
      · have e1 : wrap64 ((i : Int) - 1) = ((i - 1 : Nat) : Int) := by rw [w64 (by omega) (by omega)]; omega
        rw [e1, if_pos (by omega), if_pos (by omega), if_pos (by omega), if_pos rfl, ends_rd (by omega), show i - 1 + 1 = i by omega, if_pos rfl, if_pos (by omega), hS]; rfl
    by_cases c : i < l.length
    · have h3 := h2 c
      rw [if_pos (by omega), if_pos (by omega), ends_rd c, if_neg (by omega)]
      exact htail
    · rw [if_neg (by omega)]
      have hS2 : ∀ (o : Option Bool), (if 0 ≤ (i : Int) then o else none) = o := fun o => if_pos (by omega)
      simp only [hS2]
      exact htail
  | succ d ih =>
    intro k i hi hk
    obtain ⟨k, rfl⟩ : ∃ m, k = m + 1 := ⟨k - 1, by omega⟩
    have h3 := fE_mono (l := l) (show i + 1 ≤ m by omega) hm
    have e : wrap64 ((i : Int) + 1) = ((i + 1 : Nat) : Int) := by rw [w64 (by omega) (by omega)]; omega
    simp only [tithebarnlaw08_FrameTorn.l1, ends_len]
    rw [if_pos (by omega), if_pos (by omega), ends_rd (by omega), if_pos (by omega), e]
    exact ih k (i + 1) (by omega) (by omega)
theorem u64w (x : Int) : IntKind.u64.wrap x = x % 18446744073709551616 := by simp [IntKind.wrap, IntKind.bits, IntKind.signed]
theorem Torn_l0 (l : List ByteArray) (h : ∀ x ∈ l, x.size ≤ 1048576) (hz : (frms l).length ≤ 67108864) (hl : l.length ≤ 67108864) (cut : Int) : ∀ (d k i : Nat) (s : ByteArray), i + d = l.length → bytesOf s = frms (l.take i) → d + 134217800 < k →
    tithebarnlaw08_FrameTorn.l0 k l cut s (ends l i) i = some true := by
  intro d
  induction d with
  | zero =>
    intro k i s hi hs hk
    obtain ⟨k, rfl⟩ : ∃ m, k = m + 1 := ⟨k - 1, by omega⟩
    obtain rfl : i = l.length := by omega
    rw [List.take_of_length_le (Nat.le_refl _)] at hs
    have hsz : s.size = (frms l).length := by rw [size_eq, hs]
    have e1 : wrap64 ((s.size : Int) + 1) = (s.size : Int) + 1 := w64 (by omega) (by omega)
    have e2 : IntKind.u64.wrap ((s.size : Int) + 1) = (s.size : Int) + 1 := by rw [u64w]; omega
    obtain ⟨K, hK, hKl⟩ : ∃ K : Nat, wrap64 (Int.tmod (IntKind.u64.wrap cut) ((s.size : Int) + 1)) = (K : Int) ∧ K ≤ s.size := by
      have hc : 0 ≤ IntKind.u64.wrap cut := by rw [u64w]; omega
      have e3 : Int.tmod (IntKind.u64.wrap cut) ((s.size : Int) + 1) = (IntKind.u64.wrap cut) % ((s.size : Int) + 1) := Int.tmod_eq_emod_of_nonneg hc
      have h0 := Int.emod_nonneg (IntKind.u64.wrap cut) (show (s.size : Int) + 1 ≠ 0 by omega)
      have h1 := Int.emod_lt_of_pos (IntKind.u64.wrap cut) (show 0 < (s.size : Int) + 1 by omega)
      refine ⟨((IntKind.u64.wrap cut) % ((s.size : Int) + 1)).toNat, ?_, by omega⟩
      rw [e3, w64 (by omega) (by omega)]; omega
    simp only [tithebarnlaw08_FrameTorn.l0]
    rw [if_neg (by omega), e1, e2, hK, if_neg (by omega), if_pos (by omega), if_pos (by omega), Int.toNat_natCast]
    have hxs : (s.extract 0 K).size = K := by simp; omega
    have hxb : bytesOf (s.extract 0 K) = (frms l).take K := by rw [bytesOf_extract, hs, List.drop_zero]
    obtain ⟨m, _, hm, h1, h2⟩ := fE_which l K l.length 0 (by omega) (by rw [fE_zero]; omega)
    rw [Scan_f (by omega) (by omega), hxs, hxb, torn_scan h hm h1 (by omega) h2]
    simp only [Option.bind_some]
    exact Torn_l1 l hl K m hm h1 h2 m k 0 (by omega) (by omega)
  | succ d ih =>
    intro k i s hi hs hk
    obtain ⟨k, rfl⟩ : ∃ m, k = m + 1 := ⟨k - 1, by omega⟩
    have hx := h _ (List.getElem_mem (show i < l.length by omega))
    have e : wrap64 ((i : Int) + 1) = ((i + 1 : Nat) : Int) := by rw [w64 (by omega) (by omega)]; omega
    have h1 := frms_take l i
    have h2 : s.size = fE l i := by rw [size_eq, hs]; rfl
    have h3 := fE_le l i
    have h4 := fE_succ (show i < l.length by omega)
    simp only [tithebarnlaw08_FrameTorn.l0, ends_len]
    rw [if_pos (by omega), if_pos (by omega), rdOf_get (by omega), Write_f (by omega) (by omega)]
    simp only [Option.bind_some]
    have e5 : (s.size : Int) + ((strOfNums (frm (bytesOf l[i]))).size : Int) = ((fE l (i + 1) : Nat) : Int) := by rw [size_strOfNums, frm_len, bytesOf_size]; omega
    rw [if_pos (by rw [size_strOfNums, frm_len, bytesOf_size]; omega), if_pos (by omega), e, e5, ← ends_succ]
    exact ih k (i + 1) _ (by omega) (by rw [bytesOf_append, bytesOf_strOfNums (frm_Bs (Bs.bytesOf _)), hs, take_succ' (by omega), frms_snoc]) (by omega)
theorem Torn_pure {l : List ByteArray} (h : ∀ x ∈ l, x.size ≤ 1048576) (hz : (frms l).length ≤ 67108864) (hl : l.length ≤ 67108864) (cut : Int) : tithebarnlaw08_FrameTorn.f 300000000 l cut = some true := by
  unfold tithebarnlaw08_FrameTorn.f tithebarnlaw08_lives.f
  simp only [Option.bind_some]
  rw [if_pos trivial, long_f hl h (by omega)]
  simp only [Option.bind_some]
  obtain ⟨k, hk⟩ : ∃ k, 300000000 = k + 1 := ⟨299999999, rfl⟩
  rw [hk]
  simp only [tithebarnlaw08_FrameTorn.j0]
  rw [if_neg (by simp)]
  exact Torn_l0 l h hz hl cut l.length k 0 _ (by omega) rfl (by omega)
theorem FrameTorn.law (A : Option Addr) (c0 : Nat) (l : List ByteArray) (cut : Int) (w : World) (hc : l.length ≤ c0) (hr : Kd.string.C w A l.length l) (hm : l.length ≤ maxLen) (hok : ∀ x ∈ l, x.size ≤ maxLen) (hcut : (Lit.int .i64 cut).wf = true) (hb : ((l.map fun s => s.size + 1).sum + 1) ≤ 1048576) :
    Calls Try.prog 4 #[.slice A l.length c0, .int .i64 cut] w fun e w' => e = .returned (.bool true) ∧ Below w.heap.size w w' := by
  have hb' : (l.map BS).sum + 1 ≤ 1048576 := hb
  have h1 := BS_len l
  have h2 := frms_len l
  exact tithebarnlaw08_FrameTorn.calls 300000000 A c0 l cut true w hr hc (Torn_pure (fun x hx => by have := BS_mem hx; omega) (by omega) (by omega) cut)
theorem Joins_pure {a b : ByteArray} (ha : a.size ≤ 1048576) (hb : b.size ≤ 1048576) {k : Nat} (hk : 4000000 ≤ k) : tithebarnlaw08_FrameJoins.f k a b = some true := by
  unfold tithebarnlaw08_FrameJoins.f tithebarnlaw08_lives.f
  have hab : (a ++ b).size = a.size + b.size := ByteArray.size_append
  rw [Option.bind_some, if_pos rfl, All_f (by omega) (by omega), Option.bind_some, Scan_f (by omega) (by omega), Option.bind_some, if_pos (by omega), Scan_f (by omega) (by omega), Option.bind_some, bytesOf_append, hab]
  have happ := scan_app (bytesOf a).length (bytesOf a) (Nat.le_refl _) (Bs.bytesOf a) (bytesOf b) (Bs.bytesOf b)
  have sa := bytesOf_size a
  have sb := bytesOf_size b
  cases hsa : scan (bytesOf a) with
  | none =>
    rw [happ.1 hsa]
    rfl
  | some p =>
    obtain ⟨ts, q⟩ := p
    have hqa := scan_Bs _ _ (Nat.le_refl _) (Bs.bytesOf a) ts q hsa
    by_cases hq : q = []
    · subst hq
      have h2 := happ.2 ts hsa
      have ea : allT (some (ts, ([] : List Int))) = (ts.map strOfNums, 0) := rfl
      rw [h2, ea]
      cases hsb : scan (bytesOf b) with
      | none => rfl
      | some p2 =>
        obtain ⟨us, q2⟩ := p2
        have hqb := scan_Bs _ _ (Nat.le_refl _) (Bs.bytesOf b) us q2 hsb
        have e1 : wrap64 ((a.size : Int) + ((b.size - q2.length : Nat) : Int)) = ((a.size + b.size - q2.length : Nat) : Int) := by rw [w64 (by omega) (by omega)]; omega
        have l1 : (ts.map strOfNums).length ≤ 1048576 := by rw [List.length_map]; omega
        have l2 : (us.map strOfNums).length ≤ 1048576 := by rw [List.length_map]; omega
        have t2 : told b.size [] (some (us, q2)) = (us.map strOfNums, ((b.size - q2.length : Nat) : Int), 0) := by simp [told]
        have t3 : told (a.size + b.size) [] (Option.map (fun p => (ts ++ p.1, p.2)) (some (us, q2))) = (ts.map strOfNums ++ us.map strOfNums, ((a.size + b.size - q2.length : Nat) : Int), 0) := by simp [told]
        rw [t2, t3]
        generalize ts.map strOfNums = T at *
        generalize us.map strOfNums = U at *
        generalize ((a.size + b.size - q2.length : Nat) : Int) = M at *
        generalize ((b.size - q2.length : Nat) : Int) = M2 at *
        have hS := Same_f (k := k) (l := T ++ U) (by rw [List.length_append]; omega) (by rw [List.length_append]; omega)
        have g1 : ([] : List ByteArray).length + T.length < 8796093022208 := by rw [List.length_nil]; omega
        have g2 : T.length + U.length < 8796093022208 := by omega
        have e1' := e1.symm
        show (if (0 : Int) = 2 then some true else if (0 : Int) = 0 then (if (0 : Int) = 0 then (if (0 : Int) = 0 then (if M = wrap64 ((a.size : Int) + M2) then (if ([] : List ByteArray).length + T.length < 8796093022208 then ((some (([] : List ByteArray) ++ T)).bind fun y227 => (if y227.length + U.length < 8796093022208 then ((tithebarnref05_Same.f k (T ++ U) (y227 ++ U)).bind fun t233 => (some t233)) else none)) else none) else some false) else some false) else _) else _) = some true
        rw [if_neg (by decide), if_pos rfl, if_pos rfl, if_pos rfl, if_pos e1', if_pos g1, Option.bind_some, List.nil_append, if_pos g2, hS]
        rfl
    · have ea : allT (some (ts, q)) = ([], 2) := if_neg hq
      rw [ea]; rfl
theorem FrameJoins.law (a b : ByteArray) (w : World) (ha : a.size ≤ maxLen) (hb : b.size ≤ maxLen) (hk : a.size + 1 + (b.size + 1) ≤ 1048576) :
    Calls Try.prog 8 #[.string a, .string b] w fun e w' => e = .returned (.bool true) ∧ Below w.heap.size w w' :=
  tithebarnlaw08_FrameJoins.calls 10000000 a b true w (Joins_pure (by omega) (by omega) (by omega))
end Go.Proofs.Ytlcjkpoaehmghaa.G
