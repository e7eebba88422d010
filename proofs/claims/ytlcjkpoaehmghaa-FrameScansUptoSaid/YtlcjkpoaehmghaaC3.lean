import Derived.Test.YtlcjkpoaehmghaaC2
/-! The reference's scan of layer 8, in closed form. -/
namespace Go.Proofs.Ytlcjkpoaehmghaa.G
open Go.RowKit Go.Proofs.YtlcjkpoaehmghaaQ Go.Proofs.YtlcjkpoaehmghaaW.PrintWords Go.Proofs.YtlcjkpoaehmghaaW.PrintLast Go.Proofs.YtlcjkpoaehmghaaW.PrintMore
set_option linter.unusedVariables false
set_option linter.unusedSimpArgs false
theorem number_f {s : ByteArray} (hs : 4 ≤ s.size) : tithebarnref08_number.f s = some (num4 (bytesOf s)) := by
  unfold tithebarnref08_number.f
  have hB := Bs.bytesOf s
  have h0 := rd_Bs hB 0; have h1 := rd_Bs hB 1; have h2 := rd_Bs hB 2; have h3 := rd_Bs hB 3
  rw [if_pos (by omega), if_pos (by omega), if_pos (by omega), if_pos (by omega)]
  simp only [bt_rd]
  unfold num4
  congr 1; omega
theorem number_at {s : ByteArray} {a : Nat} (h : a + 4 ≤ s.size) : tithebarnref08_number.f (s.extract a (a + 4)) = some (num4 ((bytesOf s).drop a)) := by
  rw [number_f (by simp; omega), bytesOf_extract, List.drop_take]
  have e : a + 4 - a = 4 := by omega
  rw [e, num4_take _ 4 (Nat.le_refl _)]
theorem rScan_l0 (s : ByteArray) (hs : s.size ≤ 67108864) : ∀ (n k a : Nat) (acc : List ByteArray), s.size - a ≤ n → a ≤ s.size → n < k → acc.length + (s.size - a) < 8796093022208 →
    tithebarnref08_Scan.l0 k s acc a = some (told s.size acc (scan ((bytesOf s).drop a))) := by
  intro n
  induction n with
  | zero =>
    intro k a acc hn ha hk hl
    obtain ⟨k, rfl⟩ : ∃ m, k = m + 1 := ⟨k - 1, by omega⟩
    have hsz := bytesOf_size s
    have h0 : (bytesOf s).drop a = [] := List.drop_eq_nil_of_le (by omega)
    simp only [tithebarnref08_Scan.l0]
    rw [w64 (x := (s.size : Int) - (a : Int)) (by omega) (by omega), if_neg (by omega), h0, scan_part frI_nil]
    simp only [told, List.map_nil, List.append_nil, List.length_nil]
    congr 3; omega
  | succ n ih =>
    intro k a acc hn ha hk hl
    obtain ⟨k, rfl⟩ : ∃ m, k = m + 1 := ⟨k - 1, by omega⟩
    have hB := (Bs.bytesOf s).drop a
    have hsz := bytesOf_size s
    have hlen : ((bytesOf s).drop a).length = s.size - a := by rw [List.length_drop, hsz]
    have hnb := num4_bd hB
    simp only [tithebarnref08_Scan.l0]
    rw [w64 (x := (s.size : Int) - (a : Int)) (by omega) (by omega)]
    by_cases c1 : s.size - a < 4
    · have hf : frI ((bytesOf s).drop a) = .part := by unfold frI; rw [if_pos (by omega)]
      rw [if_neg (by omega), scan_part hf]
      simp only [told, List.map_nil, List.append_nil, hlen]
      congr 3; omega
    · have e4 : Aside0 (wrap64 ((a : Int) + 4) = ((a + 4 : Nat) : Int)) := ⟨by rw [w64 (by omega) (by omega)]; omega⟩
      rw [if_pos (by omega), if_pos (by omega), e4.out, if_pos (by omega), if_pos (by omega), Int.toNat_natCast, Int.toNat_natCast, number_at (by omega)]
      simp only [Option.bind_some]
      obtain ⟨m, hm⟩ : ∃ m : Nat, num4 ((bytesOf s).drop a) = m := ⟨(num4 ((bytesOf s).drop a)).toNat, by omega⟩
      have hfr : frI ((bytesOf s).drop a) = if 1048576 < m then .bad else if s.size - a < m + 8 then .part else if num4 ((bytesOf s).drop (a + (4 + m))) = ((crc (((bytesOf s).drop (a + 4)).take m) : Nat) : Int) then .whole (((bytesOf s).drop (a + 4)).take m) ((bytesOf s).drop (a + (8 + m))) else .bad := by
        unfold frI
        rw [hm, hlen, if_neg c1]
        simp only [Int.toNat_natCast, List.drop_drop]
        by_cases c2 : 1048576 < m
        · rw [if_pos (by omega), if_pos c2]
        · rw [if_neg (by omega), if_neg c2]
          by_cases c3 : s.size - a < m + 8
          · rw [if_pos (by omega), if_pos c3]
          · rw [if_neg (by omega), if_neg c3]
      rw [hm]
      by_cases c2 : 1048576 < m
      · rw [if_pos c2] at hfr
        rw [if_pos (by omega), scan_bad hfr]; rfl
      · rw [if_neg c2] at hfr
        have em : Aside0 (wrap64 (m : Int) = (m : Int)) := ⟨w64 (by omega) (by omega)⟩
        have em8 : Aside0 (wrap64 ((m : Int) + 8) = ((m + 8 : Nat) : Int)) := ⟨by rw [w64 (by omega) (by omega)]; omega⟩
        rw [if_neg (by omega), em.out, em8.out]
        by_cases c3 : s.size - a < m + 8
        · rw [if_pos c3] at hfr
          rw [if_pos (by omega), scan_part hfr]
          simp only [told, List.map_nil, List.append_nil, hlen]
          congr 3; omega
        · rw [if_neg c3] at hfr
          have e5 : Aside0 (wrap64 (((a + 4 : Nat) : Int) + (m : Int)) = ((a + 4 + m : Nat) : Int)) := ⟨by rw [w64 (by omega) (by omega)]; omega⟩
          have e6 : Aside0 (wrap64 ((a : Int) + 8) = ((a + 8 : Nat) : Int)) := ⟨by rw [w64 (by omega) (by omega)]; omega⟩
          have e7 : Aside0 (wrap64 (((a + 8 : Nat) : Int) + (m : Int)) = ((a + 4 + m + 4 : Nat) : Int)) := ⟨by rw [w64 (by omega) (by omega)]; omega⟩
          have e8 : Aside0 (wrap64 ((a : Int) + ((m + 8 : Nat) : Int)) = ((a + (8 + m) : Nat) : Int)) := ⟨by rw [w64 (by omega) (by omega)]; omega⟩
          rw [if_neg (by omega), e5.out, e6.out, e7.out, e8.out, if_pos (by omega), if_pos (by omega), if_pos (by omega), if_pos (by omega), if_pos (by omega), if_pos (by omega), Int.toNat_natCast, Int.toNat_natCast, number_at (by omega)]
          simp only [Option.bind_some]
          have htx : bytesOf (s.extract (a + 4) (a + 4 + m)) = ((bytesOf s).drop (a + 4)).take m := by
            rw [bytesOf_extract, List.drop_take]; congr 1; omega
          rw [rsum_f (by simp; omega)]
          simp only [Option.bind_some]
          rw [htx]
          have ea : a + (4 + m) = a + 4 + m := by omega
          rw [ea] at hfr
          by_cases c4 : num4 ((bytesOf s).drop (a + 4 + m)) = ((crc (((bytesOf s).drop (a + 4)).take m) : Nat) : Int)
          · rw [if_pos c4] at hfr
            rw [if_pos c4, if_pos (by omega)]
            have htx2 : s.extract (a + 4) (a + 4 + m) = strOfNums (((bytesOf s).drop (a + 4)).take m) := by rw [← htx, strOfNums_bytesOf]
            rw [ih k (a + (8 + m)) _ (by omega) (by omega) (by omega) (by simp; omega), scan_whole hB hfr, told_cons, htx2]
          · rw [if_neg c4] at hfr
            rw [if_neg c4, scan_bad hfr]; rfl
theorem rScan_f {k : Nat} {s : ByteArray} (hs : s.size ≤ 67108864) (hk : s.size < k) : tithebarnref08_Scan.f k s = some (told s.size [] (scan (bytesOf s))) := by
  unfold tithebarnref08_Scan.f
  have := rScan_l0 s hs s.size k 0 [] (by omega) (by omega) hk (by simp; omega)
  rw [List.drop_zero] at this
  exact this
theorem rAll_f {k : Nat} {s : ByteArray} (hs : s.size ≤ 67108864) (hk : s.size < k) : tithebarnref08_All.f k s = frame_All.f k s := by
  unfold tithebarnref08_All.f frame_All.f
  rw [rScan_f hs hk, Scan_f hs hk]
theorem told_len {n : Nat} (s : ByteArray) : (told n [] (scan (bytesOf s))).1.length ≤ s.size := by
  cases hsc : scan (bytesOf s) with
  | none => simp [told]
  | some p =>
    obtain ⟨ts, q⟩ := p
    have hq := scan_Bs _ _ (Nat.le_refl _) (Bs.bytesOf s) ts q hsc
    have hsz := bytesOf_size s
    simp only [told, List.nil_append, List.length_map]
    omega
theorem allT_len (s : ByteArray) : (allT (scan (bytesOf s))).1.length ≤ s.size := by
  cases hsc : scan (bytesOf s) with
  | none => simp [allT]
  | some p =>
    obtain ⟨ts, q⟩ := p
    have hq := scan_Bs _ _ (Nat.le_refl _) (Bs.bytesOf s) ts q hsc
    have hsz := bytesOf_size s
    show (if q = [] then (ts.map strOfNums, (0 : Int)) else ([], 2)).1.length ≤ s.size
    by_cases c : q = []
    · rw [if_pos c]; show (ts.map strOfNums).length ≤ _; rw [List.length_map]; omega
    · rw [if_neg c]; exact Nat.zero_le _
theorem FrameScans_pure {s : ByteArray} (hs : s.size ≤ 1048576) : tithebarnlaw08_FrameScans.f (s.size + 1) s = some true := by
  unfold tithebarnlaw08_FrameScans.f tithebarnlaw08_lives.f
  have hl := told_len (n := s.size) s
  have hl2 := allT_len s
  rw [Option.bind_some, if_pos rfl, rAll_f (by omega) (by omega), rScan_f (by omega) (by omega), Scan_f (by omega) (by omega), All_f (by omega) (by omega)]
  rw [Option.bind_some, Option.bind_some, Option.bind_some, Option.bind_some, if_pos rfl, if_pos rfl, Same_f (by omega) (by omega), Option.bind_some, if_pos rfl, if_pos rfl, Same_f (by omega) (by omega), Option.bind_some]
theorem FrameScans.law (s : ByteArray) (w : World) (hs : s.size ≤ maxLen) (hb : s.size + 1 ≤ 1048576) :
    Calls Try.prog 6 #[.string s] w fun e w' => e = .returned (.bool true) ∧ Below w.heap.size w w' :=
  tithebarnlaw08_FrameScans.calls (s.size + 1) s true w (FrameScans_pure (by omega))
end Go.Proofs.Ytlcjkpoaehmghaa.G
