import Derived.Test.YtlcjkpoaehmghaaZC2
import Derived.Test.YtlcjkpoaehmghaaZQV
import Derived.Test.YtlcjkpoaehmghaaZQR
import Derived.Deep.LoopGhost
import Derived.Lib.ConvBytes
import Derived.Lib.AtoiErrMem
import Derived.Laws.BytesArg
namespace Go.Proofs.Ytlcjkpoaehmghaa.G
open Go.RowKit Go.Proofs.YtlcjkpoaehmghaaQ Go.Proofs.YtlcjkpoaehmghaaW.PrintWords Go.Proofs.YtlcjkpoaehmghaaW.PrintLast Go.Proofs.YtlcjkpoaehmghaaW.PrintMore
set_option linter.unusedVariables false
set_option linter.unusedSimpArgs false
def FB (w0 w : World) (B : Nat) (L : List Int) : Prop := w0.heap.size ≤ B ∧ ∃ C : Array Value, w.heap[B]? = some (.cells C 5 (C.size, C.size + 1)) ∧ ∀ j : Nat, j < L.length → C[j]? = some (.int .u8 (rd L (j : Int)))
section
variable {w0 w w' : World} {B : Nat} {L : List Int}
theorem FB.cell (h : FB w0 w B L) {j : Nat} (hj : j < L.length) : w.cell? ⟨B, j, none⟩ = some (.int .u8 (rd L (j : Int))) := by
  obtain ⟨_, C, h1, h2⟩ := h
  exact (cell_of_row w B j C 5 _ h1).trans (h2 j hj)
theorem FB.free (h : FB w0 w B L) {j : Nat} (hj : j < L.length) : w.frozen? ⟨B, j, none⟩ = false := by
  obtain ⟨_, C, h1, h2⟩ := h
  have := (Array.getElem?_eq_some_iff.1 (h2 j hj)).1
  simp [World.frozen?, h1]; omega
theorem FB.lt (h : FB w0 w B L) : B < w.heap.size := by
  obtain ⟨_, C, h1, _⟩ := h
  exact blk_lt h1
theorem FB.below (h : FB w0 w B L) (hb : Below w.heap.size w w') : FB w0 w' B L := by
  have hl := h.lt
  obtain ⟨h0, C, h1, h2⟩ := h
  exact ⟨h0, C, (hb.block B hl).trans h1, h2⟩
theorem FB.set (h : FB w0 w B L) {j : Nat} (hj : j < L.length) (x : Int) : FB w0 (w.setCell ⟨B, j, none⟩ (.int .u8 x)) B (L.set j x) := by
  obtain ⟨h0, C, h1, h2⟩ := h
  refine ⟨h0, C.setIfInBounds j (.int .u8 x), ?_, fun i hi => ?_⟩
  · simp [World.setCell, Array.getElem?_modify, h1]
  · rw [List.length_set] at hi
    rw [Array.getElem?_setIfInBounds]
    have hc := (Array.getElem?_eq_some_iff.1 (h2 j hj)).1
    by_cases e : j = i
    · subst e
      simp [hc, rd, List.getD_eq_getElem?_getD, List.getElem?_set, hj]
    · rw [if_neg e, h2 i hi]
      simp [rd, List.getD_eq_getElem?_getD, List.getElem?_set, e]
theorem FB.new (hw : w0.heap.size ≤ w.heap.size) (s : ByteArray) : FB w0 (Lib.bytesWorld w 5 s) w.heap.size (bytesOf s) := by
  refine ⟨hw, _, Lib.bytesWorld_at_new w 5 s, fun j hj => ?_⟩
  rw [bytesOf_size] at hj
  have := Lib.bytesWorld_cell w 5 s j hj
  rw [cell_of_row _ _ _ _ _ _ (Lib.bytesWorld_at_new w 5 s)] at this
  rw [this]
  have h : j < s.data.toList.length := by simpa using hj
  simp [rd, bytesOf, List.getD_eq_getElem?_getD, List.getElem?_eq_getElem h]
end
set_option maxHeartbeats 4000000 in
set_option maxRecDepth 100000 in
theorem Burst.long (ah s : ByteArray) (x y : Int) (w : World) (h : 1048576 < s.size ∨ 1048576 < ah.size) :
    Calls Try.prog 5 #[.string ah, .string s, .agg #[.int .i64 x, .int .u32 y]] w fun e w' => e = .returned (.bool true) ∧ Below w.heap.size w w' := by
  obtain ⟨b1, h1⟩ : ∃ b1, decide ((1048576 : Int) < (s.size : Int)) = b1 := ⟨_, rfl⟩
  obtain ⟨b2, h2⟩ : ∃ b2, decide ((1048576 : Int) < (ah.size : Int)) = b2 := ⟨_, rfl⟩
  have h3 : b1 = true ∨ b2 = true := by rw [← h1, ← h2]; simp; omega
  have h1' : decide (1048576 < s.size) = b1 := by rw [← h1]; simp; omega
  have h2' : decide (1048576 < ah.size) = b2 := by rw [← h2]; simp; omega
  clear h
  cases b1 <;> cases b2
  · simp at h3
  all_goals
    clear h3
    go_enter Try.func5, Try.ntmps5
    go_wp2_with fail
    refine (tithebarnlaw08_lives.calls true _ rfl).mono ?_; rintro e w1 ⟨rfl, hb1⟩
    have HB1 := Aside0.mk hb1; clear hb1
    go_wp2_with fail
    refine (tithebarnlaw08_lives.calls true _ rfl).mono ?_; rintro e w2 ⟨rfl, hb2⟩
    have HB2 := Aside0.mk (below_then HB1.out HB1.out.size hb2); clear hb2
    go_wp2
    go_ret
    exact ⟨rfl, below_then (below_alloc (Below.refl w.heap.size w) _) (below_alloc (Below.refl w.heap.size w) (.cells #[.int .i64 x, .int .u32 y] 37)).size HB2.out⟩
set_option maxHeartbeats 4000000 in
set_option maxRecDepth 100000 in
theorem Burst.walk (ah s : ByteArray) (x y : Int) (w : World) (hs : s.size ≤ 1048576) (ha : ah.size ≤ 1048576) (hx : i64 x) (hy : 0 ≤ y ∧ y < 4294967296) :
    Calls Try.prog 5 #[.string ah, .string s, .agg #[.int .i64 x, .int .u32 y]] w fun e w' => e = .returned (.bool true) ∧ Below w.heap.size w w' := by
  have h1 : decide ((1048576 : Int) < (s.size : Int)) = false := by simp; omega
  have h1' : decide (1048576 < s.size) = false := by simp; omega
  have h2 : decide ((1048576 : Int) < (ah.size : Int)) = false := by simp; omega
  have h2' : decide (1048576 < ah.size) = false := by simp; omega
  have hW1 := Aside0.mk (Write_f (k := 5) (by omega) (s := ah) (by omega))
  have hW2 := Aside0.mk (Write_f (k := 5) (by omega) (s := s) (by omega))
  have HSZ := Aside0.mk (show (strOfNums (frm (bytesOf s))).size = s.size + 8 by rw [size_strOfNums, frm_len, bytesOf_size])
  have HX := Aside0.mk hx; have HY := Aside0.mk hy; have HS := Aside0.mk hs; have HA := Aside0.mk ha
  obtain ⟨SB, hSB⟩ : ∃ SB, strOfNums (frm (bytesOf s)) = SB := ⟨_, rfl⟩
  rw [hSB] at hW2 HSZ
  have HSB := Aside0.mk hSB
  clear hSB hx hy hs ha
  have hcv := fun (W : World) (t : ByteArray) => Lib.run_convert_string_bytes (P := Try.prog) W 9 38 5 t Try.underlying9 Try.underlying38 Try.underlying5
  go_enter Try.func5, Try.ntmps5
  go_wp2_with fail
  refine (tithebarnlaw08_lives.calls true _ rfl).mono ?_; rintro e w1 ⟨rfl, hb1⟩
  have HB1 := Aside0.mk hb1; clear hb1
  go_wp2_with fail
  refine (frame_Write.calls 5 ah _ _ hW1.out).mono ?_; rintro e w2 ⟨rfl, hb2⟩
  have HB2 := Aside0.mk hb2; clear hb2
  go_wp2_with fail
  refine (frame_Write.calls 5 s _ _ hW2.out).mono ?_; rintro e w3 ⟨rfl, hb3⟩
  have HB3 := Aside0.mk hb3; clear hb3
  have hsz := HSZ.out; have hs0 := HS.out; have hs1 : 0 ≤ (s.size : Int) := by omega
  have HE : Aside0 (w3.heap[w.heap.size]? = some (.cells #[.int .i64 x, .int .u32 y] 37 (0, 0))) := by
    have q0 := heap_alloc_new w (.cells #[.int .i64 x, .int .u32 y] 37)
    have q1 := (HB1.out.block _ (blk_lt q0)).trans q0
    have q2 := (HB2.out.block _ (blk_lt q1)).trans q1
    exact ⟨(HB3.out.block _ (blk_lt q2)).trans q2⟩
  have HB : Aside0 (Below w.heap.size w w3) := by
    have b1 := below_alloc (Below.refl w.heap.size w) (.cells #[.int .i64 x, .int .u32 y] 37)
    have b2 := below_then b1 b1.size HB1.out
    have b3 := below_then b2 b2.size HB2.out
    exact ⟨below_then b3 b3.size HB3.out⟩
  clear HB1 HB2 HB3
  go_upto_region 6 with (fail)
  have HF := Aside0.mk (FB.new HB.out.size SB)
  have hbb := Lib.bytesWorld_below w3 5 SB
  have HE4 := Aside0.mk ((hbb.block _ (blk_lt HE.out)).trans HE.out)
  have HB4 := Aside0.mk (below_then HB.out HB.out.size hbb)
  have HNE : Aside0 (w3.heap.size ≠ w.heap.size) := ⟨by have := blk_lt HE.out; omega⟩
  clear hbb HE HB
  generalize w3.heap.size = B at HF HNE ⊢
  generalize Lib.bytesWorld w3 5 SB = w4 at HF HE4 HB4 ⊢
  generalize grownCap w3 SB.size 0 5 = cp
  have q0 : w4.cell? ⟨w.heap.size, 0, none⟩ = some (.int .i64 x) := (blk_cell HE4.out 0).trans rfl
  go_wp2_with fail
  clear q0
  obtain ⟨n, hn, hnM⟩ : ∃ n : Nat, 8 * ((s.size : Int) + 8 - 4) = (n : Int) ∧ n = 8 * (s.size + 4) := ⟨8 * (s.size + 4), by omega, rfl⟩
  rw [hn]
  obtain ⟨a, ha, han⟩ : ∃ a : Nat, wrap64 ((IntKind.u64.wrap x).tmod (n : Int)) = (a : Int) ∧ a < n := by
    have h0 : 0 ≤ IntKind.u64.wrap x := by simp [IntKind.wrap, IntKind.bits, IntKind.signed]; omega
    rw [Int.tmod_eq_emod_of_nonneg h0]
    have h3 : 0 ≤ IntKind.u64.wrap x % (n : Int) := Int.emod_nonneg _ (by omega)
    have h4 : IntKind.u64.wrap x % (n : Int) < n := Int.emod_lt_of_pos _ (by omega)
    generalize IntKind.u64.wrap x % (n : Int) = z at *
    exact ⟨z.toNat, by rw [w64 (by omega) (by omega)]; omega, by omega⟩
  rw [ha]
  have HN := Aside0.mk hnM; have HAN := Aside0.mk han
  have hsz' := hsz
  clear hn ha hsz hsz' hnM
  obtain ⟨t, ht⟩ : ∃ t, bytesOf s = t := ⟨_, rfl⟩
  have HT := Aside0.mk ht
  obtain ⟨Y, hY⟩ : ∃ Y : Nat, y = (Y : Int) := ⟨y.toNat, by have := HY.out.1; omega⟩
  subst hY
  have hF0 := HF.out
  rw [← HSB.out, bytesOf_strOfNums (frm_Bs (Bs.bytesOf s)), ht] at hF0
  have HF0 := Aside0.mk hF0
  clear hF0 HF ht
  go_loopg [11, 12] 32 (fun gq u11 u12 wx => ∃ i : Nat, i ≤ 32 ∧ a + i ≤ n ∧ gq = 32 - i ∧ u12 = .int .i64 (i : Int) ∧ u11 = .bool (!(Y % 2 ^ i == 0)) ∧ Aside0 (FB w wx B (turnL t a Y i)) ∧ Aside0 (wx.heap[w.heap.size]? = some (.cells #[.int .i64 x, .int .u32 (Y : Int)] 37 (0, 0))) ∧ Aside0 (Below w.heap.size w wx))
  case atStart => exact ⟨0, by omega, by omega, rfl, rfl, by simp [Nat.mod_one], ⟨by rw [turnL_same (by rw [← HT.out]; exact Bs.bytesOf s) (by simp [Nat.mod_one])]; exact HF0.out⟩, HE4, HB4⟩
  case round =>
    clear HF0 HE4 HB4
    obtain ⟨i, hi, hin, rfl, rfl, rfl, HF, HE, HB⟩ := hrel
    by_cases hlt : i < 32 ∧ a + i < n
    · obtain ⟨g1, hg1⟩ : ∃ g1, 32 - i = g1 + 1 := ⟨31 - i, by omega⟩
      obtain ⟨hlt1, hlt2⟩ := hlt
      have k1 : decide ((i : Int) < 32) = true := decide_eq_true (by omega)
      have k2 : decide (i < 32) = true := decide_eq_true hlt1
      have k3 : decide ((a : Int) + (i : Int) < (n : Int)) = true := decide_eq_true (by omega)
      have k4 : decide (a + i < n) = true := decide_eq_true hlt2
      have q1 : wr.cell? ⟨w.heap.size, 1, none⟩ = some (.int .u32 (Y : Int)) := (blk_cell HE.out 1).trans rfl
      have b0 := HN.out
      obtain ⟨bt, hbt⟩ : ∃ bt, Y.testBit i = bt := ⟨_, rfl⟩
      have kb : (((Y : Int) / 2 ^ i).tmod 2 == 1) = bt := by
        have e1 : ((Y : Int) / 2 ^ i) = ((Y / 2 ^ i : Nat) : Int) := by rw [Int.natCast_ediv, Int.natCast_pow]; rfl
        rw [e1, Int.tmod_eq_emod_of_nonneg (Int.natCast_nonneg _), ← hbt, Nat.testBit_eq_decide_div_mod_eq]
        generalize Y / 2 ^ i = z
        by_cases hz : z % 2 = 1
        · rw [show ((z : Int) % 2) = 1 by omega, hz]; rfl
        · rw [show ((z : Int) % 2) = 0 by omega, show z % 2 = 0 by omega]; rfl
      have HBT := Aside0.mk hbt
      clear hbt
      cases bt
      · go_wp2_with fail
        go_roundg g1
        case measure => omega
        case rel => exact ⟨i + 1, by omega, by omega, by omega, by go_num, by rw [mask_succ, if_neg (by rw [HBT.out]; decide), Nat.xor_zero], ⟨by rw [turnL_no HBT.out]; exact HF.out⟩, HE, HB⟩
      · have hlen : 4 + (a + i) / 8 < (turnL t a Y i).length := by rw [turnL_len, ← HT.out, bytesOf_size]; omega
        obtain ⟨c, hc, hc2⟩ : ∃ c : Nat, rd (turnL t a Y i) ((4 + (a + i) / 8 : Nat) : Int) = (c : Int) ∧ c < 256 := by
          have := rd_Bs (turnL_Bs t a Y i) ((4 + (a + i) / 8 : Nat) : Int)
          exact ⟨(rd (turnL t a Y i) ((4 + (a + i) / 8 : Nat) : Int)).toNat, by omega, by omega⟩
        have q2 := HF.out.cell hlen
        rw [hc] at q2
        have q3 := HF.out.free hlen
        have HC := Aside0.mk hc; have HLN := Aside0.mk hlen
        clear hc hlen
        go_wp2_with fail
        have hp : bits .xor .u8 (c : Int) (2 ^ ((a + i) % 8) % 256) = ((c ^^^ 2 ^ ((a + i) % 8) : Nat) : Int) := by
          have h8 : 2 ^ ((a + i) % 8) < 256 := Nat.lt_of_le_of_lt (Nat.pow_le_pow_right (by omega) (show (a + i) % 8 ≤ 7 by omega)) (by decide)
          have e2 : ((2 : Int) ^ ((a + i) % 8)) = ((2 ^ ((a + i) % 8) : Nat) : Int) := by rw [Int.natCast_pow]; rfl
          rw [e2]
          generalize 2 ^ ((a + i) % 8) = z at *
          rw [show ((z : Int) % 256) = (z : Int) by omega]
          exact Go.u8_xor_nat c z hc2 h8
        rw [hp]
        have HF2 := Aside0.mk (HF.out.set HLN.out ((c ^^^ 2 ^ ((a + i) % 8) : Nat) : Int))
        have HE2 := Aside0.mk (blk_far HE.out (p := ⟨B, 4 + (a + i) / 8, none⟩) (Ne.symm HNE.out) (.int .u8 ((c ^^^ 2 ^ ((a + i) % 8) : Nat) : Int)))
        have HB2 : Aside0 (Below w.heap.size w (wr.setCell ⟨B, 4 + (a + i) / 8, none⟩ (.int .u8 ((c ^^^ 2 ^ ((a + i) % 8) : Nat) : Int)))) := ⟨below_set HB.out HF.out.1⟩
        have hnz : (Y % 2 ^ (i + 1) == 0) = false := by
          refine beq_eq_false_iff_ne.mpr fun hz => ?_
          have h1 : (Y % 2 ^ (i + 1)).testBit i = true := by rw [Nat.testBit_mod_two_pow, HBT.out]; simp
          rw [hz, Nat.zero_testBit] at h1
          exact absurd h1 (by decide)
        have HNZ := Aside0.mk hnz
        clear hnz hp q2 q3
        go_roundg g1
        case measure => omega
        case rel => exact ⟨i + 1, by omega, by omega, by omega, by go_num, by rw [HNZ.out]; rfl, ⟨by
          rw [turnL_yes HBT.out (by rw [← HT.out, bytesOf_size]; omega), HC.out]
          exact HF2.out⟩, HE2, HB2⟩
    · have k1 : decide ((i : Int) < 32) = decide (i < 32) := by simp; omega
      have k3 : decide ((a : Int) + (i : Int) < (n : Int)) = decide (a + i < n) := by simp; omega
      obtain ⟨p1, hp1⟩ : ∃ p1, decide (i < 32) = p1 := ⟨_, rfl⟩
      obtain ⟨p2, hp2⟩ : ∃ p2, decide (a + i < n) = p2 := ⟨_, rfl⟩
      rw [hp1] at k1; rw [hp2] at k3
      have hpp : p1 = false ∨ (p1 = true ∧ p2 = false) := by
        rw [← hp1, ← hp2]
        by_cases h1 : i < 32
        · exact .inr ⟨decide_eq_true h1, decide_eq_false (fun h2 => hlt ⟨h1, h2⟩)⟩
        · exact .inl (decide_eq_false h1)
      have hbig : a + i ≤ 9000000 := by have := HN.out; omega
      have hL : (turnL t a Y i).length = s.size + 8 := by rw [turnL_len, ← HT.out, bytesOf_size]
      have hcs : ∀ c : Nat, (convert 38 9 (.slice (some ⟨B, 0, none⟩) (s.size + 8) c)).run Try.prog wr = .ok (.string (strOfNums (turnL t a Y i))) wr := fun c =>
        run_convert_bytes_arg wr 38 5 Try.underlying38 Try.underlying5 B 0 (s.size + 8) c (turnL t a Y i) hL (fun j hj => by
          rw [Nat.zero_add]; exact HF.out.cell (by omega)) 9 Try.underlying9
      obtain ⟨S, hS⟩ : ∃ S, strOfNums (frm (bytesOf ah)) ++ strOfNums (turnL t a Y i) = S := ⟨_, rfl⟩
      have hSb : bytesOf S = frm (bytesOf ah) ++ turnL t a Y i := by rw [← hS, bytesOf_append, bytesOf_strOfNums (frm_Bs (Bs.bytesOf ah)), bytesOf_strOfNums (turnL_Bs _ _ _ _)]
      have hSz : S.size = ah.size + s.size + 16 := by rw [size_eq, hSb, List.length_append, frm_len, bytesOf_size, hL]; omega
      have hsc := scan_turn (a := bytesOf ah) (t := t) (at_ := a) (B := Y) (i := i) (Bs.bytesOf ah) (by rw [bytesOf_size]; exact HA.out) (by rw [← HT.out]; exact Bs.bytesOf s) (by rw [← HT.out, bytesOf_size]; exact HS.out) hi (by rw [← HT.out, bytesOf_size]; have := HN.out; omega)
      have hscan := Scan_f (k := S.size + 1) (s := S) (by have := HS.out; have := HA.out; omega) (by omega)
      rw [hSb, hsc] at hscan
      rw [← hS] at hscan
      have hA8 : (strOfNums (frm (bytesOf ah))).size = ah.size + 8 := by rw [size_strOfNums, frm_len, bytesOf_size]
      have hT8 : (strOfNums (turnL t a Y i)).size = s.size + 8 := by rw [size_strOfNums, hL]
      clear hS hSb hSz hsc hL hi hin hlt
      have hsA := HA.out; have hsS := HS.out
      obtain ⟨SA, hSA⟩ : ∃ SA, strOfNums (frm (bytesOf ah)) = SA := ⟨_, rfl⟩
      obtain ⟨ST, hST⟩ : ∃ ST, strOfNums (turnL t a Y i) = ST := ⟨_, rfl⟩
      rw [hSA] at hA8 hscan ⊢
      rw [hST] at hT8 hscan
      simp only [hST] at hcs
      have hb2 : (9223372036854775807 < SA.size + ST.size) = False := eq_false (by omega)
      clear hSA hST hA8 hT8 hsA hsS
      obtain ⟨d, hd⟩ : ∃ d, Y % 2 ^ i = d := ⟨_, rfl⟩
      rw [hd] at hscan ⊢
      have hno : d ≠ 0 → ∃ K, frame_Scan.f K (SA ++ ST) = some ([], 0, 8) := fun h => ⟨_, by rw [hscan, if_neg h]; rfl⟩
      have hyes : d = 0 → ∃ K l M, frame_Scan.f K (SA ++ ST) = some (l, M, 0) ∧ l.length = 2 := fun h => ⟨_, [strOfNums (bytesOf ah), strOfNums t], _, by rw [hscan, if_pos h]; rfl, rfl⟩
      clear hd hscan
      by_cases hz : d = 0
      · obtain ⟨K, l, M, hq, hl2⟩ := hyes hz
        subst hz
        have HQ := Aside0.mk hq; have HL2 := Aside0.mk hl2
        clear hno hyes hq hl2
        rcases hpp with rfl | ⟨rfl, rfl⟩
        all_goals
          go_wp2_with fail
          refine (frame_Scan.calls K _ _ _ _ _ HQ.out).mono ?_; rintro e w5 ⟨v0, rfl, hv, hb5⟩
          obtain ⟨A5, c5, rfl⟩ := Kd.R_slice hv
          rw [HL2.out]
          have HB5 := Aside0.mk (below_then HB.out HB.out.size hb5)
          clear hv hb5
          go_wp2
          go_ret
          exact ⟨rfl, HB5.out⟩
      · obtain ⟨K, hq⟩ := hno hz
        have hz1 : (d == 0) = false := beq_eq_false_iff_ne.mpr hz
        have HQ := Aside0.mk hq
        clear hno hyes hq hz
        rcases hpp with rfl | ⟨rfl, rfl⟩
        all_goals
          go_wp2_with fail
          refine (frame_Scan.calls K _ _ _ _ _ HQ.out).mono ?_; rintro e w5 ⟨v0, rfl, hv, hb5⟩
          obtain ⟨A5, c5, rfl⟩ := Kd.R_slice hv
          have HB5 := Aside0.mk (below_then HB.out HB.out.size hb5)
          clear hv hb5
          go_wp2
          go_ret
          exact ⟨rfl, HB5.out⟩
theorem burst_flds : ∃ a b : Field, (∃ fs : Array Field, Try.prog.underlying 37 = some (.struct fs) ∧ fs.toList = [a, b]) ∧ (a.offset = 0 ∧ b.offset = 1) ∧
    Try.prog.underlying a.type = some (.int .i64) ∧ Try.prog.underlying b.type = some (.int .u32) ∧ Try.prog.cellsOf a.type = 1 ∧ Try.prog.cellsOf b.type = 1 :=
  ⟨_, _, ⟨_, Try.underlying37, rfl⟩, ⟨rfl, rfl⟩, by kernel_rfl, by kernel_rfl, by kernel_rfl, by kernel_rfl⟩
def OkB (x : Int × Int) : Prop := (Lit.int .i64 x.1).wf = true ∧ (Lit.int .u32 x.2).wf = true
theorem burst_rdg : Rdg Try.prog 37 (Kd.pair (Kd.int .i64) (Kd.int .u32)) OkB (fun _ => 0) := by
  obtain ⟨a, b, ⟨fs, h0, hfs⟩, ⟨oa, ob⟩, ua, ub, sa, sb⟩ := burst_flds
  have ha : Rdg Try.prog a.type (Kd.int .i64) (fun x => (Lit.int .i64 x).wf = true) (fun _ => 1) := Rdg.int ua
  have hb : Rdg Try.prog b.type (Kd.int .u32) (fun x => (Lit.int .u32 x).wf = true) (fun _ => 1) := Rdg.int ub
  have f2 : RdgF Try.prog 1 [b] (Kd.int .u32) (fun x => (Lit.int .u32 x).wf = true) (fun _ => 1) := RdgF.one ob sb hb
  have f1 : RdgF Try.prog 0 [a, b] (Kd.pair (Kd.int .i64) (Kd.int .u32)) (fun x => (Lit.int .i64 x.1).wf = true ∧ (Lit.int .u32 x.2).wf = true) (fun x => 1 + 1) := RdgF.cons oa sa ha f2
  rw [← hfs] at f1
  have hs : Rdg Try.prog 37 (Kd.pair (Kd.int .i64) (Kd.int .u32)) (fun x => (Lit.int .i64 x.1).wf = true ∧ (Lit.int .u32 x.2).wf = true) (fun x => 1 + 1) := Rdg.struct h0 (by kernel_rfl) f1
  intro H enc w base spare held fuel cs dat ps hh
  obtain ⟨x, k1, k2, k3⟩ := hs hh
  exact ⟨x, k1, k2, Nat.zero_le _⟩
theorem FrameBurst.law (ah s : ByteArray) (cs : Array Value) (x : Int × Int) (w : World) (ha : ah.size ≤ 140737488351232) (hs : s.size ≤ 140737488351232) (hk : (Kd.pair (Kd.int .i64) (Kd.int .u32)).K w x cs.toList) (ok : OkB x) :
    Calls Try.prog 5 #[.string ah, .string s, .agg cs] w fun e w' => e = .returned (.bool true) ∧ Below w.heap.size w w' := by
  obtain ⟨c0, c1, hc, h0, h1⟩ := hk
  obtain rfl : c0 = [.int .i64 x.1] := h0
  obtain rfl : c1 = [.int .u32 x.2] := h1
  obtain rfl : cs = #[.int .i64 x.1, .int .u32 x.2] := by cases cs; simp_all
  by_cases h : 1048576 < s.size ∨ 1048576 < ah.size
  · exact Burst.long ah s x.1 x.2 w h
  · have h2 := bounds_i64 ok.1
    have h3 := ok.2
    refine Burst.walk ah s x.1 x.2 w (by omega) (by omega) (by unfold i64; omega) ?_
    simp only [Lit.wf, decide_eq_true_eq, Bool.and_eq_true] at h3
    have e1 : IntKind.u32.min = 0 := by decide
    have e2 : IntKind.u32.max = 4294967295 := by decide
    omega
end Go.Proofs.Ytlcjkpoaehmghaa.G
