import Derived.Test.YtbcjbgmjiehamaaWPut
/-! The reader's get: so many bits. -/
namespace Go.Proofs.Ytbcjbgmjiehamaa.G
open Go.RowKit Go.Proofs.YtbcjbgmjiehamaaQ Go.Proofs.YtbcjbgmjiehamaaW.PrintWords Go.Proofs.YtbcjbgmjiehamaaW.PrintLast Go.Proofs.YtbcjbgmjiehamaaW.PrintMore
attribute [local go_sem] max2_int min2_int max_two min_two max_three min_three max_four min_four
set_option linter.unusedVariables false
set_option linter.unusedSimpArgs false
/-- The reader at block g: its text, how many bits are read. -/
def RD (w0 W : World) (g : Nat) (S : ByteArray) (a : Nat) : Prop := W.heap[g]? = some (.cells #[.string S, .int .i64 (a : Int)] 53 (0, 0)) ∧ w0.heap.size ≤ g
theorem RD.below {w0 W W' : World} {g a : Nat} {S : ByteArray} (h : RD w0 W g S a) (hb : Below W.heap.size W W') : RD w0 W' g S a := ⟨(hb.block g (blk_lt h.1)).trans h.1, h.2⟩
theorem RD.lower {w0 w1 W : World} {g a : Nat} {S : ByteArray} (h : RD w1 W g S a) (hs : w0.heap.size ≤ w1.heap.size) : RD w0 W g S a := ⟨h.1, Nat.le_trans hs h.2⟩
theorem RD.keep {w0 W W' : World} {g a : Nat} {S : ByteArray} {row : Option Nat} (h : RD w0 W g S a) (hg : W.grownBy W' row) (hne : some g ≠ row) : RD w0 W' g S a := ⟨blk_grown h.1 hg hne, h.2⟩
theorem RD.set1 {w0 W : World} {g a b : Nat} {S : ByteArray} (h : RD w0 W g S a) : RD w0 (W.setCell ⟨g, 1, none⟩ (.int .i64 (b : Int))) g S b := ⟨blk_set h.1 1 _, h.2⟩
set_option maxHeartbeats 4000000 in
set_option maxRecDepth 100000 in
theorem get_calls {w0 w : World} {g : Nat} {S : ByteArray} (a0 q0 : Nat) (hS : S.size ≤ 140737488355328) (hq : q0 ≤ 64) (hs : a0 + q0 ≤ 8 * S.size) (hR : RD w0 w g S a0) (hB : Below w0.heap.size w0 w) :
    Calls Try.prog 26 #[.pointer (some ⟨g, 0, none⟩), .int .i64 (q0 : Int)] w fun e w' => e = .returned (.int .u64 ((num S / 2 ^ a0 % 2 ^ q0 : Nat) : Int)) ∧ RD w0 w' g S (a0 + q0) ∧ Below w0.heap.size w0 w' ∧ KeepBut w w' g none := by
  have HR := Aside0.mk hR; have HB := Aside0.mk hB
  clear hR hB
  go_enter Try.func26, Try.ntmps26
  go_wp2_with fail
  go_loopg [5, 6] q0 (fun gq s5 s6 wx => ∃ d : Nat, d ≤ q0 ∧ gq = q0 - d ∧ s5 = .int .u64 ((num S / 2 ^ a0 % 2 ^ d : Nat) : Int) ∧ s6 = .int .i64 (d : Int) ∧ Aside0 (RD w0 wx g S (a0 + d)) ∧ Aside0 (Below w0.heap.size w0 wx) ∧ Aside0 (KeepBut w wx g none))
  case atStart => exact ⟨0, by omega, by omega, by simp [Nat.mod_one], rfl, HR, HB, ⟨KeepBut.refl _ _ _⟩⟩
  case round =>
    clear HR HB
    obtain ⟨d, hd, rfl, rfl, rfl, HR, HB, HK⟩ := hrel
    by_cases hlt : d < q0
    · have k2 : decide ((d : Int) < (q0 : Int)) = true := decide_eq_true (by omega)
      have k2' : decide (d < q0) = true := decide_eq_true hlt
      have HF : Aside0 (∀ t, num S / 2 ^ a0 % 2 ^ d + num S / 2 ^ (a0 + d) % 2 ^ t * 2 ^ d = num S / 2 ^ a0 % 2 ^ (d + t)) := ⟨fun t => by
        rw [← div_step]; exact mod_step _ d t⟩
      have hn : num S / 2 ^ a0 % 2 ^ d < 2 ^ d := Nat.mod_lt _ (p2 d)
      obtain ⟨A, hA⟩ : ∃ A, a0 + d = A := ⟨_, rfl⟩
      have hbyte := num_byte S (A / 8) (by omega)
      have hbt := byt_at S (A / 8)
      rw [hA] at HF HR
      have HAA := Aside0.mk hA
      obtain ⟨a, ha⟩ : ∃ a, A % 8 = a := ⟨_, rfl⟩
      obtain ⟨t, ht⟩ : ∃ t, min (q0 - d) (8 - a) = t := ⟨_, rfl⟩
      have ha8 : a < 8 := by omega
      have ht0 : 0 < t := by omega
      have htq : t ≤ q0 - d := by omega
      have hat : a + t ≤ 8 := by omega
      have hpart : byt S (A / 8) / 2 ^ a % 2 ^ t = num S / 2 ^ A % 2 ^ t := by
        rw [hbyte]
        have e1 : A = 8 * (A / 8) + a := by omega
        have e2 : num S / 2 ^ A = num S / 256 ^ (A / 8) / 2 ^ a := by rw [pow8, Nat.div_div_eq_div_mul, ← Nat.pow_add, ← e1]
        rw [e2]
        exact mod_part _ a t hat
      obtain ⟨j, hj⟩ : ∃ j, A / 8 = j := ⟨_, rfl⟩
      rw [hj] at hpart hbt
      have hjl : j < S.size := by omega
      have hBl : byt S j < 256 := byt_lt S j
      obtain ⟨B, hBB⟩ : ∃ B, byt S j = B := ⟨_, rfl⟩
      rw [hBB] at hpart hbt hBl
      have HFt := Aside0.mk (HF.out t)
      have hT : 2 ^ t ≤ 2 ^ 8 := Nat.pow_le_pow_right (by omega) (by omega)
      have hT1 : 1 ≤ 2 ^ t := p2 t
      have hc : B / 2 ^ a < 256 := Nat.lt_of_le_of_lt (Nat.div_le_self _ _) hBl
      have kshr : ((B : Int) / 2 ^ a) = ((B / 2 ^ a : Nat) : Int) := by simp
      have m2 : min a 8 = a := by omega
      have kshr2 : ((B : Int) / 2 ^ min a 8) = ((B / 2 ^ a : Nat) : Int) := by rw [m2]; exact kshr
      have kc : IntKind.u64.wrap ((B / 2 ^ a : Nat) : Int) = ((B / 2 ^ a : Nat) : Int) := u64_nat (by omega)
      have hv : B / 2 ^ a % 2 ^ t < 2 ^ t := Nat.mod_lt _ (p2 t)
      have kand : Go.bits .and .u64 ((B / 2 ^ a : Nat) : Int) (((2 ^ t : Nat) : Int) - 1) = ((B / 2 ^ a % 2 ^ t : Nat) : Int) := by
        have := and_mask (B / 2 ^ a) t (by omega) (by omega)
        have e : ((2 ^ t - 1 : Nat) : Int) = ((2 ^ t : Nat) : Int) - 1 := by omega
        rwa [e] at this
      have kT1 : IntKind.u64.wrap (2 ^ t) = ((2 ^ t : Nat) : Int) := by
        have e : (2 : Int) ^ t = ((2 ^ t : Nat) : Int) := by simp
        rw [e]; exact u64_nat (by omega)
      have m1 : min t 64 = t := by omega
      have kT2 : IntKind.u64.wrap (2 ^ min t 64) = ((2 ^ t : Nat) : Int) := by rw [m1]; exact kT1
      have kT3 : IntKind.u64.wrap (((2 ^ t : Nat) : Int) - 1) = ((2 ^ t : Nat) : Int) - 1 := by
        have e : ((2 ^ t - 1 : Nat) : Int) = ((2 ^ t : Nat) : Int) - 1 := by omega
        rw [← e]; exact u64_nat (by omega)
      have hx : (B / 2 ^ a % 2 ^ t + 1) * 2 ^ d ≤ 2 ^ 64 := by
        have h1 : (B / 2 ^ a % 2 ^ t + 1) * 2 ^ d ≤ 2 ^ t * 2 ^ d := Nat.mul_le_mul_right _ hv
        have h2 : 2 ^ t * 2 ^ d ≤ 2 ^ 64 := by rw [← Nat.pow_add]; exact Nat.pow_le_pow_right (by omega) (by omega)
        omega
      rw [Nat.succ_mul] at hx
      have kor := or_u64 (num S / 2 ^ a0 % 2 ^ d) (B / 2 ^ a % 2 ^ t) d hn (by omega)
      have kshl : IntKind.u64.wrap (((B / 2 ^ a % 2 ^ t : Nat) : Int) * 2 ^ d) = ((B / 2 ^ a % 2 ^ t * 2 ^ d : Nat) : Int) := by
        have e : ((B / 2 ^ a % 2 ^ t : Nat) : Int) * 2 ^ d = ((B / 2 ^ a % 2 ^ t * 2 ^ d : Nat) : Int) := by simp
        have hp := p2 d
        rw [e]; exact u64_nat (by omega)
      have m3 : min d 64 = d := by omega
      have kshl2 : IntKind.u64.wrap (((B / 2 ^ a % 2 ^ t : Nat) : Int) * 2 ^ min d 64) = ((B / 2 ^ a % 2 ^ t * 2 ^ d : Nat) : Int) := by rw [m3]; exact kshl
      have hy : num S / 2 ^ a0 % 2 ^ d + B / 2 ^ a % 2 ^ t * 2 ^ d = num S / 2 ^ a0 % 2 ^ (d + t) := by rw [hpart]; exact HFt.out
      have hyl : num S / 2 ^ a0 % 2 ^ (d + t) < 2 ^ 64 := Nat.lt_of_lt_of_le (Nat.mod_lt _ (p2 _)) (Nat.pow_le_pow_right (by omega) (by omega))
      rw [hy] at kor
      clear m1 m2 m3 HF HFt hpart hbyte hx hv
      obtain ⟨T, hTT⟩ : ∃ T, 2 ^ t = T := ⟨_, rfl⟩
      obtain ⟨n, hnn⟩ : ∃ n, num S / 2 ^ a0 % 2 ^ d = n := ⟨_, rfl⟩
      obtain ⟨y, hyy⟩ : ∃ y, num S / 2 ^ a0 % 2 ^ (d + t) = y := ⟨_, rfl⟩
      obtain ⟨x, hxx⟩ : ∃ x, B / 2 ^ a % 2 ^ t * 2 ^ d = x := ⟨_, rfl⟩
      obtain ⟨v, hvv⟩ : ∃ v, B / 2 ^ a % 2 ^ t = v := ⟨_, rfl⟩
      obtain ⟨c, hcc⟩ : ∃ c, B / 2 ^ a = c := ⟨_, rfl⟩
      rw [hxx] at kor kshl kshl2
      rw [hvv] at kshl kshl2 kand
      rw [hcc] at kand kc kshr kshr2 hc
      rw [hTT] at kT1 kT2 kT3 kand hT hT1
      rw [hnn] at kor ⊢
      rw [hyy] at kor hyl
      have HY := Aside0.mk hyy
      clear hn hy hTT hnn hyy hxx hvv hcc hBB
      have k1 : ((A : Int) % 8) = (a : Int) := by omega
      have kj : ((A : Int) / 8) = (j : Int) := by omega
      have kmin : (if (8 - (a : Int)) < ((q0 : Int) - (d : Int)) then (8 - (a : Int)) else ((q0 : Int) - (d : Int))) = (t : Int) := by split <;> omega
      have j1 : (0 : Int) ≤ (j : Int) := by omega
      have j2 : (j : Int) < (S.size : Int) := by omega
      have hAl : A ≤ 1125899906842624 := by omega
      have HT := Aside0.mk ht; have HD := Aside0.mk hd; have HLT := Aside0.mk hlt
      clear ht hd ha hj hA hlt
      obtain ⟨hr1, hr2⟩ := HR.out
      have c0 : wr.cell? ⟨g, 0, none⟩ = some (.string S) := (blk_cell hr1 0).trans rfl
      have c1 : wr.cell? ⟨g, 1, none⟩ = some (.int .i64 (A : Int)) := (blk_cell hr1 1).trans rfl
      have f1 := blk_frozen hr1 1
      have HR1 := Aside0.mk hr1
      clear hr1
      go_wp2
      go_region
      go_wp2
      go_roundg (q0 - (d + t))
      case measure => have := HT.out; have := HLT.out; omega
      case rel =>
        have e : A + t = a0 + (d + t) := by have := HAA.out; omega
        have hw := (RD.set1 (b := A + t) ⟨HR1.out, hr2⟩ : RD w0 _ g S (A + t))
        have hb := below_set (j := 1) (v := .int .i64 ((A + t : Nat) : Int)) HB.out hr2
        have hk := KeepBut.set_ HK.out 1 (.int .i64 ((A + t : Nat) : Int))
        have e2 : ((A + t : Nat) : Int) = (A : Int) + (t : Int) := by omega
        rw [e2] at hb hk
        rw [e] at hw
        rw [← e, e2] at hw
        have htq2 : d + t ≤ q0 := by have := HLT.out; omega
        exact ⟨d + t, htq2, rfl, by rw [HY.out], by go_num, ⟨by rw [← e]; exact hw⟩, ⟨below_drew hb⟩, ⟨keep_drew hk⟩⟩
    · have e : d = q0 := by omega
      have k2 : decide ((d : Int) < (q0 : Int)) = false := decide_eq_false (by omega)
      have k2' : decide (d < q0) = false := decide_eq_false hlt
      subst e
      clear hlt hd
      go_wp2
      go_ret
      exact ⟨rfl, HR.out, HB.out, HK.out⟩
end Go.Proofs.Ytbcjbgmjiehamaa.G
