import Derived.Test.YtbcjbgmjiehamaaProg
import Derived.Test.YtbcjbgmjiehamaaQW
import Derived.Test.YtbcjbgmjiehamaaWMore
import Derived.Test.YtbcjbgmjiehamaaWLast
import Derived.WalkKit
import Derived.KernelRfl
import Derived.RowKit3
import Derived.Deep.LoopGhost
import Derived.Deep.CutBlock
import Derived.Deep.DeepCutAuto
import Derived.Deep.QuietTactic
import Derived.BigQuiet
import Derived.BigRegion
import Derived.WideLaws
import Derived.RowKit
/-! The writer's put: bits behind bits. -/
namespace Go.Proofs.Ytbcjbgmjiehamaa.G
open Go.RowKit Go.Proofs.YtbcjbgmjiehamaaQ Go.Proofs.YtbcjbgmjiehamaaW.PrintWords Go.Proofs.YtbcjbgmjiehamaaW.PrintLast Go.Proofs.YtbcjbgmjiehamaaW.PrintMore
attribute [local go_sem] max2_int min2_int max_two min_two max_three min_three max_four min_four
set_option linter.unusedVariables false
set_option linter.unusedSimpArgs false
/-- Bytes that the call owns, in a block other than g. -/
def OwnB (w0 W : World) (g : Nat) (v : Value) (l : List Int) : Prop := (Kd.int .u8).R 5 W w0.heap.size (fun k => k ≠ g) v l
/-- The writer at block g: its bytes, how many bits it has. -/
def WR (w0 W : World) (g : Nat) (l : List Int) (h : Nat) : Prop := ∃ v, W.heap[g]? = some (.cells #[v, .int .i64 (h : Int)] 46 (0, 0)) ∧ w0.heap.size ≤ g ∧ OwnB w0 W g v l
theorem infoB : (Try.prog.info? 5).map (fun i => (i.zero, i.size, i.bytes)) = some (some (.int .u8 0), 1, 1) := by kernel_rfl
theorem WR.drewN {w0 W : World} {g h : Nat} {l : List Int} (hw : WR w0 W g l h) (n : Nat) : WR w0 (W.drewN n) g l h := by
  obtain ⟨v, h1, h2, h3⟩ := hw
  exact ⟨v, h1, h2, Kd.R_drewN h3 n⟩
theorem WR.drew {w0 W : World} {g h : Nat} {l : List Int} (hw : WR w0 W g l h) : WR w0 W.drew g l h := by
  obtain ⟨v, h1, h2, h3⟩ := hw
  exact ⟨v, h1, h2, Kd.R_drew h3⟩
theorem WR.below {w0 W W' : World} {g h : Nat} {l : List Int} (hw : WR w0 W g l h) (hb : Below W.heap.size W W') : WR w0 W' g l h := by
  obtain ⟨v, h1, h2, h3⟩ := hw
  exact ⟨v, (hb.block g (blk_lt h1)).trans h1, h2, Kd.R_below h3 hb⟩
theorem WR.lower {w0 w1 W : World} {g h : Nat} {l : List Int} (hw : WR w1 W g l h) (hs : w0.heap.size ≤ w1.heap.size) : WR w0 W g l h := by
  obtain ⟨v, h1, h2, h3⟩ := hw
  exact ⟨v, h1, Nat.le_trans hs h2, Kd.R_lower h3 hs⟩
/-- In the midst of a put: the last byte is there. -/
def Mid (w0 W : World) (g : Nat) (L : List Nat) (old h : Nat) : Prop := ∃ b cap, W.heap[g]? = some (.cells #[.slice (some ⟨b, 0, none⟩) (L.length + 1) cap, .int .i64 (h : Int)] 46 (0, 0)) ∧ w0.heap.size ≤ g ∧ OwnB w0 W g (.slice (some ⟨b, 0, none⟩) (L.length + 1) cap) (ints (L ++ [old]))
theorem OwnB.slice {w0 W : World} {g : Nat} {v : Value} {l : List Int} (h : OwnB w0 W g v l) (h0 : 0 < l.length) : ∃ b cap, v = .slice (some ⟨b, 0, none⟩) l.length cap := by
  obtain ⟨b, cap, e, _⟩ := Kd.R_form h h0
  exact ⟨b, cap, e⟩
theorem OwnB.ne {w0 W : World} {g : Nat} {v : Value} {l : List Int} (h : OwnB w0 W g v l) : some g ≠ v.ownBlock := Kd.R_away h (fun _ hk => hk)
theorem OwnB.ne' {w0 W : World} {g b n cap : Nat} {l : List Int} (h : OwnB w0 W g (.slice (some ⟨b, 0, none⟩) n cap) l) : g ≠ b := fun e => h.ne (by rw [e]; rfl)
theorem OwnB.fresh {w0 W : World} {g : Nat} {v : Value} {l : List Int} (h : OwnB w0 W g v l) (hg : g < W.heap.size) : ∀ k, W.heap.size ≤ k → k ≠ g := fun k hk e => by omega
theorem Mid.of_begin {w0 W w1 : World} {g h : Nat} {v v5 : Value} {l : List Nat} (h1 : W.heap[g]? = some (.cells #[v, .int .i64 (h : Int)] 46 (0, 0))) (h2 : w0.heap.size ≤ g) (ho : OwnB w0 w1 g v5 (ints (l ++ [0]))) (hg : W.grownBy w1 v.ownBlock) (hne : some g ≠ v.ownBlock) {M : Nat} (e : l ++ [0] = dig 256 (h / 8) M ++ [M / 256 ^ (h / 8)]) :
    Mid w0 (w1.setCell ⟨g, 0, none⟩ v5) g (dig 256 (h / 8) M) (M / 256 ^ (h / 8)) h := by
  rw [e] at ho
  obtain ⟨b, cap, rfl⟩ := ho.slice (by simp [ints])
  have hl : (ints (dig 256 (h / 8) M ++ [M / 256 ^ (h / 8)])).length = (dig 256 (h / 8) M).length + 1 := by simp [ints]
  have hb := blk_set (blk_grown h1 hg hne) 0 (.slice (some ⟨b, 0, none⟩) (ints (dig 256 (h / 8) M ++ [M / 256 ^ (h / 8)])).length cap)
  rw [hl] at hb ho ⊢
  exact ⟨b, cap, hb, h2, Kd.R_far ho (fun _ hk => hk) _⟩
theorem WR.mid {w0 W : World} {g h M : Nat} (hw : WR w0 W g (ints (wb M h)) h) (e : wb M h = dig 256 (h / 8) M ++ [M / 256 ^ (h / 8)]) : Mid w0 W g (dig 256 (h / 8) M) (M / 256 ^ (h / 8)) h := by
  obtain ⟨v, h1, h2, ho⟩ := hw
  rw [e] at ho
  obtain ⟨b, cap, rfl⟩ := ho.slice (by simp [ints])
  have hl : (ints (dig 256 (h / 8) M ++ [M / 256 ^ (h / 8)])).length = (dig 256 (h / 8) M).length + 1 := by simp [ints]
  rw [hl] at h1 ho
  exact ⟨b, cap, h1, h2, ho⟩
theorem ints_set (L : List Nat) (x y : Nat) : (ints (L ++ [x])).set (Int.toNat ((L.length : Nat) : Int)) ((y : Nat) : Int) = ints (L ++ [y]) := by
  rw [Int.toNat_natCast, ints_app, ints_app, List.set_append_right _ _ (by simp [ints])]
  simp [ints]
theorem Mid.put {w0 W : World} {g h b cap t : Nat} {L : List Nat} {old nw : Nat} (h1 : W.heap[g]? = some (.cells #[.slice (some ⟨b, 0, none⟩) (L.length + 1) cap, .int .i64 (h : Int)] 46 (0, 0))) (h2 : w0.heap.size ≤ g) (ho : OwnB w0 W g (.slice (some ⟨b, 0, none⟩) (L.length + 1) cap) (ints (L ++ [old]))) :
    WR w0 ((W.setCell ⟨b, L.length, none⟩ (.int .u8 (nw : Int))).setCell ⟨g, 1, none⟩ (.int .i64 ((h : Int) + (t : Int)))) g (ints (L ++ [nw])) (h + t) := by
  have hp := Kd.R_putn ho ((L.length : Nat) : Int) ((nw : Nat) : Int)
  rw [ints_set, Int.toNat_natCast] at hp
  have hgb := ho.ne'
  have e : ((h : Int) + (t : Int)) = ((h + t : Nat) : Int) := by omega
  rw [e]
  refine ⟨.slice (some ⟨b, 0, none⟩) (L.length + 1) cap, ?_, h2, Kd.R_far hp (fun _ hk => hk) _⟩
  have hx := blk_set (blk_far h1 (p := ⟨b, L.length, none⟩) hgb (.int .u8 (nw : Int))) 1 (.int .i64 ((h + t : Nat) : Int))
  exact hx
theorem Mid.below {w0 W : World} {g b cap n : Nat} {l : List Int} {L : List Nat} {nw : Nat} {u : Value} (hB : Below w0.heap.size w0 W) (h2 : w0.heap.size ≤ g) (ho : OwnB w0 W g (.slice (some ⟨b, 0, none⟩) n cap) l) :
    Below w0.heap.size w0 ((W.setCell ⟨b, L.length, none⟩ (.int .u8 (nw : Int))).setCell ⟨g, 1, none⟩ u) := by
  have hb : w0.heap.size ≤ b := Kd.R_base ho b rfl
  exact below_set (below_set hB hb) h2
set_option maxHeartbeats 4000000 in
set_option maxRecDepth 100000 in
theorem put_calls {w0 w : World} {g : Nat} {N b0 : Nat} (n q0 : Nat) (hN : N < 2 ^ b0) (hn : n < 18446744073709551616) (hq : q0 ≤ 64) (hh : b0 + q0 ≤ 1125899906842560) (hW : WR w0 w g (ints (wb N b0)) b0) (hB : Below w0.heap.size w0 w) :
    Calls Try.prog 22 #[.pointer (some ⟨g, 0, none⟩), .int .u64 (n : Int), .int .i64 (q0 : Int)] w fun e w' => e = .returned (.tuple #[]) ∧ WR w0 w' g (ints (wb (N + n % 2 ^ q0 * 2 ^ b0) (b0 + q0))) (b0 + q0) ∧ Below w0.heap.size w0 w' := by
  have HW := Aside0.mk hW; have HB := Aside0.mk hB; have HNN := Aside0.mk hN
  clear hW hB hN
  go_enter Try.func22, Try.ntmps22
  go_wp2_with fail
  go_loopg [1, 2] q0 (fun gq s1 s2 wx => ∃ d q : Nat, d + q = q0 ∧ gq = q ∧ s1 = .int .u64 ((n / 2 ^ d : Nat) : Int) ∧ s2 = .int .i64 (q : Int) ∧ Aside0 (WR w0 wx g (ints (wb (N + n % 2 ^ d * 2 ^ b0) (b0 + d))) (b0 + d)) ∧ Aside0 (Below w0.heap.size w0 wx))
  case atStart => exact ⟨0, q0, by omega, rfl, by simp, rfl, by simpa [Nat.mod_one] using HW, HB⟩
  case round =>
    obtain ⟨d, q, hdq, rfl, rfl, rfl, HW, HB⟩ := hrel
    by_cases hlt : 0 < gk
    · have k2 : decide ((0 : Int) < (gk : Int)) = true := decide_eq_true (by omega)
      have k2' : decide (0 < gk) = true := decide_eq_true hlt
      have hML := wb_small HNN.out (Nat.mod_lt n (p2 d))
      have hpl : n / 2 ^ d < 18446744073709551616 := Nat.lt_of_le_of_lt (Nat.div_le_self _ _) hn
      have HF : Aside0 (∀ t, (N + n % 2 ^ d * 2 ^ b0) + n / 2 ^ d % 2 ^ t * 2 ^ (b0 + d) = N + n % 2 ^ (d + t) * 2 ^ b0) := ⟨fun t => by
        rw [← mod_step n d t, Nat.add_mul, Nat.add_assoc, Nat.mul_assoc (n / 2 ^ d % 2 ^ t), ← Nat.pow_add, Nat.add_comm d b0]⟩
      have HS := Aside0.mk (fun t => div_step n d t)
      obtain ⟨M, hM⟩ : ∃ M, N + n % 2 ^ d * 2 ^ b0 = M := ⟨_, rfl⟩
      obtain ⟨p, hp⟩ : ∃ p, n / 2 ^ d = p := ⟨_, rfl⟩
      obtain ⟨H, hH⟩ : ∃ H, b0 + d = H := ⟨_, rfl⟩
      rw [hM, hp, hH] at HF
      rw [hM, hH] at HW
      rw [hM, hH] at hML
      simp only [hp] at HS
      rw [hp] at hpl ⊢
      have HH := Aside0.mk hH
      have hHl : H ≤ 1125899906842560 := by omega
      obtain ⟨a, ha⟩ : ∃ a, H % 8 = a := ⟨_, rfl⟩
      obtain ⟨t, ht⟩ : ∃ t, min gk (8 - a) = t := ⟨_, rfl⟩
      have ha8 : a < 8 := by omega
      have ht0 : 0 < t := by omega
      have htq : t ≤ gk := by omega
      have hat : a + t ≤ 8 := by omega
      have hPT := wb_put hML (Nat.mod_lt p (p2 t)) ht0 (show H % 8 + t ≤ 8 by omega)
      have hold := pow8_lt hML
      have hBE : H % 8 = 0 → wb M H ++ [0] = dig 256 (H / 8) M ++ [M / 256 ^ (H / 8)] := wb_begin hML
      have hMI : H % 8 ≠ 0 → wb M H = dig 256 (H / 8) M ++ [M / 256 ^ (H / 8)] := wb_mid hML
      rw [ha] at hold hPT hBE hMI
      have HBE := Aside0.mk hBE; have HMI := Aside0.mk hMI; clear hBE hMI
      have hv : p % 2 ^ t < 2 ^ t := Nat.mod_lt _ (p2 t)
      have hT : 2 ^ t ≤ 2 ^ 8 := Nat.pow_le_pow_right (by omega) (by omega)
      have hT1 : 1 ≤ 2 ^ t := p2 t
      have hA : 2 ^ a ≤ 2 ^ 8 := Nat.pow_le_pow_right (by omega) (by omega)
      have hs : (p % 2 ^ t + 1) * 2 ^ a ≤ 2 ^ 8 := by
        have h1 : (p % 2 ^ t + 1) * 2 ^ a ≤ 2 ^ t * 2 ^ a := Nat.mul_le_mul_right _ hv
        have h2 : 2 ^ t * 2 ^ a ≤ 2 ^ 8 := by rw [← Nat.pow_add]; exact Nat.pow_le_pow_right (by omega) (by omega)
        omega
      rw [Nat.succ_mul] at hs
      have hs2 : M / 256 ^ (H / 8) + p % 2 ^ t * 2 ^ a < 256 := by omega
      have kand : Go.bits .and .u64 (p : Int) (((2 ^ t : Nat) : Int) - 1) = ((p % 2 ^ t : Nat) : Int) := by
        have := and_mask p t hpl (by omega)
        have e : ((2 ^ t - 1 : Nat) : Int) = ((2 ^ t : Nat) : Int) - 1 := by omega
        rwa [e] at this
      have kor := or_byte (M / 256 ^ (H / 8)) (p % 2 ^ t) a hold (by omega) hs2
      have kshl : IntKind.u8.wrap (((p % 2 ^ t : Nat) : Int) * 2 ^ a) = ((p % 2 ^ t * 2 ^ a : Nat) : Int) := by
        have e : ((p % 2 ^ t : Nat) : Int) * 2 ^ a = ((p % 2 ^ t * 2 ^ a : Nat) : Int) := by simp
        rw [e]; exact u8_nat (Nat.lt_of_le_of_lt (Nat.le_add_left _ _) hs2)
      have kT1 : IntKind.u64.wrap (2 ^ t) = ((2 ^ t : Nat) : Int) := by
        have e : (2 : Int) ^ t = ((2 ^ t : Nat) : Int) := by simp
        rw [e]; exact u64_nat (by omega)
      have kshr : ((p : Int) / 2 ^ t) = ((p / 2 ^ t : Nat) : Int) := by simp
      have m1 : min t 64 = t := by omega
      have m2 : min a 8 = a := by omega
      have kT2 : IntKind.u64.wrap (2 ^ min t 64) = ((2 ^ t : Nat) : Int) := by rw [m1]; exact kT1
      have kshl2 : IntKind.u8.wrap (((p % 2 ^ t : Nat) : Int) * 2 ^ min a 8) = ((p % 2 ^ t * 2 ^ a : Nat) : Int) := by rw [m2]; exact kshl
      have kshr2 : ((p : Int) / 2 ^ min t 64) = ((p / 2 ^ t : Nat) : Int) := by rw [m1]; exact kshr
      have HP2 := Aside0.mk (HS.out t)
      clear HS m1 m2
      obtain ⟨T, hTT⟩ : ∃ T, 2 ^ t = T := ⟨_, rfl⟩
      obtain ⟨v, hvv⟩ : ∃ v, p % 2 ^ t = v := ⟨_, rfl⟩
      obtain ⟨s, hss⟩ : ∃ s, p % 2 ^ t * 2 ^ a = s := ⟨_, rfl⟩
      obtain ⟨pp, hpp⟩ : ∃ pp, p / 2 ^ t = pp := ⟨_, rfl⟩
      obtain ⟨old, hoo⟩ : ∃ old, M / 256 ^ (H / 8) = old := ⟨_, rfl⟩
      have HFt := Aside0.mk (HF.out t)
      rw [hss] at kor kshl kshl2 hs2
      rw [hvv] at kshl kshl2 kand HFt
      rw [hpp] at kshr kshr2 HP2
      rw [hTT] at kand kT1 kT2 hT hT1
      rw [hoo] at kor hs2
      have HPT := Aside0.mk hPT; clear hPT
      rw [hss, hvv, hoo] at HPT
      have hvb : v < 256 := by rw [← hvv]; omega
      have hsb : s < 256 := by omega
      have k1 : ((H : Int) % 8) = (a : Int) := by omega
      have kmin : (if (8 - (a : Int)) < (gk : Int) then (8 - (a : Int)) else (gk : Int)) = (t : Int) := by split <;> omega
      have kv : IntKind.u8.wrap (v : Int) = (v : Int) := u8_nat hvb
      have hgk : gk ≤ 64 := by omega
      have HHL := Aside0.mk hHl
      have HDQ := Aside0.mk hdq
      clear hM hp hH hdq hML hold hv hA hs HF hTT hvv hss hpp hHl
      have HO := Aside0.mk hoo; clear hoo
      have HA := Aside0.mk ha; have HT := Aside0.mk ht; clear ha ht
      obtain ⟨vv, hh1, hh2, hho⟩ := HW.out
      clear HW
      have c0 : wr.cell? ⟨g, 0, none⟩ = some vv := (blk_cell hh1 0).trans rfl
      have c1 : wr.cell? ⟨g, 1, none⟩ = some (.int .i64 (H : Int)) := (blk_cell hh1 1).trans rfl
      have f0 := blk_frozen hh1 0
      have HG1 := Aside0.mk hh1; have HG2 := Aside0.mk hh2; have HGO := Aside0.mk hho
      clear hh1 hh2 hho
      go_upto_if 15 with (fail)
      go_cut [] (fun wc => Aside0 (Mid w0 wc g (dig 256 (H / 8) M) old H) ∧ Aside0 (Below w0.heap.size w0 wc))
      case first =>
        by_cases ha0 : a = 0
        · have t1 : ((a : Int) == 0) = true := by rw [beq_iff_eq]; omega
          have HA0 := Aside0.mk ha0; clear ha0
          go_wp2_with ((with_reducible refine gate_builtin (b := .append) (xs := #[.tmp 20, .tmp 21]) rfl ?_); at_builtin; refine Kd.R_append (Kd.int .u8) (w0 := w0) w0.heap.size rfl (.tmp 20) (.tmp 21) 44 5 (.int .u8 0) 1 rfl Try.underlying44 infoB rfl (by decide) (by omega) vv (ints (wb M H)) 0 [.int .u8 0] (fun k => k ≠ g) (fun _ => False) rfl rfl ?aP (fun _ hk => hk.elim) ?aF ?aO ?aB ?aS ?aL ?_; (case aP => exact rfl); (case aB => exact HB.out); (case aF => exact OwnB.fresh HGO.out (blk_lt HG1.out)); (case aO => exact HGO.out); (case aS => exact HB.out.size); (case aL => have := HHL.out; rw [ints_len, wb_len]; unfold need; omega); intro v5 w5 ho hb hg hat; obtain ⟨A5, n5, e5⟩ := Kd.R_slice ho; subst e5; have c5 : w5.cell? ⟨g, 0, none⟩ = some vv := (blk_cell (blk_grown HG1.out hg HGO.out.ne) 0).trans rfl; have f5 := blk_frozen (blk_grown HG1.out hg HGO.out.ne) 0; clear c0 f0; have HO5 := Aside0.mk ho; have HB5 := Aside0.mk hb; have HG5 := Aside0.mk hg; clear ho hb hg hat)
          go_meet
          case rel =>
            have h := HO5.out
            have e : (ints (wb M H ++ [0])).length = (ints (wb M H)).length + 1 := by simp [ints]
            rw [show ints (wb M H) ++ [0] = ints (wb M H ++ [0]) from (ints_app (wb M H) [0]).symm, e] at h
            exact ⟨⟨by rw [← HO.out]; exact Mid.of_begin HG1.out HG2.out h HG5.out HGO.out.ne (HBE.out HA0.out)⟩, ⟨below_set HB5.out HG2.out⟩⟩
        · have t1 : ((a : Int) == 0) = false := by rw [beq_eq_false_iff_ne]; omega
          have HA0 := Aside0.mk ha0; clear ha0
          go_wp2_with (fail)
          go_meet
          case rel => exact ⟨⟨by rw [← HO.out]; exact WR.mid ⟨vv, HG1.out, HG2.out, HGO.out⟩ (HMI.out HA0.out)⟩, HB⟩
      case rest =>
        clear HB HG1 HG2 HGO c0 c1 f0 HBE HMI
        obtain ⟨HM, HB⟩ := hcut
        obtain ⟨b, cap, hh1, hh2, hho⟩ := HM.out
        clear HM
        have hcb := Kd.R_celln (0 : Int) hho (((dig 256 (H / 8) M).length : Nat) : Int) (by omega) (by omega)
        have hrd : rdOf (0 : Int) (ints (dig 256 (H / 8) M ++ [old])) (((dig 256 (H / 8) M).length : Nat) : Int) = (old : Int) := by
          unfold rdOf
          rw [Int.toNat_natCast, ints_app, List.getD_eq_getElem?_getD, List.getElem?_append_right (by simp [ints])]
          simp [ints]
        rw [hrd, Int.toNat_natCast] at hcb
        obtain ⟨cb, fb⟩ := hcb
        have hne := hho.ne'
        have c0 : wc.cell? ⟨g, 0, none⟩ = some (.slice (some ⟨b, 0, none⟩) ((dig 256 (H / 8) M).length + 1) cap) := (blk_cell hh1 0).trans rfl
        have c1 : wc.cell? ⟨g, 1, none⟩ = some (.int .i64 (H : Int)) := (blk_cell hh1 1).trans rfl
        have f1 := blk_frozen hh1 1
        have hlm : (dig 256 (H / 8) M).length ≤ 140737488355328 := by rw [dig_len]; have := HHL.out; omega
        have HP := Aside0.mk (fun nw : Nat => Mid.put (t := t) (nw := nw) hh1 hh2 hho)
        have HB2 := Aside0.mk (fun (nw : Nat) (u : Value) => Mid.below (L := dig 256 (H / 8) M) (nw := nw) (u := u) HB.out hh2 hho)
        clear hrd hh1 hh2 hho
        obtain ⟨m, hm⟩ : ∃ m, (dig 256 (H / 8) M).length = m := ⟨_, rfl⟩
        rw [hm] at cb fb c0 hlm HP HB2
        have HM := Aside0.mk hm; clear hm
        have hHl2 := HHL.out
        have i1 : (0 : Int) ≤ (m : Int) := by omega
        have i2 : (m : Int) < (m : Int) + 1 := by omega
        go_wp2
        go_region
        go_wp2
        go_roundg (gk - t)
        case measure => have := HT.out; omega
        case rel =>
          have hw := HP.out (old + s)
          rw [HPT.out, HFt.out] at hw
          have e : H + t = b0 + (d + t) := by have := HH.out; omega
          have e2 : ((old + s : Nat) : Int) = (old : Int) + (s : Int) := by omega
          have hb2 := HB2.out (old + s) (.int .i64 ((H : Int) + (t : Int)))
          rw [e2] at hb2
          rw [e, e2] at hw
          have hd := HDQ.out
          have e3 : ((gk : Int) - (t : Int)) = ((gk - t : Nat) : Int) := (Int.ofNat_sub htq).symm
          clear kmin
          exact ⟨d + t, gk - t, by clear k1 kT1 kT2 kand kor kshl kshl2 kshr kshr2 kv; omega, rfl, by rw [HP2.out], by rw [e3], ⟨hw.drew⟩, ⟨below_drew hb2⟩⟩
    · have e : d = q0 := by omega
      have k2 : decide ((0 : Int) < (gk : Int)) = false := decide_eq_false (by omega)
      have k2' : decide (0 < gk) = false := decide_eq_false hlt
      subst e
      clear hlt hdq
      go_wp2
      go_end0
      exact ⟨rfl, HW.out, HB.out⟩
end Go.Proofs.Ytbcjbgmjiehamaa.G
