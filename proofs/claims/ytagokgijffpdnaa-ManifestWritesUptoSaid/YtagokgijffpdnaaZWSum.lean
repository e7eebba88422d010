import Derived.Test.YtagokgijffpdnaaZWHalf
import Derived.Lib.ConvBytes
import Derived.Deep.QuietTactic
import Derived.Deep.CutBlock
import Derived.BigQuiet
namespace Go.Proofs.Ytagokgijffpdnaa.G
open Go.RowKit Go.Proofs.YtagokgijffpdnaaQ Go.Proofs.YtagokgijffpdnaaW.PrintWords Go.Proofs.YtagokgijffpdnaaW.PrintLast Go.Proofs.YtagokgijffpdnaaW.PrintMore
set_option linter.unusedVariables false
set_option linter.unusedSimpArgs false
theorem and15 (r : Nat) (h : r < 4294967296) : Go.bits .and .u32 (r : Int) 15 = ((r % 16 : Nat) : Int) := by
  have := Go.u32_and_nat r 15 h (by omega)
  have e2 : r &&& 15 = r % 16 := Nat.and_two_pow_sub_one_eq_mod r 4
  rw [e2] at this
  exact this
theorem half_one (r : Nat) : (r / 16) ^^^ tab4 (r % 16) = cbits 4 r := (cbits4 r).symm
theorem tab_cell {W : World} {g : Nat} (h : W.heap[g]? = some (.cells (tabV 16) 102 (0, 0))) {m : Nat} (hm : m < 16) : W.cell? ⟨g, m, none⟩ = some (.int .u32 ((tab4 m : Nat) : Int)) := by
  have := (blk_cell h m).trans (tabV_get hm)
  rwa [if_pos hm] at this
theorem not32 (r : Nat) (h : r < 4294967296) : Go.bits .xor .u32 IntKind.u32.max (r : Int) = ((4294967295 - r : Nat) : Int) := by
  have h1 := Go.u32_xor_nat 4294967295 r (by omega) h
  have e : 4294967295 ^^^ r = 4294967295 - r := by
    have hx : r < 2 ^ 32 := by omega
    have : (BitVec.allOnes 32 ^^^ BitVec.ofNat 32 r).toNat = (~~~ BitVec.ofNat 32 r).toNat := by rw [BitVec.xor_comm, BitVec.xor_allOnes]
    rw [BitVec.toNat_xor, BitVec.toNat_not, BitVec.toNat_ofNat, BitVec.toNat_allOnes, Nat.mod_eq_of_lt hx] at this
    simpa using this
  rw [e] at h1
  exact h1
theorem byte_at (s : ByteArray) (k : Nat) (hk : k < s.size) : nats ((bytesOf s).take (k + 1)) = nats ((bytesOf s).take k) ++ [(s.data.toList.getD k 0).toNat] := by
  have hs : k < s.data.toList.length := by simpa using hk
  unfold nats bytesOf
  rw [List.take_add_one, List.map_append, List.getElem?_map, List.getElem?_eq_getElem hs]
  simp [List.getD_eq_getElem?_getD, List.getElem?_eq_getElem hs]
set_option maxHeartbeats 1000000 in
set_option maxRecDepth 100000 in
theorem Sum_calls (s : ByteArray) (w : World) (hs : s.size ≤ 4611686018427387904) : Calls Try.prog 42 #[.string s] w fun e w' => e = .returned (.int .u32 ((crc (bytesOf s) : Nat) : Int)) ∧ Below w.heap.size w w' := by
  have hcv := fun (W : World) (t : ByteArray) => Lib.run_convert_string_bytes (P := Try.prog) W 9 51 5 t Try.underlying9 Try.underlying51 Try.underlying5
  go_enter Try.func42, Try.ntmps42
  go_wp2_with fail
  refine (half_calls w).mono ?_; rintro e w1 ⟨rfl, hb⟩
  have e0 : tabV 16 = #[(Value.int .u32 0), (Value.int .u32 274646895), (Value.int .u32 549293790), (Value.int .u32 820201905), (Value.int .u32 1098587580), (Value.int .u32 1361435347), (Value.int .u32 1640403810), (Value.int .u32 1905808397), (Value.int .u32 2197175160), (Value.int .u32 2460548119), (Value.int .u32 2722870694), (Value.int .u32 2987750089), (Value.int .u32 3280807620), (Value.int .u32 3553878443), (Value.int .u32 3811616794), (Value.int .u32 4084100981)] := by rw [tabV16]; rfl
  rw [e0]
  go_upto_region 2 with fail
  have y := blk_new w1 (.cells (tabV 16) 102 (0, 0))
  have hbw := below_alloc hb (.cells (tabV 16) 102 (0, 0))
  rw [e0] at y hbw
  have y' := y.trans (congrArg (fun t => some (Obj.cells t 102 (0, 0))) e0.symm)
  clear y e0
  generalize World.alloc _ _ = W at *
  generalize w1.heap.size = g at *
  have HT := Aside0.mk y'; clear y'
  have HB := Aside0.mk (bytes_below hbw hbw.size 5 s)
  have HTW := Aside0.mk ((Lib.bytesWorld_at_old W 5 s g (blk_lt HT.out)).trans HT.out)
  have HC := Aside0.mk (fun j hj => Lib.bytesWorld_cell W 5 s j hj)
  have hsg : IntKind.u32.signed = false := rfl
  clear hb hbw
  go_wp2
  go_loop [4, 11] (fun r i => ∃ k : Nat, k ≤ s.size ∧ i = .int .i64 k ∧ r = .int .u32 ((creg 4294967295 (nats ((bytesOf s).take k)) : Nat) : Int)) (fun _ i => s.size - (intOf i).toNat)
  case atStart => exact ⟨0, Nat.zero_le _, rfl, rfl⟩
  case round =>
    obtain ⟨k, hk, rfl, rfl⟩ := hrel
    by_cases hlt : k < s.size
    · have hc := HC.out k hlt
      have hby := byte_at s k hlt
      have hr0 : creg 4294967295 (nats ((bytesOf s).take k)) < 4294967296 := creg_lt _ (by omega) (nats_lt ((Bs.bytesOf s).take k))
      have hb0 : (s.data.toList.getD k 0).toNat < 256 := UInt8.toNat_lt _
      generalize (s.data.toList.getD k 0).toNat = b at *
      have hnx : creg 4294967295 (nats ((bytesOf s).take (k + 1))) = cbits 8 (creg 4294967295 (nats ((bytesOf s).take k)) ^^^ b) := by rw [hby, creg_snoc]
      clear hby
      generalize creg 4294967295 (nats ((bytesOf s).take k)) = r0 at *
      have v1 : IntKind.u32.wrap (b : Int) = (b : Int) := by simp [IntKind.wrap, IntKind.bits, IntKind.signed]; omega
      have v2 : (b : Int) % 4294967296 = (b : Int) := by omega
      have x1 := x32 r0 b hr0 (by omega)
      have hr1 : r0 ^^^ b < 4294967296 := x32_lt hr0 (by omega)
      generalize r0 ^^^ b = r1 at *
      have m1 := and15 r1 hr1
      have lt1 : r1 % 16 < 16 := by omega
      have c1 := tab_cell HTW.out lt1
      have q1 : ((r1 : Int) / 16) = ((r1 / 16 : Nat) : Int) := by omega
      have x2 := x32 (r1 / 16) (tab4 (r1 % 16)) (by omega) (cbits_lt 4 (by omega))
      rw [half_one] at x2
      have hr2 : cbits 4 r1 < 4294967296 := cbits_lt 4 hr1
      have hnx2 : cbits 8 r1 = cbits 4 (cbits 4 r1) := cbits_add 4 4 r1
      generalize cbits 4 r1 = r2 at *
      have m2 := and15 r2 hr2
      have lt2 : r2 % 16 < 16 := by omega
      have c2 := tab_cell HTW.out lt2
      have q2 : ((r2 : Int) / 16) = ((r2 / 16 : Nat) : Int) := by omega
      have x3 := x32 (r2 / 16) (tab4 (r2 % 16)) (by omega) (cbits_lt 4 (by omega))
      rw [half_one] at x3
      generalize cbits 4 r2 = r3 at *
      have HN := Aside0.mk (hnx.trans hnx2); clear hnx hnx2
      have i1 : ((r1 % 16 : Nat) : Int) < 16 := by omega
      have i2 : ((r2 % 16 : Nat) : Int) < 16 := by omega
      generalize r1 % 16 = n1 at *
      generalize r2 % 16 = n2 at *
      generalize r1 / 16 = p1 at *
      generalize r2 / 16 = p2 at *
      generalize tab4 n1 = t1 at *
      generalize tab4 n2 = t2 at *
      clear hr0 hr1 hr2 hb0
      have d1 : decide ((k : Int) < (s.size : Int)) = true := decide_eq_true (by omega)
      have d2 : decide (k < s.size) = true := decide_eq_true hlt
      go_wp2
      go_round
      case rel => exact ⟨k + 1, by omega, by go_num, by rw [HN.out]⟩
      case measure => simp [intOf]; omega
    · have d1 : decide ((k : Int) < (s.size : Int)) = false := decide_eq_false (by omega)
      have d2 : decide (k < s.size) = false := decide_eq_false hlt
      have e : k = s.size := by omega
      have ht : (bytesOf s).take k = bytesOf s := List.take_of_length_le (by rw [bytesOf_size]; omega)
      rw [ht]
      have hr0 : creg 4294967295 (nats (bytesOf s)) < 4294967296 := creg_lt _ (by omega) (nats_lt (Bs.bytesOf s))
      have hn := not32 _ hr0
      have hq : crc (bytesOf s) = 4294967295 - creg 4294967295 (nats (bytesOf s)) := rfl
      generalize creg 4294967295 (nats (bytesOf s)) = r at *
      have HQ := Aside0.mk hq; clear hq
      clear hlt hk e ht
      go_wp2
      go_ret
      exact ⟨by rw [HQ.out]; rfl, HB.out⟩
theorem bt_nat (s : ByteArray) (k : Nat) (hk : k < s.size) : ∀ h : k < s.size, (((s[k]'h).toNat : Nat) : Int) = (((s.data.toList.getD k 0).toNat : Nat) : Int) := by
  intro h
  have hs : k < s.data.toList.length := by simpa using hk
  rw [List.getD_eq_getElem?_getD, List.getElem?_eq_getElem hs]
  rfl
theorem cbits_succ (k r : Nat) : cbits (k + 1) r = cbit (cbits k r) := by rw [cbits_add]; rfl
set_option maxHeartbeats 1000000 in
set_option maxRecDepth 100000 in
theorem RSum_calls (s : ByteArray) (w : World) (hs : s.size ≤ 4611686018427387904) : Calls Try.prog 49 #[.string s] w fun e w' => e = .returned (.int .u32 ((crc (bytesOf s) : Nat) : Int)) ∧ w' = w := by
  have hsg : IntKind.u32.signed = false := rfl
  go_enter Try.func49, Try.ntmps49
  go_wp2
  go_loop [3, 4] (fun r i => ∃ k : Nat, k ≤ s.size ∧ i = .int .i64 k ∧ r = .int .u32 ((creg 4294967295 (nats ((bytesOf s).take k)) : Nat) : Int)) (fun _ i => s.size - (intOf i).toNat)
  case atStart => exact ⟨0, Nat.zero_le _, rfl, rfl⟩
  case round =>
    obtain ⟨k, hk, rfl, rfl⟩ := hrel
    by_cases hlt : k < s.size
    · have hby := byte_at s k hlt
      have hr0 : creg 4294967295 (nats ((bytesOf s).take k)) < 4294967296 := creg_lt _ (by omega) (nats_lt ((Bs.bytesOf s).take k))
      have hb0 : (s.data.toList.getD k 0).toNat < 256 := UInt8.toNat_lt _
      have hat := bt_nat s k hlt
      generalize (s.data.toList.getD k 0).toNat = b at *
      have hnx : creg 4294967295 (nats ((bytesOf s).take (k + 1))) = cbits 8 (creg 4294967295 (nats ((bytesOf s).take k)) ^^^ b) := by rw [hby, creg_snoc]
      clear hby
      generalize creg 4294967295 (nats ((bytesOf s).take k)) = r0 at *
      have v1 : IntKind.u32.wrap (b : Int) = (b : Int) := by simp [IntKind.wrap, IntKind.bits, IntKind.signed]; omega
      have v2 : (b : Int) % 4294967296 = (b : Int) := by omega
      have x1 := x32 r0 b hr0 (by omega)
      have hr1 : r0 ^^^ b < 4294967296 := x32_lt hr0 (by omega)
      generalize r0 ^^^ b = r1 at *
      have HN := Aside0.mk hnx; clear hnx
      have HR := Aside0.mk hr1; clear hr1
      have d1 : decide ((k : Int) < (s.size : Int)) = true := decide_eq_true (by omega)
      have d2 : decide (k < s.size) = true := decide_eq_true hlt
      have d3 : (0 : Int) ≤ (k : Int) := by omega
      have d4 : (k : Int) < (s.size : Int) := by omega
      clear hr0 hb0
      go_wp2
      go_loop [3, 5] (fun r i => ∃ j : Nat, j ≤ 8 ∧ i = .int .i64 j ∧ r = .int .u32 ((cbits j r1 : Nat) : Int)) (fun _ i => 8 - (intOf i).toNat)
      case atStart => exact ⟨0, Nat.zero_le _, rfl, rfl⟩
      case round =>
        obtain ⟨j, hj, rfl, rfl⟩ := hrel
        by_cases jlt : j < 8
        · have hr := cbits_lt j HR.out
          have hs := cbits_succ j r1
          have HS := Aside0.mk hs; clear hs
          generalize cbits j r1 = r at *
          have j1 : decide ((j : Int) < 8) = true := decide_eq_true (by omega)
          have j2 : decide (j < 8) = true := decide_eq_true jlt
          have y1 : Int.tmod (r : Int) 2 = (r : Int) % 2 := Int.tmod_eq_emod_of_nonneg (by omega)
          have y2 : Int.tdiv (r : Int) 2 = (r : Int) / 2 := Int.tdiv_eq_ediv_of_nonneg (by omega)
          have y3 : ((r : Int) / 2) % 4294967296 = (r : Int) / 2 := by omega
          have y4 : ((r : Int) % 2) % 4294967296 = (r : Int) % 2 := by omega
          by_cases p : r % 2 = 1
          · have e1 : ((r : Int) % 2 == 1) = true := by rw [beq_iff_eq]; omega
            have x1 : Go.bits .xor .u32 ((r : Int) / 2) 2197175160 = ((cbit r : Nat) : Int) := by
              have h := x32 (r / 2) 2197175160 (by omega) (by omega)
              rw [Int.natCast_ediv] at h
              unfold cbit; rw [if_pos p]; exact h
            clear p
            go_wp2
            go_round
            case rel => exact ⟨j + 1, by omega, by go_num, by rw [HS.out]⟩
            case measure => simp [intOf]; omega
          · have e1 : ((r : Int) % 2 == 1) = false := by rw [beq_eq_false_iff_ne]; omega
            have x1 : ((r : Int) / 2) = ((cbit r : Nat) : Int) := by unfold cbit; rw [if_neg p]; omega
            have X1 := Aside0.mk x1; clear x1
            clear p
            go_wp2
            go_round
            case rel => exact ⟨j + 1, by omega, by go_num, by rw [HS.out, ← X1.out]⟩
            case measure => simp [intOf]; omega
        · have j1 : decide ((j : Int) < 8) = false := decide_eq_false (by omega)
          have j2 : decide (j < 8) = false := decide_eq_false jlt
          have e : j = 8 := by omega
          subst e
          clear jlt hj
          go_wp2
          go_round
          case rel => exact ⟨k + 1, by omega, by go_num, by rw [HN.out]⟩
          case measure => simp [intOf]; omega
    · have d1 : decide ((k : Int) < (s.size : Int)) = false := decide_eq_false (by omega)
      have d2 : decide (k < s.size) = false := decide_eq_false hlt
      have e : k = s.size := by omega
      have ht : (bytesOf s).take k = bytesOf s := List.take_of_length_le (by rw [bytesOf_size]; omega)
      rw [ht]
      have hr0 : creg 4294967295 (nats (bytesOf s)) < 4294967296 := creg_lt _ (by omega) (nats_lt (Bs.bytesOf s))
      have hn := not32 _ hr0
      have hq : crc (bytesOf s) = 4294967295 - creg 4294967295 (nats (bytesOf s)) := rfl
      generalize creg 4294967295 (nats (bytesOf s)) = r at *
      have HQ := Aside0.mk hq; clear hq
      clear hlt hk e ht
      go_wp2
      go_ret
      exact ⟨by rw [HQ.out]; rfl, rfl⟩
end Go.Proofs.Ytagokgijffpdnaa.G
