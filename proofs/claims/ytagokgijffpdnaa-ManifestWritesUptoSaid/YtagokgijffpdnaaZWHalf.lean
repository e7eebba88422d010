import Derived.Test.YtagokgijffpdnaaProg
import Derived.Test.YtagokgijffpdnaaZQC
import Derived.Test.YtagokgijffpdnaaZWMore
import Derived.Test.YtagokgijffpdnaaZWLast
import Derived.WalkKit
import Derived.KernelRfl
import Derived.RowKit3
import Derived.Deep.LoopGhost
import Derived.RowKit
namespace Go.Proofs.Ytagokgijffpdnaa.G
open Go.RowKit Go.Proofs.YtagokgijffpdnaaQ Go.Proofs.YtagokgijffpdnaaW.PrintWords Go.Proofs.YtagokgijffpdnaaW.PrintLast Go.Proofs.YtagokgijffpdnaaW.PrintMore
set_option linter.unusedVariables false
set_option linter.unusedSimpArgs false
def tabV (n : Nat) : Array Value := ((List.range 16).map fun i => Value.int .u32 (if i < n then (tab4 i : Int) else 0)).toArray
theorem tabV_get {n i : Nat} (hi : i < 16) : (tabV n)[i]? = some (Value.int .u32 (if i < n then (tab4 i : Int) else 0)) := by
  unfold tabV
  rw [List.getElem?_toArray, List.getElem?_map, List.getElem?_range hi]; rfl
theorem tabV_set {i : Nat} (hi : i < 16) : (tabV i).setIfInBounds i (.int .u32 (tab4 i : Int)) = tabV (i + 1) := by
  unfold tabV
  rw [List.setIfInBounds_toArray]
  congr 1
  apply List.ext_getElem?
  intro j
  rw [List.getElem?_set, List.getElem?_map, List.getElem?_map]
  by_cases hj : j < 16
  · rw [List.getElem?_range hj]
    by_cases e : i = j
    · subst e
      simp [hi]
    · have : j < i + 1 ↔ j < i := by omega
      simp [e, this]
  · have e : ¬ i = j := by omega
    rw [List.getElem?_eq_none (by simp; omega)]
    simp [e]
def HalfW (w wx : World) (i : Nat) : Prop := wx.heap[w.heap.size]? = some (.cells (tabV 0) 102 (0, 0)) ∧ wx.heap[w.heap.size + 1]? = some (.cells (tabV i) 102 (0, 0)) ∧ Below w.heap.size w wx
theorem HalfW.cell {w wx : World} {i : Nat} (h : HalfW w wx i) {j : Nat} (hj : j < 16) : wx.cell? ⟨w.heap.size + 1, j, none⟩ = some (Value.int .u32 (if j < i then (tab4 j : Int) else 0)) := (blk_cell h.2.1 j).trans (tabV_get hj)
theorem HalfW.frozen {w wx : World} {i : Nat} (h : HalfW w wx i) (j : Nat) : wx.frozen? ⟨w.heap.size + 1, j, none⟩ = false := blk_frozen h.2.1 j
theorem HalfW.set {w wx : World} {i : Nat} (h : HalfW w wx i) (hi : i < 16) : HalfW w (wx.setCell ⟨w.heap.size + 1, i, none⟩ (.int .u32 (tab4 i : Int))) (i + 1) := by
  refine ⟨?_, ?_, below_set h.2.2 (by omega)⟩
  · rw [Below.heap_setCell wx ⟨w.heap.size + 1, i, none⟩ _ _ (show w.heap.size ≠ w.heap.size + 1 by omega)]; exact h.1
  · have := blk_set h.2.1 i (.int .u32 (tab4 i : Int))
    rw [← tabV_set hi]
    simpa using this
def tabL : List Int := [0, 274646895, 549293790, 820201905, 1098587580, 1361435347, 1640403810, 1905808397, 2197175160, 2460548119, 2722870694, 2987750089, 3280807620, 3553878443, 3811616794, 4084100981]
theorem tabL_is : (List.range 16).map (fun i => (tab4 i : Int)) = tabL := by decide
theorem tabV16 : tabV 16 = (tabL.map (Value.int .u32)).toArray := by
  rw [← tabL_is]; rfl
theorem and1 (r : Nat) (h : r < 4294967296) : Go.bits .and .u32 (r : Int) 1 = (r : Int) % 2 := by
  have := Go.u32_and_nat r 1 h (by omega)
  rw [Nat.and_one_is_mod] at this
  have e : ((1 : Nat) : Int) = 1 := rfl
  rw [← e, this]; omega
set_option maxHeartbeats 1000000 in
set_option maxRecDepth 100000 in
theorem half_calls (w : World) : Calls Try.prog 64 #[] w fun e w' => e = .returned (.agg (tabV 16)) ∧ Below w.heap.size w w' := by
  go_enter Try.func64, Try.ntmps64
  go_wp2
  go_loopg [4] 16 (fun g s4 wx => ∃ i : Nat, i ≤ 16 ∧ g = 16 - i ∧ s4 = .int .i64 i ∧ Aside0 (HalfW w wx i))
  case atStart =>
    refine ⟨0, by omega, by omega, rfl, ⟨?_, ?_, ?_⟩⟩
    · exact blk_alloc (blk_new w _) _
    · have h := blk_new (w.alloc (.cells (tabV 0) 102 (0, 0))) (.cells (tabV 0) 102 (0, 0))
      rw [show (w.alloc (.cells (tabV 0) 102 (0, 0))).heap.size = w.heap.size + 1 from Array.size_push _] at h
      exact h
    · exact below_alloc (below_alloc (Below.refl _ _) _) _
  case round =>
    obtain ⟨i, hi, rfl, rfl, HW⟩ := hrel
    by_cases hlt : i < 16
    · obtain ⟨g1, hg1⟩ : ∃ g1, 16 - i = g1 + 1 := ⟨16 - i - 1, by omega⟩
      have h1 : decide ((i : Int) < 16) = true := decide_eq_true (by omega)
      have h2 : decide (i < 16) = true := decide_eq_true hlt
      have h3 : IntKind.u32.wrap (i : Int) = (i : Int) := by simp [IntKind.wrap, IntKind.bits, IntKind.signed]; omega
      have h4 : (i : Int) % 4294967296 = (i : Int) := by omega
      have HLT := Aside0.mk hlt; clear hlt
      have hcell := HW.out.cell HLT.out
      rw [if_neg (by omega)] at hcell
      have hfz := HW.out.frozen i
      obtain ⟨wo, hwo⟩ : ∃ wo : World, wo = wr := ⟨_, rfl⟩
      subst hwo
      go_wp2
      go_loopg [9, 3] 4 (fun g s9 s3 wx => wx = wo ∧ ∃ k : Nat, k ≤ 4 ∧ g = 4 - k ∧ s9 = .int .i64 k ∧ s3 = .int .u32 ((cbits k i : Nat) : Int))
      case atStart => exact ⟨rfl, 0, by omega, by omega, rfl, by go_num⟩
      case round =>
        obtain ⟨rfl, k, hk, rfl, rfl, rfl⟩ := hrel
        by_cases klt : k < 4
        · obtain ⟨g2, hg2⟩ : ∃ g2, 4 - k = g2 + 1 := ⟨4 - k - 1, by omega⟩
          have k1 : decide ((k : Int) < 4) = true := decide_eq_true (by omega)
          have k2 : decide (k < 4) = true := decide_eq_true klt
          have hr := cbits_lt k (r := i) (by have := HLT.out; omega)
          have hs : cbits (k + 1) i = cbit (cbits k i) := by rw [cbits_add]; rfl
          have HS := Aside0.mk hs; clear hs
          generalize cbits k i = r at *
          have a1 := and1 r hr
          by_cases p : r % 2 = 1
          · have e1 : ((r : Int) % 2 == 1) = true := by rw [beq_iff_eq]; omega
            have x1 : Go.bits .xor .u32 ((r : Int) / 2) 2197175160 = ((cbit r : Nat) : Int) := by
              have h := x32 (r / 2) 2197175160 (by omega) (by omega)
              rw [Int.natCast_ediv] at h
              unfold cbit; rw [if_pos p]; exact h
            clear p
            go_wp2
            go_roundg g2
            case measure => omega
            case rel => exact ⟨rfl, k + 1, by omega, by omega, by go_num, by rw [HS.out]⟩
          · have e1 : ((r : Int) % 2 == 1) = false := by rw [beq_eq_false_iff_ne]; omega
            have x1 : ((r : Int) / 2) = ((cbit r : Nat) : Int) := by unfold cbit; rw [if_neg p]; omega
            have X1 := Aside0.mk x1; clear x1
            clear p
            go_wp2
            go_roundg g2
            case measure => omega
            case rel => exact ⟨rfl, k + 1, by omega, by omega, by go_num, by rw [HS.out, X1.out]⟩
        · have k1 : decide ((k : Int) < 4) = false := decide_eq_false (by omega)
          have k2 : decide (k < 4) = false := decide_eq_false klt
          have e : k = 4 := by omega
          subst e
          have i1 : (i : Int) < 16 := by have := HLT.out; omega
          have i2 : (0 : Int) ≤ (i : Int) := by omega
          have i3 := HLT.out
          replace i1 := eq_true i1
          replace i2 := eq_true i2
          replace i3 := eq_true i3
          clear klt
          have hn := HW.out.set HLT.out
          have HN := Aside0.mk hn; clear hn
          have HE := Aside0.mk (show tab4 i = cbits 4 i from rfl)
          go_wp2
          go_roundg g1
          case measure => omega
          case rel => exact ⟨i + 1, by have := HLT.out; omega, by omega, by go_num, HN⟩
    · have h1 : decide ((i : Int) < 16) = false := decide_eq_false (by omega)
      have h2 : decide (i < 16) = false := decide_eq_false hlt
      have e : i = 16 := by omega
      subst e
      clear hlt hi h1 h2
      have HV := HW.out.2.1
      rw [tabV16] at HV
      have HZ := HW.out.1
      have c0 : wr.cell? ⟨w.heap.size + 1, 0, none⟩ = some (.int .u32 0) := (blk_cell HV 0).trans rfl
      have c1 : wr.cell? ⟨w.heap.size + 1, 1, none⟩ = some (.int .u32 274646895) := (blk_cell HV 1).trans rfl
      have c2 : wr.cell? ⟨w.heap.size + 1, 2, none⟩ = some (.int .u32 549293790) := (blk_cell HV 2).trans rfl
      have c3 : wr.cell? ⟨w.heap.size + 1, 3, none⟩ = some (.int .u32 820201905) := (blk_cell HV 3).trans rfl
      have c4 : wr.cell? ⟨w.heap.size + 1, 4, none⟩ = some (.int .u32 1098587580) := (blk_cell HV 4).trans rfl
      have c5 : wr.cell? ⟨w.heap.size + 1, 5, none⟩ = some (.int .u32 1361435347) := (blk_cell HV 5).trans rfl
      have c6 : wr.cell? ⟨w.heap.size + 1, 6, none⟩ = some (.int .u32 1640403810) := (blk_cell HV 6).trans rfl
      have c7 : wr.cell? ⟨w.heap.size + 1, 7, none⟩ = some (.int .u32 1905808397) := (blk_cell HV 7).trans rfl
      have c8 : wr.cell? ⟨w.heap.size + 1, 8, none⟩ = some (.int .u32 2197175160) := (blk_cell HV 8).trans rfl
      have c9 : wr.cell? ⟨w.heap.size + 1, 9, none⟩ = some (.int .u32 2460548119) := (blk_cell HV 9).trans rfl
      have c10 : wr.cell? ⟨w.heap.size + 1, 10, none⟩ = some (.int .u32 2722870694) := (blk_cell HV 10).trans rfl
      have c11 : wr.cell? ⟨w.heap.size + 1, 11, none⟩ = some (.int .u32 2987750089) := (blk_cell HV 11).trans rfl
      have c12 : wr.cell? ⟨w.heap.size + 1, 12, none⟩ = some (.int .u32 3280807620) := (blk_cell HV 12).trans rfl
      have c13 : wr.cell? ⟨w.heap.size + 1, 13, none⟩ = some (.int .u32 3553878443) := (blk_cell HV 13).trans rfl
      have c14 : wr.cell? ⟨w.heap.size + 1, 14, none⟩ = some (.int .u32 3811616794) := (blk_cell HV 14).trans rfl
      have c15 : wr.cell? ⟨w.heap.size + 1, 15, none⟩ = some (.int .u32 4084100981) := (blk_cell HV 15).trans rfl
      have z0 : wr.cell? ⟨w.heap.size, 0, none⟩ = some (.int .u32 0) := (blk_cell HZ 0).trans rfl
      have f0 := blk_frozen HZ 0
      have z1 : wr.cell? ⟨w.heap.size, 1, none⟩ = some (.int .u32 0) := (blk_cell HZ 1).trans rfl
      have f1 := blk_frozen HZ 1
      have z2 : wr.cell? ⟨w.heap.size, 2, none⟩ = some (.int .u32 0) := (blk_cell HZ 2).trans rfl
      have f2 := blk_frozen HZ 2
      have z3 : wr.cell? ⟨w.heap.size, 3, none⟩ = some (.int .u32 0) := (blk_cell HZ 3).trans rfl
      have f3 := blk_frozen HZ 3
      have z4 : wr.cell? ⟨w.heap.size, 4, none⟩ = some (.int .u32 0) := (blk_cell HZ 4).trans rfl
      have f4 := blk_frozen HZ 4
      have z5 : wr.cell? ⟨w.heap.size, 5, none⟩ = some (.int .u32 0) := (blk_cell HZ 5).trans rfl
      have f5 := blk_frozen HZ 5
      have z6 : wr.cell? ⟨w.heap.size, 6, none⟩ = some (.int .u32 0) := (blk_cell HZ 6).trans rfl
      have f6 := blk_frozen HZ 6
      have z7 : wr.cell? ⟨w.heap.size, 7, none⟩ = some (.int .u32 0) := (blk_cell HZ 7).trans rfl
      have f7 := blk_frozen HZ 7
      have z8 : wr.cell? ⟨w.heap.size, 8, none⟩ = some (.int .u32 0) := (blk_cell HZ 8).trans rfl
      have f8 := blk_frozen HZ 8
      have z9 : wr.cell? ⟨w.heap.size, 9, none⟩ = some (.int .u32 0) := (blk_cell HZ 9).trans rfl
      have f9 := blk_frozen HZ 9
      have z10 : wr.cell? ⟨w.heap.size, 10, none⟩ = some (.int .u32 0) := (blk_cell HZ 10).trans rfl
      have f10 := blk_frozen HZ 10
      have z11 : wr.cell? ⟨w.heap.size, 11, none⟩ = some (.int .u32 0) := (blk_cell HZ 11).trans rfl
      have f11 := blk_frozen HZ 11
      have z12 : wr.cell? ⟨w.heap.size, 12, none⟩ = some (.int .u32 0) := (blk_cell HZ 12).trans rfl
      have f12 := blk_frozen HZ 12
      have z13 : wr.cell? ⟨w.heap.size, 13, none⟩ = some (.int .u32 0) := (blk_cell HZ 13).trans rfl
      have f13 := blk_frozen HZ 13
      have z14 : wr.cell? ⟨w.heap.size, 14, none⟩ = some (.int .u32 0) := (blk_cell HZ 14).trans rfl
      have f14 := blk_frozen HZ 14
      have z15 : wr.cell? ⟨w.heap.size, 15, none⟩ = some (.int .u32 0) := (blk_cell HZ 15).trans rfl
      have f15 := blk_frozen HZ 15
      have HB := Aside0.mk HW.out.2.2
      have HV' := Aside0.mk HV; have HZ' := Aside0.mk HZ; clear HV HZ HW
      go_wp2
      have y := HZ'.out
      replace y := blk_set y 0 (.int .u32 0)
      replace y := blk_set y 1 (.int .u32 274646895)
      replace y := blk_set y 2 (.int .u32 549293790)
      replace y := blk_set y 3 (.int .u32 820201905)
      replace y := blk_set y 4 (.int .u32 1098587580)
      replace y := blk_set y 5 (.int .u32 1361435347)
      replace y := blk_set y 6 (.int .u32 1640403810)
      replace y := blk_set y 7 (.int .u32 1905808397)
      replace y := blk_set y 8 (.int .u32 2197175160)
      replace y := blk_set y 9 (.int .u32 2460548119)
      replace y := blk_set y 10 (.int .u32 2722870694)
      replace y := blk_set y 11 (.int .u32 2987750089)
      replace y := blk_set y 12 (.int .u32 3280807620)
      replace y := blk_set y 13 (.int .u32 3553878443)
      replace y := blk_set y 14 (.int .u32 3811616794)
      replace y := blk_set y 15 (.int .u32 4084100981)
      have hbw := HB.out
      replace hbw := below_set (j := 0) (v := (.int .u32 0)) hbw (Nat.le_refl _)
      replace hbw := below_set (j := 1) (v := (.int .u32 274646895)) hbw (Nat.le_refl _)
      replace hbw := below_set (j := 2) (v := (.int .u32 549293790)) hbw (Nat.le_refl _)
      replace hbw := below_set (j := 3) (v := (.int .u32 820201905)) hbw (Nat.le_refl _)
      replace hbw := below_set (j := 4) (v := (.int .u32 1098587580)) hbw (Nat.le_refl _)
      replace hbw := below_set (j := 5) (v := (.int .u32 1361435347)) hbw (Nat.le_refl _)
      replace hbw := below_set (j := 6) (v := (.int .u32 1640403810)) hbw (Nat.le_refl _)
      replace hbw := below_set (j := 7) (v := (.int .u32 1905808397)) hbw (Nat.le_refl _)
      replace hbw := below_set (j := 8) (v := (.int .u32 2197175160)) hbw (Nat.le_refl _)
      replace hbw := below_set (j := 9) (v := (.int .u32 2460548119)) hbw (Nat.le_refl _)
      replace hbw := below_set (j := 10) (v := (.int .u32 2722870694)) hbw (Nat.le_refl _)
      replace hbw := below_set (j := 11) (v := (.int .u32 2987750089)) hbw (Nat.le_refl _)
      replace hbw := below_set (j := 12) (v := (.int .u32 3280807620)) hbw (Nat.le_refl _)
      replace hbw := below_set (j := 13) (v := (.int .u32 3553878443)) hbw (Nat.le_refl _)
      replace hbw := below_set (j := 14) (v := (.int .u32 3811616794)) hbw (Nat.le_refl _)
      replace hbw := below_set (j := 15) (v := (.int .u32 4084100981)) hbw (Nat.le_refl _)
      have y' := y.trans (congrArg (fun t => some (Obj.cells t 102 (0, 0))) (show _ = tabV 16 by rw [tabV16]; rfl))
      clear y
      have d0 := (blk_cell y' 0).trans (show _ = some (Value.int .u32 0) by rw [tabV16]; rfl)
      have d1 := (blk_cell y' 1).trans (show _ = some (Value.int .u32 274646895) by rw [tabV16]; rfl)
      have d2 := (blk_cell y' 2).trans (show _ = some (Value.int .u32 549293790) by rw [tabV16]; rfl)
      have d3 := (blk_cell y' 3).trans (show _ = some (Value.int .u32 820201905) by rw [tabV16]; rfl)
      have d4 := (blk_cell y' 4).trans (show _ = some (Value.int .u32 1098587580) by rw [tabV16]; rfl)
      have d5 := (blk_cell y' 5).trans (show _ = some (Value.int .u32 1361435347) by rw [tabV16]; rfl)
      have d6 := (blk_cell y' 6).trans (show _ = some (Value.int .u32 1640403810) by rw [tabV16]; rfl)
      have d7 := (blk_cell y' 7).trans (show _ = some (Value.int .u32 1905808397) by rw [tabV16]; rfl)
      have d8 := (blk_cell y' 8).trans (show _ = some (Value.int .u32 2197175160) by rw [tabV16]; rfl)
      have d9 := (blk_cell y' 9).trans (show _ = some (Value.int .u32 2460548119) by rw [tabV16]; rfl)
      have d10 := (blk_cell y' 10).trans (show _ = some (Value.int .u32 2722870694) by rw [tabV16]; rfl)
      have d11 := (blk_cell y' 11).trans (show _ = some (Value.int .u32 2987750089) by rw [tabV16]; rfl)
      have d12 := (blk_cell y' 12).trans (show _ = some (Value.int .u32 3280807620) by rw [tabV16]; rfl)
      have d13 := (blk_cell y' 13).trans (show _ = some (Value.int .u32 3553878443) by rw [tabV16]; rfl)
      have d14 := (blk_cell y' 14).trans (show _ = some (Value.int .u32 3811616794) by rw [tabV16]; rfl)
      have d15 := (blk_cell y' 15).trans (show _ = some (Value.int .u32 4084100981) by rw [tabV16]; rfl)
      clear y'
      clear c0 z0 f0 c1 z1 f1 c2 z2 f2 c3 z3 f3 c4 z4 f4 c5 z5 f5 c6 z6 f6 c7 z7 f7 c8 z8 f8 c9 z9 f9 c10 z10 f10 c11 z11 f11 c12 z12 f12 c13 z13 f13 c14 z14 f14 c15 z15 f15
      generalize World.setCell _ _ _ = W at *
      refine bodyPost_ret (v := .agg (tabV 16)) ?_ rfl ⟨rfl, hbw⟩
      rw [tabV16]
      simp [results, Try.results64, go_sem, *]
      rfl
end Go.Proofs.Ytagokgijffpdnaa.G
