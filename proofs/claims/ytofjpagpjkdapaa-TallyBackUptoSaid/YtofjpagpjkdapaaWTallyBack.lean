import Derived.Test.YtofjpagpjkdapaaPureTallyOrder
import Derived.Test.YtofjpagpjkdapaaH3
/-! The walk of TallyBack. Its regions are printed by wip/rgn.py. -/
namespace Go.Proofs.Ytofjpagpjkdapaa.G
open Go.RowKit Go.Proofs.YtofjpagpjkdapaaQ Go.Proofs.YtofjpagpjkdapaaW.PrintWords Go.Proofs.YtofjpagpjkdapaaW.PrintLast Go.Proofs.YtofjpagpjkdapaaW.PrintMore
set_option linter.unusedVariables false
set_option linter.unusedSimpArgs false
def TallyBack.T23 : Bool × List (List Nat × List Nat) := (true, [([], []), ([0], [0]), ([], []), ([], []), ([2, 3], [2, 3]), ([4], [4]), ([5], [5]), ([6], [6]), ([1, 7], [1, 7]), ([8, 1, 0, 1, 2, 3, 4, 5, 6, 7, 8], [8])])
theorem TallyBack.tab23 : rtab .any (opsOf Try.f9 23) = TallyBack.T23 := by kernel_rfl
def TallyBack.T25 : Bool × List (List Nat × List Nat) := (true, [([], []), ([0], [0]), ([], []), ([], []), ([2, 3], [2, 3]), ([4], [4]), ([5], [5]), ([1, 6], [1, 6]), ([7, 1, 0, 1, 2, 3, 4, 5, 6, 7], [7])])
theorem TallyBack.tab25 : rtab .any (opsOf Try.f9 25) = TallyBack.T25 := by kernel_rfl
def TallyBack.T27 : Bool × List (List Nat × List Nat) := (true, [([], []), ([], []), ([], []), ([1, 2], [1, 2]), ([3], [3]), ([4], [4]), ([5], [5]), ([0, 6], [0, 6]), ([], []), ([], []), ([8, 9], [8, 9]), ([10], [10]), ([11], [11]), ([7, 12], [7, 12]), ([13, 7, 0, 1, 2, 3, 4, 5, 6, 7, 8, 9, 10, 11, 12, 13], [13])])
theorem TallyBack.tab27 : rtab .any (opsOf Try.f9 27) = TallyBack.T27 := by kernel_rfl
def TallyBack.T29 : Bool × List (List Nat × List Nat) := (true, [([], []), ([0], [0]), ([], []), ([], []), ([2, 3], [2, 3]), ([4], [4]), ([5], [5]), ([6], [6]), ([7], [7]), ([1, 8], [1, 8]), ([9, 1, 0, 1, 2, 3, 4, 5, 6, 7, 8, 9], [9])])
theorem TallyBack.tab29 : rtab .any (opsOf Try.f9 29) = TallyBack.T29 := by kernel_rfl
set_option maxHeartbeats 4000000 in
set_option maxRecDepth 100000 in
theorem TallyBack.walk (A : Option Addr) (c0 : Nat) (l : List ST) (w : World) (hr : kT.C w A l.length l) (hok : ∀ x ∈ l, OkT x ∧ x.f2.size ≤ 1048576) (hl : l.length ≤ 1048576) (hln : ∀ i, (encAll (l.take i)).length ≤ 9437184) :
    Calls Try.prog 9 #[.slice A l.length c0] w fun e w' => e = .returned (.bool true) ∧ Below w.heap.size w w' := by
  have HR := Aside0.mk hr
  have HOK := Aside0.mk hok
  have HN := Aside0.mk hln
  clear hr hok hln
  go_enter Try.func9, Try.ntmps9
  go_wp2_with fail
  refine (tithebarnlaw01_lives.calls 10 true _ (Pure.lives1 (Nat.le_refl _))).mono ?_; rintro e w1 ⟨rfl, hb⟩
  have HB := Aside0.mk hb; clear hb
  go_wp2_with fail
  go_loopg [3, 4] l.length (fun g s3 s4 wx => ∃ (i : Nat) (v : Value), i ≤ l.length ∧ g = l.length - i ∧ s3 = v ∧ s4 = .int .i64 i ∧ Aside0 (Own w wx v (encAll (l.take i))) ∧ Aside0 (Below w.heap.size w wx))
  case atStart => exact ⟨0, _, by omega, by omega, rfl, rfl, ⟨Own.nil _ _⟩, HB⟩
  case round =>
    obtain ⟨i, v, hi, rfl, rfl, rfl, HO, HB⟩ := hrel
    by_cases hlt : i < l.length
    · obtain ⟨ad, hA, hx0, hx1, hx2⟩ := at_T (Kd.C_below HR.out HB.out) i hlt
      have hy := HOK.out _ (rdT_mem hlt)
      obtain ⟨x, hx⟩ : ∃ x, rdT l i = x := ⟨_, rfl⟩
      rw [hx] at hx0 hx1 hx2 hy
      have HX := Aside0.mk hx; clear hx
      obtain ⟨g1, hg1⟩ : ∃ g1, l.length - i = g1 + 1 := ⟨l.length - i - 1, by omega⟩
      have h1 : decide ((i : Int) < (l.length : Int)) = true := decide_eq_true (by omega)
      have h2 : decide (i < l.length) = true := decide_eq_true hlt
      have h3 : (i : Int) < (l.length : Int) := by omega
      have h4 : (0 : Int) ≤ (i : Int) := by omega
      replace h3 := eq_true h3
      replace h4 := eq_true h4
      have HLT := Aside0.mk hlt; clear hlt
      have HY := Aside0.mk hy; clear hy
      cases hA
      clear HOK
      have HLN := Aside0.mk (HN.out i)
      clear HN
      have ho := HO.out; have hb := HB.out
      rcases kdT_cases x.f0 with hq | hq | hq | hq
      · have HQ := Aside0.mk hq; clear hq
        go_wp2_with fail
        refine (kind_any hb HQ.out).mono ?_; rintro e1 w4 ⟨rfl, hb4, hn4⟩
        replace ho := ho.below hn4
        replace hb := hb4
        clear hn4 hb4
        obtain ⟨hz1, hz2⟩ := T_cell HR.out HLT.out HX.out hb
        go_wp2_with fail
        refine (putU_any (w0 := w) ho hb (by have := HLN.out; omega) (u64_wrap _)).mono ?_; rintro e1 w5 ⟨v5, rfl, ho, hb, hk⟩
        clear hk hz1 hz2
        have ho' := ho
        rw [← encX0 HQ.out, ← encAll_snoc, ← take_snoc HLT.out HX.out] at ho'
        clear HO HB
        go_wp2_with fail
        go_roundg g1
        case measure => omega
        case rel => exact ⟨i + 1, _, by omega, by omega, rfl, by go_num, ⟨ho'⟩, ⟨hb⟩⟩
      · have HQ := Aside0.mk hq; clear hq
        go_wp2_with fail
        refine (kind_any hb HQ.out).mono ?_; rintro e1 w4 ⟨rfl, hb4, hn4⟩
        replace ho := ho.below hn4
        replace hb := hb4
        clear hn4 hb4
        obtain ⟨hz1, hz2⟩ := T_cell HR.out HLT.out HX.out hb
        go_wp2_with fail
        refine (putI_any (w0 := w) ho hb (by have := HLN.out; omega) HY.out.1.2).mono ?_; rintro e1 w5 ⟨v5, rfl, ho, hb, hk⟩
        clear hk hz1 hz2
        have ho' := ho
        rw [← encX1 HQ.out, ← encAll_snoc, ← take_snoc HLT.out HX.out] at ho'
        clear HO HB
        go_wp2_with fail
        go_roundg g1
        case measure => omega
        case rel => exact ⟨i + 1, _, by omega, by omega, rfl, by go_num, ⟨ho'⟩, ⟨hb⟩⟩
      · have HQ := Aside0.mk hq; clear hq
        go_wp2_with fail
        refine (kind_any hb HQ.out).mono ?_; rintro e1 w4 ⟨rfl, hb4, hn4⟩
        replace ho := ho.below hn4
        replace hb := hb4
        clear hn4 hb4
        obtain ⟨hz1, hz2⟩ := T_cell HR.out HLT.out HX.out hb
        go_wp2_with fail
        refine (putT_any (w0 := w) ho hb (by have := HLN.out; have := HY.out.2; omega)).mono ?_; rintro e1 w5 ⟨v5, rfl, ho, hb, hk⟩
        clear hk hz1 hz2
        have ho' := ho
        rw [← encX2 HQ.out, ← encAll_snoc, ← take_snoc HLT.out HX.out] at ho'
        clear HO HB
        go_wp2_with fail
        go_roundg g1
        case measure => omega
        case rel => exact ⟨i + 1, _, by omega, by omega, rfl, by go_num, ⟨ho'⟩, ⟨hb⟩⟩
      · have HQ := Aside0.mk hq; clear hq
        go_wp2_with fail
        refine (kind_any hb HQ.out).mono ?_; rintro e1 w4 ⟨rfl, hb4, hn4⟩
        replace ho := ho.below hn4
        replace hb := hb4
        clear hn4 hb4
        obtain ⟨hz1, hz2⟩ := T_cell HR.out HLT.out HX.out hb
        go_wp2_with (at_builtin; (refine app_byte (w0 := w) (l := encAll (l.take i)) (y := x.f1 % 256) rfl (.tmp 51) (.tmp 58) rfl rfl rfl ho hb (by have := HLN.out; omega) ?_; intro v5 w5 ho' hb'))
        clear hz1 hz2
        replace ho := ho'
        replace hb := hb'
        clear ho' hb'
        have ho' := ho
        rw [← encX3 HQ.out, ← encAll_snoc, ← take_snoc HLT.out HX.out] at ho'
        clear HO HB
        go_wp2_with fail
        go_roundg g1
        case measure => omega
        case rel => exact ⟨i + 1, _, by omega, by omega, rfl, by go_num, ⟨ho'⟩, ⟨hb⟩⟩
    · have h1 : decide ((i : Int) < (l.length : Int)) = false := decide_eq_false (by omega)
      have h2 : decide (i < l.length) = false := decide_eq_false hlt
      have ho := HO.out
      rw [List.take_of_length_le (by omega)] at ho
      have hcv := Own.str ho
      clear hlt HO
      have HLN := HN.out l.length
      rw [List.take_length] at HLN
      go_wp2_with fail
      refine (from_any (w0 := w) (strOfNums (encAll l)) (by rw [size_strOfNums]; omega) HB.out).mono ?_; rintro e w2 ⟨c, rfl, hc, hcw, hb, _⟩
      rw [bytesOf_strOfNums (encAll_Bs HOK.out)] at hc
      have hcs : Cur w w2 c (encAll (l.drop 0)) 0 := hc
      clear HB hc hcv ho HLN HN
      have HC := Aside0.mk hcs; have HB := Aside0.mk hb
      clear hcs hb hcw
      go_wp2_with fail
      go_loopg [6] l.length (fun g s6 wx => ∃ (i : Nat), i ≤ l.length ∧ g = l.length - i ∧ s6 = .int .i64 i ∧ Aside0 (Cur w wx c (encAll (l.drop i)) 0) ∧ Aside0 (Below w.heap.size w wx))
      case atStart => exact ⟨0, by omega, by omega, rfl, HC, HB⟩
      case round =>
        obtain ⟨i, hi, rfl, rfl, HC, HB⟩ := hrel
        by_cases hlt : i < l.length
        · obtain ⟨ad, hA, hx0, hx1, hx2⟩ := at_T (Kd.C_below HR.out HB.out) i hlt
          have hy := HOK.out _ (rdT_mem hlt)
          obtain ⟨x, hx⟩ : ∃ x, rdT l i = x := ⟨_, rfl⟩
          rw [hx] at hx0 hx1 hx2 hy
          have HX := Aside0.mk hx; clear hx
          obtain ⟨g1, hg1⟩ : ∃ g1, l.length - i = g1 + 1 := ⟨l.length - i - 1, by omega⟩
          have h1 : decide ((i : Int) < (l.length : Int)) = true := decide_eq_true (by omega)
          have h2 : decide (i < l.length) = true := decide_eq_true hlt
          have h3 : (i : Int) < (l.length : Int) := by omega
          have h4 : (0 : Int) ≤ (i : Int) := by omega
          replace h3 := eq_true h3
          replace h4 := eq_true h4
          have HLT := Aside0.mk hlt; clear hlt
          have HY := Aside0.mk hy; clear hy
          cases hA
          clear HOK
          have hc := HC.out; have hb := HB.out
          rw [drop_cons HLT.out HX.out, encAll_cons] at hc
          clear HC HB
          have b1 : wrap64 (x.f1 % 256) = x.f1 % 256 := w64 (by omega) (by omega)
          have b2 : IntKind.i64.wrap (x.f1 % 256) = x.f1 % 256 := by rw [wi64_def]; exact b1
          rcases kdT_cases x.f0 with hq | hq | hq | hq
          · have HQ := Aside0.mk hq; clear hq
            go_wp2_with fail
            refine (kind_any hb HQ.out).mono ?_; rintro e1 w4 ⟨rfl, hb4, hn4⟩
            replace hc := hc.below hn4
            replace hb := hb4
            clear hn4 hb4
            go_wp2_with fail
            refine start_ (n := 10) (S := fun w' => True) (ds := []) #[false, false, false, false, false, false, false, false, false, false] (by kernel_rfl) rfl rfl trivial (fun hHeld => ?_)
            refine with_tab TallyBack.tab23 (fun HT_ => ?_)
            replace hc := hc.drew
            replace hb := below_drew hb
            generalize World.drew _ = w6 at hc hb hHeld ⊢
            refine pure_ (i := 0) (N := (some 76)) (v := ?_) (a' := ?_) #[true, false, false, false, false, false, false, false, false, false] rfl rfl (any_of HT_.out (by kernel_rfl)) (fun _ _ _ h => h) (Or.inl ⟨by rfl, ?_⟩) ?_ ?_
            rotate_left
            · intro w'
              go_simp
              with_reducible rfl
            rotate_left
            · simp only [Act.put, List.setIfInBounds_toArray, List.set_cons_zero, List.set_cons_succ, i64_w, i32_w]
              rfl
            refine pure_ (i := 2) (N := (some 78)) (v := ?_) (a' := ?_) #[true, false, true, false, false, false, false, false, false, false] rfl rfl (any_of HT_.out (by kernel_rfl)) (fun _ _ _ h => h) (Or.inl ⟨by rfl, ?_⟩) ?_ ?_
            rotate_left
            · intro w'
              go_simp
              with_reducible rfl
            rotate_left
            · simp only [Act.put, List.setIfInBounds_toArray, List.set_cons_zero, List.set_cons_succ, i64_w, i32_w]
              rfl
            refine pure_ (i := 3) (N := (some 79)) (v := ?_) (a' := ?_) #[true, false, true, true, false, false, false, false, false, false] rfl rfl (any_of HT_.out (by kernel_rfl)) (fun _ _ _ h => h) (Or.inl ⟨by rfl, ?_⟩) ?_ ?_
            rotate_left
            · intro w'
              go_simp
              with_reducible rfl
            rotate_left
            · simp only [Act.put, List.setIfInBounds_toArray, List.set_cons_zero, List.set_cons_succ, i64_w, i32_w]
              rfl
            refine pure_ (i := 4) (N := (some 80)) (v := ?_) (a' := ?_) #[true, false, true, true, true, false, false, false, false, false] rfl rfl (any_of HT_.out (by kernel_rfl)) (fun _ _ _ h => h) (Or.inl ⟨by rfl, ?_⟩) ?_ ?_
            rotate_left
            · intro w'
              go_simp
              with_reducible rfl
            rotate_left
            · simp only [Act.put, List.setIfInBounds_toArray, List.set_cons_zero, List.set_cons_succ, i64_w, i32_w]
              rfl
            refine pure_ (i := 5) (N := (some 81)) (v := ?_) (a' := ?_) #[true, false, true, true, true, true, false, false, false, false] rfl rfl (any_of HT_.out (by kernel_rfl)) (fun _ _ _ h => h) (Or.inl ⟨by rfl, ?_⟩) ?_ ?_
            rotate_left
            · intro w'
              go_simp
              with_reducible rfl
            rotate_left
            · simp only [Act.put, List.setIfInBounds_toArray, List.set_cons_zero, List.set_cons_succ, i64_w, i32_w]
              rfl
            refine two_ (i := 1) (j := 6) (Ni := (some 77)) (Nj := (some 82)) #[true, true, true, true, true, true, false, false, false, false] #[true, false, true, true, true, true, true, false, false, false] rfl rfl rfl rfl (two_of HT_.out (by kernel_rfl)) (by decide) (by decide) (fun K hK => ?_) (fun K hK => ?_)
            · skip
              refine goes_ Try.func18 (by kernel_rfl) rfl #[.pointer (some ⟨c, 0, none⟩)] (by rfl) rfl rfl (by first | rfl | (simp only [List.map_toArray, List.map_cons, List.map_nil]; rfl)) ?_
              refine (uint_any hc hb).mono ?_
              rintro e1 w1 ⟨rfl, hc, hb, hk⟩
              refine ⟨_, rfl, ?_⟩
              clear hk
              rw [back0 HQ.out] at hc ⊢
              refine hK.out _ _ trivial (fun hHeld => ?_)
              clear hK K
              refine norm_ (a' := ?_) ?_ ?_
              rotate_left
              · show Act.put _ (some 77) _ = _
                simp only [Act.put, List.setIfInBounds_toArray, List.set_cons_zero, List.set_cons_succ, i64_w, i32_w]
                rfl
              refine one_ (i := 6) (N := (some 82)) #[true, true, true, true, true, true, true, false, false, false] rfl rfl (one_of HT_.out (by kernel_rfl)) (by decide) (fun K hK => ?_)
              have hcell := (T_cell HR.out HLT.out HX.out hb).1
              refine value_ (w1 := ?_) (v := ?_) (by rfl) rfl ?_ ?_
              rotate_left 2
              · go_simp
                constructor
                · rfl
                · rfl
              refine hK.out _ _ trivial (fun hHeld => ?_)
              clear hK K
              refine norm_ (a' := ?_) ?_ ?_
              rotate_left
              · show Act.put _ (some 82) _ = _
                simp only [Act.put, List.setIfInBounds_toArray, List.set_cons_zero, List.set_cons_succ, i64_w, i32_w]
                rfl
              refine pure_ (i := 7) (N := (some 83)) (v := ?_) (a' := ?_) #[true, true, true, true, true, true, true, true, false, false] rfl rfl (any_of HT_.out (by kernel_rfl)) (fun _ _ _ h => h) (Or.inl ⟨by rfl, ?_⟩) ?_ ?_
              rotate_left
              · intro w'
                go_simp
                with_reducible rfl
              rotate_left
              · simp only [Act.put, List.setIfInBounds_toArray, List.set_cons_zero, List.set_cons_succ, i64_w, i32_w]
                rfl
              refine pure_ (i := 8) (N := (some 84)) (v := ?_) (a' := ?_) #[true, true, true, true, true, true, true, true, true, false] rfl rfl (any_of HT_.out (by kernel_rfl)) (fun _ _ _ h => h) (Or.inl ⟨by rfl, ?_⟩) ?_ ?_
              rotate_left
              · intro w'
                go_simp
                with_reducible rfl
              rotate_left
              · simp only [Act.put, List.setIfInBounds_toArray, List.set_cons_zero, List.set_cons_succ, i64_w, i32_w]
                rfl
              refine pure_ (i := 9) (N := (some 7)) (v := ?_) (a' := ?_) #[true, true, true, true, true, true, true, true, true, true] rfl rfl (any_of HT_.out (by kernel_rfl)) (fun _ _ _ h => h) (Or.inl ⟨by rfl, ?_⟩) ?_ ?_
              rotate_left
              · intro w'
                go_simp
                with_reducible rfl
              rotate_left
              · simp only [Act.put, List.setIfInBounds_toArray, List.set_cons_zero, List.set_cons_succ, i64_w, i32_w]
                rfl
              refine done_ (done_of HT_.out (by kernel_rfl)) ?_
              go_wp2_with fail
              refine (err_any hc hb).mono ?_; rintro e1 w7 ⟨rfl, hc, hb, hk⟩
              clear hk
              go_wp2_with fail
              go_roundg g1
              case measure => omega
              case rel => exact ⟨i + 1, by omega, by omega, by go_num, ⟨hc⟩, ⟨hb⟩⟩
            · skip
              have hcell := (T_cell HR.out HLT.out HX.out hb).1
              refine value_ (w1 := ?_) (v := ?_) (by rfl) rfl ?_ ?_
              rotate_left 2
              · go_simp
                constructor
                · rfl
                · rfl
              refine hK.out _ _ trivial (fun hHeld => ?_)
              clear hK K
              refine norm_ (a' := ?_) ?_ ?_
              rotate_left
              · show Act.put _ (some 82) _ = _
                simp only [Act.put, List.setIfInBounds_toArray, List.set_cons_zero, List.set_cons_succ, i64_w, i32_w]
                rfl
              refine pure_ (i := 7) (N := (some 83)) (v := ?_) (a' := ?_) #[true, false, true, true, true, true, true, true, false, false] rfl rfl (any_of HT_.out (by kernel_rfl)) (fun _ _ _ h => h) (Or.inl ⟨by rfl, ?_⟩) ?_ ?_
              rotate_left
              · intro w'
                go_simp
                with_reducible rfl
              rotate_left
              · simp only [Act.put, List.setIfInBounds_toArray, List.set_cons_zero, List.set_cons_succ, i64_w, i32_w]
                rfl
              refine one_ (i := 1) (N := (some 77)) #[true, true, true, true, true, true, true, true, false, false] rfl rfl (one_of HT_.out (by kernel_rfl)) (by decide) (fun K hK => ?_)
              refine goes_ Try.func18 (by kernel_rfl) rfl #[.pointer (some ⟨c, 0, none⟩)] (by rfl) rfl rfl (by first | rfl | (simp only [List.map_toArray, List.map_cons, List.map_nil]; rfl)) ?_
              refine (uint_any hc hb).mono ?_
              rintro e1 w1 ⟨rfl, hc, hb, hk⟩
              refine ⟨_, rfl, ?_⟩
              clear hk
              rw [back0 HQ.out] at hc ⊢
              refine hK.out _ _ trivial (fun hHeld => ?_)
              clear hK K
              refine norm_ (a' := ?_) ?_ ?_
              rotate_left
              · show Act.put _ (some 77) _ = _
                simp only [Act.put, List.setIfInBounds_toArray, List.set_cons_zero, List.set_cons_succ, i64_w, i32_w]
                rfl
              refine pure_ (i := 8) (N := (some 84)) (v := ?_) (a' := ?_) #[true, true, true, true, true, true, true, true, true, false] rfl rfl (any_of HT_.out (by kernel_rfl)) (fun _ _ _ h => h) (Or.inl ⟨by rfl, ?_⟩) ?_ ?_
              rotate_left
              · intro w'
                go_simp
                with_reducible rfl
              rotate_left
              · simp only [Act.put, List.setIfInBounds_toArray, List.set_cons_zero, List.set_cons_succ, i64_w, i32_w]
                rfl
              refine pure_ (i := 9) (N := (some 7)) (v := ?_) (a' := ?_) #[true, true, true, true, true, true, true, true, true, true] rfl rfl (any_of HT_.out (by kernel_rfl)) (fun _ _ _ h => h) (Or.inl ⟨by rfl, ?_⟩) ?_ ?_
              rotate_left
              · intro w'
                go_simp
                with_reducible rfl
              rotate_left
              · simp only [Act.put, List.setIfInBounds_toArray, List.set_cons_zero, List.set_cons_succ, i64_w, i32_w]
                rfl
              refine done_ (done_of HT_.out (by kernel_rfl)) ?_
              go_wp2_with fail
              refine (err_any hc hb).mono ?_; rintro e1 w7 ⟨rfl, hc, hb, hk⟩
              clear hk
              go_wp2_with fail
              go_roundg g1
              case measure => omega
              case rel => exact ⟨i + 1, by omega, by omega, by go_num, ⟨hc⟩, ⟨hb⟩⟩
          · have HQ := Aside0.mk hq; clear hq
            go_wp2_with fail
            refine (kind_any hb HQ.out).mono ?_; rintro e1 w4 ⟨rfl, hb4, hn4⟩
            replace hc := hc.below hn4
            replace hb := hb4
            clear hn4 hb4
            go_wp2_with fail
            refine start_ (n := 9) (S := fun w' => True) (ds := []) #[false, false, false, false, false, false, false, false, false] (by kernel_rfl) rfl rfl trivial (fun hHeld => ?_)
            refine with_tab TallyBack.tab25 (fun HT_ => ?_)
            replace hc := hc.drew
            replace hb := below_drew hb
            generalize World.drew _ = w6 at hc hb hHeld ⊢
            refine pure_ (i := 0) (N := (some 87)) (v := ?_) (a' := ?_) #[true, false, false, false, false, false, false, false, false] rfl rfl (any_of HT_.out (by kernel_rfl)) (fun _ _ _ h => h) (Or.inl ⟨by rfl, ?_⟩) ?_ ?_
            rotate_left
            · intro w'
              go_simp
              with_reducible rfl
            rotate_left
            · simp only [Act.put, List.setIfInBounds_toArray, List.set_cons_zero, List.set_cons_succ, i64_w, i32_w]
              rfl
            refine pure_ (i := 2) (N := (some 89)) (v := ?_) (a' := ?_) #[true, false, true, false, false, false, false, false, false] rfl rfl (any_of HT_.out (by kernel_rfl)) (fun _ _ _ h => h) (Or.inl ⟨by rfl, ?_⟩) ?_ ?_
            rotate_left
            · intro w'
              go_simp
              with_reducible rfl
            rotate_left
            · simp only [Act.put, List.setIfInBounds_toArray, List.set_cons_zero, List.set_cons_succ, i64_w, i32_w]
              rfl
            refine pure_ (i := 3) (N := (some 90)) (v := ?_) (a' := ?_) #[true, false, true, true, false, false, false, false, false] rfl rfl (any_of HT_.out (by kernel_rfl)) (fun _ _ _ h => h) (Or.inl ⟨by rfl, ?_⟩) ?_ ?_
            rotate_left
            · intro w'
              go_simp
              with_reducible rfl
            rotate_left
            · simp only [Act.put, List.setIfInBounds_toArray, List.set_cons_zero, List.set_cons_succ, i64_w, i32_w]
              rfl
            refine pure_ (i := 4) (N := (some 91)) (v := ?_) (a' := ?_) #[true, false, true, true, true, false, false, false, false] rfl rfl (any_of HT_.out (by kernel_rfl)) (fun _ _ _ h => h) (Or.inl ⟨by rfl, ?_⟩) ?_ ?_
            rotate_left
            · intro w'
              go_simp
              with_reducible rfl
            rotate_left
            · simp only [Act.put, List.setIfInBounds_toArray, List.set_cons_zero, List.set_cons_succ, i64_w, i32_w]
              rfl
            refine pure_ (i := 5) (N := (some 92)) (v := ?_) (a' := ?_) #[true, false, true, true, true, true, false, false, false] rfl rfl (any_of HT_.out (by kernel_rfl)) (fun _ _ _ h => h) (Or.inl ⟨by rfl, ?_⟩) ?_ ?_
            rotate_left
            · intro w'
              go_simp
              with_reducible rfl
            rotate_left
            · simp only [Act.put, List.setIfInBounds_toArray, List.set_cons_zero, List.set_cons_succ, i64_w, i32_w]
              rfl
            refine two_ (i := 1) (j := 6) (Ni := (some 88)) (Nj := (some 93)) #[true, true, true, true, true, true, false, false, false] #[true, false, true, true, true, true, true, false, false] rfl rfl rfl rfl (two_of HT_.out (by kernel_rfl)) (by decide) (by decide) (fun K hK => ?_) (fun K hK => ?_)
            · skip
              refine goes_ Try.func24 (by kernel_rfl) rfl #[.pointer (some ⟨c, 0, none⟩)] (by rfl) rfl rfl (by first | rfl | (simp only [List.map_toArray, List.map_cons, List.map_nil]; rfl)) ?_
              refine (int_any hc hb).mono ?_
              rintro e1 w1 ⟨rfl, hc, hb, hk⟩
              refine ⟨_, rfl, ?_⟩
              clear hk
              rw [back1 HQ.out HY.out.1.2] at hc
              rw [back1' HQ.out HY.out.1.2]
              refine hK.out _ _ trivial (fun hHeld => ?_)
              clear hK K
              refine norm_ (a' := ?_) ?_ ?_
              rotate_left
              · show Act.put _ (some 88) _ = _
                simp only [Act.put, List.setIfInBounds_toArray, List.set_cons_zero, List.set_cons_succ, i64_w, i32_w]
                rfl
              refine one_ (i := 6) (N := (some 93)) #[true, true, true, true, true, true, true, false, false] rfl rfl (one_of HT_.out (by kernel_rfl)) (by decide) (fun K hK => ?_)
              have hcell := (T_cell HR.out HLT.out HX.out hb).1
              refine value_ (w1 := ?_) (v := ?_) (by rfl) rfl ?_ ?_
              rotate_left 2
              · go_simp
                constructor
                · rfl
                · rfl
              refine hK.out _ _ trivial (fun hHeld => ?_)
              clear hK K
              refine norm_ (a' := ?_) ?_ ?_
              rotate_left
              · show Act.put _ (some 93) _ = _
                simp only [Act.put, List.setIfInBounds_toArray, List.set_cons_zero, List.set_cons_succ, i64_w, i32_w]
                rfl
              refine pure_ (i := 7) (N := (some 94)) (v := ?_) (a' := ?_) #[true, true, true, true, true, true, true, true, false] rfl rfl (any_of HT_.out (by kernel_rfl)) (fun _ _ _ h => h) (Or.inl ⟨by rfl, ?_⟩) ?_ ?_
              rotate_left
              · intro w'
                go_simp
                with_reducible rfl
              rotate_left
              · simp only [Act.put, List.setIfInBounds_toArray, List.set_cons_zero, List.set_cons_succ, i64_w, i32_w]
                rfl
              refine pure_ (i := 8) (N := (some 7)) (v := ?_) (a' := ?_) #[true, true, true, true, true, true, true, true, true] rfl rfl (any_of HT_.out (by kernel_rfl)) (fun _ _ _ h => h) (Or.inl ⟨by rfl, ?_⟩) ?_ ?_
              rotate_left
              · intro w'
                go_simp
                with_reducible rfl
              rotate_left
              · simp only [Act.put, List.setIfInBounds_toArray, List.set_cons_zero, List.set_cons_succ, i64_w, i32_w]
                rfl
              refine done_ (done_of HT_.out (by kernel_rfl)) ?_
              go_wp2_with fail
              refine (err_any hc hb).mono ?_; rintro e1 w7 ⟨rfl, hc, hb, hk⟩
              clear hk
              go_wp2_with fail
              go_roundg g1
              case measure => omega
              case rel => exact ⟨i + 1, by omega, by omega, by go_num, ⟨hc⟩, ⟨hb⟩⟩
            · skip
              have hcell := (T_cell HR.out HLT.out HX.out hb).1
              refine value_ (w1 := ?_) (v := ?_) (by rfl) rfl ?_ ?_
              rotate_left 2
              · go_simp
                constructor
                · rfl
                · rfl
              refine hK.out _ _ trivial (fun hHeld => ?_)
              clear hK K
              refine norm_ (a' := ?_) ?_ ?_
              rotate_left
              · show Act.put _ (some 93) _ = _
                simp only [Act.put, List.setIfInBounds_toArray, List.set_cons_zero, List.set_cons_succ, i64_w, i32_w]
                rfl
              refine one_ (i := 1) (N := (some 88)) #[true, true, true, true, true, true, true, false, false] rfl rfl (one_of HT_.out (by kernel_rfl)) (by decide) (fun K hK => ?_)
              refine goes_ Try.func24 (by kernel_rfl) rfl #[.pointer (some ⟨c, 0, none⟩)] (by rfl) rfl rfl (by first | rfl | (simp only [List.map_toArray, List.map_cons, List.map_nil]; rfl)) ?_
              refine (int_any hc hb).mono ?_
              rintro e1 w1 ⟨rfl, hc, hb, hk⟩
              refine ⟨_, rfl, ?_⟩
              clear hk
              rw [back1 HQ.out HY.out.1.2] at hc
              rw [back1' HQ.out HY.out.1.2]
              refine hK.out _ _ trivial (fun hHeld => ?_)
              clear hK K
              refine norm_ (a' := ?_) ?_ ?_
              rotate_left
              · show Act.put _ (some 88) _ = _
                simp only [Act.put, List.setIfInBounds_toArray, List.set_cons_zero, List.set_cons_succ, i64_w, i32_w]
                rfl
              refine pure_ (i := 7) (N := (some 94)) (v := ?_) (a' := ?_) #[true, true, true, true, true, true, true, true, false] rfl rfl (any_of HT_.out (by kernel_rfl)) (fun _ _ _ h => h) (Or.inl ⟨by rfl, ?_⟩) ?_ ?_
              rotate_left
              · intro w'
                go_simp
                with_reducible rfl
              rotate_left
              · simp only [Act.put, List.setIfInBounds_toArray, List.set_cons_zero, List.set_cons_succ, i64_w, i32_w]
                rfl
              refine pure_ (i := 8) (N := (some 7)) (v := ?_) (a' := ?_) #[true, true, true, true, true, true, true, true, true] rfl rfl (any_of HT_.out (by kernel_rfl)) (fun _ _ _ h => h) (Or.inl ⟨by rfl, ?_⟩) ?_ ?_
              rotate_left
              · intro w'
                go_simp
                with_reducible rfl
              rotate_left
              · simp only [Act.put, List.setIfInBounds_toArray, List.set_cons_zero, List.set_cons_succ, i64_w, i32_w]
                rfl
              refine done_ (done_of HT_.out (by kernel_rfl)) ?_
              go_wp2_with fail
              refine (err_any hc hb).mono ?_; rintro e1 w7 ⟨rfl, hc, hb, hk⟩
              clear hk
              go_wp2_with fail
              go_roundg g1
              case measure => omega
              case rel => exact ⟨i + 1, by omega, by omega, by go_num, ⟨hc⟩, ⟨hb⟩⟩
          · have HQ := Aside0.mk hq; clear hq
            go_wp2_with fail
            refine (kind_any hb HQ.out).mono ?_; rintro e1 w4 ⟨rfl, hb4, hn4⟩
            replace hc := hc.below hn4
            replace hb := hb4
            clear hn4 hb4
            go_wp2_with fail
            refine start_ (n := 15) (S := fun w' => True) (ds := []) #[false, false, false, false, false, false, false, false, false, false, false, false, false, false, false] (by kernel_rfl) rfl rfl trivial (fun hHeld => ?_)
            refine with_tab TallyBack.tab27 (fun HT_ => ?_)
            replace hc := hc.drew
            replace hb := below_drew hb
            generalize World.drew _ = w6 at hc hb hHeld ⊢
            refine pure_ (i := 0) (N := (some 97)) (v := ?_) (a' := ?_) #[true, false, false, false, false, false, false, false, false, false, false, false, false, false, false] rfl rfl (any_of HT_.out (by kernel_rfl)) (fun _ _ _ h => h) (Or.inl ⟨by rfl, ?_⟩) ?_ ?_
            rotate_left
            · intro w'
              go_simp
              with_reducible rfl
            rotate_left
            · simp only [Act.put, List.setIfInBounds_toArray, List.set_cons_zero, List.set_cons_succ, i64_w, i32_w]
              rfl
            refine pure_ (i := 1) (N := (some 98)) (v := ?_) (a' := ?_) #[true, true, false, false, false, false, false, false, false, false, false, false, false, false, false] rfl rfl (any_of HT_.out (by kernel_rfl)) (fun _ _ _ h => h) (Or.inl ⟨by rfl, ?_⟩) ?_ ?_
            rotate_left
            · intro w'
              go_simp
              with_reducible rfl
            rotate_left
            · simp only [Act.put, List.setIfInBounds_toArray, List.set_cons_zero, List.set_cons_succ, i64_w, i32_w]
              rfl
            refine pure_ (i := 2) (N := (some 99)) (v := ?_) (a' := ?_) #[true, true, true, false, false, false, false, false, false, false, false, false, false, false, false] rfl rfl (any_of HT_.out (by kernel_rfl)) (fun _ _ _ h => h) (Or.inl ⟨by rfl, ?_⟩) ?_ ?_
            rotate_left
            · intro w'
              go_simp
              with_reducible rfl
            rotate_left
            · simp only [Act.put, List.setIfInBounds_toArray, List.set_cons_zero, List.set_cons_succ, i64_w, i32_w]
              rfl
            refine pure_ (i := 3) (N := (some 100)) (v := ?_) (a' := ?_) #[true, true, true, true, false, false, false, false, false, false, false, false, false, false, false] rfl rfl (any_of HT_.out (by kernel_rfl)) (fun _ _ _ h => h) (Or.inl ⟨by rfl, ?_⟩) ?_ ?_
            rotate_left
            · intro w'
              go_simp
              with_reducible rfl
            rotate_left
            · simp only [Act.put, List.setIfInBounds_toArray, List.set_cons_zero, List.set_cons_succ, i64_w, i32_w]
              rfl
            refine pure_ (i := 4) (N := (some 101)) (v := ?_) (a' := ?_) #[true, true, true, true, true, false, false, false, false, false, false, false, false, false, false] rfl rfl (any_of HT_.out (by kernel_rfl)) (fun _ _ _ h => h) (Or.inl ⟨by rfl, ?_⟩) ?_ ?_
            rotate_left
            · intro w'
              go_simp
              with_reducible rfl
            rotate_left
            · simp only [Act.put, List.setIfInBounds_toArray, List.set_cons_zero, List.set_cons_succ, i64_w, i32_w]
              rfl
            refine pure_ (i := 8) (N := (some 105)) (v := ?_) (a' := ?_) #[true, true, true, true, true, false, false, false, true, false, false, false, false, false, false] rfl rfl (any_of HT_.out (by kernel_rfl)) (fun _ _ _ h => h) (Or.inl ⟨by rfl, ?_⟩) ?_ ?_
            rotate_left
            · intro w'
              go_simp
              with_reducible rfl
            rotate_left
            · simp only [Act.put, List.setIfInBounds_toArray, List.set_cons_zero, List.set_cons_succ, i64_w, i32_w]
              rfl
            refine pure_ (i := 9) (N := (some 106)) (v := ?_) (a' := ?_) #[true, true, true, true, true, false, false, false, true, true, false, false, false, false, false] rfl rfl (any_of HT_.out (by kernel_rfl)) (fun _ _ _ h => h) (Or.inl ⟨by rfl, ?_⟩) ?_ ?_
            rotate_left
            · intro w'
              go_simp
              with_reducible rfl
            rotate_left
            · simp only [Act.put, List.setIfInBounds_toArray, List.set_cons_zero, List.set_cons_succ, i64_w, i32_w]
              rfl
            refine pure_ (i := 10) (N := (some 107)) (v := ?_) (a' := ?_) #[true, true, true, true, true, false, false, false, true, true, true, false, false, false, false] rfl rfl (any_of HT_.out (by kernel_rfl)) (fun _ _ _ h => h) (Or.inl ⟨by rfl, ?_⟩) ?_ ?_
            rotate_left
            · intro w'
              go_simp
              with_reducible rfl
            rotate_left
            · simp only [Act.put, List.setIfInBounds_toArray, List.set_cons_zero, List.set_cons_succ, i64_w, i32_w]
              rfl
            refine pure_ (i := 11) (N := (some 108)) (v := ?_) (a' := ?_) #[true, true, true, true, true, false, false, false, true, true, true, true, false, false, false] rfl rfl (any_of HT_.out (by kernel_rfl)) (fun _ _ _ h => h) (Or.inl ⟨by rfl, ?_⟩) ?_ ?_
            rotate_left
            · intro w'
              go_simp
              with_reducible rfl
            rotate_left
            · simp only [Act.put, List.setIfInBounds_toArray, List.set_cons_zero, List.set_cons_succ, i64_w, i32_w]
              rfl
            refine two_ (i := 5) (j := 12) (Ni := (some 102)) (Nj := (some 109)) #[true, true, true, true, true, true, false, false, true, true, true, true, false, false, false] #[true, true, true, true, true, false, false, false, true, true, true, true, true, false, false] rfl rfl rfl rfl (two_of HT_.out (by kernel_rfl)) (by decide) (by decide) (fun K hK => ?_) (fun K hK => ?_)
            · skip
              have hcell := (T_cell HR.out HLT.out HX.out hb).2
              refine value_ (w1 := ?_) (v := ?_) (by rfl) rfl ?_ ?_
              rotate_left 2
              · go_simp
                constructor
                · rfl
                · rfl
              refine hK.out _ _ trivial (fun hHeld => ?_)
              clear hK K
              refine norm_ (a' := ?_) ?_ ?_
              rotate_left
              · show Act.put _ (some 102) _ = _
                simp only [Act.put, List.setIfInBounds_toArray, List.set_cons_zero, List.set_cons_succ, i64_w, i32_w]
                rfl
              refine pure_ (i := 6) (N := (some 103)) (v := ?_) (a' := ?_) #[true, true, true, true, true, true, true, false, true, true, true, true, false, false, false] rfl rfl (any_of HT_.out (by kernel_rfl)) (fun _ _ _ h => h) (Or.inl ⟨by rfl, ?_⟩) ?_ ?_
              rotate_left
              · intro w'
                go_simp
                with_reducible rfl
              rotate_left
              · simp only [Act.put, List.setIfInBounds_toArray, List.set_cons_zero, List.set_cons_succ, i64_w, i32_w]
                rfl
              refine two_ (i := 7) (j := 12) (Ni := (some 104)) (Nj := (some 109)) #[true, true, true, true, true, true, true, true, true, true, true, true, false, false, false] #[true, true, true, true, true, true, true, false, true, true, true, true, true, false, false] rfl rfl rfl rfl (two_of HT_.out (by kernel_rfl)) (by decide) (by decide) (fun K hK => ?_) (fun K hK => ?_)
              · skip
                refine goes_ Try.func19 (by kernel_rfl) rfl #[.pointer (some ⟨c, 0, none⟩), .int .i64 (x.f2.size : Int)] (by rfl) rfl rfl (by first | rfl | (simp only [List.map_toArray, List.map_cons, List.map_nil]; rfl)) ?_
                refine (text_any (x.f2.size : Int) (by have := HY.out.2; omega) hc hb).mono ?_
                rintro e1 w1 ⟨rfl, hc, hb, hk⟩
                refine ⟨_, rfl, ?_⟩
                clear hk
                rw [back2 HQ.out HY.out.2] at hc ⊢
                rw [strOfNums_bytesOf]
                refine hK.out _ _ trivial (fun hHeld => ?_)
                clear hK K
                refine norm_ (a' := ?_) ?_ ?_
                rotate_left
                · show Act.put _ (some 104) _ = _
                  simp only [Act.put, List.setIfInBounds_toArray, List.set_cons_zero, List.set_cons_succ, i64_w, i32_w]
                  rfl
                refine one_ (i := 12) (N := (some 109)) #[true, true, true, true, true, true, true, true, true, true, true, true, true, false, false] rfl rfl (one_of HT_.out (by kernel_rfl)) (by decide) (fun K hK => ?_)
                have hcell := (T_cell HR.out HLT.out HX.out hb).2
                refine value_ (w1 := ?_) (v := ?_) (by rfl) rfl ?_ ?_
                rotate_left 2
                · go_simp
                  constructor
                  · rfl
                  · rfl
                refine hK.out _ _ trivial (fun hHeld => ?_)
                clear hK K
                refine norm_ (a' := ?_) ?_ ?_
                rotate_left
                · show Act.put _ (some 109) _ = _
                  simp only [Act.put, List.setIfInBounds_toArray, List.set_cons_zero, List.set_cons_succ, i64_w, i32_w]
                  rfl
                refine pure_ (i := 13) (N := (some 110)) (v := ?_) (a' := ?_) #[true, true, true, true, true, true, true, true, true, true, true, true, true, true, false] rfl rfl (any_of HT_.out (by kernel_rfl)) (fun _ _ _ h => h) (Or.inl ⟨by rfl, ?_⟩) ?_ ?_
                rotate_left
                · intro w'
                  go_simp
                  with_reducible rfl
                rotate_left
                · simp only [Act.put, List.setIfInBounds_toArray, List.set_cons_zero, List.set_cons_succ, i64_w, i32_w]
                  rfl
                refine pure_ (i := 14) (N := (some 7)) (v := ?_) (a' := ?_) #[true, true, true, true, true, true, true, true, true, true, true, true, true, true, true] rfl rfl (any_of HT_.out (by kernel_rfl)) (fun _ _ _ h => h) (Or.inl ⟨by rfl, ?_⟩) ?_ ?_
                rotate_left
                · intro w'
                  go_simp
                  with_reducible rfl
                rotate_left
                · simp only [Act.put, List.setIfInBounds_toArray, List.set_cons_zero, List.set_cons_succ, i64_w, i32_w]
                  rfl
                refine done_ (done_of HT_.out (by kernel_rfl)) ?_
                go_wp2_with fail
                refine (err_any hc hb).mono ?_; rintro e1 w7 ⟨rfl, hc, hb, hk⟩
                clear hk
                go_wp2_with fail
                go_roundg g1
                case measure => omega
                case rel => exact ⟨i + 1, by omega, by omega, by go_num, ⟨hc⟩, ⟨hb⟩⟩
              · skip
                have hcell := (T_cell HR.out HLT.out HX.out hb).2
                refine value_ (w1 := ?_) (v := ?_) (by rfl) rfl ?_ ?_
                rotate_left 2
                · go_simp
                  constructor
                  · rfl
                  · rfl
                refine hK.out _ _ trivial (fun hHeld => ?_)
                clear hK K
                refine norm_ (a' := ?_) ?_ ?_
                rotate_left
                · show Act.put _ (some 109) _ = _
                  simp only [Act.put, List.setIfInBounds_toArray, List.set_cons_zero, List.set_cons_succ, i64_w, i32_w]
                  rfl
                refine one_ (i := 7) (N := (some 104)) #[true, true, true, true, true, true, true, true, true, true, true, true, true, false, false] rfl rfl (one_of HT_.out (by kernel_rfl)) (by decide) (fun K hK => ?_)
                refine goes_ Try.func19 (by kernel_rfl) rfl #[.pointer (some ⟨c, 0, none⟩), .int .i64 (x.f2.size : Int)] (by rfl) rfl rfl (by first | rfl | (simp only [List.map_toArray, List.map_cons, List.map_nil]; rfl)) ?_
                refine (text_any (x.f2.size : Int) (by have := HY.out.2; omega) hc hb).mono ?_
                rintro e1 w1 ⟨rfl, hc, hb, hk⟩
                refine ⟨_, rfl, ?_⟩
                clear hk
                rw [back2 HQ.out HY.out.2] at hc ⊢
                rw [strOfNums_bytesOf]
                refine hK.out _ _ trivial (fun hHeld => ?_)
                clear hK K
                refine norm_ (a' := ?_) ?_ ?_
                rotate_left
                · show Act.put _ (some 104) _ = _
                  simp only [Act.put, List.setIfInBounds_toArray, List.set_cons_zero, List.set_cons_succ, i64_w, i32_w]
                  rfl
                refine pure_ (i := 13) (N := (some 110)) (v := ?_) (a' := ?_) #[true, true, true, true, true, true, true, true, true, true, true, true, true, true, false] rfl rfl (any_of HT_.out (by kernel_rfl)) (fun _ _ _ h => h) (Or.inl ⟨by rfl, ?_⟩) ?_ ?_
                rotate_left
                · intro w'
                  go_simp
                  with_reducible rfl
                rotate_left
                · simp only [Act.put, List.setIfInBounds_toArray, List.set_cons_zero, List.set_cons_succ, i64_w, i32_w]
                  rfl
                refine pure_ (i := 14) (N := (some 7)) (v := ?_) (a' := ?_) #[true, true, true, true, true, true, true, true, true, true, true, true, true, true, true] rfl rfl (any_of HT_.out (by kernel_rfl)) (fun _ _ _ h => h) (Or.inl ⟨by rfl, ?_⟩) ?_ ?_
                rotate_left
                · intro w'
                  go_simp
                  with_reducible rfl
                rotate_left
                · simp only [Act.put, List.setIfInBounds_toArray, List.set_cons_zero, List.set_cons_succ, i64_w, i32_w]
                  rfl
                refine done_ (done_of HT_.out (by kernel_rfl)) ?_
                go_wp2_with fail
                refine (err_any hc hb).mono ?_; rintro e1 w7 ⟨rfl, hc, hb, hk⟩
                clear hk
                go_wp2_with fail
                go_roundg g1
                case measure => omega
                case rel => exact ⟨i + 1, by omega, by omega, by go_num, ⟨hc⟩, ⟨hb⟩⟩
            · skip
              have hcell := (T_cell HR.out HLT.out HX.out hb).2
              refine value_ (w1 := ?_) (v := ?_) (by rfl) rfl ?_ ?_
              rotate_left 2
              · go_simp
                constructor
                · rfl
                · rfl
              refine hK.out _ _ trivial (fun hHeld => ?_)
              clear hK K
              refine norm_ (a' := ?_) ?_ ?_
              rotate_left
              · show Act.put _ (some 109) _ = _
                simp only [Act.put, List.setIfInBounds_toArray, List.set_cons_zero, List.set_cons_succ, i64_w, i32_w]
                rfl
              refine one_ (i := 5) (N := (some 102)) #[true, true, true, true, true, true, false, false, true, true, true, true, true, false, false] rfl rfl (one_of HT_.out (by kernel_rfl)) (by decide) (fun K hK => ?_)
              have hcell := (T_cell HR.out HLT.out HX.out hb).2
              refine value_ (w1 := ?_) (v := ?_) (by rfl) rfl ?_ ?_
              rotate_left 2
              · go_simp
                constructor
                · rfl
                · rfl
              refine hK.out _ _ trivial (fun hHeld => ?_)
              clear hK K
              refine norm_ (a' := ?_) ?_ ?_
              rotate_left
              · show Act.put _ (some 102) _ = _
                simp only [Act.put, List.setIfInBounds_toArray, List.set_cons_zero, List.set_cons_succ, i64_w, i32_w]
                rfl
              refine pure_ (i := 6) (N := (some 103)) (v := ?_) (a' := ?_) #[true, true, true, true, true, true, true, false, true, true, true, true, true, false, false] rfl rfl (any_of HT_.out (by kernel_rfl)) (fun _ _ _ h => h) (Or.inl ⟨by rfl, ?_⟩) ?_ ?_
              rotate_left
              · intro w'
                go_simp
                with_reducible rfl
              rotate_left
              · simp only [Act.put, List.setIfInBounds_toArray, List.set_cons_zero, List.set_cons_succ, i64_w, i32_w]
                rfl
              refine one_ (i := 7) (N := (some 104)) #[true, true, true, true, true, true, true, true, true, true, true, true, true, false, false] rfl rfl (one_of HT_.out (by kernel_rfl)) (by decide) (fun K hK => ?_)
              refine goes_ Try.func19 (by kernel_rfl) rfl #[.pointer (some ⟨c, 0, none⟩), .int .i64 (x.f2.size : Int)] (by rfl) rfl rfl (by first | rfl | (simp only [List.map_toArray, List.map_cons, List.map_nil]; rfl)) ?_
              refine (text_any (x.f2.size : Int) (by have := HY.out.2; omega) hc hb).mono ?_
              rintro e1 w1 ⟨rfl, hc, hb, hk⟩
              refine ⟨_, rfl, ?_⟩
              clear hk
              rw [back2 HQ.out HY.out.2] at hc ⊢
              rw [strOfNums_bytesOf]
              refine hK.out _ _ trivial (fun hHeld => ?_)
              clear hK K
              refine norm_ (a' := ?_) ?_ ?_
              rotate_left
              · show Act.put _ (some 104) _ = _
                simp only [Act.put, List.setIfInBounds_toArray, List.set_cons_zero, List.set_cons_succ, i64_w, i32_w]
                rfl
              refine pure_ (i := 13) (N := (some 110)) (v := ?_) (a' := ?_) #[true, true, true, true, true, true, true, true, true, true, true, true, true, true, false] rfl rfl (any_of HT_.out (by kernel_rfl)) (fun _ _ _ h => h) (Or.inl ⟨by rfl, ?_⟩) ?_ ?_
              rotate_left
              · intro w'
                go_simp
                with_reducible rfl
              rotate_left
              · simp only [Act.put, List.setIfInBounds_toArray, List.set_cons_zero, List.set_cons_succ, i64_w, i32_w]
                rfl
              refine pure_ (i := 14) (N := (some 7)) (v := ?_) (a' := ?_) #[true, true, true, true, true, true, true, true, true, true, true, true, true, true, true] rfl rfl (any_of HT_.out (by kernel_rfl)) (fun _ _ _ h => h) (Or.inl ⟨by rfl, ?_⟩) ?_ ?_
              rotate_left
              · intro w'
                go_simp
                with_reducible rfl
              rotate_left
              · simp only [Act.put, List.setIfInBounds_toArray, List.set_cons_zero, List.set_cons_succ, i64_w, i32_w]
                rfl
              refine done_ (done_of HT_.out (by kernel_rfl)) ?_
              go_wp2_with fail
              refine (err_any hc hb).mono ?_; rintro e1 w7 ⟨rfl, hc, hb, hk⟩
              clear hk
              go_wp2_with fail
              go_roundg g1
              case measure => omega
              case rel => exact ⟨i + 1, by omega, by omega, by go_num, ⟨hc⟩, ⟨hb⟩⟩
          · have HQ := Aside0.mk hq; clear hq
            go_wp2_with fail
            refine (kind_any hb HQ.out).mono ?_; rintro e1 w4 ⟨rfl, hb4, hn4⟩
            replace hc := hc.below hn4
            replace hb := hb4
            clear hn4 hb4
            go_wp2_with fail
            refine start_ (n := 11) (S := fun w' => True) (ds := []) #[false, false, false, false, false, false, false, false, false, false, false] (by kernel_rfl) rfl rfl trivial (fun hHeld => ?_)
            refine with_tab TallyBack.tab29 (fun HT_ => ?_)
            replace hc := hc.drew
            replace hb := below_drew hb
            generalize World.drew _ = w6 at hc hb hHeld ⊢
            refine pure_ (i := 0) (N := (some 113)) (v := ?_) (a' := ?_) #[true, false, false, false, false, false, false, false, false, false, false] rfl rfl (any_of HT_.out (by kernel_rfl)) (fun _ _ _ h => h) (Or.inl ⟨by rfl, ?_⟩) ?_ ?_
            rotate_left
            · intro w'
              go_simp
              with_reducible rfl
            rotate_left
            · simp only [Act.put, List.setIfInBounds_toArray, List.set_cons_zero, List.set_cons_succ, i64_w, i32_w]
              rfl
            refine pure_ (i := 2) (N := (some 115)) (v := ?_) (a' := ?_) #[true, false, true, false, false, false, false, false, false, false, false] rfl rfl (any_of HT_.out (by kernel_rfl)) (fun _ _ _ h => h) (Or.inl ⟨by rfl, ?_⟩) ?_ ?_
            rotate_left
            · intro w'
              go_simp
              with_reducible rfl
            rotate_left
            · simp only [Act.put, List.setIfInBounds_toArray, List.set_cons_zero, List.set_cons_succ, i64_w, i32_w]
              rfl
            refine pure_ (i := 3) (N := (some 116)) (v := ?_) (a' := ?_) #[true, false, true, true, false, false, false, false, false, false, false] rfl rfl (any_of HT_.out (by kernel_rfl)) (fun _ _ _ h => h) (Or.inl ⟨by rfl, ?_⟩) ?_ ?_
            rotate_left
            · intro w'
              go_simp
              with_reducible rfl
            rotate_left
            · simp only [Act.put, List.setIfInBounds_toArray, List.set_cons_zero, List.set_cons_succ, i64_w, i32_w]
              rfl
            refine pure_ (i := 4) (N := (some 117)) (v := ?_) (a' := ?_) #[true, false, true, true, true, false, false, false, false, false, false] rfl rfl (any_of HT_.out (by kernel_rfl)) (fun _ _ _ h => h) (Or.inl ⟨by rfl, ?_⟩) ?_ ?_
            rotate_left
            · intro w'
              go_simp
              with_reducible rfl
            rotate_left
            · simp only [Act.put, List.setIfInBounds_toArray, List.set_cons_zero, List.set_cons_succ, i64_w, i32_w]
              rfl
            refine pure_ (i := 5) (N := (some 118)) (v := ?_) (a' := ?_) #[true, false, true, true, true, true, false, false, false, false, false] rfl rfl (any_of HT_.out (by kernel_rfl)) (fun _ _ _ h => h) (Or.inl ⟨by rfl, ?_⟩) ?_ ?_
            rotate_left
            · intro w'
              go_simp
              with_reducible rfl
            rotate_left
            · simp only [Act.put, List.setIfInBounds_toArray, List.set_cons_zero, List.set_cons_succ, i64_w, i32_w]
              rfl
            refine two_ (i := 1) (j := 6) (Ni := (some 114)) (Nj := (some 119)) #[true, true, true, true, true, true, false, false, false, false, false] #[true, false, true, true, true, true, true, false, false, false, false] rfl rfl rfl rfl (two_of HT_.out (by kernel_rfl)) (by decide) (by decide) (fun K hK => ?_) (fun K hK => ?_)
            · skip
              refine goes_ Try.func27 (by kernel_rfl) rfl #[.pointer (some ⟨c, 0, none⟩)] (by rfl) rfl rfl (by first | rfl | (simp only [List.map_toArray, List.map_cons, List.map_nil]; rfl)) ?_
              refine (byte_any hc hb).mono ?_
              rintro e1 w1 ⟨rfl, hc, hb, hk⟩
              refine ⟨_, rfl, ?_⟩
              clear hk
              rw [back3 HQ.out] at hc ⊢
              refine hK.out _ _ trivial (fun hHeld => ?_)
              clear hK K
              refine norm_ (a' := ?_) ?_ ?_
              rotate_left
              · show Act.put _ (some 114) _ = _
                simp only [Act.put, List.setIfInBounds_toArray, List.set_cons_zero, List.set_cons_succ, i64_w, i32_w]
                rfl
              refine one_ (i := 6) (N := (some 119)) #[true, true, true, true, true, true, true, false, false, false, false] rfl rfl (one_of HT_.out (by kernel_rfl)) (by decide) (fun K hK => ?_)
              have hcell := (T_cell HR.out HLT.out HX.out hb).1
              refine value_ (w1 := ?_) (v := ?_) (by rfl) rfl ?_ ?_
              rotate_left 2
              · go_simp
                constructor
                · rfl
                · rfl
              refine hK.out _ _ trivial (fun hHeld => ?_)
              clear hK K
              refine norm_ (a' := ?_) ?_ ?_
              rotate_left
              · show Act.put _ (some 119) _ = _
                simp only [Act.put, List.setIfInBounds_toArray, List.set_cons_zero, List.set_cons_succ, i64_w, i32_w]
                rfl
              refine pure_ (i := 7) (N := (some 120)) (v := ?_) (a' := ?_) #[true, true, true, true, true, true, true, true, false, false, false] rfl rfl (any_of HT_.out (by kernel_rfl)) (fun _ _ _ h => h) (Or.inl ⟨by rfl, ?_⟩) ?_ ?_
              rotate_left
              · intro w'
                go_simp
                with_reducible rfl
              rotate_left
              · simp only [Act.put, List.setIfInBounds_toArray, List.set_cons_zero, List.set_cons_succ, i64_w, i32_w]
                rfl
              refine pure_ (i := 8) (N := (some 121)) (v := ?_) (a' := ?_) #[true, true, true, true, true, true, true, true, true, false, false] rfl rfl (any_of HT_.out (by kernel_rfl)) (fun _ _ _ h => h) (Or.inl ⟨by rfl, ?_⟩) ?_ ?_
              rotate_left
              · intro w'
                go_simp
                with_reducible rfl
              rotate_left
              · simp only [Act.put, List.setIfInBounds_toArray, List.set_cons_zero, List.set_cons_succ, i64_w, i32_w]
                rfl
              refine pure_ (i := 9) (N := (some 122)) (v := ?_) (a' := ?_) #[true, true, true, true, true, true, true, true, true, true, false] rfl rfl (any_of HT_.out (by kernel_rfl)) (fun _ _ _ h => h) (Or.inl ⟨by rfl, ?_⟩) ?_ ?_
              rotate_left
              · intro w'
                go_simp
                with_reducible rfl
              rotate_left
              · simp only [Act.put, List.setIfInBounds_toArray, List.set_cons_zero, List.set_cons_succ, i64_w, i32_w]
                rfl
              refine pure_ (i := 10) (N := (some 7)) (v := ?_) (a' := ?_) #[true, true, true, true, true, true, true, true, true, true, true] rfl rfl (any_of HT_.out (by kernel_rfl)) (fun _ _ _ h => h) (Or.inl ⟨by rfl, ?_⟩) ?_ ?_
              rotate_left
              · intro w'
                go_simp
                with_reducible rfl
              rotate_left
              · simp only [Act.put, List.setIfInBounds_toArray, List.set_cons_zero, List.set_cons_succ, i64_w, i32_w]
                rfl
              refine done_ (done_of HT_.out (by kernel_rfl)) ?_
              go_wp2_with fail
              refine (err_any hc hb).mono ?_; rintro e1 w7 ⟨rfl, hc, hb, hk⟩
              clear hk
              go_wp2_with fail
              go_roundg g1
              case measure => omega
              case rel => exact ⟨i + 1, by omega, by omega, by go_num, ⟨hc⟩, ⟨hb⟩⟩
            · skip
              have hcell := (T_cell HR.out HLT.out HX.out hb).1
              refine value_ (w1 := ?_) (v := ?_) (by rfl) rfl ?_ ?_
              rotate_left 2
              · go_simp
                constructor
                · rfl
                · rfl
              refine hK.out _ _ trivial (fun hHeld => ?_)
              clear hK K
              refine norm_ (a' := ?_) ?_ ?_
              rotate_left
              · show Act.put _ (some 119) _ = _
                simp only [Act.put, List.setIfInBounds_toArray, List.set_cons_zero, List.set_cons_succ, i64_w, i32_w]
                rfl
              refine pure_ (i := 7) (N := (some 120)) (v := ?_) (a' := ?_) #[true, false, true, true, true, true, true, true, false, false, false] rfl rfl (any_of HT_.out (by kernel_rfl)) (fun _ _ _ h => h) (Or.inl ⟨by rfl, ?_⟩) ?_ ?_
              rotate_left
              · intro w'
                go_simp
                with_reducible rfl
              rotate_left
              · simp only [Act.put, List.setIfInBounds_toArray, List.set_cons_zero, List.set_cons_succ, i64_w, i32_w]
                rfl
              refine pure_ (i := 8) (N := (some 121)) (v := ?_) (a' := ?_) #[true, false, true, true, true, true, true, true, true, false, false] rfl rfl (any_of HT_.out (by kernel_rfl)) (fun _ _ _ h => h) (Or.inl ⟨by rfl, ?_⟩) ?_ ?_
              rotate_left
              · intro w'
                go_simp
                with_reducible rfl
              rotate_left
              · simp only [Act.put, List.setIfInBounds_toArray, List.set_cons_zero, List.set_cons_succ, i64_w, i32_w]
                rfl
              refine one_ (i := 1) (N := (some 114)) #[true, true, true, true, true, true, true, true, true, false, false] rfl rfl (one_of HT_.out (by kernel_rfl)) (by decide) (fun K hK => ?_)
              refine goes_ Try.func27 (by kernel_rfl) rfl #[.pointer (some ⟨c, 0, none⟩)] (by rfl) rfl rfl (by first | rfl | (simp only [List.map_toArray, List.map_cons, List.map_nil]; rfl)) ?_
              refine (byte_any hc hb).mono ?_
              rintro e1 w1 ⟨rfl, hc, hb, hk⟩
              refine ⟨_, rfl, ?_⟩
              clear hk
              rw [back3 HQ.out] at hc ⊢
              refine hK.out _ _ trivial (fun hHeld => ?_)
              clear hK K
              refine norm_ (a' := ?_) ?_ ?_
              rotate_left
              · show Act.put _ (some 114) _ = _
                simp only [Act.put, List.setIfInBounds_toArray, List.set_cons_zero, List.set_cons_succ, i64_w, i32_w]
                rfl
              refine pure_ (i := 9) (N := (some 122)) (v := ?_) (a' := ?_) #[true, true, true, true, true, true, true, true, true, true, false] rfl rfl (any_of HT_.out (by kernel_rfl)) (fun _ _ _ h => h) (Or.inl ⟨by rfl, ?_⟩) ?_ ?_
              rotate_left
              · intro w'
                go_simp
                with_reducible rfl
              rotate_left
              · simp only [Act.put, List.setIfInBounds_toArray, List.set_cons_zero, List.set_cons_succ, i64_w, i32_w]
                rfl
              refine pure_ (i := 10) (N := (some 7)) (v := ?_) (a' := ?_) #[true, true, true, true, true, true, true, true, true, true, true] rfl rfl (any_of HT_.out (by kernel_rfl)) (fun _ _ _ h => h) (Or.inl ⟨by rfl, ?_⟩) ?_ ?_
              rotate_left
              · intro w'
                go_simp
                with_reducible rfl
              rotate_left
              · simp only [Act.put, List.setIfInBounds_toArray, List.set_cons_zero, List.set_cons_succ, i64_w, i32_w]
                rfl
              refine done_ (done_of HT_.out (by kernel_rfl)) ?_
              go_wp2_with fail
              refine (err_any hc hb).mono ?_; rintro e1 w7 ⟨rfl, hc, hb, hk⟩
              clear hk
              go_wp2_with fail
              go_roundg g1
              case measure => omega
              case rel => exact ⟨i + 1, by omega, by omega, by go_num, ⟨hc⟩, ⟨hb⟩⟩
        · have h1 : decide ((i : Int) < (l.length : Int)) = false := decide_eq_false (by omega)
          have h2 : decide (i < l.length) = false := decide_eq_false hlt
          have hc := HC.out; have hb := HB.out
          rw [List.drop_eq_nil_of_le (by omega)] at hc
          have hc : Cur w wr c [] 0 := hc
          clear hlt HC HB
          go_wp2_with fail
          refine (done_any hc hb).mono ?_; rintro e w5 ⟨rfl, hc, hb, hk⟩
          have hd0 : aDone [] 0 = 0 := rfl
          rw [hd0]
          go_wp2_with fail
          refine (left_any hc hb).mono ?_; rintro e w6 ⟨rfl, hc, hb, hk⟩
          go_wp2_with fail
          go_ret
          exact ⟨rfl, hb⟩

theorem TallyBack.law (A : Option Addr) (c0 : Nat) (l : List ST) (w : World) (hc : l.length ≤ c0) (hr : kT.C w A l.length l) (hm : l.length ≤ maxLen) (hok : ∀ x ∈ l, OkT x) (hb : ((l.map BT).sum + 1) ≤ 1048576) :
    Calls Try.prog 9 #[.slice A l.length c0] w fun e w' => e = .returned (.bool true) ∧ Below w.heap.size w w' :=
  TallyBack.walk A c0 l w hr (fun x hx => ⟨hok x hx, by have := BT_mem hx; omega⟩) (by have := BT_len l; omega) (fun i => by have := encAll_take l i; omega)

end Go.Proofs.Ytofjpagpjkdapaa.G
