import Derived.Test.YtagokgijffpdnaaZMRight
import Derived.Test.YtagokgijffpdnaaZQ2
import Derived.Test.YtagokgijffpdnaaZQF2
import Derived.Test.YtagokgijffpdnaaZG10
namespace Go.Proofs.Ytagokgijffpdnaa.G
open Go.RowKit Go.Proofs.YtagokgijffpdnaaQ Go.Proofs.YtagokgijffpdnaaW.PrintWords Go.Proofs.YtagokgijffpdnaaW.PrintLast Go.Proofs.YtagokgijffpdnaaW.PrintMore
set_option linter.unusedVariables false
set_option linter.unusedSimpArgs false
theorem w64' (x : Int) (h0 : -9223372036854775808 ≤ x) (h1 : x < 9223372036854775808) : wrap64 x = x := w64 h0 h1
theorem big_step (k : Nat) (l : List Int) (x : Int) (i : Nat) (hi : i ≤ 7) (hl : l.length < 140737488355328) :
    tally_big.l0 (k + 1) l x i = tally_big.l0 k (l ++ [x / 256 ^ i % 256]) x ((i : Int) - 1) := by
  simp only [tally_big.l0]
  rw [if_pos (by omega), w64' (8 * (i : Int)) (by omega) (by omega), if_pos (by omega), if_pos hl, w64' ((i : Int) - 1) (by omega) (by omega)]
  have e : (8 * (i : Int)) = ((8 * i : Nat) : Int) := by omega
  rw [e, shr_u64_lit x (8 * i) (by omega)]
  have e2 : (256 : Int) ^ i = 2 ^ (8 * i) := by rw [Int.pow_mul]; rfl
  rw [e2]
theorem big_end (k : Nat) (l : List Int) (x : Int) : tally_big.l0 (k + 1) l x (-1) = some l := by
  simp only [tally_big.l0]; rw [if_neg (by omega)]
def bigs (x : Int) : Nat → List Int
  | 0 => []
  | n + 1 => x / 256 ^ n % 256 :: bigs x n
theorem big_f (n : Nat) (hn : n ≤ 8) : ∀ (k : Nat) (l : List Int) (x : Int), n < k → l.length + n ≤ 140737488355328 → tally_big.l0 k l x ((n : Int) - 1) = some (l ++ bigs x n) := by
  induction n with
  | zero =>
    intro k l x hk hl
    obtain ⟨k, rfl⟩ : ∃ m, k = m + 1 := ⟨k - 1, by omega⟩
    have e : ((0 : Nat) : Int) - 1 = -1 := by omega
    rw [e, big_end]; simp [bigs]
  | succ n ih =>
    intro k l x hk hl
    obtain ⟨k, rfl⟩ : ∃ m, k = m + 1 := ⟨k - 1, by omega⟩
    have e : ((n + 1 : Nat) : Int) - 1 = (n : Int) := by omega
    rw [e, big_step k l x n (by omega) (by omega), ih (by omega) k _ x (by omega) (by simp; omega)]
    simp [bigs]
theorem Uint_f {k : Nat} (hk : 10 ≤ k) {l : List Int} (hl : l.length + 9 ≤ 140737488355328) {x : Int} (hx : u64 x) : tally_Uint.f k l x = some (l ++ encU x) := by
  obtain ⟨h0, h1⟩ := hx
  unfold tally_Uint.f encU
  by_cases c1 : x < 64
  · rw [if_pos (by omega), if_pos (by omega), if_pos c1]
    simp; omega
  · rw [if_neg (by omega), if_neg c1]
    by_cases c2 : x < 16384
    · rw [if_pos (by omega), if_pos c2, or_join' 16384 x 14 (by omega) (by omega) (by omega) (by omega) (by decide) (by simp; omega)]
      unfold tally_big.f
      have e : wrap64 (2 - 1) = ((2 : Nat) : Int) - 1 := by unfold wrap64; decide
      rw [e, big_f 2 (by omega) k l _ (by omega) (by omega)]
      simp [bigs]; omega
    · rw [if_neg (by omega), if_neg c2]
      by_cases c3 : x < 1073741824
      · rw [if_pos (by omega), if_pos c3, or_join' 2147483648 x 30 (by omega) (by omega) (by omega) (by omega) (by decide) (by simp; omega)]
        unfold tally_big.f
        have e : wrap64 (4 - 1) = ((4 : Nat) : Int) - 1 := by unfold wrap64; decide
        rw [e, big_f 4 (by omega) k l _ (by omega) (by omega)]
        simp [bigs]; omega
      · rw [if_neg (by omega), if_neg c3, if_pos (by omega)]
        unfold tally_big.f
        have e : wrap64 (8 - 1) = ((8 : Nat) : Int) - 1 := by unfold wrap64; decide
        rw [e, big_f 8 (by omega) k _ _ (by omega) (by simp; omega)]
        simp [bigs]
theorem Int_f {k : Nat} (hk : 10 ≤ k) {l : List Int} (hl : l.length + 9 ≤ 140737488355328) {x : Int} (hx : i64 x) : tally_Int.f k l x = some (l ++ encI x) := by
  unfold tally_Int.f
  rw [zig x hx, Uint_f hk hl (fold_u64 hx)]; rfl
theorem Text_f {k : Nat} (hk : 10 ≤ k) {l : List Int} {s : ByteArray} (hl : l.length + 9 + s.size < 140737488355328) : tally_Text.f k l s = some (l ++ encT (bytesOf s)) := by
  unfold tally_Text.f
  have hu : u64 (s.size : Int) := by unfold u64; omega
  rw [wu64 hu.1 hu.2, Uint_f hk (by omega) hu]
  have := encU_len (s.size : Int)
  simp only [Option.bind_some]
  rw [if_pos (by simp; omega)]
  simp [encT, bytesOf_size]
theorem put_f {k : Nat} (hk : 5 ≤ k) {l : List Int} (hl : l.length + 4 ≤ 140737488355328) (n : Int) : frame_put.f k l n = some (l ++ le4 n) := by
  obtain ⟨k, rfl⟩ : ∃ m, k = m + 5 := ⟨k - 5, by omega⟩
  unfold frame_put.f
  simp only [frame_put.l0]
  have e1 : wrap64 (0 + 1) = 1 := by unfold wrap64; decide
  have e2 : wrap64 (1 + 1) = 2 := by unfold wrap64; decide
  have e3 : wrap64 (2 + 1) = 3 := by unfold wrap64; decide
  have e4 : wrap64 (3 + 1) = 4 := by unfold wrap64; decide
  simp only [e1, e2, e3, e4, List.length_append, List.length_cons, List.length_nil]
  rw [if_pos (by omega), if_pos (by omega), if_pos (by omega), if_pos (by omega), if_pos (by omega), if_pos (by omega), if_pos (by omega), if_pos (by omega), if_neg (by omega)]
  have d1 : n / 256 / 256 = n / 65536 := by omega
  have d2 : n / 65536 / 256 = n / 16777216 := by omega
  rw [d1, d2]
  simp [le4]
theorem sum_f {s : ByteArray} (hs : s.size ≤ 4611686018427387904) : frame_Sum.f s = some ((crc (bytesOf s) : Nat) : Int) := by unfold frame_Sum.f; rw [if_pos hs]
theorem Write_f {k : Nat} (hk : 5 ≤ k) {s : ByteArray} (hs : s.size + 8 < 140737488355328) : frame_Write.f k s = some (strOfNums (frm (bytesOf s))) := by
  unfold frame_Write.f
  rw [put_f hk (by simp)]
  simp only [Option.bind_some, List.nil_append]
  rw [if_pos (by rw [le4_len]; omega), sum_f (by omega)]
  simp only [Option.bind_some]
  rw [put_f hk (by simp [le4_len, bytesOf_size]; omega)]
  simp only [Option.bind_some, frm, bytesOf_size]
def valB (v : SV) : List Int := encI v.f1 ++ encT (bytesOf v.f2)
def partB (p : SP) : List Int := encU p.f0 ++ (encU p.f1 ++ (valB p.f2 ++ valB p.f3))
def editB (d : List Int) (a : List SP) (fl nx : Int) : List Int := encU (d.length : Int) ++ (d.flatMap encU ++ (encU (a.length : Int) ++ (a.flatMap partB ++ (encU fl ++ encU nx))))
def writeL (d : List Int) (a : List SP) (fl nx : Int) : ByteArray × Int := if rightB d a fl nx = true then (strOfNums (frm (editB d a fl nx)), 0) else (⟨#[]⟩, 1)
theorem nums_l0 (l : List Int) (hl : l.length ≤ 1000) (hu : ∀ x ∈ l, u64 x) : ∀ (m i k : Nat) (b : List Int), i + m = l.length → m + 12 ≤ k → b.length + 9 * m + 9 ≤ 140737488355328 → manifest_nums.l0 k b l (l.length : Int) (i : Int) = some (b ++ (l.drop i).flatMap encU) := by
  intro m
  induction m with
  | zero =>
    intro i k b hi hk hb
    obtain ⟨k, rfl⟩ : ∃ m, k = m + 1 := ⟨k - 1, by omega⟩
    simp only [manifest_nums.l0]
    rw [if_neg (by omega), List.drop_eq_nil_of_le (show l.length ≤ i by omega)]; simp
  | succ m ih =>
    intro i k b hi hk hb
    obtain ⟨k, rfl⟩ : ∃ m, k = m + 1 := ⟨k - 1, by omega⟩
    simp only [manifest_nums.l0]
    have EW : Aside0 (wrap64 ((i : Int) + 1) = ((i + 1 : Nat) : Int)) := ⟨by rw [w64 (by omega) (by omega)]; omega⟩
    have hdr : l.drop i = rd l (i : Int) :: l.drop (i + 1) := by
      rw [List.drop_eq_getElem_cons (show i < l.length by omega)]
      unfold rd
      rw [Int.toNat_natCast, List.getD_eq_getElem?_getD, List.getElem?_eq_getElem (show i < l.length by omega)]; rfl
    have hx := hu (rd l (i : Int)) (by have := List.mem_of_mem_drop (hdr ▸ List.mem_cons_self : rd l (i : Int) ∈ l.drop i); exact this)
    have hw := wu64 hx.1 hx.2
    have he := (encU_len (rd l (i : Int))).2
    rw [if_pos (by omega), if_pos (by omega), if_pos (by omega), hw, Uint_f (by omega) (by omega) hx, Option.bind_some, EW.out, ih (i + 1) k _ (by omega) (by omega) (by rw [List.length_append]; omega), hdr]
    simp
theorem nums_f {l b : List Int} (hl : l.length ≤ 1000) (hu : ∀ x ∈ l, u64 x) (hb : b.length ≤ 100000000) {k : Nat} (hk : 1100 ≤ k) : manifest_nums.f k b l = some (b ++ l.flatMap encU) := by
  unfold manifest_nums.f
  have := nums_l0 l hl hu l.length 0 k b (by omega) (by omega) (by omega)
  rw [show ((0 : Nat) : Int) = 0 from rfl, List.drop_zero] at this
  exact this
theorem bounds_f {v u : SV} {b : List Int} (hv : i64 v.f1) (hu : i64 u.f1) (hvs : v.f2.size ≤ 64) (hus : u.f2.size ≤ 64) (hb : b.length ≤ 100000000) {k : Nat} (hk : 20 ≤ k) : manifest_bounds.f k b [v, u] = some (b ++ (valB v ++ valB u)) := by
  obtain ⟨k, rfl⟩ : ∃ m, k = m + 3 := ⟨k - 3, by omega⟩
  unfold manifest_bounds.f
  have e0 : wrap64 (0 + 1) = 1 := by unfold wrap64; decide
  have e1 : wrap64 (1 + 1) = 2 := by unfold wrap64; decide
  have r0 : rd_T34 [v, u] 0 = v := rfl
  have r1 : rd_T34 [v, u] 1 = u := rfl
  have lv : (encI v.f1).length ≤ 9 := (encU_len _).2
  have lu : (encI u.f1).length ≤ 9 := (encU_len _).2
  have lt : (encT (bytesOf v.f2)).length ≤ 73 := by have := (encU_len ((bytesOf v.f2).length : Int)).2; unfold encT; rw [List.length_append, bytesOf_size]; rw [bytesOf_size] at this; omega
  have h1 := Int_f (k := k + 2) (by omega) (l := b) (by omega) hv
  have h2 := Text_f (k := k + 2) (by omega) (l := b ++ encI v.f1) (s := v.f2) (by rw [List.length_append]; omega)
  have h3 := Int_f (k := k + 1) (by omega) (l := b ++ encI v.f1 ++ encT (bytesOf v.f2)) (by rw [List.length_append, List.length_append]; omega) hu
  have h4 := Text_f (k := k + 1) (by omega) (l := b ++ encI v.f1 ++ encT (bytesOf v.f2) ++ encI u.f1) (s := u.f2) (by rw [List.length_append, List.length_append, List.length_append]; omega)
  simp only [manifest_bounds.l0, List.length_cons, List.length_nil]
  rw [if_pos (by decide), if_pos (by decide), if_pos (by decide), r0, h1, Option.bind_some, h2, Option.bind_some, e0]
  rw [if_pos (by decide), if_pos (by decide), if_pos (by decide), r1, h3, Option.bind_some, h4, Option.bind_some, e1]
  rw [if_neg (by decide)]
  simp [valB]
theorem not_odd {n : Int} (h : oddI n = false) : u64 n := by unfold oddI at h; simp at h; unfold u64; omega
theorem not_oddP {p : SP} (h : oddP p = false) : u64 p.f0 ∧ u64 p.f1 ∧ p.f2.f2.size ≤ 64 ∧ p.f3.f2.size ≤ 64 := by
  unfold oddP badV at h
  simp only [Bool.or_eq_false_iff, decide_eq_false_iff_not] at h
  exact ⟨not_odd h.1, by unfold u64; omega, by omega, by omega⟩
theorem partB_len {p : SP} (h : oddP p = false) : (partB p).length ≤ 200 := by
  obtain ⟨h0, h1, h2, h3⟩ := not_oddP h
  have a0 := (encU_len p.f0).2
  have a1 := (encU_len p.f1).2
  have v : ∀ v : SV, v.f2.size ≤ 64 → (valB v).length ≤ 82 := fun v hv => by
    have b0 : (encI v.f1).length ≤ 9 := (encU_len _).2
    have b1 := (encU_len ((bytesOf v.f2).length : Int)).2
    unfold valB encT
    rw [List.length_append, List.length_append]
    have := bytesOf_size v.f2
    omega
  have v2 := v p.f2 h2
  have v3 := v p.f3 h3
  unfold partB
  rw [List.length_append, List.length_append, List.length_append]
  omega
theorem OkP.ints {p : SP} (h : OkP p) : i64 p.f2.f1 ∧ i64 p.f3.f1 := by
  have h1 := bounds_i64 h.2.2.1.1
  have h2 := bounds_i64 h.2.2.2.1
  unfold i64; omega
theorem flat_len (l : List Int) : (l.flatMap encU).length ≤ 9 * l.length := by
  induction l with
  | nil => simp
  | cons x l ih => have := (encU_len x).2; rw [List.flatMap_cons, List.length_append, List.length_cons]; omega
theorem Write_l0 (d : List Int) (a : List SP) (fl nx : Int) (ha : a.length ≤ 1000) (hp : (a.all fun p => !oddP p) = true) (hok : ∀ p ∈ a, OkP p) (hfl : u64 fl) (hnx : u64 nx) : ∀ (m i k : Nat) (b : List Int), i + m = a.length → m + 1200 ≤ k → b.length + 200 * m ≤ 1000000 →
    manifest_Write.l0 k b a (a.length : Int) (i : Int) d a fl nx = some (strOfNums (frm (bytesOf (strOfNums (b ++ ((a.drop i).flatMap partB ++ (encU fl ++ encU nx)))))), 0) := by
  intro m
  induction m with
  | zero =>
    intro i k b hi hk hb
    obtain ⟨k, rfl⟩ : ∃ m, k = m + 1 := ⟨k - 1, by omega⟩
    simp only [manifest_Write.l0]
    have l1 := (encU_len fl).2
    have l2 := (encU_len nx).2
    rw [if_neg (by omega), nums_f (by simp) (by simp [hfl, hnx]) (by omega) (by omega), Option.bind_some, Write_f (by omega) (by rw [size_strOfNums]; simp; omega), Option.bind_some, List.drop_eq_nil_of_le (show a.length ≤ i by omega)]
    simp
  | succ m ih =>
    intro i k b hi hk hb
    obtain ⟨k, rfl⟩ : ∃ m, k = m + 1 := ⟨k - 1, by omega⟩
    simp only [manifest_Write.l0]
    have EW : Aside0 (wrap64 ((i : Int) + 1) = ((i + 1 : Nat) : Int)) := ⟨by rw [w64 (by omega) (by omega)]; omega⟩
    have hdr := rdP_drop (show i < a.length by omega)
    have hm : rd_T36 a (i : Int) ∈ a := List.mem_of_mem_drop (hdr ▸ List.mem_cons_self : rd_T36 a (i : Int) ∈ a.drop i)
    obtain ⟨p, hpe⟩ : ∃ p, rd_T36 a (i : Int) = p := ⟨_, rfl⟩
    rw [hpe] at hdr hm
    have hodd : oddP p = false := by have := List.all_eq_true.mp hp p hm; simpa using this
    obtain ⟨h0, h1, h2, h3⟩ := not_oddP hodd
    obtain ⟨g2, g3⟩ := (hok p hm).ints
    have l0 := (encU_len p.f0).2
    have l1 := (encU_len p.f1).2
    have lp := partB_len hodd
    have hn := nums_f (l := [p.f0, p.f1]) (b := b) (by simp) (by simp [h0, h1]) (by omega) (k := k) (by omega)
    have hbd := bounds_f (v := p.f2) (u := p.f3) (b := b ++ [p.f0, p.f1].flatMap encU) g2 g3 h2 h3 (by simp; omega) (k := k) (by omega)
    rw [if_pos (by omega), if_pos (by omega), if_pos (by omega), hpe, hn, Option.bind_some]
    refine (congrArg (fun o => Option.bind o _) hbd).trans ?_
    rw [Option.bind_some, EW.out, ih (i + 1) k _ (by omega) (by omega) (by
      have e : (b ++ [p.f0, p.f1].flatMap encU ++ (valB p.f2 ++ valB p.f3)).length = b.length + (partB p).length   := by simp [partB] <;> omega
      rw [e]; omega), hdr]
    simp [partB]
theorem editB_Bs {d : List Int} {a : List SP} {fl nx : Int} (h : rightB d a fl nx = true) (hok : ∀ p ∈ a, OkP p) : Bs (editB d a fl nx) := by
  unfold rightB at h
  simp only [Bool.and_eq_true, decide_eq_true_eq, Bool.not_eq_true', List.all_eq_true] at h
  obtain ⟨h1, h2, h3, h4, h5, h6⟩ := h
  have fm : ∀ {α : Type} (l : List α) (f : α → List Int), (∀ x ∈ l, Bs (f x)) → Bs (l.flatMap f) := fun l f hf y hy => by
    obtain ⟨x, hx, hy⟩ := List.mem_flatMap.mp hy
    exact hf x hx y hy
  have vb : ∀ v : SV, i64 v.f1 → v.f2.size ≤ 64 → Bs (valB v) := fun v hv hs => (encI_Bs hv).app ((encU_Bs (by unfold u64; rw [bytesOf_size]; omega)).app (Bs.bytesOf _))
  refine (encU_Bs (by unfold u64; omega)).app ((fm _ _ fun x hx => encU_Bs (not_odd (h5 x hx))).app ((encU_Bs (by unfold u64; omega)).app ((fm _ _ fun p hp => ?_).app ((encU_Bs (not_odd h3)).app (encU_Bs (not_odd h4))))))
  obtain ⟨q0, q1, q2, q3⟩ := not_oddP (h6 p hp)
  obtain ⟨g2, g3⟩ := (hok p hp).ints
  exact (encU_Bs q0).app ((encU_Bs q1).app ((vb _ g2 q2).app (vb _ g3 q3)))
theorem Write_is (d : List Int) (a : List SP) (fl nx : Int) (hok : ∀ p ∈ a, OkP p) {k : Nat} (hk : 3000 ≤ k) : manifest_Write.f k d a fl nx = some (writeL d a fl nx) := by
  unfold manifest_Write.f manifest_right.f writeL
  rw [Option.bind_some]
  cases hr : rightB d a fl nx
  · rfl
  · have hB := editB_Bs hr hok
    rw [if_pos rfl, if_pos rfl]
    have h := hr
    unfold rightB at h
    simp only [Bool.and_eq_true, decide_eq_true_eq, Bool.not_eq_true'] at h
    obtain ⟨h1, h2, h3, h4, h5, h6⟩ := h
    have l1 := (encU_len (d.length : Int)).2
    have l2 := (encU_len (a.length : Int)).2
    have l5 := flat_len d
    have hu : ∀ x ∈ d, u64 x := fun x hx => not_odd (by have := List.all_eq_true.mp h5 x hx; simpa using this)
    have n1 := nums_f (l := [(d.length : Int)]) (b := []) (by simp) (by simp [u64]; omega) (by simp) (k := k) (by omega)
    have n2 := nums_f (l := d) (b := [] ++ [(d.length : Int)].flatMap encU) h1 hu (by simp; omega) (k := k) (by omega)
    have n3 := nums_f (l := [(a.length : Int)]) (b := [] ++ [(d.length : Int)].flatMap encU ++ d.flatMap encU) (by simp) (by simp [u64]; omega) (by simp only [List.nil_append, List.flatMap_cons, List.flatMap_nil, List.append_nil, List.length_append]; omega) (k := k) (by omega)
    have w := Write_l0 d a fl nx h2 h6 hok (not_odd h3) (not_odd h4) a.length 0 k ([] ++ [(d.length : Int)].flatMap encU ++ d.flatMap encU ++ [(a.length : Int)].flatMap encU) (by omega) (by omega) (by simp only [List.nil_append, List.flatMap_cons, List.flatMap_nil, List.append_nil, List.length_append]; omega)
    rw [show ((0 : Nat) : Int) = 0 from rfl, List.drop_zero] at w
    rw [n1, Option.bind_some, n2, Option.bind_some, n3, Option.bind_some, w]
    have e : [] ++ [(d.length : Int)].flatMap encU ++ d.flatMap encU ++ [(a.length : Int)].flatMap encU ++ (a.flatMap partB ++ (encU fl ++ encU nx)) = editB d a fl nx := by simp [editB]
    rw [e, bytesOf_strOfNums hB]
end Go.Proofs.Ytagokgijffpdnaa.G
