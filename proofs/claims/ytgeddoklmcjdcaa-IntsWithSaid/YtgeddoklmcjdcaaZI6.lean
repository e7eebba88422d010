import Derived.Test.YtgeddoklmcjdcaaZG24
import Derived.SizedLaws
import Derived.ChangeSlices
namespace Go.Proofs.Ytgeddoklmcjdcaa.G
open Go.RowKit Go.Proofs.YtgeddoklmcjdcaaQ Go.Proofs.YtgeddoklmcjdcaaW.PrintWords Go.Proofs.YtgeddoklmcjdcaaW.PrintLast Go.Proofs.YtgeddoklmcjdcaaW.PrintMore
set_option linter.unusedVariables false
set_option linter.unusedSimpArgs false
theorem str_app {a b : List Int} : strOfNums a ++ strOfNums b = strOfNums (a ++ b) := (strOfNums_append a b).symm
theorem add_i {i j : Nat} (h : i + j ≤ 1000000) : wrap64 ((i : Int) + (j : Int)) = ((i + j : Nat) : Int) := by rw [w64 (by omega) (by omega)]; rfl
theorem rRuns_l1 {l : List Int} {i : Nat} {x : Int} {m : List Int} (hdr : l.drop i = x :: m) (hl : l.length ≤ 65536) (hI : I64 l) (b : List Int) (hb : b.length ≤ 100000000) (k0 : Nat) (hk0 : 14 < k0) (R : ByteArray)
  (h0 : ∀ k, k0 ≤ k → tithebarnref04_runs.l0 k l (strOfNums (b ++ (encU ((lead x m + 1 : Nat) : Int) ++ encI x))) ((i + (lead x m + 1) : Nat) : Int) = some R) :
  ∀ (d k j : Nat), j + d = lead x m → d + k0 < k → tithebarnref04_runs.l1 k l (strOfNums b) (i : Int) ((j + 1 : Nat) : Int) = some R := by
 have hle := lead_le x m
 have hil : i < l.length := by
  rcases Nat.lt_or_ge i l.length with h | h
  ·exact h
  ·rw [List.drop_eq_nil_of_le h] at hdr; cases hdr
 have hlen : l.length = i + (m.length + 1) := by
  have := congrArg List.length hdr
  rw [List.length_drop, List.length_cons] at this; omega
 have hri : ∀ j : Nat, rd l ((i + j : Nat) : Int) = rd (x :: m) (j : Int) := by
  intro j; rw [← hdr, rd_drop]
 have hx0 : rd l (i : Int) = x := by have := hri 0; rw [Nat.add_zero] at this; rw [this]; rfl
 have hxi : i64 x := by rw [← hx0]; exact hI _ (rd_mem hil)
 have hu : u64 ((lead x m + 1 : Nat) : Int) := by unfold u64; omega
 have h9 := encU_len ((lead x m + 1 : Nat) : Int)
 have h9' := encI_len (x := x)
 have h1 : ∀ k, 14 < k → ((tithebarnref01_Uint.f k (IntKind.u64.wrap ((lead x m + 1 : Nat) : Int))).bind fun t => (tithebarnref01_Int.f k (rd l (i : Int))).bind fun t2 => if t.size + t2.size ≤ 9223372036854775807 then (if (strOfNums b).size + (t ++ t2).size ≤ 9223372036854775807 then tithebarnref04_runs.l0 k l (strOfNums b ++ (t ++ t2)) (wrap64 ((i : Int) + ((lead x m + 1 : Nat) : Int))) else none) else none) = tithebarnref04_runs.l0 k l (strOfNums (b ++ (encU ((lead x m + 1 : Nat) : Int) ++ encI x))) ((i + (lead x m + 1) : Nat) : Int) := by
  intro k hk
  rw [wu64 (by omega) (by omega), rUint_f (by omega) hu, Option.bind_some, hx0, rInt_f (by omega) hxi, Option.bind_some, if_pos (by rw [size_strOfNums, size_strOfNums]; omega), str_app, if_pos (by rw [size_strOfNums, size_strOfNums, List.length_append]; omega), str_app, add_i (by omega)]
 intro d
 induction d with
 | zero =>
  intro k j hi hk
  obtain ⟨k, rfl⟩ : ∃ m, k = m + 1 := ⟨k - 1, by omega⟩
  obtain rfl : j = lead x m := by omega
  simp only [tithebarnref04_runs.l1]
  rw [add_i (by omega)]
  have h3 := (h1 k (by omega)).trans (h0 k (by omega))
  by_cases hend : lead x m < m.length
  ·have hne := lead_end x m hend
   rw [if_pos (by omega), if_pos (by omega), if_pos (by omega), if_pos (by omega), hri, hx0, if_neg hne]
   rw [hx0, add_i (by omega)] at h3
   exact h3
  ·rw [if_neg (by omega)]
   rw [← h3]
   congr 1; funext t
   rw [if_pos (by omega), if_pos (by omega), add_i (by omega)]
 | succ d ih =>
  intro k j hi hk
  obtain ⟨k, rfl⟩ : ∃ m, k = m + 1 := ⟨k - 1, by omega⟩
  simp only [tithebarnref04_runs.l1]
  rw [add_i (by omega), if_pos (by omega), if_pos (by omega), if_pos (by omega), if_pos (by omega), hri, hx0, if_pos (lead_at x m j (by omega)), next_i (n := 0) (by omega)]
  exact ih k (j + 1) (by omega) (by omega)
theorem rRuns_l0 {l : List Int} (hl : l.length ≤ 65536) (hI : I64 l) : ∀ (d i : Nat) (b : List Int) (k : Nat), i ≤ l.length → l.length - i ≤ d → d ≤ 65536 → b.length + 20 * d ≤ 100000000 → 2 * (l.length - i) + 20 < k → tithebarnref04_runs.l0 k l (strOfNums b) (i : Int) = some (strOfNums (b ++ runsB (l.drop i))) := by
 intro d
 induction d with
 | zero =>
  intro i b k hi hd _ hb hk
  obtain ⟨k, rfl⟩ : ∃ m, k = m + 1 := ⟨k - 1, by omega⟩
  simp only [tithebarnref04_runs.l0]
  rw [if_neg (by omega), List.drop_eq_nil_of_le (by omega)]; simp [runsB, runsF]
 | succ d ih =>
  intro i b k hi hd hd2 hb hk
  obtain ⟨k, rfl⟩ : ∃ m, k = m + 1 := ⟨k - 1, by omega⟩
  by_cases hlt : i < l.length
  ·obtain ⟨x, m, hdr⟩ : ∃ x m, l.drop i = x :: m := ⟨_, _, drop_rd hlt⟩
   have hml : l.length - i = m.length + 1 := by have := congrArg List.length hdr; rw [List.length_drop, List.length_cons] at this; exact this
   have hle := lead_le x m
   have h9 := encU_len ((lead x m + 1 : Nat) : Int)
   have h9' := encI_len (x := x)
   have hdd : l.drop (i + (lead x m + 1)) = m.drop (lead x m) := by rw [← List.drop_drop, hdr, List.drop_succ_cons]
   simp only [tithebarnref04_runs.l0]
   rw [if_pos (by omega)]
   refine rRuns_l1 hdr hl hI b (by omega) (2 * (m.length - lead x m) + 21) (by omega) _ (fun k' hk' => ?_) (lead x m) k 0 (by omega) (by omega)
   rw [ih (i + (lead x m + 1)) _ k' (by omega) (by omega) (by omega) (by rw [List.length_append, List.length_append]; omega) (by omega), hdd, hdr, runsB_cons]
   simp only [List.append_assoc]
  ·simp only [tithebarnref04_runs.l0]
   rw [if_neg (by omega), List.drop_eq_nil_of_le (by omega)]; simp [runsB, runsF]
theorem rRuns_f {l : List Int} (hI : I64 l) (hl : l.length ≤ 65536) {k : Nat} (hk : 140000 < k) : tithebarnref04_runs.f k l = some (strOfNums (runsB l)) := by
 unfold tithebarnref04_runs.f
 have := rRuns_l0 hl hI 65536 0 [] k (by omega) (by omega) (Nat.le_refl _) (by simp) (by omega)
 exact this
theorem rOff_l1 {l : List Int} {a : Int} (hI : I64 l) (ha : ∀ x ∈ l, a ≤ x) (hai : i64 a) (hl : l.length ≤ 65536) : ∀ (d k i : Nat) (b : List Int), i + d = l.length → d < k → b.length ≤ i → tithebarnref04_offsets.l1 k l a b (i : Int) = some (a, b ++ ints (offs a (l.drop i))) := by
 intro d
 induction d with
 | zero =>
  intro k i b hi hk hb
  obtain ⟨k, rfl⟩ : ∃ m, k = m + 1 := ⟨k - 1, by omega⟩
  simp only [tithebarnref04_offsets.l1]
  rw [if_neg (by omega), List.drop_eq_nil_of_le (by omega)]; simp [offs, ints]
 | succ d ih =>
  intro k i b hi hk hb
  obtain ⟨k, rfl⟩ : ∃ m, k = m + 1 := ⟨k - 1, by omega⟩
  have hlt : i < l.length := by omega
  have h1 := hI _ (rd_mem hlt)
  have h2 := ha _ (rd_mem hlt)
  obtain ⟨x, hx⟩ : ∃ x, rd l (i : Int) = x := ⟨_, rfl⟩
  have e : IntKind.u64.wrap (IntKind.u64.wrap x - IntKind.u64.wrap a) = (((x - a).toNat : Nat) : Int) := by
   rw [hx] at h1 h2
   obtain ⟨a0, a1⟩ := h1; obtain ⟨b0, b1⟩ := hai
   rw [wu64_def, wu64_def, wu64_def]; omega
  simp only [tithebarnref04_offsets.l1]
  rw [if_pos (by omega), if_pos (by omega), if_pos (by omega), next_i (n := 0) (by omega), hx, e, ih k (i + 1) _ (by omega) (by omega) (by simp; omega), drop_rd hlt, hx]
  simp [offs, ints]
theorem rOff_l0 {l : List Int} (hI : I64 l) (hl : l.length ≤ 65536) (h0 : l ≠ []) : ∀ (d k i : Nat) (m : Int), i + d = l.length → d + l.length + 1 < k → (l.drop i).foldl mn m = minL l → tithebarnref04_offsets.l0 k l m (i : Int) = some (minL l, ints (offs (minL l) l)) := by
 intro d
 induction d with
 | zero =>
  intro k i m hi hk hm
  obtain ⟨k, rfl⟩ : ∃ m, k = m + 1 := ⟨k - 1, by omega⟩
  simp only [tithebarnref04_offsets.l0]
  rw [List.drop_eq_nil_of_le (by omega)] at hm
  rw [if_neg (by omega), show m = minL l from hm]
  exact rOff_l1 hI (fun x hx => minL_le hx) (minL_i64 h0 hI) hl l.length k 0 [] (by omega) (by omega) (by simp)
 | succ d ih =>
  intro k i m hi hk hm
  obtain ⟨k, rfl⟩ : ∃ m, k = m + 1 := ⟨k - 1, by omega⟩
  simp only [tithebarnref04_offsets.l0]
  rw [drop_rd (l := l) (i := i) (by omega)] at hm
  rw [if_pos (by omega), if_pos (by omega), next_i (n := 0) (by omega)]
  exact ih k (i + 1) _ (by omega) (by omega) hm
theorem rOff_f {l : List Int} (hI : I64 l) (hl : l.length ≤ 65536) (h0 : l ≠ []) {k : Nat} (hk : 140000 < k) : tithebarnref04_offsets.f k l = some (minL l, ints (offs (minL l) l)) := by
 unfold tithebarnref04_offsets.f
 have hp : 0 < l.length := List.length_pos_iff.2 h0
 rw [if_pos (by omega)]
 refine rOff_l0 hI hl h0 l.length k 0 (rd l 0) (by omega) (by omega) ?_
 cases l with
 | nil => exact absurd rfl h0
 | cons x l =>
  show (x :: l).foldl mn x = l.foldl mn x
  rw [List.foldl_cons]
  have : mn x x = x := by unfold mn; split <;> rfl
  rw [this]
theorem rPacked_f {l : List Int} (hI : I64 l) (hl : l.length ≤ 65536) {k : Nat} (hk : 140509200 < k) : tithebarnref04_packed.f k l = some (strOfNums (packB l)) := by
 unfold tithebarnref04_packed.f packB
 by_cases h0 : l = []
 ·subst h0; simp [strOfNums]
 ·have hne : ¬ (l.length : Int) = 0 := fun h => h0 (List.length_eq_zero_iff.1 (by omega))
  have hw := wd_offs hI
  have ho := offs_64 hI
  have hln := offs_len (minL l) l
  have hmi := minL_i64 h0 hI
  have h9 := encI_len (x := minL l)
  have hU : U64 (ints (offs (minL l) l)) := ints_U64 (w := 64) (by omega) ho
  have hpl := pk_len (wd (offs (minL l) l)) (offs (minL l) l)
  have hnd : need (l.length * wd (offs (minL l) l)) ≤ 65536 * 64 := by
   have : l.length * wd (offs (minL l) l) ≤ 65536 * 64 := Nat.mul_le_mul hl hw
   unfold need; omega
  rw [if_neg hne, if_neg h0, rOff_f hI hl h0 (by omega), Option.bind_some]
  simp only
  rw [rWidth_f hU (by rw [ints_len, hln]; omega) (by rw [ints_len, hln]; omega), Option.bind_some, unats_ints, rPack_f hU (by rw [ints_len, hln]; omega) (by omega), Pack_ok (by rw [ints_len, hln]; omega) hU hw (by rw [unats_ints]; exact Nat.le_refl _), Option.bind_some, unats_ints]
  simp only
  rw [hln] at hpl
  rw [rInt_f (by omega) hmi, Option.bind_some, Option.bind_some, Int.emod_eq_of_lt (by omega) (by omega), if_pos (by rw [size_strOfNums, size_strOfNums]; simp; omega), str_app, if_pos (by rw [size_strOfNums, size_ints, hpl, List.length_append]; simp; omega), str_app]
  simp [List.append_assoc]
theorem rWith_l0 {l : List Int} (hI : I64 l) (hl : l.length ≤ 65536) {c : Int} (hc : c ≠ 1) : ∀ (d k i : Nat) (b : List Int), i + d = l.length → d + 14 < k → b.length + 9 * d ≤ 100000000 → tithebarnref04_With.l0 k l c (strOfNums b) (i : Int) = some (strOfNums (b ++ encL (l.drop i)), 0) := by
 intro d
 induction d with
 | zero =>
  intro k i b hi hk hb
  obtain ⟨k, rfl⟩ : ∃ m, k = m + 1 := ⟨k - 1, by omega⟩
  simp only [tithebarnref04_With.l0]
  rw [if_neg (by omega), List.drop_eq_nil_of_le (by omega)]; simp [encL]
 | succ d ih =>
  intro k i b hi hk hb
  obtain ⟨k, rfl⟩ : ∃ m, k = m + 1 := ⟨k - 1, by omega⟩
  have hlt : i < l.length := by omega
  have h9 := encI_len (x := rd l (i : Int))
  simp only [tithebarnref04_With.l0]
  rw [if_pos (by omega), if_pos (by omega), if_neg hc, rInt_f (by omega) (hI _ (rd_mem hlt)), Option.bind_some, if_pos (by rw [size_strOfNums, size_strOfNums]; omega), str_app, next_i (n := 0) (by omega), ih k (i + 1) _ (by omega) (by omega) (by rw [List.length_append]; omega), drop_rd hlt]
  simp [encL]
theorem rWith_l0d {l : List Int} (hI : I64 l) (hl : l.length ≤ 65536) : ∀ (d k i : Nat) (b : List Int), i + d = l.length → d + 14 < k → b.length + 9 * d ≤ 100000000 → tithebarnref04_With.l0 k l 1 (strOfNums b) (i : Int) = some (strOfNums (b ++ encL (deltas (if i = 0 then 0 else rd l ((i - 1 : Nat) : Int)) (l.drop i))), 0) := by
 intro d
 induction d with
 | zero =>
  intro k i b hi hk hb
  obtain ⟨k, rfl⟩ : ∃ m, k = m + 1 := ⟨k - 1, by omega⟩
  simp only [tithebarnref04_With.l0]
  rw [if_neg (by omega), List.drop_eq_nil_of_le (by omega)]; simp [encL, deltas]
 | succ d ih =>
  intro k i b hi hk hb
  obtain ⟨k, rfl⟩ : ∃ m, k = m + 1 := ⟨k - 1, by omega⟩
  have hlt : i < l.length := by omega
  have IH := fun b' hb' => ih k (i + 1) b' (by omega) (by omega) hb'
  rw [if_neg (by omega), Nat.add_sub_cancel] at IH
  simp only [tithebarnref04_With.l0]
  rw [if_pos (by omega), if_pos (by omega), if_pos trivial, next_i (n := 0) (by omega), drop_rd hlt, deltas]
  by_cases h0 : i = 0
  ·subst h0
   have hx := hI _ (rd_mem hlt)
   have h9 := encI_len (x := rd l ((0 : Nat) : Int))
   rw [if_neg (by omega), if_pos rfl, rInt_f (by omega) hx, Option.bind_some, if_pos (by rw [size_strOfNums, size_strOfNums]; omega), str_app, IH _ (by rw [List.length_append]; omega)]
   have e : wrap64 (rd l ((0 : Nat) : Int) - 0) = rd l ((0 : Nat) : Int) := by obtain ⟨a0, a1⟩ := hx; unfold wrap64; omega
   rw [e]
   simp [encL]
  ·have e0 : wrap64 ((i : Int) - 1) = ((i - 1 : Nat) : Int) := by rw [w64 (by omega) (by omega)]; omega
   obtain ⟨x, hx⟩ : ∃ x, rd l (i : Int) = x := ⟨_, rfl⟩
   obtain ⟨y, hy⟩ : ∃ y, rd l ((i - 1 : Nat) : Int) = y := ⟨_, rfl⟩
   have e : wrap64 (IntKind.u64.wrap (IntKind.u64.wrap x - IntKind.u64.wrap y)) = wrap64 (x - y) := by rw [wu64_def, wu64_def, wu64_def]; unfold wrap64; omega
   have h9 := encI_len (x := wrap64 (x - y))
   rw [if_pos (by omega), if_neg h0, e0, if_pos (by omega), if_pos (by omega), hy, hx, e, rInt_f (by omega) (wrap_i64 _), Option.bind_some, if_pos (by rw [size_strOfNums, size_strOfNums]; omega), str_app, IH _ (by rw [List.length_append]; omega), hx]
   simp [encL]
theorem rWith_f {l : List Int} (hI : I64 l) (a : Int) {k : Nat} (hk : 140509300 < k) : tithebarnref04_With.f k l a = some (if a < 0 ∨ 4 ≤ a then (⟨#[]⟩, 1) else if 65536 < l.length then (⟨#[]⟩, 3) else (strOfNums (EN a l), 0)) := by
 obtain ⟨k, rfl⟩ : ∃ m, k = m + 1 := ⟨k - 1, by omega⟩
 unfold tithebarnref04_With.f
 by_cases c : a < 0 ∨ 4 ≤ a
 ·rw [if_pos c]
  have : tithebarnref04_With.j0 (k + 1) l a true = some (⟨#[]⟩, 1) := by simp only [tithebarnref04_With.j0]; rw [if_pos trivial]
  by_cases c2 : a < 0
  ·rw [if_pos c2, this]
  ·rw [if_neg c2, decide_eq_true (by omega), this]
 ·rw [if_neg c, if_neg (by omega), decide_eq_false (by omega)]
  simp only [tithebarnref04_With.j0]
  rw [if_neg (by decide)]
  by_cases c2 : 65536 < l.length
  ·rw [if_pos (by omega), if_pos c2]
  ·have hl : l.length ≤ 65536 := by omega
   have h9 := encU_len (l.length : Int)
   rw [if_neg (by omega), if_neg c2, Option.bind_some, wu64 (by omega) (by omega), rUint_f (by omega) (by unfold u64; omega), Option.bind_some, if_pos (by rw [size_strOfNums, size_strOfNums]; simp; omega), str_app, Int.emod_eq_of_lt (by omega) (by omega)]
   have hEN : ∀ x, EN a x = [a] ++ encU (x.length : Int) ++ enc a x := fun x => by simp [EN]
   rw [hEN]
   unfold enc
   have hsz : ∀ x : List Int, (strOfNums ([a] ++ encU (l.length : Int))).size ≤ 100 := fun x => by rw [size_strOfNums, List.length_append]; simp; omega
   by_cases d2 : a = 2
   ·have hB := runsF_Bs l.length l hI hl
    rw [if_pos d2, if_neg (by omega), if_neg (by omega), if_pos d2, rRuns_f hI hl (by omega), Option.bind_some]
    have hrl : (runsB l).length ≤ 20 * l.length := runsF_len l.length l
    rw [if_pos (by rw [size_strOfNums (runsB l)]; have := hsz []; omega), str_app]
   ·rw [if_neg d2]
    by_cases d3 : a = 3
    ·rw [if_pos d3, if_neg (by omega), if_neg (by omega), if_neg (by omega), rPacked_f hI hl (by omega), Option.bind_some]
     have hpl := packB_len hI hl
     rw [if_pos (by rw [size_strOfNums (packB l)]; have := hsz []; omega), str_app]
    ·rw [if_neg d3]
     by_cases d1 : a = 1
     ·subst d1
      have := rWith_l0d hI hl l.length k 0 ([1] ++ encU (l.length : Int)) (by omega) (by omega) (by rw [List.length_append]; simp; omega)
      rw [if_neg (by omega), if_pos rfl]
      exact this
     ·have d0 : a = 0 := by omega
      have := rWith_l0 hI hl (c := a) d1 l.length k 0 ([a] ++ encU (l.length : Int)) (by omega) (by omega) (by rw [List.length_append]; simp; omega)
      rw [if_pos d0]
      exact this
where
 runsF_len : ∀ (f : Nat) (l : List Int), (runsF f l).length ≤ 20 * f
  | 0, _ => by simp [runsF]
  | f + 1, [] => by simp [runsF]
  | f + 1, x :: l => by
   have h1 := encU_len ((lead x l + 1 : Nat) : Int)
   have h2 := encI_len (x := x)
   have h3 := runsF_len f (l.drop (lead x l))
   rw [runsF, List.length_append, List.length_append]; omega
 packB_len {l : List Int} (hI : I64 l) (hl : l.length ≤ 65536) : (packB l).length ≤ 10000000 := by
  unfold packB
  split
  ·simp
  ·have h2 := encI_len (x := minL l)
   have hw := wd_offs hI
   have : l.length * wd (offs (minL l) l) ≤ 65536 * 64 := Nat.mul_le_mul hl hw
   rw [List.length_append, List.length_cons, ints_len, pk_len, offs_len]
   unfold need; omega
end Go.Proofs.Ytgeddoklmcjdcaa.G
namespace Go.Proofs.Ytgeddoklmcjdcaa.Pure
open Go.RowKit Go.Proofs.YtgeddoklmcjdcaaQ Go.Proofs.Ytgeddoklmcjdcaa.G Go.Proofs.YtgeddoklmcjdcaaW.PrintWords Go.Proofs.YtgeddoklmcjdcaaW.PrintLast Go.Proofs.YtgeddoklmcjdcaaW.PrintMore
theorem IntsWith_all {k : Nat} (hk : 140509300 < k) {l : List Int} (hI : I64 l) (a : Int) : tithebarnlaw04_IntsWith.f k l a = some true := by
 unfold tithebarnlaw04_IntsWith.f
 rw [lives_f (by omega), Option.bind_some, if_pos rfl, With_f hI a (by omega), Option.bind_some, rWith_f hI a hk, Option.bind_some, if_pos rfl, beq_self_eq_true]
theorem IntsWith : tithebarnlaw04_IntsWith.Pure := fun l a _ _ hwf _ => ⟨140509301, IntsWith_all (by decide) (wf_I64 hwf) a⟩
end Go.Proofs.Ytgeddoklmcjdcaa.Pure
namespace Go.Proofs.YtgeddoklmcjdcaaW.PrintWords
open Go.ChangeShapes Go.WideShapes
theorem sized_ints {H : Type} {enc : TypeId × Value → H} {P : Program} {W : World} {base : Nat} {spare : Nat → Bool} {held : Bool} {t e : TypeId} {k : IntKind} {a : Option Addr} {len cap : Nat} {d : DataW H} {ps : List MemPlace} {ts : List TypeId} {ds : List (DataW H)} {j : Nat}
  (hsz : (DataW.weightsEach P ts ds).all (· ≤ reachBytes) = true) (ht : ts[j]? = some t) (hd : ds[j]? = some d) (hu : P.underlying t = some (.slice e)) (he : P.underlying e = some (.int k)) (hc : P.cellsOf e = 1) {B : Nat} (hB : P.bytesOf e = B)
  (h : DataW.Trod enc P W base spare held t (.slice a len cap) d ps) : len * B ≤ 140737488351232 := by
 obtain ⟨fuel, hf⟩ := h
 rcases open_ints hu he hc hf with ⟨hcs, _⟩ | ⟨x, l, c, zs, hcs, _, hl, _, hz, hx, _, _⟩
 ·simp [Value.cells] at hcs
  obtain ⟨rfl, rfl, rfl⟩ := hcs
  simp
 ·simp [Value.cells] at hcs
  obtain ⟨rfl, rfl, rfl⟩ := hcs
  obtain ⟨hx, _⟩ := Prod.mk.inj hx
  subst hx
  have z := sized_slice hsz ht hd hu
  rw [hB] at z
  have hl2 : len ≤ zs.length := by
   rw [hz]
   split
   ·exact hl
   ·exact Nat.le_refl _
  have h1 : (lits (H := H) k (zs.take len)).length + (lits (H := H) k (zs.drop len)).length = zs.length := by
   simp [lits]
   omega
  rw [h1] at z
  exact Nat.le_trans (Nat.mul_le_mul_right _ hl2) z
end Go.Proofs.YtgeddoklmcjdcaaW.PrintWords
