import Derived.Test.YtgeddoklmcjdcaaZG13
import Derived.Test.YtgeddoklmcjdcaaZG14
import Derived.Test.YtgeddoklmcjdcaaZQA
namespace Go.Proofs.Ytgeddoklmcjdcaa.G
open Go.RowKit Go.Proofs.YtgeddoklmcjdcaaQ Go.Proofs.YtgeddoklmcjdcaaW.PrintWords Go.Proofs.YtgeddoklmcjdcaaW.PrintLast Go.Proofs.YtgeddoklmcjdcaaW.PrintMore
set_option linter.unusedVariables false
set_option linter.unusedSimpArgs false
def I64 (l : List Int) : Prop := ∀ x ∈ l, i64 x
theorem I64.nil : I64 [] := fun _ h => by cases h
theorem I64.cons {x : Int} {l : List Int} (hx : i64 x) (h : I64 l) : I64 (x :: l) := fun y hy => (List.mem_cons.1 hy).elim (fun e => e ▸ hx) (h y)
theorem I64.head {x : Int} {l : List Int} (h : I64 (x :: l)) : i64 x := h x List.mem_cons_self
theorem I64.tail {x : Int} {l : List Int} (h : I64 (x :: l)) : I64 l := fun y hy => h y (List.mem_cons_of_mem _ hy)
theorem I64.app {a b : List Int} (ha : I64 a) (hb : I64 b) : I64 (a ++ b) := fun y hy => (List.mem_append.1 hy).elim (ha y) (hb y)
theorem wrap_i64 (x : Int) : i64 (wrap64 x) := by unfold i64 wrap64; omega
theorem aUint_enc {x : Int} (h : u64 x) (r : List Int) : aUint (encU x ++ r) 0 = (x, r, 0) := by
 unfold aUint
 rw [if_pos rfl, decU_enc h r]
 simp
theorem aInt_enc {x : Int} (h : i64 x) (r : List Int) : aInt (encI x ++ r) 0 = (x, r, 0) := by
 unfold aInt encI
 rw [aUint_enc (fold_u64 h), unfold_fold]
theorem aUint_dec {r r' : List Int} {x : Int} (hB : Bs r) (h : aUint r 0 = (x, r', 0)) : r = encU x ++ r' ∧ u64 x := by
 unfold aUint at h
 rw [if_pos rfl] at h
 rcases hd : decU r with ⟨y, n, e⟩
 rw [hd] at h
 simp only [Prod.mk.injEq] at h
 obtain ⟨rfl, rfl, rfl⟩ := h
 obtain ⟨h1, h2, h3⟩ := decU_bytes hB hd
 exact ⟨by rw [← h3, List.take_append_drop], h2⟩
theorem aInt_dec {r r' : List Int} {x : Int} (hB : Bs r) (h : aInt r 0 = (x, r', 0)) : r = encI x ++ r' ∧ i64 x := by
 unfold aInt at h
 rcases hu : aUint r 0 with ⟨u, s⟩
 rw [hu] at h
 simp only [Prod.mk.injEq] at h
 obtain ⟨rfl, rfl⟩ := h
 obtain ⟨h1, h2⟩ := aUint_dec hB hu
 refine ⟨?_, unfold_i64 h2⟩
 unfold encI
 rw [fold_unfold h2.1]
 exact h1
def encL (l : List Int) : List Int := l.flatMap encI
def rp : Nat → List Int → Int → List Int → List Int × List Int × Int
 | 0, r, e, acc => (acc, r, e)
 | n + 1, r, e, acc => if e = 0 then rp n (aInt r e).2.1 (aInt r e).2.2 (acc ++ [(aInt r e).1]) else (acc, r, e)
theorem rp_err {e : Int} (he : e ≠ 0) (n : Nat) (r acc : List Int) : rp n r e acc = (acc, r, e) := by
 cases n with
 | zero => rfl
 | succ n => unfold rp; rw [if_neg he]
theorem rp_len : ∀ (n : Nat) (r : List Int) (e : Int) (acc : List Int), (rp n r e acc).1.length ≤ acc.length + n := by
 intro n
 induction n with
 | zero => intro r e acc; exact Nat.le_refl _
 | succ n ih =>
  intro r e acc
  unfold rp
  split
  ·have := ih (aInt r e).2.1 (aInt r e).2.2 (acc ++ [(aInt r e).1])
   simp at this; omega
  ·simp
theorem rp_enc : ∀ (l : List Int) (rest acc : List Int), I64 l → rp l.length (encL l ++ rest) 0 acc = (acc ++ l, rest, 0)
 | [], rest, acc, _ => by simp [rp, encL]
 | x :: l, rest, acc, h => by
  have e : encL (x :: l) ++ rest = encI x ++ (encL l ++ rest) := by simp [encL]
  rw [List.length_cons, rp, if_pos rfl, e, aInt_enc h.head]
  simp only
  rw [rp_enc l rest (acc ++ [x]) h.tail]
  simp
theorem rp_dec : ∀ (n : Nat) (r acc out r' : List Int), Bs r → rp n r 0 acc = (out, r', 0) → ∃ l, out = acc ++ l ∧ l.length = n ∧ I64 l ∧ r = encL l ++ r'
 | 0, r, acc, out, r', hB, h => by
  unfold rp at h
  simp only [Prod.mk.injEq] at h
  exact ⟨[], by simp [h.1], rfl, I64.nil, by simp [encL, h.2.1]⟩
 | n + 1, r, acc, out, r', hB, h => by
  unfold rp at h
  rw [if_pos rfl] at h
  rcases hi : aInt r 0 with ⟨x, r1, e1⟩
  rw [hi] at h
  simp only at h
  by_cases he : e1 = 0
  ·subst he
   obtain ⟨h1, h2⟩ := aInt_dec hB hi
   have hB1 : Bs r1 := by have := aInt_Bs hB 0; rw [hi] at this; exact this
   obtain ⟨l, h3, h4, h5, h6⟩ := rp_dec n r1 _ out r' hB1 h
   refine ⟨x :: l, by simp [h3], by simp [h4], I64.cons h2 h5, ?_⟩
   rw [h1, h6]; simp [encL]
  ·rw [rp_err he] at h
   simp only [Prod.mk.injEq] at h
   exact absurd h.2.2 he
def deltas : Int → List Int → List Int
 | _, [] => []
 | a, x :: l => wrap64 (x - a) :: deltas x l
def psum : Int → List Int → List Int
 | _, [] => []
 | a, x :: l => wrap64 (a + x) :: psum (wrap64 (a + x)) l
theorem wrap_add_sub {a x : Int} (hx : i64 x) : wrap64 (a + wrap64 (x - a)) = x := by
 obtain ⟨h0, h1⟩ := hx
 unfold wrap64; omega
theorem wrap_sub_add {a x : Int} (hx : i64 x) : wrap64 (wrap64 (a + x) - a) = x := by
 obtain ⟨h0, h1⟩ := hx
 unfold wrap64; omega
theorem psum_deltas : ∀ (l : List Int) (a : Int), I64 l → psum a (deltas a l) = l
 | [], a, _ => rfl
 | x :: l, a, h => by rw [deltas, psum, wrap_add_sub h.head, psum_deltas l x h.tail]
theorem deltas_psum : ∀ (l : List Int) (a : Int), I64 l → deltas a (psum a l) = l
 | [], a, _ => rfl
 | x :: l, a, h => by rw [psum, deltas, wrap_sub_add h.head, deltas_psum l _ h.tail]
theorem deltas_I64 : ∀ (l : List Int) (a : Int), I64 (deltas a l)
 | [], _ => I64.nil
 | x :: l, a => I64.cons (wrap_i64 _) (deltas_I64 l x)
theorem psum_I64 : ∀ (l : List Int) (a : Int), I64 (psum a l)
 | [], _ => I64.nil
 | x :: l, a => I64.cons (wrap_i64 _) (psum_I64 l _)
theorem deltas_len : ∀ (l : List Int) (a : Int), (deltas a l).length = l.length
 | [], _ => rfl
 | x :: l, a => by rw [deltas, List.length_cons, List.length_cons, deltas_len l]
theorem psum_len : ∀ (l : List Int) (a : Int), (psum a l).length = l.length
 | [], _ => rfl
 | x :: l, a => by rw [psum, List.length_cons, List.length_cons, psum_len l]
def lead (x : Int) : List Int → Nat
 | [] => 0
 | y :: l => if y = x then lead x l + 1 else 0
theorem lead_le (x : Int) : ∀ l, lead x l ≤ l.length
 | [] => Nat.le_refl _
 | y :: l => by unfold lead; split <;> simp; exact lead_le x l
theorem lead_split (x : Int) : ∀ l, l = List.replicate (lead x l) x ++ l.drop (lead x l)
 | [] => rfl
 | y :: l => by
  unfold lead
  split
  ·rename_i h
   subst h
   rw [List.replicate_succ, List.cons_append, List.drop_succ_cons, ← lead_split y l]
  ·simp
theorem lead_next (x : Int) : ∀ l : List Int, (l.drop (lead x l)).head? ≠ some x
 | [] => by simp
 | y :: l => by
  unfold lead
  split
  ·rw [List.drop_succ_cons]; exact lead_next x l
  ·rename_i h; simpa using h
theorem lead_rep (x : Int) (m : List Int) (hm : m.head? ≠ some x) : ∀ t, lead x (List.replicate t x ++ m) = t
 | 0 => by
  cases m with
  | nil => rfl
  | cons y m => simp at hm; simp [lead, hm]
 | t + 1 => by rw [List.replicate_succ, List.cons_append, lead, if_pos rfl, lead_rep x m hm t]
def runsF : Nat → List Int → List Int
 | 0, _ => []
 | f + 1, [] => []
 | f + 1, x :: l => encU ((lead x l + 1 : Nat) : Int) ++ encI x ++ runsF f (l.drop (lead x l))
def runsB (l : List Int) : List Int := runsF l.length l
theorem runsF_more : ∀ (f : Nat) (l : List Int), l.length ≤ f → runsF f l = runsF (f + 1) l
 | 0, l, h => by
  have : l = [] := List.length_eq_zero_iff.1 (by omega)
  subst this; rfl
 | f + 1, [], h => rfl
 | f + 1, x :: l, h => by
  rw [runsF, runsF, runsF_more f (l.drop (lead x l)) (by rw [List.length_drop]; simp at h; omega)]
theorem runsF_eq (l : List Int) : ∀ f, l.length ≤ f → runsF f l = runsB l := by
 intro f h
 induction f with
 | zero =>
  have : l = [] := List.length_eq_zero_iff.1 (by omega)
  subst this; rfl
 | succ f ih =>
  by_cases hl : l.length ≤ f
  ·rw [← runsF_more f l hl]; exact ih hl
  ·have : l.length = f + 1 := by omega
   unfold runsB; rw [this]
theorem runsB_cons (x : Int) (l : List Int) : runsB (x :: l) = encU ((lead x l + 1 : Nat) : Int) ++ encI x ++ runsB (l.drop (lead x l)) := by
 have h : runsB (x :: l) = runsF (l.length + 1) (x :: l) := rfl
 rw [h, runsF, runsF_eq _ l.length (by rw [List.length_drop]; omega)]
theorem runsB_rep {t : Nat} (ht : 1 ≤ t) (x : Int) (m : List Int) (hm : m.head? ≠ some x) : runsB (List.replicate t x ++ m) = encU (t : Int) ++ encI x ++ runsB m := by
 obtain ⟨t, rfl⟩ : ∃ s, t = s + 1 := ⟨t - 1, by omega⟩
 rw [List.replicate_succ, List.cons_append, runsB_cons, lead_rep x m hm t, List.drop_left' (by simp)]
def rr (n : Nat) : Nat → List Int → List Int → List Int × Int × List Int
 | 0, r, out => (out, 0, r)
 | f + 1, r, out => if out.length < n then
   if (aUint r 0).2.2 = 0 then
    if (aUint r 0).1 = 0 ∨ ((n - out.length : Nat) : Int) < (aUint r 0).1 then ([], 4, [])
    else if (aInt (aUint r 0).2.1 0).2.2 = 0 then
     if out.getLast? = some (aInt (aUint r 0).2.1 0).1 then ([], 4, [])
     else rr n f (aInt (aUint r 0).2.1 0).2.1 (out ++ List.replicate (aUint r 0).1.toNat (aInt (aUint r 0).2.1 0).1)
    else ([], (aInt (aUint r 0).2.1 0).2.2, [])
   else ([], (aUint r 0).2.2, [])
  else (out, 0, r)
theorem rr_done {n f : Nat} {r out : List Int} (h : n ≤ out.length) : rr n f r out = (out, 0, r) := by
 cases f with
 | zero => rfl
 | succ f => rw [rr, if_neg (by omega)]
theorem rr_enc (n : Nat) (hn : n ≤ 65536) (rest : List Int) : ∀ (d : Nat) (l out : List Int) (f : Nat), l.length ≤ d → out.length + l.length = n → l.length ≤ f → I64 l → (∀ x, l.head? = some x → out.getLast? ≠ some x) → rr n f (runsB l ++ rest) out = (out ++ l, 0, rest) := by
 intro d
 induction d with
 | zero =>
  intro l out f hd hl hf hI hb
  have : l = [] := List.length_eq_zero_iff.1 (by omega)
  subst this
  rw [rr_done (by simp at hl; omega)]
  simp [runsB, runsF]
 | succ d ih =>
  intro l out f hd hl hf hI hb
  cases l with
  | nil =>
   rw [rr_done (by simp at hl; omega)]
   simp [runsB, runsF]
  | cons x l =>
   simp only [List.length_cons] at hd hl hf
   obtain ⟨f, rfl⟩ : ∃ g, f = g + 1 := ⟨f - 1, by omega⟩
   have hle := lead_le x l
   have hu : u64 ((lead x l + 1 : Nat) : Int) := by unfold u64; omega
   rw [runsB_cons, rr, if_pos (by omega), List.append_assoc, List.append_assoc, aUint_enc hu]
   simp only
   rw [if_pos trivial, if_neg (by omega), aInt_enc hI.head]
   simp only
   rw [if_pos trivial, if_neg (hb x rfl)]
   have hs := lead_split x l
   have hnx := lead_next x l
   have hdl : (l.drop (lead x l)).length = l.length - lead x l := List.length_drop
   generalize hm : l.drop (lead x l) = m at *
   rw [ih m _ f (by omega) (by simp; omega) (by omega) (fun y hy => hI y (by rw [hs]; simp [hy])) ?_]
   ·rw [Int.toNat_natCast, List.replicate_succ, List.append_assoc, List.cons_append]
    rw [← hs]
   ·intro y hy he
    rw [Int.toNat_natCast, List.getLast?_append] at he
    simp [List.getLast?_replicate] at he
    exact hnx (he ▸ hy)
theorem rr_dec (n : Nat) : ∀ (f : Nat) (r out l r' : List Int), Bs r → out.length ≤ n → n ≤ out.length + f → rr n f r out = (l, 0, r') → ∃ m, l = out ++ m ∧ l.length = n ∧ I64 m ∧ r = runsB m ++ r' ∧ (∀ x, m.head? = some x → out.getLast? ≠ some x) := by
 intro f
 induction f with
 | zero =>
  intro r out l r' hB h1 h2 h
  rw [rr] at h
  simp only [Prod.mk.injEq] at h
  obtain ⟨rfl, _, rfl⟩ := h
  exact ⟨[], by simp, by omega, I64.nil, by simp [runsB, runsF], by simp⟩
 | succ f ih =>
  intro r out l r' hB h1 h2 h
  by_cases hlt : out.length < n
  ·rw [rr, if_pos hlt] at h
   rcases hu : aUint r 0 with ⟨t, r1, e1⟩
   have hB1 : Bs r1 := by have := aUint_Bs hB 0; rw [hu] at this; exact this
   rw [hu] at h
   simp only at h
   by_cases he : e1 = 0
   ·subst he
    obtain ⟨hr, hut⟩ := aUint_dec hB hu
    obtain ⟨u0, u1⟩ := hut
    rw [if_pos rfl] at h
    by_cases hc : t = 0 ∨ ((n - out.length : Nat) : Int) < t
    ·rw [if_pos hc] at h; simp at h
    ·rw [if_neg hc] at h
     rcases hi : aInt r1 0 with ⟨x, r2, e2⟩
     have hB2 : Bs r2 := by have := aInt_Bs hB1 0; rw [hi] at this; exact this
     rw [hi] at h
     simp only at h
     by_cases he2 : e2 = 0
     ·subst he2
      obtain ⟨hr1, hx⟩ := aInt_dec hB1 hi
      rw [if_pos rfl] at h
      by_cases hl : out.getLast? = some x
      ·rw [if_pos hl] at h; simp at h
      ·rw [if_neg hl] at h
       have ht1 : 1 ≤ t.toNat := by omega
       obtain ⟨m, a1, a2, a3, a4, a5⟩ := ih r2 (out ++ List.replicate t.toNat x) l r' hB2 (by simp; omega) (by simp; omega) h
       have hmx : m.head? ≠ some x := by
        intro e
        refine a5 x e ?_
        rw [List.getLast?_append]
        simp [List.getLast?_replicate]; omega
       refine ⟨List.replicate t.toNat x ++ m, by rw [a1, List.append_assoc], a2, I64.app (fun y hy => by rw [(List.mem_replicate.1 hy).2]; exact hx) a3, ?_, ?_⟩
       ·rw [runsB_rep ht1 x m hmx, Int.toNat_of_nonneg u0, hr, hr1, a4]; simp [List.append_assoc]
       ·intro y hy
        obtain ⟨s, hs⟩ : ∃ s, t.toNat = s + 1 := ⟨t.toNat - 1, by omega⟩
        rw [hs, List.replicate_succ] at hy
        simp at hy
        exact hy ▸ hl
     ·rw [if_neg he2] at h; simp at h; exact absurd h.2.1 he2
   ·rw [if_neg he] at h; simp at h; exact absurd h.2.1 he
  ·rw [rr, if_neg hlt] at h
   simp only [Prod.mk.injEq] at h
   obtain ⟨rfl, _, rfl⟩ := h
   exact ⟨[], by simp, by omega, I64.nil, by simp [runsB, runsF], by simp⟩
end Go.Proofs.Ytgeddoklmcjdcaa.G
namespace Go.Proofs.Ytgeddoklmcjdcaa.G
open Go.RowKit Go.Proofs.YtgeddoklmcjdcaaQ Go.Proofs.YtgeddoklmcjdcaaW.PrintWords Go.Proofs.YtgeddoklmcjdcaaW.PrintLast Go.Proofs.YtgeddoklmcjdcaaW.PrintMore
set_option linter.unusedVariables false
set_option linter.unusedSimpArgs false
theorem mn_le (a b : Int) : mn a b ≤ a ∧ mn a b ≤ b ∧ (mn a b = a ∨ mn a b = b) := by unfold mn; split <;> omega
theorem fold_mn : ∀ (l : List Int) (x : Int), l.foldl mn x ≤ x ∧ (∀ y ∈ l, l.foldl mn x ≤ y) ∧ (l.foldl mn x = x ∨ l.foldl mn x ∈ l)
 | [], x => ⟨Int.le_refl _, (fun _ h => by cases h), .inl rfl⟩
 | y :: l, x => by
  obtain ⟨h1, h2, h3⟩ := fold_mn l (mn x y)
  obtain ⟨m1, m2, m3⟩ := mn_le x y
  rw [List.foldl_cons]
  refine ⟨by omega, fun z hz => ?_, ?_⟩
  ·rcases List.mem_cons.1 hz with rfl | hz
   ·omega
   ·exact h2 z hz
  ·rcases h3 with h3 | h3
   ·rcases m3 with m3 | m3
    ·left; omega
    ·right; rw [h3, m3]; exact List.mem_cons_self
   ·right; exact List.mem_cons_of_mem _ h3
def minL : List Int → Int
 | [] => 0
 | x :: l => l.foldl mn x
theorem minL_le {l : List Int} {x : Int} (h : x ∈ l) : minL l ≤ x := by
 cases l with
 | nil => cases h
 | cons y l =>
  obtain ⟨h1, h2, _⟩ := fold_mn l y
  rcases List.mem_cons.1 h with rfl | h
  ·exact h1
  ·exact h2 x h
theorem minL_mem {l : List Int} (h : l ≠ []) : minL l ∈ l := by
 cases l with
 | nil => exact absurd rfl h
 | cons y l =>
  obtain ⟨_, _, h3⟩ := fold_mn l y
  rcases h3 with h3 | h3
  ·show l.foldl mn y ∈ _; rw [h3]; exact List.mem_cons_self
  ·exact List.mem_cons_of_mem _ h3
theorem minL_i64 {l : List Int} (h : l ≠ []) (hI : I64 l) : i64 (minL l) := hI _ (minL_mem h)
def offs (a : Int) (l : List Int) : List Nat := l.map fun x => (x - a).toNat
def back (a : Int) (o : List Nat) : List Int := o.map fun (x : Nat) => wrap64 (a + (x : Int))
theorem offs_len (a : Int) (l : List Int) : (offs a l).length = l.length := by simp [offs]
theorem back_len (a : Int) (o : List Nat) : (back a o).length = o.length := by simp [back]
theorem back_I64 (a : Int) (o : List Nat) : I64 (back a o) := by
 intro x hx
 obtain ⟨y, _, rfl⟩ := List.mem_map.1 hx
 exact wrap_i64 _
theorem back_offs {a : Int} {l : List Int} (hI : I64 l) (ha : ∀ x ∈ l, a ≤ x) : back a (offs a l) = l := by
 unfold back offs
 rw [List.map_map]
 refine (List.map_congr_left (fun x hx => ?_)).trans (List.map_id l)
 have h1 := ha x hx
 obtain ⟨h2, h3⟩ := hI x hx
 simp only [Function.comp, id]
 rw [Int.toNat_of_nonneg (by omega)]
 unfold wrap64; omega
theorem offs_back {a : Int} (hi : i64 a) {o : List Nat} (ho : ∀ x ∈ o, x < 2 ^ 64) (ha : ∀ x ∈ back a o, a ≤ x) : offs a (back a o) = o := by
 unfold offs
 have e : ∀ x ∈ o, ((wrap64 (a + (x : Int))) - a).toNat = x := by
  intro x hx
  have h1 := ha _ (List.mem_map.2 ⟨x, hx, rfl⟩)
  have h2 := ho x hx
  obtain ⟨i0, i1⟩ := hi
  unfold wrap64 at *; omega
 unfold back
 rw [List.map_map]
 exact (List.map_congr_left (fun x hx => e x hx)).trans (List.map_id o)
theorem offs_64 {l : List Int} (hI : I64 l) : ∀ x ∈ offs (minL l) l, x < 2 ^ 64 := by
 intro x hx
 obtain ⟨y, hy, rfl⟩ := List.mem_map.1 hx
 have h1 := minL_le hy
 obtain ⟨a0, a1⟩ := hI y hy
 have hne : l ≠ [] := by rintro rfl; cases hy
 obtain ⟨b0, b1⟩ := minL_i64 hne hI
 omega
theorem wd_offs {l : List Int} (hI : I64 l) : wd (offs (minL l) l) ≤ 64 := wd_le.2 (offs_64 hI)
def packB (l : List Int) : List Int := if l = [] then [] else encI (minL l) ++ ((wd (offs (minL l) l) : Nat) : Int) :: ints (pk (wd (offs (minL l) l)) (offs (minL l) l))
def bp (n : Nat) (r : List Int) : List Int × Int × List Int :=
 if n = 0 then ([], 0, r)
 else if (aByte (aInt r 0).2.1 (aInt r 0).2.2).2.2 ≠ 0 then ([], (aByte (aInt r 0).2.1 (aInt r 0).2.2).2.2, [])
 else if 64 < (aByte (aInt r 0).2.1 (aInt r 0).2.2).1 then ([], 4, [])
 else bq n (aInt r 0).1 (aByte (aInt r 0).2.1 (aInt r 0).2.2).1.toNat (aByte (aInt r 0).2.1 (aInt r 0).2.2).2.1
where bq (n : Nat) (a : Int) (w : Nat) (r : List Int) : List Int × Int × List Int :=
 if r.length < need (n * w) then ([], 2, [])
 else if fitE (strOfNums (r.take (need (n * w)))) (n * w) ≠ 0 then ([], fitE (strOfNums (r.take (need (n * w)))) (n * w), [])
 else if minL (back a (dig (2 ^ w) n (num (strOfNums (r.take (need (n * w))))))) = a ∧ wd (dig (2 ^ w) n (num (strOfNums (r.take (need (n * w)))))) = w then
  (back a (dig (2 ^ w) n (num (strOfNums (r.take (need (n * w)))))), 0, r.drop (need (n * w))) else ([], 4, [])
theorem aByte_cons (b : Int) (r : List Int) : aByte (b :: r) 0 = (b, r, 0) := by unfold aByte; rw [if_pos rfl]
theorem aByte_err {r : List Int} {e : Int} (he : e ≠ 0) : aByte r e = (0, r, e) := by unfold aByte; rw [if_neg he]
theorem bp_enc {l : List Int} (hI : I64 l) (hl : l.length ≤ 65536) (rest : List Int) : bp l.length (packB l ++ rest) = (l, 0, rest) := by
 by_cases h0 : l = []
 ·subst h0; simp [bp, packB]
 ·have hn : l.length ≠ 0 := fun h => h0 (List.length_eq_zero_iff.1 h)
  have hw := wd_offs hI
  have ho := offs_64 hI
  have hlt : ∀ x ∈ offs (minL l) l, x < 2 ^ wd (offs (minL l) l) := wd_le.1 (Nat.le_refl _)
  have hb := back_offs hI (fun x hx => minL_le hx)
  have hln := offs_len (minL l) l
  have hmi := minL_i64 h0 hI
  have hp : packB l = encI (minL l) ++ ((wd (offs (minL l) l) : Nat) : Int) :: ints (pk (wd (offs (minL l) l)) (offs (minL l) l)) := by unfold packB; rw [if_neg h0]
  obtain ⟨o, hoo⟩ : ∃ o, offs (minL l) l = o := ⟨_, rfl⟩
  obtain ⟨a, haa⟩ : ∃ a, minL l = a := ⟨_, rfl⟩
  rw [haa] at hoo
  rw [haa, hoo] at hw ho hlt hb hln hp
  rw [haa] at hmi
  obtain ⟨w, hww⟩ : ∃ w, wd o = w := ⟨_, rfl⟩
  rw [hww] at hw hlt hp
  have hfit := fit_pk hlt
  have hback := back_pk hlt
  rw [hln] at hfit hback
  have hpl : (ints (pk w o)).length = need (l.length * w) := by rw [ints_len, pk_len, hln]
  rw [hp, List.append_assoc, List.cons_append]
  unfold bp
  rw [if_neg hn, aInt_enc hmi]
  simp only
  rw [aByte_cons]
  simp only
  rw [if_neg (by simp), if_neg (by omega), Int.toNat_natCast]
  unfold bp.bq
  have ht : (ints (pk w o) ++ rest).take (need (l.length * w)) = ints (pk w o) := by rw [← hpl, List.take_left]
  have hd : (ints (pk w o) ++ rest).drop (need (l.length * w)) = rest := by rw [← hpl, List.drop_left]
  rw [ht, hd, if_neg (by rw [List.length_append, hpl]; omega), if_neg (by rw [hfit]; simp), hback, hb, if_pos ⟨haa, hww⟩]
theorem bp_dec {n : Nat} {r l r' : List Int} (hB : Bs r) (hn : n ≤ 65536) (h : bp n r = (l, 0, r')) : l.length = n ∧ I64 l ∧ r = packB l ++ r' := by
 unfold bp at h
 by_cases h0 : n = 0
 ·rw [if_pos h0] at h
  simp only [Prod.mk.injEq] at h
  obtain ⟨rfl, _, rfl⟩ := h
  exact ⟨h0.symm, I64.nil, by simp [packB]⟩
 ·rw [if_neg h0] at h
  rcases hi : aInt r 0 with ⟨a, r1, e1⟩
  have hB1 : Bs r1 := by have := aInt_Bs hB 0; rw [hi] at this; exact this
  rw [hi] at h
  simp only at h
  by_cases he1 : e1 = 0
  ·subst he1
   obtain ⟨hr, hia⟩ := aInt_dec hB hi
   cases r1 with
   | nil => rw [show aByte [] 0 = (0, [], 2) from rfl] at h; simp at h
   | cons b r2 =>
    obtain ⟨b0, b1⟩ := hB1.head
    have hB2 := hB1.tail
    rw [aByte_cons] at h
    simp only at h
    rw [if_neg (by simp)] at h
    by_cases hw : 64 < b
    ·rw [if_pos hw] at h; simp at h
    ·rw [if_neg hw] at h
     obtain ⟨w, rfl⟩ : ∃ w : Nat, b = (w : Int) := ⟨b.toNat, by omega⟩
     rw [Int.toNat_natCast] at h
     unfold bp.bq at h
     by_cases c1 : r2.length < need (n * w)
     ·rw [if_pos c1] at h; simp at h
     ·rw [if_neg c1] at h
      by_cases c2 : fitE (strOfNums (r2.take (need (n * w)))) (n * w) ≠ 0
      ·rw [if_pos c2] at h; simp at h; exact absurd h.2.1 c2
      ·rw [if_neg c2] at h
       by_cases c3 : minL (back a (dig (2 ^ w) n (num (strOfNums (r2.take (need (n * w))))))) = a ∧ wd (dig (2 ^ w) n (num (strOfNums (r2.take (need (n * w)))))) = w
       ·rw [if_pos c3] at h
        obtain ⟨c3, c4⟩ := c3
        simp only [Prod.mk.injEq] at h
        obtain ⟨hl, _, hr'⟩ := h
        have hBt := hB2.take (need (n * w))
        obtain ⟨f1, f2⟩ := fitE_zero.1 (Classical.not_not.1 c2)
        obtain ⟨s, hs⟩ : ∃ s, strOfNums (r2.take (need (n * w))) = s := ⟨_, rfl⟩
        rw [hs] at c3 c4 hl f1 f2
        have hsb : bytesOf s = r2.take (need (n * w)) := by rw [← hs, bytesOf_strOfNums hBt]
        have hpk : pk w (dig (2 ^ w) n (num s)) = natsOf s := by
         unfold num at f2 ⊢
         exact pk_unpk (natsOf_lt s) (by rw [natsOf_len]; exact f1) f2
        have hdl : (dig (2 ^ w) n (num s)).length = n := dig_len _ _ _
        have hdlt := dig_lt (p2 w) n (num s)
        obtain ⟨o, ho⟩ : ∃ o, dig (2 ^ w) n (num s) = o := ⟨_, rfl⟩
        rw [ho] at c3 c4 hl hpk hdl hdlt
        have hll : l.length = n := by rw [← hl, back_len, hdl]
        have hne : l ≠ [] := by rintro rfl; simp at hll; omega
        have h64 : ∀ x ∈ o, x < 2 ^ 64 := fun x hx => Nat.lt_of_lt_of_le (hdlt x hx) (Nat.pow_le_pow_right (by omega) (by omega))
        rw [hl] at c3
        have hof : offs a l = o := by rw [← hl]; exact offs_back hia h64 (fun x hx => by rw [hl] at hx; have := minL_le hx; omega)
        refine ⟨hll, by rw [← hl]; exact back_I64 _ _, ?_⟩
        unfold packB
        rw [if_neg hne, c3, hof, c4, hpk, ints_natsOf, hsb, hr, ← hr', List.append_assoc, List.cons_append, List.take_append_drop]
       ·rw [if_neg c3] at h; simp at h
  ·rw [aByte_err he1] at h
   simp only at h
   rw [if_pos he1] at h
   simp at h; exact absurd h.2.1 he1
def body (a : Int) (n : Nat) (r : List Int) : List Int × Int × List Int :=
 if a = 0 then ((rp n r 0 []).1, (rp n r 0 []).2.2, (rp n r 0 []).2.1)
 else if a = 1 then (psum 0 (rp n r 0 []).1, (rp n r 0 []).2.2, (rp n r 0 []).2.1)
 else if a = 2 then rr n n r [] else bp n r
def enc (a : Int) (l : List Int) : List Int := if a = 0 then encL l else if a = 1 then encL (deltas 0 l) else if a = 2 then runsB l else packB l
theorem body_enc (a : Int) {l : List Int} (hI : I64 l) (hl : l.length ≤ 65536) (rest : List Int) : body a l.length (enc a l ++ rest) = (l, 0, rest) := by
 unfold body enc
 by_cases c0 : a = 0
 ·rw [if_pos c0, if_pos c0, rp_enc l rest [] hI]; rfl
 ·rw [if_neg c0, if_neg c0]
  by_cases c1 : a = 1
  ·have h := rp_enc (deltas 0 l) rest [] (deltas_I64 l 0)
   rw [deltas_len] at h
   rw [if_pos c1, if_pos c1, h, List.nil_append, psum_deltas l 0 hI]
  ·rw [if_neg c1, if_neg c1]
   by_cases c2 : a = 2
   ·rw [if_pos c2, if_pos c2]
    have := rr_enc l.length hl rest l.length l [] l.length (Nat.le_refl _) (by simp) (Nat.le_refl _) hI (by simp)
    simpa using this
   ·rw [if_neg c2, if_neg c2]; exact bp_enc hI hl rest
theorem body_dec (a : Int) {n : Nat} {r l r' : List Int} (hB : Bs r) (hn : n ≤ 65536) (h : body a n r = (l, 0, r')) : l.length = n ∧ I64 l ∧ r = enc a l ++ r' := by
 unfold body at h
 unfold enc
 by_cases c0 : a = 0
 ·rw [if_pos c0] at h ⊢
  simp only [Prod.mk.injEq] at h
  obtain ⟨h1, h2, h3⟩ := h
  obtain ⟨m, h4, h5, h6, h7⟩ := rp_dec n r [] l r' hB (Prod.ext h1 (Prod.ext h3 h2))
  rw [List.nil_append] at h4
  subst h4
  exact ⟨h5, h6, h7⟩
 ·rw [if_neg c0] at h ⊢
  by_cases c1 : a = 1
  ·rw [if_pos c1] at h ⊢
   simp only [Prod.mk.injEq] at h
   obtain ⟨h1, h2, h3⟩ := h
   obtain ⟨m, h4, h5, h6, h7⟩ := rp_dec n r [] _ r' hB (Prod.ext rfl (Prod.ext h3 h2))
   rw [List.nil_append] at h4
   replace h4 : (rp n r 0 []).fst = m := h4
   rw [h4] at h1
   subst h1
   exact ⟨by rw [psum_len, h5], psum_I64 m 0, by rw [deltas_psum m 0 h6]; exact h7⟩
  ·rw [if_neg c1] at h ⊢
   by_cases c2 : a = 2
   ·rw [if_pos c2] at h ⊢
    obtain ⟨m, h1, h2, h3, h4, _⟩ := rr_dec n n r [] l r' hB (by simp) (by simp) h
    rw [List.nil_append] at h1
    subst h1
    exact ⟨h2, h3, h4⟩
   ·rw [if_neg c2] at h ⊢
    exact bp_dec hB hn h
def EN (a : Int) (l : List Int) : List Int := a :: (encU (l.length : Int) ++ enc a l)
def DR (bs : List Int) : List Int × Int :=
 if (aByte bs 0).2.2 = 0 ∧ 4 ≤ (aByte bs 0).1 then ([], 4)
 else if (aUint (aByte bs 0).2.1 (aByte bs 0).2.2).2.2 ≠ 0 then ([], (aUint (aByte bs 0).2.1 (aByte bs 0).2.2).2.2)
 else if 65536 < (aUint (aByte bs 0).2.1 (aByte bs 0).2.2).1 then ([], 3)
 else DB (body (aByte bs 0).1 (aUint (aByte bs 0).2.1 (aByte bs 0).2.2).1.toNat (aUint (aByte bs 0).2.1 (aByte bs 0).2.2).2.1)
where DB (t : List Int × Int × List Int) : List Int × Int := if t.2.1 ≠ 0 then ([], t.2.1) else if t.2.2 = [] then (t.1, 0) else ([], 5)
theorem DR_EN {a : Int} (h0 : 0 ≤ a) (h4 : a < 4) {l : List Int} (hI : I64 l) (hl : l.length ≤ 65536) : DR (EN a l) = (l, 0) := by
 have hu : u64 (l.length : Int) := by unfold u64; omega
 have hb := body_enc a hI hl []
 rw [List.append_nil] at hb
 unfold DR EN
 rw [aByte_cons]
 simp only
 rw [if_neg (by omega), aUint_enc hu]
 simp only
 rw [if_neg (by simp), if_neg (by omega), Int.toNat_natCast, hb]
 rfl
theorem EN_DR {bs l : List Int} (hB : Bs bs) (h : DR bs = (l, 0)) : ∃ a, 0 ≤ a ∧ a < 4 ∧ I64 l ∧ l.length ≤ 65536 ∧ bs = EN a l := by
 unfold DR at h
 cases bs with
 | nil => rw [show aByte [] 0 = (0, [], 2) from rfl] at h; simp [aUint] at h
 | cons a r =>
  obtain ⟨a0, a1⟩ := hB.head
  have hB1 := hB.tail
  rw [aByte_cons] at h
  simp only at h
  by_cases c : a < 4
  ·rw [if_neg (by omega)] at h
   rcases hu : aUint r 0 with ⟨n, r1, e1⟩
   rw [hu] at h
   simp only at h
   by_cases he : e1 = 0
   ·subst he
    obtain ⟨h1, h2⟩ := aUint_dec hB1 hu
    obtain ⟨n0, n1⟩ := h2
    have hB2 : Bs r1 := by have := aUint_Bs hB1 0; rw [hu] at this; exact this
    rw [if_neg (by simp)] at h
    by_cases hn : 65536 < n
    ·rw [if_pos hn] at h; simp at h
    ·rw [if_neg hn] at h
     rcases hb : body a n.toNat r1 with ⟨l', e2, r2⟩
     rw [hb] at h
     unfold DR.DB at h
     simp only at h
     by_cases he2 : e2 = 0
     ·subst he2
      rw [if_neg (by simp)] at h
      by_cases hr : r2 = []
      ·subst hr
       rw [if_pos rfl] at h
       simp only [Prod.mk.injEq] at h
       obtain ⟨rfl, _⟩ := h
       obtain ⟨k1, k2, k3⟩ := body_dec a hB2 (by omega) hb
       refine ⟨a, a0, c, k2, by omega, ?_⟩
       unfold EN
       rw [k1, Int.toNat_of_nonneg n0, h1, k3, List.append_nil]
      ·rw [if_neg hr] at h; simp at h
     ·rw [if_pos he2] at h; simp at h; exact absurd h.2 he2
   ·rw [if_pos he] at h; simp at h; exact absurd h.2 he
  ·rw [if_pos ⟨trivial, by omega⟩] at h; simp at h
end Go.Proofs.Ytgeddoklmcjdcaa.G
namespace Go.Proofs.Ytgeddoklmcjdcaa.G
open Go.RowKit Go.Proofs.YtgeddoklmcjdcaaQ Go.Proofs.YtgeddoklmcjdcaaW.PrintWords Go.Proofs.YtgeddoklmcjdcaaW.PrintLast Go.Proofs.YtgeddoklmcjdcaaW.PrintMore
set_option linter.unusedVariables false
set_option linter.unusedSimpArgs false
theorem drop_rd {l : List Int} {i : Nat} (h : i < l.length) : l.drop i = rd l (i : Int) :: l.drop (i + 1) := by
 rw [List.drop_eq_getElem_cons h]
 unfold rd
 rw [Int.toNat_natCast, List.getD_eq_getElem?_getD, List.getElem?_eq_getElem h]; rfl
theorem rd_mem {l : List Int} {i : Nat} (h : i < l.length) : rd l (i : Int) ∈ l := by
 unfold rd
 rw [Int.toNat_natCast, List.getD_eq_getElem?_getD, List.getElem?_eq_getElem h]; exact List.getElem_mem h
theorem next_i {i n : Nat} (h : i ≤ 1000000000) : wrap64 ((i : Int) + 1) = ((i + 1 : Nat) : Int) := by rw [w64 (by omega) (by omega)]; rfl
theorem encI_len {x : Int} : (encI x).length ≤ 9 := (encU_len (fold x)).2
theorem Plain_l0 {l : List Int} (hI : I64 l) (hl : l.length ≤ 65536) : ∀ (d k i : Nat) (b : List Int), i + d = l.length → d + 12 < k → b.length + 9 * d ≤ 100000000 → ints_writePlain.l0 k b l (l.length : Int) i = some (b ++ encL (l.drop i)) := by
 intro d
 induction d with
 | zero =>
  intro k i b hi hk hb
  obtain ⟨k, rfl⟩ : ∃ m, k = m + 1 := ⟨k - 1, by omega⟩
  simp only [ints_writePlain.l0]
  rw [if_neg (by omega), List.drop_eq_nil_of_le (by omega)]
  simp [encL]
 | succ d ih =>
  intro k i b hi hk hb
  obtain ⟨k, rfl⟩ : ∃ m, k = m + 1 := ⟨k - 1, by omega⟩
  have hlt : i < l.length := by omega
  have h9 := encI_len (x := rd l (i : Int))
  simp only [ints_writePlain.l0]
  rw [if_pos (by omega), if_pos (by omega), if_pos (by omega), Int_f (by omega) (by omega) (hI _ (rd_mem hlt)), Option.bind_some, next_i (n := 0) (by omega), ih k (i + 1) _ (by omega) (by omega) (by rw [List.length_append]; omega), drop_rd hlt]
  simp [encL]
theorem Plain_f {l : List Int} (hI : I64 l) (hl : l.length ≤ 65536) {k : Nat} (hk : 70000 < k) {b : List Int} (hb : b.length ≤ 100) : ints_writePlain.f k b l = some (b ++ encL l) := by
 unfold ints_writePlain.f
 exact Plain_l0 hI hl l.length k 0 b (by omega) (by omega) (by omega)
theorem Delta_l0 {l : List Int} (hI : I64 l) (hl : l.length ≤ 65536) : ∀ (d k i : Nat) (a : Int) (b : List Int), i + d = l.length → d + 12 < k → b.length + 9 * d ≤ 100000000 → ints_writeDelta.l0 k b a l (l.length : Int) i = some (b ++ encL (deltas a (l.drop i))) := by
 intro d
 induction d with
 | zero =>
  intro k i a b hi hk hb
  obtain ⟨k, rfl⟩ : ∃ m, k = m + 1 := ⟨k - 1, by omega⟩
  simp only [ints_writeDelta.l0]
  rw [if_neg (by omega), List.drop_eq_nil_of_le (by omega)]
  simp [encL, deltas]
 | succ d ih =>
  intro k i a b hi hk hb
  obtain ⟨k, rfl⟩ : ∃ m, k = m + 1 := ⟨k - 1, by omega⟩
  have hlt : i < l.length := by omega
  have h9 := encI_len (x := wrap64 (rd l (i : Int) - a))
  simp only [ints_writeDelta.l0]
  rw [if_pos (by omega), if_pos (by omega), if_pos (by omega), Int_f (by omega) (by omega) (wrap_i64 _), Option.bind_some, next_i (n := 0) (by omega), ih k (i + 1) _ _ (by omega) (by omega) (by rw [List.length_append]; omega), drop_rd hlt, deltas]
  simp [encL]
theorem Delta_f {l : List Int} (hI : I64 l) (hl : l.length ≤ 65536) {k : Nat} (hk : 70000 < k) {b : List Int} (hb : b.length ≤ 100) : ints_writeDelta.f k b l = some (b ++ encL (deltas 0 l)) := by
 unfold ints_writeDelta.f
 exact Delta_l0 hI hl l.length k 0 0 b (by omega) (by omega) (by omega)
theorem lead_at (x : Int) : ∀ (l : List Int) (j : Nat), j < lead x l → rd (x :: l) ((j + 1 : Nat) : Int) = x
 | [], j, h => by simp [lead] at h
 | y :: l, j, h => by
  unfold lead at h
  split at h
  ·rename_i hy
   cases j with
   | zero => simp [rd, hy]
   | succ j =>
    have := lead_at x l j (by omega)
    simp only [rd, Int.toNat_natCast, List.getD_eq_getElem?_getD, List.getElem?_cons_succ] at this ⊢
    exact this
  ·omega
theorem lead_end (x : Int) : ∀ (l : List Int), lead x l < l.length → rd (x :: l) ((lead x l + 1 : Nat) : Int) ≠ x
 | [], h => by simp [lead] at h
 | y :: l, h => by
  unfold lead at h ⊢
  split
  ·rename_i hy
   rw [if_pos hy] at h
   have := lead_end x l (by simp at h; omega)
   simp only [rd, Int.toNat_natCast, List.getD_eq_getElem?_getD, List.getElem?_cons_succ] at this ⊢
   exact this
  ·rename_i hy
   simpa [rd] using hy
theorem Runs_l1 {x : Int} {l : List Int} (hI : I64 (x :: l)) (hl : l.length < 65536) (b : List Int) (hb : b.length ≤ 100000000) (k0 : Nat) (hk0 : 12 < k0) (R : List Int)
  (h0 : ∀ k, k0 ≤ k → ints_writeRuns.l0 k (b ++ encU ((lead x l + 1 : Nat) : Int) ++ encI x) (l.drop (lead x l)) = some R) :
  ∀ (d k i : Nat), i + d = lead x l → d + k0 < k → ints_writeRuns.l1 k b (x :: l) ((i + 1 : Nat) : Int) = some R := by
 have hle := lead_le x l
 have hx0 : rd (x :: l) 0 = x := rfl
 have hlen : (x :: l).length = l.length + 1 := rfl
 have hu : u64 ((lead x l + 1 : Nat) : Int) := by unfold u64; omega
 have h1 : ∀ k, 12 < k → ((tally_Uint.f k b (IntKind.u64.wrap ((lead x l + 1 : Nat) : Int))).bind fun t => (tally_Int.f k t (rd (x :: l) 0)).bind fun t2 => ints_writeRuns.l0 k t2 ((x :: l).drop (((lead x l + 1 : Nat) : Int)).toNat)) = ints_writeRuns.l0 k (b ++ encU ((lead x l + 1 : Nat) : Int) ++ encI x) (l.drop (lead x l)) := by
  intro k hk
  have h9 := encU_len ((lead x l + 1 : Nat) : Int)
  rw [wu64 (by omega) (by omega), Uint_f (by omega) (by omega) hu, Option.bind_some, hx0, Int_f (by omega) (by rw [List.length_append]; omega) hI.head, Option.bind_some, Int.toNat_natCast, List.drop_succ_cons]
 intro d
 induction d with
 | zero =>
  intro k i hi hk
  obtain ⟨k, rfl⟩ : ∃ m, k = m + 1 := ⟨k - 1, by omega⟩
  obtain rfl : i = lead x l := by omega
  simp only [ints_writeRuns.l1, hlen]
  by_cases hend : lead x l < l.length
  ·have hne := lead_end x l hend
   rw [if_pos (by omega), if_pos (by omega), if_pos (by omega), hx0, if_neg hne]
   have h2 := h1 k (by omega)
   rw [hx0] at h2
   have h3 := h2.trans (h0 k (by omega))
   rw [← h3]
   congr 1; funext t; congr 1; funext t2
   rw [if_pos (by omega)]
  ·rw [if_neg (by omega)]
   have h3 := (h1 k (by omega)).trans (h0 k (by omega))
   rw [← h3]
   congr 1; funext t
   rw [if_pos (by omega)]
   congr 1; funext t2
   rw [if_pos (by omega), if_pos (by omega)]
 | succ d ih =>
  intro k i hi hk
  obtain ⟨k, rfl⟩ : ∃ m, k = m + 1 := ⟨k - 1, by omega⟩
  simp only [ints_writeRuns.l1, hlen]
  rw [if_pos (by omega), if_pos (by omega), if_pos (by omega), hx0, if_pos (lead_at x l i (by omega)), next_i (n := 0) (by omega)]
  exact ih k (i + 1) (by omega) (by omega)
theorem Runs_l0 : ∀ (d : Nat) (l : List Int) (b : List Int) (k : Nat), l.length ≤ d → d ≤ 65536 → I64 l → b.length + 20 * d ≤ 100000000 → 2 * l.length + 20 < k → ints_writeRuns.l0 k b l = some (b ++ runsB l) := by
 intro d
 induction d with
 | zero =>
  intro l b k hl hd hI hb hk
  have : l = [] := List.length_eq_zero_iff.1 (by omega)
  subst this
  obtain ⟨k, rfl⟩ : ∃ m, k = m + 1 := ⟨k - 1, by omega⟩
  simp only [ints_writeRuns.l0]
  rw [if_neg (by simp)]; simp [runsB, runsF]
 | succ d ih =>
  intro l b k hl hd hI hb hk
  obtain ⟨k, rfl⟩ : ∃ m, k = m + 1 := ⟨k - 1, by omega⟩
  cases l with
  | nil =>
   simp only [ints_writeRuns.l0]
   rw [if_neg (by simp)]; simp [runsB, runsF]
  | cons x l =>
   simp only [List.length_cons] at hl hk
   have hle := lead_le x l
   have h9 := encU_len ((lead x l + 1 : Nat) : Int)
   have h9' := encI_len (x := x)
   have hI2 : I64 (l.drop (lead x l)) := fun y hy => hI.tail y (List.mem_of_mem_drop hy)
   simp only [ints_writeRuns.l0]
   rw [if_pos (by simp)]
   refine Runs_l1 hI (by omega) b (by omega) (2 * (l.length - lead x l) + 21) (by omega) _ (fun k' hk' => ?_) (lead x l) k 0 (by omega) (by omega)
   rw [ih (l.drop (lead x l)) (b ++ encU ((lead x l + 1 : Nat) : Int) ++ encI x) k' (by rw [List.length_drop]; omega) (by omega) hI2 (by rw [List.length_append, List.length_append]; omega) (by rw [List.length_drop]; omega), runsB_cons]
   simp only [List.append_assoc]
theorem Runs_f {l : List Int} (hI : I64 l) (hl : l.length ≤ 65536) {k : Nat} (hk : 140000 < k) {b : List Int} (hb : b.length ≤ 100) : ints_writeRuns.f k b l = some (b ++ runsB l) := by
 unfold ints_writeRuns.f
 exact Runs_l0 65536 l b k hl (Nat.le_refl _) hI (by omega) (by omega)
theorem Min_l0 {l : List Int} (hl : l.length ≤ 65536) : ∀ (d k i : Nat) (m : Int), i + d = l.length → d < k → slices_Min_int64_int64.l0 k l m i = some ((l.drop i).foldl mn m) := by
 intro d
 induction d with
 | zero =>
  intro k i m hi hk
  obtain ⟨k, rfl⟩ : ∃ m, k = m + 1 := ⟨k - 1, by omega⟩
  simp only [slices_Min_int64_int64.l0]
  rw [if_neg (by omega), List.drop_eq_nil_of_le (by omega)]; rfl
 | succ d ih =>
  intro k i m hi hk
  obtain ⟨k, rfl⟩ : ∃ m, k = m + 1 := ⟨k - 1, by omega⟩
  simp only [slices_Min_int64_int64.l0]
  rw [if_pos (by omega), if_pos (by omega), next_i (n := 0) (by omega), ih k (i + 1) _ (by omega) (by omega), drop_rd (l := l) (i := i) (by omega)]; rfl
theorem Min_f {l : List Int} (h0 : l ≠ []) (hl : l.length ≤ 65536) {k : Nat} (hk : 65540 < k) : slices_Min_int64_int64.f k l = some (minL l) := by
 cases l with
 | nil => exact absurd rfl h0
 | cons x l =>
  unfold slices_Min_int64_int64.f
  simp only [List.length_cons] at hl ⊢
  rw [if_neg (by omega), if_pos (by omega)]
  have := Min_l0 (l := x :: l) (by simpa using hl) l.length k 1 (rd (x :: l) 0) (by simp; omega) (by omega)
  exact this
theorem Above_l0 {l : List Int} {a : Int} (hI : I64 l) (ha : ∀ x ∈ l, a ≤ x) (hai : i64 a) (hl : l.length ≤ 65536) : ∀ (d k i : Nat) (b : List Int), i + d = l.length → d < k → b.length ≤ i → ints_above.l0 k a b l (l.length : Int) i = some (b ++ ints (offs a (l.drop i))) := by
 intro d
 induction d with
 | zero =>
  intro k i b hi hk hb
  obtain ⟨k, rfl⟩ : ∃ m, k = m + 1 := ⟨k - 1, by omega⟩
  simp only [ints_above.l0]
  rw [if_neg (by omega), List.drop_eq_nil_of_le (by omega)]; simp [offs, ints]
 | succ d ih =>
  intro k i b hi hk hb
  obtain ⟨k, rfl⟩ : ∃ m, k = m + 1 := ⟨k - 1, by omega⟩
  have hlt : i < l.length := by omega
  have h1 := hI _ (rd_mem hlt)
  have h2 := ha _ (rd_mem hlt)
  obtain ⟨x, hx⟩ : ∃ x, rd l (i : Int) = x := ⟨_, rfl⟩
  have e : IntKind.u64.wrap (wrap64 (x - a)) = (((x - a).toNat : Nat) : Int) := by
   rw [hx] at h1 h2
   obtain ⟨a0, a1⟩ := h1; obtain ⟨b0, b1⟩ := hai
   rw [wu64_def]; unfold wrap64; omega
  simp only [ints_above.l0]
  rw [if_pos (by omega), if_pos (by omega), if_pos (by omega), if_pos (by omega), next_i (n := 0) (by omega), hx, e, ih k (i + 1) _ (by omega) (by omega) (by simp; omega), drop_rd hlt, hx]
  simp [offs, ints]
theorem Above_f {l : List Int} {a : Int} (hI : I64 l) (ha : ∀ x ∈ l, a ≤ x) (hai : i64 a) (hl : l.length ≤ 65536) {k : Nat} (hk : 65540 < k) : ints_above.f k l a = some (ints (offs a l)) := by
 unfold ints_above.f
 exact Above_l0 hI ha hai hl l.length k 0 [] (by omega) (by omega) (by simp)
theorem Packed_f {l : List Int} (hI : I64 l) (hl : l.length ≤ 65536) {k : Nat} (hk : 70000 < k) {b : List Int} (hb : b.length ≤ 100) : ints_writePacked.f k b l = some (b ++ packB l) := by
 unfold ints_writePacked.f packB
 by_cases h0 : l = []
 ·subst h0; simp
 ·have hne : ¬ (l.length : Int) = 0 := fun h => h0 (List.length_eq_zero_iff.1 (by omega))
  have hw := wd_offs hI
  have ho := offs_64 hI
  have hln := offs_len (minL l) l
  have hmi := minL_i64 h0 hI
  have h9 := encI_len (x := minL l)
  have hU : U64 (ints (offs (minL l) l)) := ints_U64 (w := 64) (by omega) ho
  have hpl := pk_len (wd (offs (minL l) l)) (offs (minL l) l)
  have hnd : need (l.length * wd (offs (minL l) l)) ≤ 65536 * 64 := by
   have : l.length * wd (offs (minL l) l) ≤ 65536 * 64 := Nat.mul_le_mul hl hw
   unfold need; omega
  rw [if_neg hne, if_neg h0, Min_f h0 hl (by omega), Option.bind_some, Above_f hI (fun x hx => minL_le hx) hmi hl (by omega), Option.bind_some,
   bits_Pack.wid (by rw [ints_len, hln]; omega) hU (by rw [ints_len, hln]; omega), Option.bind_some, unats_ints, Pack_ok (by rw [ints_len, hln]; omega) hU hw (by rw [unats_ints]; exact Nat.le_refl _), Option.bind_some, unats_ints]
  rw [hln] at hpl
  simp only
  rw [Int_f (by omega) (by omega) hmi, Option.bind_some, if_pos (by rw [List.length_append]; omega), Option.bind_some, size_ints, hpl, if_pos (by rw [List.length_append, List.length_append]; simp; omega), bytesOf_strOfNums (ints_Bs (pk_lt _ _)), Int.emod_eq_of_lt (by omega) (by omega)]
  simp [List.append_assoc]
theorem With_f {l : List Int} (hI : I64 l) (a : Int) {k : Nat} (hk : 150000 < k) : ints_With.f k l a = some (if a < 0 ∨ 4 ≤ a then (⟨#[]⟩, 1) else if 65536 < l.length then (⟨#[]⟩, 3) else (strOfNums (EN a l), 0)) := by
 unfold ints_With.f
 by_cases c : a < 0 ∨ 4 ≤ a
 ·rw [if_pos c, if_pos c]
 ·rw [if_neg c, if_neg c]
  by_cases c2 : 65536 < l.length
  ·rw [if_pos c2, if_pos c2]
  ·rw [if_neg c2, if_neg c2]
   have h9 := encU_len (l.length : Int)
   have hb : ([a] ++ encU (l.length : Int)).length ≤ 100 := by rw [List.length_append]; simp; omega
   have hl : l.length ≤ 65536 := by omega
   rw [Uint_f (by omega) (by simp) (by unfold u64; omega), Option.bind_some]
   have e : ints_With.wr k a ([a] ++ encU (l.length : Int)) l = some (EN a l) := by
    unfold ints_With.wr EN enc
    split
    ·rw [Plain_f hI hl (by omega) hb]; simp
    ·split
     ·rw [Delta_f hI hl (by omega) hb]; simp
     ·split
      ·rw [Runs_f hI hl (by omega) hb]; simp
      ·rw [Packed_f hI hl (by omega) hb]; simp
   rw [e]; rfl
end Go.Proofs.Ytgeddoklmcjdcaa.G
namespace Go.Proofs.Ytgeddoklmcjdcaa.G
open Go.RowKit Go.Proofs.YtgeddoklmcjdcaaQ Go.Proofs.YtgeddoklmcjdcaaW.PrintWords Go.Proofs.YtgeddoklmcjdcaaW.PrintLast Go.Proofs.YtgeddoklmcjdcaaW.PrintMore
set_option linter.unusedVariables false
set_option linter.unusedSimpArgs false
theorem cErr_f (s : ByteArray) (e : Int) : tally_Cursor_Err.f s e = some (e, s, e) := rfl
theorem cLeft_f (s : ByteArray) (e : Int) : tally_Cursor_Left.f s e = some ((s.size : Int), s, e) := rfl
theorem str_bytes {r : List Int} (h : Bs r) : bytesOf (strOfNums r) = r := bytesOf_strOfNums h
theorem rPlain_l0 {n : Nat} (hn : n ≤ 65536) : ∀ (d k i : Nat) (acc : List Int) (s : ByteArray) (e : Int), i + d = n → d + 1 < k → acc.length ≤ i →
    ints_readPlain.l0 k acc (n : Int) (i : Int) s e = some ((rp d (bytesOf s) e acc).1, (rp d (bytesOf s) e acc).2.2, strOfNums (rp d (bytesOf s) e acc).2.1, (rp d (bytesOf s) e acc).2.2) := by
  intro d
  induction d with
  | zero =>
    intro k i acc s e hi hk ha
    obtain ⟨k, rfl⟩ : ∃ m, k = m + 1 := ⟨k - 1, by omega⟩
    simp only [ints_readPlain.l0]
    rw [if_neg (by omega), cErr_f]
    simp only [rp, Option.bind_some, strOfNums_bytesOf]
  | succ d ih =>
    intro k i acc s e hi hk ha
    obtain ⟨k, rfl⟩ : ∃ m, k = m + 1 := ⟨k - 1, by omega⟩
    simp only [ints_readPlain.l0]
    rw [if_pos (by omega), cErr_f, Option.bind_some]
    simp only
    by_cases he : e = 0
    · have hB := aInt_Bs (Bs.bytesOf s) e
      rw [if_pos he, cInt_f, Option.bind_some, if_pos (by omega), next_i (n := 0) (by omega)]
      simp only
      rw [ih k (i + 1) _ _ _ (by omega) (by omega) (by simp; omega), str_bytes hB, rp, if_pos he]
    · rw [if_neg he, cErr_f, Option.bind_some, rp_err he]
      simp only [strOfNums_bytesOf]
theorem rPlain_f {n : Nat} (hn : n ≤ 65536) {k : Nat} (hk : 65540 < k) (s : ByteArray) (e : Int) :
    ints_readPlain.f k s e (n : Int) = some ((rp n (bytesOf s) e []).1, (rp n (bytesOf s) e []).2.2, strOfNums (rp n (bytesOf s) e []).2.1, (rp n (bytesOf s) e []).2.2) := by
  unfold ints_readPlain.f
  exact rPlain_l0 hn n k 0 [] s e (by omega) (by omega) (by simp)
def cum : List Int → List Int
  | [] => []
  | x :: l => x :: psum x l
theorem cum_psum {l : List Int} (h : I64 l) : cum l = psum 0 l := by
  cases l with
  | nil => rfl
  | cons x l =>
    have e : wrap64 (0 + x) = x := by obtain ⟨a, b⟩ := h.head; unfold wrap64; omega
    rw [cum, psum, e]
theorem rd_app (P : List Int) (y : Int) (l : List Int) : rd (P ++ y :: l) ((P.length : Nat) : Int) = y := by
  unfold rd; simp
theorem rDelta_l0 (e e' : Int) (s : ByteArray) : ∀ (rest P : List Int) (a : Int) (k : Nat), P.length + rest.length ≤ 70000 → rest.length < k →
    ints_readDelta.l0 k (P ++ a :: rest) e ((P.length + 1 : Nat) : Int) s e' = some (P ++ a :: psum a rest, e, s, e') := by
  intro rest
  induction rest with
  | nil =>
    intro P a k hl hk
    obtain ⟨k, rfl⟩ : ∃ m, k = m + 1 := ⟨k - 1, by omega⟩
    simp only [ints_readDelta.l0]
    rw [if_neg (by simp)]; rfl
  | cons y rest ih =>
    intro P a k hl hk
    simp only [List.length_cons] at hl hk
    obtain ⟨k, rfl⟩ : ∃ m, k = m + 1 := ⟨k - 1, by omega⟩
    have e1 : wrap64 (((P.length + 1 : Nat) : Int) - 1) = ((P.length : Nat) : Int) := by rw [w64 (by omega) (by omega)]; omega
    have r1 : rd (P ++ a :: y :: rest) ((P.length + 1 : Nat) : Int) = y := by
      have := rd_app (P ++ [a]) y rest
      simpa using this
    have hs : (P ++ a :: y :: rest).set (P.length + 1) (wrap64 (y + a)) = (P ++ [a]) ++ wrap64 (a + y) :: rest := by
      rw [List.set_append_right _ _ (by omega)]
      simp [Int.add_comm]
    simp only [ints_readDelta.l0]
    rw [if_pos (by simp; omega), if_pos (by omega), e1, if_pos (by omega), if_pos (by simp; omega), r1, rd_app, next_i (n := 0) (by omega), Int.toNat_natCast, hs]
    have := ih (P ++ [a]) (wrap64 (a + y)) k (by simp; omega) (by omega)
    rw [List.length_append, List.length_singleton] at this
    rw [this, psum]
    simp
theorem rDelta_f {n : Nat} (hn : n ≤ 65536) {k : Nat} (hk : 70040 < k) (s : ByteArray) (e : Int) :
    ints_readDelta.f k s e (n : Int) = some (cum (rp n (bytesOf s) e []).1, (rp n (bytesOf s) e []).2.2, strOfNums (rp n (bytesOf s) e []).2.1, (rp n (bytesOf s) e []).2.2) := by
  unfold ints_readDelta.f
  rw [rPlain_f hn (by omega), Option.bind_some]
  have hl := rp_len n (bytesOf s) e []
  generalize rp n (bytesOf s) e [] = t at *
  obtain ⟨l, r, e1⟩ := t
  simp only at hl ⊢
  cases l with
  | nil =>
    obtain ⟨k, rfl⟩ : ∃ m, k = m + 1 := ⟨k - 1, by omega⟩
    simp only [ints_readDelta.l0]
    rw [if_neg (by simp)]; rfl
  | cons x l =>
    simp only [List.length_cons, List.length_nil] at hl
    exact rDelta_l0 e1 e1 _ l [] x k (by simp; omega) (by omega)
theorem last_rd {l : List Int} (h : 0 < l.length) (x : Int) : l.getLast? = some x ↔ rd l ((l.length - 1 : Nat) : Int) = x := by
  rw [List.getLast?_eq_getElem?, rd, Int.toNat_natCast, List.getD_eq_getElem?_getD, List.getElem?_eq_getElem (by omega)]
  simp
theorem Rep_f (x : Int) {t : Int} (h0 : 0 ≤ t) (h1 : t ≤ 65536) : slices_Repeat_int64_int64.f [x] (wrap64 t) = some (List.replicate t.toNat x) := by
  rw [w64 (by omega) (by omega)]
  unfold slices_Repeat_int64_int64.f
  rw [if_pos ⟨rfl, h0, by omega⟩]; rfl
theorem rRuns_read {n : Nat} (hn : n ≤ 65536) : ∀ (f k : Nat) (s : ByteArray) (out : List Int), out.length ≤ n → n ≤ out.length + f → 2 * f + 2 < k →
    ∃ s' e', ints_readRuns.l0 k (n : Int) out s 0 = some ((rr n f (bytesOf s) out).1, (rr n f (bytesOf s) out).2.1, s', e') ∧ ((rr n f (bytesOf s) out).2.1 = 0 → s' = strOfNums (rr n f (bytesOf s) out).2.2 ∧ e' = 0) := by
  intro f
  induction f with
  | zero =>
    intro k s out h1 h2 hk
    obtain ⟨k, rfl⟩ : ∃ m, k = m + 1 := ⟨k - 1, by omega⟩
    refine ⟨s, 0, ?_, fun _ => ⟨?_, rfl⟩⟩
    · simp only [ints_readRuns.l0]
      rw [if_neg (by omega)]; rfl
    · rw [rr, strOfNums_bytesOf]
  | succ f ih =>
    intro k s out h1 h2 hk
    obtain ⟨k, rfl⟩ : ∃ m, k = m + 2 := ⟨k - 2, by omega⟩
    by_cases hlt : out.length < n
    · have hw : IntKind.u64.wrap (wrap64 ((n : Int) - (out.length : Int))) = ((n - out.length : Nat) : Int) := by rw [w64 (by omega) (by omega), wu64 (by omega) (by omega)]; omega
      have hB1 := aUint_Bs (Bs.bytesOf s) 0
      have hu64 := aUint_u64 (Bs.bytesOf s) 0
      rw [show k + 2 = (k + 1) + 1 from rfl]
      simp only [ints_readRuns.l0]
      rw [if_pos (by omega), cUint_f, Option.bind_some, rr, if_pos hlt]
      generalize aUint (bytesOf s) 0 = U at *
      obtain ⟨t, r1, e1⟩ := U
      obtain ⟨u0, u1⟩ := hu64
      simp only at hB1 u0 u1 ⊢
      rw [cErr_f, Option.bind_some, hw]
      simp only
      -- the second half, once the count is fine
      have rest : ∀ b : Bool, b = false → (e1 = 0 → ¬ (t = 0 ∨ ((n - out.length : Nat) : Int) < t)) → ∃ s' e', ints_readRuns.j1 (k + 1) (n : Int) out t b (strOfNums r1) e1 = some
          ((if e1 = 0 then if (aInt r1 0).2.2 = 0 then if out.getLast? = some (aInt r1 0).1 then ([], 4, []) else rr n f (aInt r1 0).2.1 (out ++ List.replicate t.toNat (aInt r1 0).1) else ([], (aInt r1 0).2.2, []) else ([], e1, [])).1,
           (if e1 = 0 then if (aInt r1 0).2.2 = 0 then if out.getLast? = some (aInt r1 0).1 then ([], 4, []) else rr n f (aInt r1 0).2.1 (out ++ List.replicate t.toNat (aInt r1 0).1) else ([], (aInt r1 0).2.2, []) else ([], e1, [])).2.1, s', e') ∧
          ((if e1 = 0 then if (aInt r1 0).2.2 = 0 then if out.getLast? = some (aInt r1 0).1 then ([], 4, []) else rr n f (aInt r1 0).2.1 (out ++ List.replicate t.toNat (aInt r1 0).1) else ([], (aInt r1 0).2.2, []) else ([], e1, [])).2.1 = 0 → s' = strOfNums (if e1 = 0 then if (aInt r1 0).2.2 = 0 then if out.getLast? = some (aInt r1 0).1 then ([], 4, []) else rr n f (aInt r1 0).2.1 (out ++ List.replicate t.toNat (aInt r1 0).1) else ([], (aInt r1 0).2.2, []) else ([], e1, [])).2.2 ∧ e' = 0) := by
        intro b hb ht
        subst hb
        simp only [ints_readRuns.j1]
        rw [if_neg (by decide), cInt_f, str_bytes hB1, Option.bind_some, cErr_f, Option.bind_some]
        simp only
        by_cases he : e1 = 0
        · subst he
          have htt := ht rfl
          have hB2 := aInt_Bs hB1 0
          rw [if_pos rfl]
          generalize aInt r1 0 = V at *
          obtain ⟨x, r2, e2⟩ := V
          simp only at hB2 ⊢
          by_cases he2 : e2 = 0
          · subst he2
            rw [if_pos rfl, if_pos rfl]
            have hrep := Rep_f x u0 (by omega)
            have go : ∃ s' e', ints_readRuns.l0 k (n : Int) (out ++ List.replicate t.toNat x) (strOfNums r2) 0 = some ((rr n f r2 (out ++ List.replicate t.toNat x)).1, (rr n f r2 (out ++ List.replicate t.toNat x)).2.1, s', e') ∧ ((rr n f r2 (out ++ List.replicate t.toNat x)).2.1 = 0 → s' = strOfNums (rr n f r2 (out ++ List.replicate t.toNat x)).2.2 ∧ e' = 0) := by
              have := ih k (strOfNums r2) (out ++ List.replicate t.toNat x) (by simp; omega) (by simp; omega) (by omega)
              rwa [str_bytes hB2] at this
            have hlen : out.length + (List.replicate t.toNat x).length < 17592186044416 := by simp; omega
            by_cases hp : 0 < out.length
            · have e3 : wrap64 ((out.length : Int) - 1) = ((out.length - 1 : Nat) : Int) := by rw [w64 (by omega) (by omega)]; omega
              rw [if_pos (by omega), e3, if_pos (by omega), if_pos (by omega)]
              by_cases hl : out.getLast? = some x
              · rw [if_pos hl, if_pos ((last_rd hp x).1 hl)]
                exact ⟨_, _, rfl, fun h => absurd h (by decide)⟩
              · rw [if_neg hl, if_neg (fun h => hl ((last_rd hp x).2 h)), hrep, Option.bind_some, if_pos hlen]
                exact go
            · have h0 : out = [] := List.length_eq_zero_iff.1 (by omega)
              have hl : ¬ out.getLast? = some x := by rw [h0]; simp
              rw [if_neg (by omega), if_neg hl, hrep, Option.bind_some, if_pos hlen]
              exact go
          · rw [if_neg he2, if_neg he2, cErr_f, Option.bind_some]
            exact ⟨_, _, rfl, fun h => absurd h he2⟩
        · have e4 : (aInt r1 e1).2.2 = e1 := by unfold aInt aUint; rw [if_neg he]
          rw [e4, if_neg he, if_neg he, cErr_f, Option.bind_some]
          exact ⟨_, _, rfl, fun h => absurd h he⟩
      by_cases he : e1 = 0
      · rw [if_pos he, if_pos he]
        by_cases ht : t = 0
        · rw [if_pos ht, if_pos (Or.inl ht)]
          simp only [ints_readRuns.j1]
          rw [if_pos trivial]
          exact ⟨_, _, rfl, fun h => absurd h (by decide)⟩
        · rw [if_neg ht]
          by_cases ht2 : ((n - out.length : Nat) : Int) < t
          · rw [if_pos (Or.inr ht2), decide_eq_true (by omega)]
            simp only [ints_readRuns.j1]
            rw [if_pos trivial]
            exact ⟨_, _, rfl, fun h => absurd h (by decide)⟩
          · rw [if_neg (by omega), decide_eq_false (by omega)]
            have := rest false rfl (fun _ => by omega)
            rwa [if_pos he] at this
      · rw [if_neg he, if_neg he]
        have := rest false rfl (fun h => absurd h he)
        rwa [if_neg he] at this
    · refine ⟨s, 0, ?_, fun _ => ⟨?_, rfl⟩⟩
      · rw [show k + 2 = (k + 1) + 1 from rfl]
        simp only [ints_readRuns.l0]
        rw [if_neg (by omega), rr, if_neg hlt]
      · rw [rr, if_neg hlt, strOfNums_bytesOf]
theorem iPack_l1 {n w : Nat} (hn : n ≤ 65536) (h0 : 0 < n) (a : Int) (o : List Nat) (hol : o.length = n) (ho : ∀ x ∈ o, x < 2 ^ 64) (s : ByteArray) : ∀ (d k i : Nat) (acc : List Int), i + d = n → d + 70000 < k → acc.length ≤ i → acc ++ back a (o.drop i) = back a o →
    ints_readPacked.l1 k a (w : Int) (ints o) acc (ints o) (n : Int) (i : Int) s 0 = some (if minL (back a o) = a ∧ wd o = w then (back a o, 0, s, 0) else ([], 4, s, 0)) := by
  intro d
  induction d with
  | zero =>
    intro k i acc hi hk ha hacc
    obtain ⟨k, rfl⟩ : ∃ m, k = m + 1 := ⟨k - 1, by omega⟩
    rw [List.drop_eq_nil_of_le (by omega)] at hacc
    have e : acc = back a o := by simpa [back] using hacc
    subst e
    have hne : back a o ≠ [] := by intro h; have := congrArg List.length h; rw [back_len, hol] at this; simp at this; omega
    have hU : U64 (ints o) := ints_U64 (w := 64) (by omega) ho
    simp only [ints_readPacked.l1]
    rw [if_neg (by omega), Min_f hne (by rw [back_len, hol]; omega) (by omega), Option.bind_some]
    by_cases c : minL (back a o) = a
    · rw [if_pos c, bits_Pack.wid (by rw [ints_len, hol]; omega) hU (by rw [ints_len, hol]; omega), Option.bind_some, unats_ints]
      by_cases c2 : wd o = w
      · rw [if_pos (by omega), if_pos ⟨c, c2⟩]
      · rw [if_neg (by omega), if_neg (fun h => c2 h.2)]
    · rw [if_neg c, if_neg (fun h => c h.1)]
  | succ d ih =>
    intro k i acc hi hk ha hacc
    obtain ⟨k, rfl⟩ : ∃ m, k = m + 1 := ⟨k - 1, by omega⟩
    have hil : i < o.length := by omega
    have hr : rd (ints o) (i : Int) = ((o[i] : Nat) : Int) := rd_ints hil
    have e : wrap64 (a + wrap64 ((o[i] : Nat) : Int)) = wrap64 (a + ((o[i] : Nat) : Int)) := by unfold wrap64; omega
    simp only [ints_readPacked.l1]
    rw [if_pos (by omega), if_pos (by omega), if_pos (by rw [ints_len]; omega), if_pos (by omega), hr, e, next_i (n := 0) (by omega)]
    refine ih k (i + 1) _ (by omega) (by omega) (by simp; omega) ?_
    rw [List.drop_eq_getElem_cons hil] at hacc
    rw [← hacc]
    simp only [back, List.map_cons, List.append_assoc, List.singleton_append]
theorem mod_byte {b : Int} (h0 : 0 ≤ b) (h1 : b < 256) : b % 256 = b := Int.emod_eq_of_lt h0 h1
theorem iPack_l0 {n w : Nat} (hn : n ≤ 65536) (h0 : 0 < n) (hw : w ≤ 64) (a : Int) : ∀ (d k i : Nat) (acc : List Int) (R : List Int), i + d = need (n * w) → d + 140010 < k → acc.length ≤ i → Bs R → Bs acc → R.length ≤ 140737488355328 → d ≤ R.length →
    ∃ s', ints_readPacked.l0 k (n : Int) a (w : Int) acc ((need (n * w) : Nat) : Int) (i : Int) (strOfNums R) 0 = some (
      (if fitE (strOfNums (acc ++ R.take d)) (n * w) ≠ 0 then ([], fitE (strOfNums (acc ++ R.take d)) (n * w), s', 0)
       else if minL (back a (dig (2 ^ w) n (num (strOfNums (acc ++ R.take d))))) = a ∧ wd (dig (2 ^ w) n (num (strOfNums (acc ++ R.take d)))) = w then (back a (dig (2 ^ w) n (num (strOfNums (acc ++ R.take d)))), 0, s', 0) else ([], 4, s', 0))) ∧ s' = strOfNums (R.drop d) := by
  have hnd : need (n * w) ≤ 65536 * 64 := by
    have : n * w ≤ 65536 * 64 := Nat.mul_le_mul hn hw
    unfold need; omega
  intro d
  induction d with
  | zero =>
    intro k i acc R hi hk ha hR hA hRl hd
    obtain ⟨k, rfl⟩ : ∃ m, k = m + 1 := ⟨k - 1, by omega⟩
    refine ⟨_, ?_, rfl⟩
    simp only [ints_readPacked.l0]
    rw [List.take_zero, List.append_nil, List.drop_zero, if_neg (by omega)]
    have hsz : (strOfNums acc).size ≤ 140737488355328 := by rw [size_strOfNums]; omega
    by_cases c : fitE (strOfNums acc) (n * w) = 0
    · have hdl : (dig (2 ^ w) n (num (strOfNums acc))).length = n := dig_len _ _ _
      have hlt := dig_lt (p2 w) n (num (strOfNums acc))
      rw [Unpack_ok hsz hn hw c, Option.bind_some, if_neg (show ¬ (fitE (strOfNums acc) (n * w) ≠ 0) from fun h => h c)]
      simp only [if_true]
      rw [ints_len, hdl]
      have := iPack_l1 (w := w) hn h0 a (dig (2 ^ w) n (num (strOfNums acc))) hdl (fun x hx => Nat.lt_of_lt_of_le (hlt x hx) (Nat.pow_le_pow_right (by omega) hw)) (strOfNums R) n k 0 [] (by omega) (by omega) (by simp) (by simp)
      exact this
    · rw [Unpack_bad hsz hn hw c, Option.bind_some, if_pos c]
      simp only
      rw [if_neg c]
  | succ d ih =>
    intro k i acc R hi hk ha hR hA hRl hd
    obtain ⟨k, rfl⟩ : ∃ m, k = m + 1 := ⟨k - 1, by omega⟩
    cases R with
    | nil => simp at hd
    | cons b R =>
      obtain ⟨b0, b1⟩ := hR.head
      simp only [List.length_cons] at hRl hd
      simp only [ints_readPacked.l0]
      rw [if_pos (by omega), cByte_f _ _ (by rw [size_strOfNums]; simp; omega), str_bytes hR, aByte_cons, Option.bind_some, if_pos (by omega), next_i (n := 0) (by omega)]
      simp only
      rw [mod_byte b0 b1]
      have := ih k (i + 1) (acc ++ [b]) R (by omega) (by omega) (by simp; omega) hR.tail (hA.app (Bs.cons b0 b1 Bs.nil)) (by omega) (by omega)
      rw [List.append_assoc, List.singleton_append] at this
      rw [List.take_succ_cons, List.drop_succ_cons]
      exact this
theorem rPacked_read {n : Nat} (hn : n ≤ 65536) {k : Nat} (hk : 5000000 < k) (s : ByteArray) (hs : s.size ≤ 140737488355328) :
    ∃ s' e', ints_readPacked.f k s 0 (n : Int) = some ((bp n (bytesOf s)).1, (bp n (bytesOf s)).2.1, s', e') ∧ ((bp n (bytesOf s)).2.1 = 0 → s' = strOfNums (bp n (bytesOf s)).2.2 ∧ e' = 0) := by
  unfold ints_readPacked.f bp
  by_cases h0 : n = 0
  · rw [if_pos (by omega), if_pos h0]
    exact ⟨_, _, rfl, fun _ => ⟨(strOfNums_bytesOf s).symm, rfl⟩⟩
  · rw [if_neg (by omega), if_neg h0, cInt_f, Option.bind_some]
    have hB1 := aInt_Bs (Bs.bytesOf s) 0
    have hl1 : (aInt (bytesOf s) 0).2.1.length ≤ s.size := by
      show (aUint (bytesOf s) 0).2.1.length ≤ _
      rw [← bytesOf_size]; unfold aUint; rw [if_pos rfl]; simp
    generalize aInt (bytesOf s) 0 = V at *
    obtain ⟨a, r1, e1⟩ := V
    simp only at hB1 hl1 ⊢
    rw [cByte_f _ _ (by rw [size_strOfNums]; omega), str_bytes hB1, Option.bind_some, cErr_f, Option.bind_some]
    have hB2 := aByte_Bs hB1 e1
    have hb : 0 ≤ (aByte r1 e1).1 ∧ (aByte r1 e1).1 < 256 := by
      unfold aByte
      split
      · cases r1 with
        | nil => simp
        | cons b r => exact hB1.head
      · simp
    have hl2 : (aByte r1 e1).2.1.length ≤ r1.length := by
      unfold aByte
      split
      · cases r1 <;> simp
      · simp
    generalize aByte r1 e1 = Y at *
    obtain ⟨b, r2, e2⟩ := Y
    simp only at hB2 hb hl2 ⊢
    by_cases he : e2 = 0
    · subst he
      rw [if_pos rfl, if_neg (show ¬ ((0 : Int) ≠ 0) by simp)]
      by_cases hw : 64 < b
      · rw [if_pos (by omega), if_pos hw]
        exact ⟨_, _, rfl, fun h => absurd h (by decide)⟩
      · obtain ⟨w, rfl⟩ : ∃ w : Nat, b = (w : Int) := ⟨b.toNat, by omega⟩
        have hnw : n * w ≤ 65536 * 64 := Nat.mul_le_mul hn (by omega)
        have e3 : wrap64 (Int.tdiv (wrap64 ((wrap64 ((n : Int) * (w : Int))) + 7)) 8) = ((need (n * w) : Nat) : Int) := by
          rw [← Int.natCast_mul]
          generalize n * w = m at hnw
          rw [w64 (x := (m : Int)) (by omega) (by omega), w64 (x := (m : Int) + 7) (by omega) (by omega), Int.tdiv_eq_ediv_of_nonneg (by omega), w64 (by omega) (by omega)]
          unfold need; omega
        rw [if_neg (by omega), if_neg hw, cLeft_f, Option.bind_some]
        simp only
        rw [e3, size_strOfNums, Int.toNat_natCast]
        unfold bp.bq
        by_cases c : r2.length < need (n * w)
        · rw [if_pos (by omega), if_pos c]
          exact ⟨_, _, rfl, fun h => absurd h (by decide)⟩
        · rw [if_neg (by omega), if_neg c]
          obtain ⟨s', h1, h2⟩ := iPack_l0 (w := w) hn (by omega) (by omega) a (need (n * w)) k 0 [] r2 (by omega) (by generalize n * w = m at hnw; unfold need; omega) (by simp) hB2 Bs.nil (by omega) (by omega)
          refine ⟨s', 0, h1.trans ?_, ?_⟩
          · rw [List.nil_append]
            split
            · rfl
            · split <;> rfl
          · intro h
            refine ⟨?_, rfl⟩
            rw [h2]
            split at h
            · rename_i hc; exact absurd h hc
            · rename_i hc
              rw [if_neg hc]
              split at h
              · rename_i hc2; rw [if_pos hc2]
              · exact absurd h (by decide)
    · rw [if_neg he, if_pos he, cErr_f, Option.bind_some]
      exact ⟨_, _, rfl, fun h => absurd h he⟩
theorem rBody_f {n : Nat} (hn : n ≤ 65536) {k : Nat} (hk : 5000000 < k) (s : ByteArray) (hs : s.size ≤ 140737488355328) {a : Int} (ha : 0 ≤ a) (ha4 : a < 4) :
    ∃ l s' e', ints_Read.rd k a s 0 (n : Int) = some (l, (body a n (bytesOf s)).2.1, s', e') ∧ ((body a n (bytesOf s)).2.1 = 0 → l = (body a n (bytesOf s)).1 ∧ s' = strOfNums (body a n (bytesOf s)).2.2 ∧ e' = 0) := by
  unfold ints_Read.rd body
  by_cases c0 : a = 0
  · rw [if_pos c0, if_pos c0, rPlain_f hn (by omega)]
    exact ⟨_, _, _, rfl, fun h => ⟨rfl, rfl, h⟩⟩
  · rw [if_neg c0, if_neg c0]
    by_cases c1 : a = 1
    · rw [if_pos c1, if_pos c1, rDelta_f hn (by omega)]
      refine ⟨_, _, _, rfl, fun h => ⟨?_, rfl, h⟩⟩
      simp only at h
      obtain ⟨m, h4, h5, h6, h7⟩ := rp_dec n (bytesOf s) [] _ _ (Bs.bytesOf s) (Prod.ext rfl (Prod.ext rfl h))
      replace h4 : (rp n (bytesOf s) 0 []).fst = m := h4
      show cum (rp n (bytesOf s) 0 []).fst = psum 0 (rp n (bytesOf s) 0 []).fst
      rw [h4]; exact cum_psum h6
    · rw [if_neg c1, if_neg c1]
      by_cases c2 : a = 2
      · rw [if_pos c2, if_pos c2]
        unfold ints_readRuns.f
        obtain ⟨s', e', h1, h2⟩ := rRuns_read hn n k s [] (by simp) (by simp) (by omega)
        exact ⟨_, s', e', h1, fun h => ⟨rfl, h2 h⟩⟩
      · rw [if_neg c2, if_neg c2]
        obtain ⟨s', e', h1, h2⟩ := rPacked_read hn (k := k) (by omega) s hs
        exact ⟨_, s', e', h1, fun h => ⟨rfl, h2 h⟩⟩
theorem IRead_f (s : ByteArray) (hs : s.size ≤ 140737488355328) {k : Nat} (hk : 5000000 < k) : ints_Read.f k s = some (DR (bytesOf s)) := by
  unfold ints_Read.f DR
  rw [show tally_From.f s = some (s, 0) from rfl, Option.bind_some]
  simp only
  rw [cByte_f _ _ (by omega), Option.bind_some]
  have hB1 := aByte_Bs (Bs.bytesOf s) 0
  have hb : 0 ≤ (aByte (bytesOf s) 0).1 ∧ (aByte (bytesOf s) 0).1 < 256 := by
    have hh := Bs.bytesOf s
    unfold aByte
    rw [if_pos rfl]
    generalize bytesOf s = r at *
    cases r with
    | nil => simp
    | cons b r => exact hh.head
  have hl1 : (aByte (bytesOf s) 0).2.1.length ≤ s.size := by
    rw [← bytesOf_size]; unfold aByte; rw [if_pos rfl]
    generalize bytesOf s = r
    cases r <;> simp
  generalize aByte (bytesOf s) 0 = Y at *
  obtain ⟨a, r1, e1⟩ := Y
  simp only at hB1 hb hl1 ⊢
  by_cases c : e1 = 0 ∧ 4 ≤ a
  · rw [if_pos c, if_pos c]
  · rw [if_neg c, if_neg c]
    unfold ints_Read.go
    rw [cUint_f, str_bytes hB1, Option.bind_some]
    have hB2 := aUint_Bs hB1 e1
    have hu := aUint_u64 hB1 e1
    have hl2 : (aUint r1 e1).2.1.length ≤ r1.length := by unfold aUint; split <;> simp
    have he12 : (aUint r1 e1).2.2 = 0 → e1 = 0 := by unfold aUint; split <;> intro h <;> assumption
    generalize aUint r1 e1 = U at *
    obtain ⟨t, r2, e2⟩ := U
    obtain ⟨u0, u1⟩ := hu
    simp only at hB2 u0 u1 hl2 he12 ⊢
    by_cases he : e2 = 0
    · have he1 := he12 he
      subst he he1
      have z0 : ¬ ((0 : Int) ≠ 0) := fun h => h rfl
      rw [if_neg z0, if_neg z0]
      by_cases hn : 65536 < t
      · rw [if_pos hn, if_pos hn]
      · rw [if_neg hn, if_neg hn, if_pos ⟨rfl, hb.1, u0⟩]
        obtain ⟨n, rfl⟩ : ∃ n : Nat, t = (n : Int) := ⟨t.toNat, by omega⟩
        rw [Int.toNat_natCast]
        obtain ⟨l, s', e', h1, h2⟩ := rBody_f (n := n) (by omega) hk (strOfNums r2) (by rw [size_strOfNums]; omega) hb.1 (by omega)
        rw [str_bytes hB2] at h1 h2
        rw [h1, Option.bind_some]
        have hBr : (body a n r2).2.1 = 0 → Bs (body a n r2).2.2 := by
          intro h
          obtain ⟨_, _, h3⟩ := body_dec a hB2 (by omega) (l := (body a n r2).1) (r' := (body a n r2).2.2) (Prod.ext rfl (Prod.ext h rfl))
          have := hB2; rw [h3] at this; exact this.of_app_right
        generalize body a n r2 = t at *
        obtain ⟨l', e3, r3⟩ := t
        unfold ints_Read.fin DR.DB
        simp only at h2 hBr ⊢
        by_cases he3 : e3 = 0
        · subst he3
          obtain ⟨rfl, rfl, rfl⟩ := h2 rfl
          rw [if_pos rfl, if_neg (by simp), cDone_f, str_bytes (hBr rfl), Option.bind_some]
          unfold aDone
          rw [if_pos rfl]
          by_cases hr : r3 = []
          · rw [if_pos hr, if_pos hr]; rfl
          · rw [if_neg hr, if_neg hr]; rfl
        · rw [if_neg he3, if_pos he3]
    · rw [if_pos he, if_pos he]
end Go.Proofs.Ytgeddoklmcjdcaa.G
namespace Go.Proofs.Ytgeddoklmcjdcaa.G
open Go.RowKit Go.Proofs.YtgeddoklmcjdcaaQ Go.Proofs.YtgeddoklmcjdcaaW.PrintWords Go.Proofs.YtgeddoklmcjdcaaW.PrintLast Go.Proofs.YtgeddoklmcjdcaaW.PrintMore
attribute [local go_sem] max2_int min2_int max_two min_two max_three min_three max_four min_four   -- for this text's walks alone
set_option linter.unusedVariables false
set_option linter.unusedSimpArgs false
def tithebarnref04_Same.l0 : Nat → List Int → List Int → Int → Option (Bool)
 | 0, _, _, _ => none
 | k + 1, x0, x1, x5 => if x5 < (x0.length : Int) then (if 0 ≤ x5 then (if x5 < (x1.length : Int) then (if (rd x0 x5) = (rd x1 x5) then (tithebarnref04_Same.l0 k x0 x1 (wrap64 (x5 + 1))) else (some false)) else (none)) else (none)) else (some true)
def tithebarnref04_Same.f (k : Nat) (l0 : List Int) (l1 : List Int) : Option (Bool) := if (l0.length : Int) = (l1.length : Int) then (tithebarnref04_Same.l0 k l0 l1 0) else (some false)
end Go.Proofs.Ytgeddoklmcjdcaa.G
namespace Go.Proofs.Ytgeddoklmcjdcaa.G
open Go.RowKit Go.Proofs.YtgeddoklmcjdcaaQ Go.Proofs.YtgeddoklmcjdcaaW.PrintWords Go.Proofs.YtgeddoklmcjdcaaW.PrintLast Go.Proofs.YtgeddoklmcjdcaaW.PrintMore
attribute [local go_sem] max2_int min2_int max_two min_two max_three min_three max_four min_four   -- for this text's walks alone
set_option linter.unusedVariables false
set_option linter.unusedSimpArgs false
def ints_Best.rest (k : Nat) (l0 : List Int) : Nat → Nat → ByteArray → Option ByteArray
 | 0, _, b => some b
 | n + 1, i, b => (ints_With.f k l0 (i : Int)).bind fun t => ints_Best.rest k l0 n (i + 1) (if t.1.size < b.size then t.1 else b)
def ints_Best.f (k : Nat) (l0 : List Int) : Option (ByteArray × Int) := (ints_With.f k l0 0).bind fun t => if t.2 = 0 then (ints_Best.rest k l0 3 1 t.1).bind fun r => some (r, 0) else some (t.1, t.2)
end Go.Proofs.Ytgeddoklmcjdcaa.G
namespace Go.Proofs.Ytgeddoklmcjdcaa.G
open Go.RowKit Go.Proofs.YtgeddoklmcjdcaaQ Go.Proofs.YtgeddoklmcjdcaaW.PrintWords Go.Proofs.YtgeddoklmcjdcaaW.PrintLast Go.Proofs.YtgeddoklmcjdcaaW.PrintMore
set_option linter.unusedVariables false
set_option linter.unusedSimpArgs false
theorem sevens_I : I64 [7, 7, 7] := fun x hx => by simp at hx; subst hx; unfold i64; omega
theorem sevens_EN : EN 2 [7, 7, 7] = [2, 3, 3, 14] := by decide
theorem lives_f {k : Nat} (hk : 5000000 < k) : tithebarnlaw04_lives.f k = some true := by
 unfold tithebarnlaw04_lives.f
 have hb : bytesOf (⟨#[2, 3, 3, 14]⟩ : ByteArray) = EN 2 [7, 7, 7] := by rw [sevens_EN]; rfl
 have hw : ints_With.f k [7, 7, 7] 2 = some (strOfNums (EN 2 [7, 7, 7]), 0) := by rw [With_f sevens_I 2 (by omega), if_neg (by decide), if_neg (by decide)]
 rw [hw, Option.bind_some, IRead_f _ (by decide) hk, Option.bind_some, hb, DR_EN (by decide) (by decide) sevens_I (by decide)]
 simp only
 rw [if_pos trivial, sevens_EN, if_pos (by rw [ByteArray.toList_eq]; rfl), if_pos trivial, if_pos (by decide), if_pos (by decide)]
 rfl
theorem DR_err {bs : List Int} (h : (DR bs).2 ≠ 0) : (DR bs).1 = [] := by
 unfold DR at h ⊢
 split
 ·rfl
 ·split
  ·rfl
  ·split
   ·rfl
   ·rename_i h1 h2 h3
    rw [if_neg h1, if_neg h2, if_neg h3] at h
    unfold DR.DB at h ⊢
    split
    ·rfl
    ·rename_i h4
     rw [if_neg h4] at h
     split
     ·rename_i h5; rw [if_pos h5] at h; exact absurd rfl h
     ·rfl
def wk (l : List Int) (i : Int) : ByteArray := strOfNums (EN i l)
theorem With_ok {l : List Int} (hI : I64 l) (hl : l.length ≤ 65536) {a : Int} (h0 : 0 ≤ a) (h4 : a < 4) {k : Nat} (hk : 150000 < k) : ints_With.f k l a = some (wk l a, 0) := by
 rw [With_f hI a hk, if_neg (by omega), if_neg (by omega)]; rfl
end Go.Proofs.Ytgeddoklmcjdcaa.G
namespace Go.Proofs.Ytgeddoklmcjdcaa.Pure
open Go.RowKit Go.Proofs.YtgeddoklmcjdcaaQ Go.Proofs.Ytgeddoklmcjdcaa.G Go.Proofs.YtgeddoklmcjdcaaW.PrintWords Go.Proofs.YtgeddoklmcjdcaaW.PrintLast Go.Proofs.YtgeddoklmcjdcaaW.PrintMore
theorem IntsOnly_all {k : Nat} (hk : 10000100 < k) (s : ByteArray) (hs : s.size ≤ 140737488355328) : tithebarnlaw04_IntsOnly.f k s = some true := by
 unfold tithebarnlaw04_IntsOnly.f
 rw [lives_f (by omega), Option.bind_some, if_pos rfl, IRead_f s hs (by omega), Option.bind_some]
 by_cases h : (DR (bytesOf s)).2 = 0
 ·obtain ⟨a, h0, h4, hI, hl, hb⟩ := EN_DR (Bs.bytesOf s) (Prod.ext rfl h : DR (bytesOf s) = ((DR (bytesOf s)).1, 0))
  generalize (DR (bytesOf s)).1 = l at *
  have hsz : 0 < s.size := by rw [size_eq, hb]; simp [EN]
  have hbt : bt s 0 = a := by rw [bt_rd, hb]; rfl
  rw [if_pos h, if_pos (by omega), hbt, w64 (by omega) (by omega), With_ok hI hl h0 h4 (by omega), Option.bind_some]
  unfold wk
  simp only
  rw [if_pos trivial, ← hb, strOfNums_bytesOf, beq_self_eq_true]
 ·rw [if_neg h, DR_err h]; rfl
theorem IntsOnly : tithebarnlaw04_IntsOnly.Pure := fun s hs => ⟨10000101, IntsOnly_all (by decide) s (by omega)⟩
end Go.Proofs.Ytgeddoklmcjdcaa.Pure
