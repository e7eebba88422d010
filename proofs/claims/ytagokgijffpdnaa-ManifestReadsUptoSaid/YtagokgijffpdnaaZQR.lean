import Derived.WalkKit
import Derived.ProofKit
import Derived.OpenShut
import Derived.JoinedCond
import Derived.ShutString
import Derived.ChangeOld
import Derived.Below
import Derived.SizedLaws
import Derived.Lib.SmallJoins
import Derived.Test.YtagokgijffpdnaaRows
import Derived.Test.YtagokgijffpdnaaZWWords
import Derived.Test.YtagokgijffpdnaaZG19
import Derived.Test.YtagokgijffpdnaaZG3
import Derived.Test.YtagokgijffpdnaaZQ2
namespace Go.Proofs.YtagokgijffpdnaaQ
open Go.RowKit Go.Proofs.YtagokgijffpdnaaW.PrintWords Go.Proofs.Ytagokgijffpdnaa
open Go.ChangeShapes Go.WideShapes Go.ChangeAt Go.RowKit
set_option linter.unusedVariables false
set_option linter.unusedSimpArgs false
theorem bulk_pos {H : Type} (d : DataW H) : 1 ≤ Rows.uptoBulk d := by
 cases d with
 | lit l => cases l <;> simp [Rows.uptoBulk]
 | nil => simp [Rows.uptoBulk]
 | ptr d => simp [Rows.uptoBulk]
 | slice elems spare => simp [Rows.uptoBulk]
 | agg parts => simp [Rows.uptoBulk]
 | iface t d => simp [Rows.uptoBulk]
 | map entries => simp [Rows.uptoBulk]
 | held h => simp [Rows.uptoBulk]
theorem bulk_bound {H : Type} {l : List (DataW H)} (hk : Rows.uptoSmall H l = true) : Rows.uptoBulkAll l ≤ 1048576 := of_decide_eq_true hk
def Rdg {α : Type} (P : Program) (t : TypeId) (d : Kd α) (Ok : α → Prop) (B : α → Nat) : Prop :=
 ∀ {H : Type} {enc : TypeId × Value → H} {w : World} {base : Nat} {spare : Nat → Bool} {held : Bool} {fuel : Nat} {cs : List Value} {dat : DataW H} {ps : List MemPlace},
  DataW.trod enc P w base spare held fuel t cs = some (dat, ps) → ∃ x, d.K w x cs ∧ Ok x ∧ B x ≤ Rows.uptoBulk dat
theorem Rdg.int {P : Program} {t : TypeId} {k : IntKind} (ht : P.underlying t = some (.int k)) : Rdg P t (Kd.int k) (fun x => (Lit.int k x).wf = true) (fun _ => 1) := by
 intro H enc w base spare held fuel cs dat ps h
 obtain ⟨n, rfl, _, hw⟩ := DataW.trod_int ht h
 exact ⟨n, rfl, hw, bulk_pos _⟩
theorem Rdg.bool {P : Program} {t : TypeId} (ht : P.underlying t = some .bool) : Rdg P t Kd.bool (fun _ => True) (fun _ => 1) := by
 intro H enc w base spare held fuel cs dat ps h
 obtain ⟨b, rfl, _⟩ := DataW.trod_bool ht h
 exact ⟨b, rfl, trivial, bulk_pos _⟩
theorem Rdg.string {P : Program} {t : TypeId} (ht : P.underlying t = some .string) : Rdg P t Kd.string (fun s => s.size ≤ maxLen) (fun s => s.size + 1) := by
 intro H enc w base spare held fuel cs dat ps h
 obtain ⟨s, rfl, e, hw⟩ := DataW.trod_string ht h
 simp only [Prod.mk.injEq] at e
 obtain ⟨rfl, _⟩ := e
 refine ⟨s, rfl, hw, ?_⟩
 unfold Rows.uptoBulk
 rw [Array.length_toList]
 exact Nat.le_refl _
theorem list_of {α : Type} (n : Nat) (Q : Nat → α → Prop) (h : ∀ i, i < n → ∃ x, Q i x) : ∃ xs : List α, xs.length = n ∧ ∀ i x, xs[i]? = some x → Q i x := by
 induction n with
 | zero => exact ⟨[], rfl, fun i x hx => by simp at hx⟩
 | succ n ih =>
  obtain ⟨xs, hl, hq⟩ := ih (fun i hi => h i (by omega))
  obtain ⟨x, hx⟩ := h n (by omega)
  refine ⟨xs ++ [x], by simp [hl], fun i y hy => ?_⟩
  rcases Nat.lt_or_ge i n with hi | hi
  ·exact hq i y (by rwa [List.getElem?_append_left (by omega)] at hy)
  ·have hi' : i = n := by
    have := (List.getElem?_eq_some_iff.1 hy).1
    simp at this; omega
   subst hi'
   rw [List.getElem?_append_right (by omega), hl, Nat.sub_self] at hy
   simp at hy
   subst hy
   exact hx
theorem sum_le {α H : Type} (xs : List α) (ys : List (DataW H)) (B : α → Nat) (hl : xs.length = ys.length) (h : ∀ (i : Nat) (x : α) (y : DataW H), xs[i]? = some x → ys[i]? = some y → B x ≤ Rows.uptoBulk y) : (xs.map B).sum ≤ Rows.uptoBulkAll ys := by
 induction xs generalizing ys with
 | nil => simp
 | cons x xs ih =>
  cases ys with
  | nil => simp at hl
  | cons y ys =>
   have h0 := h 0 x y rfl rfl
   have h1 := ih ys (by simpa using hl) (fun i a b ha hb => h (i + 1) a b ha hb)
   simp only [List.map_cons, List.sum_cons, Rows.uptoBulkAll]
   omega
theorem Rdg.slice {α : Type} {P : Program} {t e : TypeId} {d : Kd α} {Ok : α → Prop} {B : α → Nat} (ht : P.underlying t = some (.slice e)) (hsz : P.cellsOf e = d.sz) (hd : Rdg P e d Ok B) :
  Rdg P t (Kd.slice e d) (fun xs => xs.length ≤ maxLen ∧ ∀ x ∈ xs, Ok x) (fun xs => (xs.map B).sum + 1) := by
 intro H enc w base spare held fuel cs dat ps h
 rcases DataW.trod_slice ht h with ⟨rfl, he0⟩ | ⟨a, len, cap, elems, rest, n, rfl, rfl, he0, hb, hl, hm, hel, hat, _⟩
 ·refine ⟨[], ⟨none, 0, rfl, by simp, rfl, by simp, fun h0 => absurd h0 (by simp)⟩, ⟨by simp, by simp⟩, ?_⟩
  simp only [List.map_nil, List.sum_nil]
  exact bulk_pos _
 ·obtain ⟨xs, hxl, hx⟩ := list_of len (fun i x => ∃ c y, w.cells? base (a.add (i * P.cellsOf e)) (P.cellsOf e) = some c ∧ elems[i]? = some y ∧ d.K w x c ∧ Ok x ∧ B x ≤ Rows.uptoBulk y.1) (fun i hi => by
   have h1 := hat i hi
   obtain ⟨y, hy⟩ : ∃ y, elems[i]? = some y := ⟨elems[i], List.getElem?_eq_getElem (by omega)⟩
   rw [hy] at h1
   obtain ⟨c, hc, hc2⟩ := Option.bind_eq_some_iff.1 h1
   obtain ⟨x, k1, k2, k3⟩ := hd (dat := y.1) (ps := y.2) hc2
   exact ⟨x, c, y, hc, hy, k1, k2, k3⟩)
  have hm' : xs.length ≤ maxLen := by omega
  refine ⟨xs, ⟨some a, cap, by rw [hxl], by omega, rfl, by simp only [maxLen] at hm'; omega, fun _ => ⟨a, rfl, fun j p hj => ?_⟩⟩, ⟨hm', fun x hxm => ?_⟩, ?_⟩
  ·obtain ⟨c, y, hc, _, hk, _⟩ := hx j p hj
   refine ⟨c, d.K_len hk, hk, fun i u hu => ?_⟩
   obtain ⟨_, hcl, hcc⟩ := World.cells?_some hc
   have hi : i < c.length := (List.getElem?_eq_some_iff.1 hu).1
   have := hcc i (by omega)
   rw [hu] at this
   rw [← hsz]
   rw [Addr.add_add] at this
   exact this
  ·obtain ⟨i, hi, rfl⟩ := List.getElem_of_mem hxm
   obtain ⟨_, _, _, _, _, hok, _⟩ := hx i _ (List.getElem?_eq_getElem hi)
   exact hok
  ·simp only [Prod.mk.injEq] at he0
   obtain ⟨rfl, _⟩ := he0
   have := sum_le xs (elems.map (·.1)) B (by simp; omega) (fun i x y hxi hyi => by
    obtain ⟨_, z, _, hz, _, _, hb⟩ := hx i x hxi
    rw [List.getElem?_map, hz] at hyi
    simp at hyi
    subst hyi
    exact hb)
   simp only [Rows.uptoBulk]
   omega
def RdgF {α : Type} (P : Program) (off : Nat) (fs : List Field) (d : Kd α) (Ok : α → Prop) (B : α → Nat) : Prop :=
 ∀ {H : Type} {enc : TypeId × Value → H} {w : World} {base : Nat} {spare : Nat → Bool} {held : Bool} {fuel : Nat} {cs : List Value} (xs : List (DataW H × List MemPlace)),
  cs.length = off + d.sz → xs.length = fs.length → (∀ (i : Nat) (f : Field), fs[i]? = some f → DataW.trod enc P w base spare held fuel f.type ((cs.drop f.offset).take (P.cellsOf f.type)) = xs[i]?) →
  ∃ x, d.K w x (cs.drop off) ∧ Ok x ∧ B x ≤ Rows.uptoBulkAll (xs.map (·.1))
theorem RdgF.one {α : Type} {P : Program} {off : Nat} {f : Field} {d : Kd α} {Ok : α → Prop} {B : α → Nat} (ho : f.offset = off) (hs : P.cellsOf f.type = d.sz) (hd : Rdg P f.type d Ok B) : RdgF P off [f] d Ok B := by
 intro H enc w base spare held fuel cs xs hl hx h
 match xs, hx with
 | [y], _ =>
  have h0 := h 0 f rfl
  rw [ho, hs] at h0
  have e : (cs.drop off).take d.sz = cs.drop off := List.take_of_length_le (by simp; omega)
  rw [e] at h0
  obtain ⟨x, k1, k2, k3⟩ := hd (dat := y.1) (ps := y.2) h0
  exact ⟨x, k1, k2, by simpa [Rows.uptoBulkAll] using k3⟩
theorem RdgF.cons {α β : Type} {P : Program} {off : Nat} {f : Field} {fs : List Field} {a : Kd α} {b : Kd β} {OkA : α → Prop} {OkB : β → Prop} {BA : α → Nat} {BB : β → Nat}
  (ho : f.offset = off) (hs : P.cellsOf f.type = a.sz) (ha : Rdg P f.type a OkA BA) (hb : RdgF P (off + a.sz) fs b OkB BB) : RdgF P off (f :: fs) (Kd.pair a b) (fun x => OkA x.1 ∧ OkB x.2) (fun x => BA x.1 + BB x.2) := by
 intro H enc w base spare held fuel cs xs hl hx h
 match xs, hx with
 | y :: ys, hx =>
  have hl' : cs.length = off + (a.sz + b.sz) := hl
  have h0 := h 0 f rfl
  rw [ho, hs] at h0
  obtain ⟨x, k1, k2, k3⟩ := ha (dat := y.1) (ps := y.2) h0
  obtain ⟨z, m1, m2, m3⟩ := hb (cs := cs) ys (by omega) (by simpa using hx) (fun i f' hf => by simpa using h (i + 1) f' (by simpa using hf))
  refine ⟨(x, z), ⟨(cs.drop off).take a.sz, cs.drop (off + a.sz), ?_, k1, m1⟩, ⟨k2, m2⟩, ?_⟩
  ·rw [← List.drop_drop, List.take_append_drop]
  ·simp only [List.map_cons, Rows.uptoBulkAll]; omega
theorem Rdg.struct {α : Type} {P : Program} {t : TypeId} {fs : Array Field} {d : Kd α} {Ok : α → Prop} {B : α → Nat} (ht : P.underlying t = some (.struct fs)) (hs : P.cellsOf t = d.sz) (hf : RdgF P 0 fs.toList d Ok B) : Rdg P t d Ok B := by
 intro H enc w base spare held fuel cs dat ps h
 obtain ⟨xs, n, rfl, e, hl, hlen, hx⟩ := DataW.trod_struct ht h
 obtain ⟨x, k1, k2, k3⟩ := hf (cs := cs) xs (by omega) (by simpa using hlen) (fun i f hf => hx i f (by simpa using hf))
 simp only [Prod.mk.injEq] at e
 obtain ⟨rfl, _⟩ := e
 refine ⟨x, by simpa using k1, k2, ?_⟩
 simp only [Rows.uptoBulk]
 omega
theorem Rdg.iso {α β : Type} {P : Program} {t : TypeId} {d : Kd α} {Ok : α → Prop} {B : α → Nat} {f : β → α} (g : α → β) (hg : ∀ x, f (g x) = x) (hd : Rdg P t d Ok B) : Rdg P t (Kd.iso d f) (fun y => Ok (f y)) (fun y => B (f y)) := by
 intro H enc w base spare held fuel cs dat ps h
 obtain ⟨x, k1, k2, k3⟩ := hd h
 refine ⟨g x, ?_, by show Ok (f (g x)); rw [hg]; exact k2, by show B (f (g x)) ≤ _; rw [hg]; exact k3⟩
 show d.K w (f (g x)) cs
 rw [hg]; exact k1
end Go.Proofs.YtagokgijffpdnaaQ
namespace Go.Proofs.Ytagokgijffpdnaa.G
open Go.RowKit Go.Proofs.YtagokgijffpdnaaQ Go.Proofs.YtagokgijffpdnaaW.PrintWords Go.Proofs.YtagokgijffpdnaaW.PrintLast Go.Proofs.YtagokgijffpdnaaW.PrintMore
set_option linter.unusedVariables false
set_option linter.unusedSimpArgs false
abbrev SV := S34
abbrev SP := S36
structure Inv (s : List SP) (sf sn : Int) (n : Nat) : Prop where
 wf : wfP s = true
 nd : (idsOf s).Nodup
 lt : ∀ x ∈ idsOf s, x < sn
 len : s.length ≤ n
theorem Inv.nil (n : Nat) : Inv [] 0 0 n := ⟨rfl, List.nodup_nil, fun x hx => by simp [idsOf] at hx, Nat.zero_le _⟩
theorem addB_spec : ∀ (a : List SP) (ids : List Int) (nx : Int), addB nx ids a = true → ids.Nodup → (∀ x ∈ ids, x < nx) → (ids ++ idsOf a).Nodup ∧ ∀ x ∈ ids ++ idsOf a, x < nx
 | [], ids, nx, _, hn, hl => by simpa [idsOf] using ⟨hn, hl⟩
 | p :: a, ids, nx, h, hn, hl => by
  unfold addB at h
  simp only [Bool.and_eq_true, Bool.not_eq_true', decide_eq_false_iff_not] at h
  obtain ⟨h1, h2, h3⟩ := h
  have h2' : ¬ p.f0 ∈ ids := by simpa using h2
  have hl' : ∀ x ∈ ids ++ [p.f0], x < nx := fun x hx => by
   rcases List.mem_append.mp hx with h | h
   ·exact hl x h
   ·rw [List.mem_singleton] at h; omega
  have := addB_spec a (ids ++ [p.f0]) nx h3 (List.nodup_append.mpr ⟨hn, by simp, fun x hx y hy e => by rw [List.mem_singleton] at hy; subst hy; subst e; exact h2' hx⟩) hl'
  rw [List.append_assoc] at this
  exact this
theorem kept_sub (s : List SP) (d : List Int) : (idsOf (keptL s d)).Sublist (idsOf s) := List.Sublist.map _ List.filter_sublist
theorem apply_ok {s : List SP} {sf sn : Int} {d : List Int} {a : List SP} {fl nx : Int} {r : List SP} {rf rn : Int} (h : applyL s sf sn d a fl nx = (r, rf, rn, 0)) :
  rightB d a fl nx = true ∧ sf ≤ fl ∧ sn ≤ nx ∧ d.all (goodD s d) = true ∧ addB nx (idsOf (keptL s d)) a = true ∧ r = keptL s d ++ a ∧ rf = fl ∧ rn = nx := by
 unfold applyL at h
 split at h
 ·rename_i hc
  simp only [Bool.and_eq_true, decide_eq_true_eq] at hc
  simp only [Prod.mk.injEq] at h
  exact ⟨hc.1, hc.2.1, hc.2.2.1, hc.2.2.2.1, hc.2.2.2.2, h.1.symm, h.2.1.symm, h.2.2.1.symm⟩
 ·simp only [Prod.mk.injEq] at h
  exact absurd h.2.2.2 (by decide)
theorem Inv.step {s : List SP} {sf sn : Int} {n : Nat} (hI : Inv s sf sn n) {d : List Int} {a : List SP} {fl nx : Int} {r : List SP} {rf rn : Int} (h : applyL s sf sn d a fl nx = (r, rf, rn, 0)) : Inv r rf rn (n + 1000) ∧ sf ≤ rf ∧ sn ≤ rn := by
 obtain ⟨h1, h2, h3, h4, h5, rfl, rfl, rfl⟩ := apply_ok h
 obtain ⟨q1, q2, q3, q4, q5, q6⟩ := right_d h1
 have hs := kept_sub s d
 have ha := addB_spec a _ _ h5 (hs.nodup hI.nd) (fun x hx => by have := hI.lt x (hs.subset hx); omega)
 refine ⟨⟨?_, ?_, ?_, ?_⟩, h2, h3⟩
 ·unfold wfP
  rw [List.all_append, Bool.and_eq_true]
  refine ⟨?_, List.all_eq_true.mpr (fun p hp => wf_of (by have := q4 p hp; omega) (by have := q4 p hp; omega))⟩
  have := hI.wf
  unfold wfP at this
  rw [List.all_eq_true] at this ⊢
  exact fun p hp => this p (List.mem_filter.mp hp).1
 ·rw [idsOf_app]; exact ha.1
 ·rw [idsOf_app]; exact ha.2
 ·have h6 : (keptL s d).length ≤ s.length := List.length_filter_le _ _
  have := hI.len
  rw [List.length_append]; omega
end Go.Proofs.Ytagokgijffpdnaa.G
namespace Go.Proofs.Ytagokgijffpdnaa.G
open Go.RowKit Go.Proofs.YtagokgijffpdnaaQ Go.Proofs.YtagokgijffpdnaaW.PrintWords Go.Proofs.YtagokgijffpdnaaW.PrintLast Go.Proofs.YtagokgijffpdnaaW.PrintMore
set_option linter.unusedVariables false
set_option linter.unusedSimpArgs false
theorem number_f (n : Int) : tithebarnref16_number.f n = some (!oddI n) := by
 unfold tithebarnref16_number.f oddI
 by_cases h : n ≥ 0
 ·rw [if_pos h, decide_eq_false (show ¬ n < 0 by omega), Bool.false_or]
  congr 1
  by_cases h2 : n ≤ 999999999
  ·rw [decide_eq_true h2, decide_eq_false (by omega)]; rfl
  ·rw [decide_eq_false h2, decide_eq_true (by omega)]; rfl
 ·rw [if_neg h, decide_eq_true (show n < 0 by omega)]; rfl
theorem key_f (v : SV) : tithebarnref16_key.f v.f0 v.f1 v.f2 = some (!badV v) := by
 unfold tithebarnref16_key.f badV
 cases v.f0
 ·rw [if_neg (by decide), Bool.false_or]
  congr 1
  by_cases h : v.f2.size ≤ 64
  ·rw [decide_eq_true (by omega), decide_eq_false (by omega)]; rfl
  ·rw [decide_eq_false (by omega), decide_eq_true (by omega)]; rfl
 ·rfl
def aheadI : List Int → List Int → Bool
 | [], [] => false
 | [], _ :: _ => true
 | _ :: _, [] => false
 | a :: l, b :: m => if a = b then aheadI l m else decide (a < b)
theorem ahead_l0 (a b : ByteArray) (ha : a.size ≤ 4611686018427387904) (hb : b.size ≤ 4611686018427387904) : ∀ (m i k : Nat), i + m = a.size → 2 * m + 2 ≤ k → i ≤ b.size → tithebarnref02_ahead.l0 k a b (i : Int) = some (aheadI ((bytesOf a).drop i) ((bytesOf b).drop i)) := by
 have sa := bytesOf_size a
 have sb := bytesOf_size b
 intro m
 induction m with
 | zero =>
  intro i k hi hk hib
  obtain ⟨k, rfl⟩ : ∃ m, k = m + 2 := ⟨k - 2, by omega⟩
  simp only [tithebarnref02_ahead.l0, tithebarnref02_ahead.j1]
  have e1 : (bytesOf a).drop i = [] := List.drop_eq_nil_of_le (by omega)
  rw [if_neg (by omega), if_neg (show ¬ (false = true) by decide), e1]
  by_cases h : i < b.size
  ·rw [List.drop_eq_getElem_cons (show i < (bytesOf b).length by omega)]
   unfold aheadI
   rw [decide_eq_true (by omega)]
  ·rw [List.drop_eq_nil_of_le (show (bytesOf b).length ≤ i by omega)]
   unfold aheadI
   rw [decide_eq_false (by omega)]
 | succ m ih =>
  intro i k hi hk hib
  obtain ⟨k, rfl⟩ : ∃ m, k = m + 2 := ⟨k - 2, by omega⟩
  simp only [tithebarnref02_ahead.l0, tithebarnref02_ahead.j1]
  rw [if_pos (by omega)]
  have ew : wrap64 ((i : Int) + 1) = ((i + 1 : Nat) : Int) := by rw [w64 (by omega) (by omega)]; omega
  have da := List.drop_eq_getElem_cons (show i < (bytesOf a).length by omega)
  have ba : bt a (i : Int) = (bytesOf a)[i]'(by omega) := by
   rw [bt_rd]; unfold rd
   rw [Int.toNat_natCast, List.getD_eq_getElem?_getD, List.getElem?_eq_getElem (by omega)]; rfl
  by_cases h : i < b.size
  ·have db := List.drop_eq_getElem_cons (show i < (bytesOf b).length by omega)
   have bb : bt b (i : Int) = (bytesOf b)[i]'(by omega) := by
    rw [bt_rd]; unfold rd
    rw [Int.toNat_natCast, List.getD_eq_getElem?_getD, List.getElem?_eq_getElem (by omega)]; rfl
   rw [decide_eq_true (by omega), if_pos rfl, if_pos (by omega), if_pos (by omega), if_pos (by omega), da, db, ba, bb]
   unfold aheadI
   by_cases e : (bytesOf a)[i]'(by omega) = (bytesOf b)[i]'(by omega)
   ·rw [if_pos e, if_pos e, ew]; exact ih (i + 1) k (by omega) (by omega) (by omega)
   ·rw [if_neg e, if_neg e]
  ·rw [decide_eq_false (by omega), if_neg (show ¬ (false = true) by decide), da, List.drop_eq_nil_of_le (show (bytesOf b).length ≤ i by omega)]
   unfold aheadI
   rw [decide_eq_false (by omega)]
theorem aheadI_less : ∀ (a b : List UInt8), aheadI (a.map fun x => (x.toNat : Int)) (b.map fun x => (x.toNat : Int)) = Op.bytesLess a b
 | [], [] => rfl
 | [], _ :: _ => rfl
 | _ :: _, [] => rfl
 | x :: a, y :: b => by
  simp only [List.map_cons]
  unfold aheadI Op.bytesLess
  have ih := aheadI_less a b
  by_cases h : x = y
  ·subst h; simp [ih]
  ·have hne : ¬ ((x.toNat : Int) = (y.toNat : Int)) := fun e => h (UInt8.toNat_inj.mp (by omega))
   rw [if_neg hne]
   have h1 : (x == y) = false := by simpa using h
   simp only [h1, Bool.false_and, Bool.or_false]
   simp [UInt8.lt_iff_toNat_lt]
theorem bytesOf_map (a : ByteArray) : bytesOf a = a.toList.map fun x => (x.toNat : Int) := by rw [ByteArray.toList_eq]; rfl
theorem ahead_f {a b : ByteArray} (ha : a.size ≤ 64) (hb : b.size ≤ 64) {k : Nat} (hk : 200 ≤ k) : tithebarnref02_ahead.f k a b = some (Op.bytesLess a.toList b.toList) := by
 unfold tithebarnref02_ahead.f
 have := ahead_l0 a b (by omega) (by omega) a.size 0 k (by omega) (by omega) (by omega)
 rw [show ((0 : Nat) : Int) = 0 from rfl, List.drop_zero, List.drop_zero, bytesOf_map, bytesOf_map, aheadI_less] at this
 exact this
theorem less_total : ∀ (a b : List UInt8), Op.bytesLess b a = (!Op.bytesLess a b && !(a == b))
 | [], [] => rfl
 | [], _ :: _ => rfl
 | _ :: _, [] => rfl
 | x :: a, y :: b => by
  unfold Op.bytesLess
  have ih := less_total a b
  by_cases h : x = y
  ·subst h; simp [ih]
  ·have h1 : (x == y) = false := by simpa using h
   have h2 : (y == x) = false := by simpa using Ne.symm h
   have h3 : ((x :: a) == (y :: b)) = false := by simp [h]
   rw [h3]
   simp only [h1, h2, Bool.false_and, Bool.or_false, Bool.not_false, Bool.and_true]
   have : x.toNat ≠ y.toNat := fun e => h (UInt8.toNat_inj.mp e)
   by_cases c : x < y
   ·have : ¬ y < x := by rw [UInt8.lt_iff_toNat_lt] at c ⊢; omega
    simp [c, this]
   ·have : y < x := by rw [UInt8.lt_iff_toNat_lt] at c ⊢; omega
    simp [c, this]
theorem Ahead_f {a b : SV} (ha : badV a = false) (hb : badV b = false) {k : Nat} (hk : 201 ≤ k) : tithebarnref02_Ahead.f k b.f0 b.f1 b.f2 a.f0 a.f1 a.f2 = some (decide (0 < cmpV a b)) := by
 obtain ⟨k, rfl⟩ : ∃ m, k = m + 1 := ⟨k - 1, by omega⟩
 unfold badV at ha hb
 simp only [Bool.or_eq_false_iff, decide_eq_false_iff_not] at ha hb
 obtain ⟨ha0, ha1⟩ := ha
 obtain ⟨hb0, hb1⟩ := hb
 unfold tithebarnref02_Ahead.f cmpV
 rw [ha0, hb0]
 simp only [Bool.false_eq_true, if_false, tithebarnref02_Ahead.j0]
 by_cases h : b.f1 = a.f1
 ·rw [if_pos h, ahead_f (by omega) (by omega) (by omega), Option.bind_some, if_neg (by omega), if_neg (by omega), less_total]
  unfold cmpStr
  cases Op.bytesLess a.f2.toList b.f2.toList <;> cases (a.f2.toList == b.f2.toList) <;> rfl
 ·rw [if_neg h]
  by_cases c : a.f1 < b.f1
  ·rw [if_pos c, decide_eq_false (by omega)]; rfl
  ·rw [if_neg c, if_pos (by omega), decide_eq_true (by omega)]; rfl
theorem part_f (p : SP) {k : Nat} (hk : 201 ≤ k) : tithebarnref16_part.f k p.f0 p.f1 p.f2.f0 p.f2.f1 p.f2.f2 p.f3.f0 p.f3.f1 p.f3.f2 = some (!oddP p) := by
 unfold tithebarnref16_part.f oddP
 rw [number_f, Option.bind_some]
 cases oddI p.f0
 ·rw [if_pos (by decide)]
  by_cases h1 : p.f1 ≥ 0
  ·rw [if_pos h1, decide_eq_false (show ¬ p.f1 < 0 by omega)]
   by_cases h2 : p.f1 < 4
   ·rw [if_pos h2, decide_eq_false (show ¬ 4 ≤ p.f1 by omega), key_f, Option.bind_some]
    cases h3 : badV p.f2
    ·rw [if_pos (by decide), key_f, Option.bind_some]
     cases h4 : badV p.f3
     ·rw [if_pos (by decide), Ahead_f h3 h4 hk]; simp
     ·rw [if_neg (by decide)]; simp
    ·rw [if_neg (by decide)]; simp
   ·rw [if_neg h2, decide_eq_true (show 4 ≤ p.f1 by omega)]; simp
  ·rw [if_neg h1, decide_eq_true (show p.f1 < 0 by omega)]; simp
 ·rw [if_neg (by decide)]; simp
theorem rRight_l1 (d : List Int) (a : List SP) (fl nx : Int) (ha : a.length ≤ 1000) : ∀ (m i k : Nat), i + m = a.length → m + 210 ≤ k → tithebarnref16_Right.l1 k (i : Int) d a fl nx = some ((a.drop i).all fun p => !oddP p) := by
 intro m
 induction m with
 | zero =>
  intro i k hi hk
  obtain ⟨k, rfl⟩ : ∃ m, k = m + 1 := ⟨k - 1, by omega⟩
  simp only [tithebarnref16_Right.l1]
  rw [if_neg (by omega), List.drop_eq_nil_of_le (by omega)]; rfl
 | succ m ih =>
  intro i k hi hk
  obtain ⟨k, rfl⟩ : ∃ m, k = m + 1 := ⟨k - 1, by omega⟩
  simp only [tithebarnref16_Right.l1]
  have ew : wrap64 ((i : Int) + 1) = ((i + 1 : Nat) : Int) := by rw [w64 (by omega) (by omega)]; omega
  rw [if_pos (by omega), if_pos (by omega), part_f _ (by omega), Option.bind_some, rdP_drop (show i < a.length by omega), List.all_cons, ew]
  cases oddP (rd_T36 a (i : Int))
  ·rw [if_pos (by decide), ih (i + 1) k (by omega) (by omega)]; simp
  ·rw [if_neg (by decide)]; simp
theorem rRight_l0 (d : List Int) (a : List SP) (fl nx : Int) (ha : a.length ≤ 1000) (hd : d.length ≤ 1000) : ∀ (m i k : Nat), i + m = d.length → m + 1220 ≤ k → tithebarnref16_Right.l0 k (i : Int) d a fl nx = some (((d.drop i).all fun x => !oddI x) && (a.all fun p => !oddP p)) := by
 intro m
 induction m with
 | zero =>
  intro i k hi hk
  obtain ⟨k, rfl⟩ : ∃ m, k = m + 1 := ⟨k - 1, by omega⟩
  simp only [tithebarnref16_Right.l0]
  have := rRight_l1 d a fl nx ha a.length 0 k (by omega) (by omega)
  rw [show ((0 : Nat) : Int) = 0 from rfl, List.drop_zero] at this
  rw [if_neg (by omega), List.drop_eq_nil_of_le (show d.length ≤ i by omega), this]; rfl
 | succ m ih =>
  intro i k hi hk
  obtain ⟨k, rfl⟩ : ∃ m, k = m + 1 := ⟨k - 1, by omega⟩
  simp only [tithebarnref16_Right.l0]
  have ew : wrap64 ((i : Int) + 1) = ((i + 1 : Nat) : Int) := by rw [w64 (by omega) (by omega)]; omega
  have hdr : d.drop i = rd d (i : Int) :: d.drop (i + 1) := by
   rw [List.drop_eq_getElem_cons (show i < d.length by omega)]
   unfold rd
   rw [Int.toNat_natCast, List.getD_eq_getElem?_getD, List.getElem?_eq_getElem (show i < d.length by omega)]; rfl
  rw [if_pos (by omega), if_pos (by omega), number_f, Option.bind_some, hdr, List.all_cons, ew]
  cases oddI (rd d (i : Int))
  ·rw [if_pos (by decide), ih (i + 1) k (by omega) (by omega)]; simp
  ·rw [if_neg (by decide)]; simp
theorem rRight_f (d : List Int) (a : List SP) (fl nx : Int) {k : Nat} (hk : 3000 ≤ k) : tithebarnref16_Right.f k d a fl nx = some (rightB d a fl nx) := by
 obtain ⟨k, rfl⟩ : ∃ m, k = m + 1 := ⟨k - 1, by omega⟩
 unfold tithebarnref16_Right.f rightB
 have j1 : tithebarnref16_Right.j0 (k + 1) true d a fl nx = some false := by simp only [tithebarnref16_Right.j0, if_true]
 by_cases h1 : d.length ≤ 1000
 ·rw [if_neg (by omega), decide_eq_true h1]
  by_cases h2 : a.length ≤ 1000
  ·rw [if_neg (by omega), decide_eq_true h2, number_f, Option.bind_some]
   cases oddI fl
   ·rw [if_pos (by decide), number_f, Option.bind_some]
    cases oddI nx
    ·simp only [tithebarnref16_Right.j0]
     rw [if_neg (by decide)]
     have := rRight_l0 d a fl nx h2 h1 d.length 0 k (by omega) (by omega)
     rw [show ((0 : Nat) : Int) = 0 from rfl, List.drop_zero] at this
     rw [this]; simp
    ·rw [show (!!true) = true from rfl, j1]; simp
   ·rw [if_neg (by decide), j1]; simp
  ·rw [if_pos (by omega), decide_eq_false h2, j1]; simp
 ·rw [if_pos (by omega), decide_eq_false h1, j1]; simp
end Go.Proofs.Ytagokgijffpdnaa.G
namespace Go.Proofs.Ytagokgijffpdnaa.G
open Go.RowKit Go.Proofs.YtagokgijffpdnaaQ Go.Proofs.YtagokgijffpdnaaW.PrintWords Go.Proofs.YtagokgijffpdnaaW.PrintLast Go.Proofs.YtagokgijffpdnaaW.PrintMore
set_option linter.unusedVariables false
set_option linter.unusedSimpArgs false
def rDrops : Nat → List Int → Int → List Int → List Int × List Int × Int
 | 0, r, e, acc => (acc, r, e)
 | n + 1, r, e, acc => if e = 0 then rDrops n (aUint r e).2.1 (aUint r e).2.2 (acc ++ [cntL r e]) else (acc, r, e)
def rPart (r : List Int) (e : Int) : SP × List Int × Int :=
 (fun (r1 : List Int) (e1 : Int) => (fun (r2 : List Int) (e2 : Int) => (fun (lo : SV × List Int × Int) => (fun (hi : SV × List Int × Int) => ((⟨cntL r e, cntL r1 e1, lo.1, hi.1⟩ : SP), hi.2.1, hi.2.2)) (valL lo.2.1 lo.2.2)) (valL r2 e2)) (aUint r1 e1).2.1 (aUint r1 e1).2.2) (aUint r e).2.1 (aUint r e).2.2
def rAdds : Nat → List Int → Int → List SP → List SP × List Int × Int
 | 0, r, e, acc => (acc, r, e)
 | n + 1, r, e, acc => if e = 0 then rAdds n (rPart r e).2.1 (rPart r e).2.2 (acc ++ [(rPart r e).1]) else (acc, r, e)
def rTail (n m : Int) (d : List Int) (a : List SP) (r : List Int) (e : Int) : List Int × List SP × Int × Int × Bool :=
 (fun (r1 : List Int) (e1 : Int) => (d, a, cntL r e, cntL r1 e1, (decide (0 ≤ n) && decide (0 ≤ m)) && ((aDone (aUint r1 e1).2.1 (aUint r1 e1).2.2 == 0) && rightB d a (cntL r e) (cntL r1 e1)))) (aUint r e).2.1 (aUint r e).2.2
def rMid (n : Int) (d : List Int) (r : List Int) (e : Int) : List Int × List SP × Int × Int × Bool :=
 (fun (q : List SP × List Int × Int) => rTail n (cntL r e) d q.1 q.2.1 q.2.2) (rAdds (cntL r e).toNat (aUint r e).2.1 (aUint r e).2.2 [])
def rEdit (r : List Int) : List Int × List SP × Int × Int × Bool :=
 (fun (q : List Int × List Int × Int) => rMid (cntL r 0) q.1 q.2.1 q.2.2) (rDrops (cntL r 0).toNat (aUint r 0).2.1 (aUint r 0).2.2 [])
section
variable {k : Nat} {S : ByteArray}
theorem drops_f (hk : 3000 ≤ k) (hS : S.size ≤ 4611686018427387904) : ∀ (n : Nat) (a : Int) (r : List Int) (e : Int) (acc : List Int), At S a r → ∃ a', tithebarnref16_edit.drops k n S a e acc = some ((rDrops n r e acc).1, S, a', (rDrops n r e acc).2.2) ∧ At S a' (rDrops n r e acc).2.1 := by
 intro n
 induction n with
 | zero => intro a r e acc hA; exact ⟨a, rfl, hA⟩
 | succ n ih =>
  intro a r e acc hA
  unfold tithebarnref16_edit.drops rDrops
  by_cases he : e = 0
  ·obtain ⟨a', h, hA'⟩ := count_f (k := k) (by omega) hS hA e
   rw [if_pos he, if_pos he, h, Option.bind_some]
   exact ih _ _ _ _ hA'
  ·rw [if_neg he, if_neg he]; exact ⟨a, rfl, hA⟩
theorem adds_f (hk : 3000 ≤ k) (hS : S.size ≤ 4611686018427387904) : ∀ (n : Nat) (a : Int) (r : List Int) (e : Int) (acc : List SP), At S a r → ∃ a', tithebarnref16_edit.adds k n S a e acc = some ((rAdds n r e acc).1, S, a', (rAdds n r e acc).2.2) ∧ At S a' (rAdds n r e acc).2.1 := by
 intro n
 induction n with
 | zero => intro a r e acc hA; exact ⟨a, rfl, hA⟩
 | succ n ih =>
  intro a r e acc hA
  unfold tithebarnref16_edit.adds rAdds
  by_cases he : e = 0
  ·obtain ⟨a1, h1, hA1⟩ := count_f (k := k) (by omega) hS hA e
   obtain ⟨a2, h2, hA2⟩ := count_f (k := k) (by omega) hS hA1 (aUint r e).2.2
   obtain ⟨a3, h3, hA3⟩ := bound_f (k := k) (by omega) hS hA2 (aUint (aUint r e).2.1 (aUint r e).2.2).2.2
   obtain ⟨a4, h4, hA4⟩ := bound_f (k := k) (by omega) hS hA3 (valL (aUint (aUint r e).2.1 (aUint r e).2.2).2.1 (aUint (aUint r e).2.1 (aUint r e).2.2).2.2).2.2
   rw [if_pos he, if_pos he, h1, Option.bind_some, h2, Option.bind_some, h3, Option.bind_some, h4, Option.bind_some]
   exact ih _ _ _ _ hA4
  ·rw [if_neg he, if_neg he]; exact ⟨a, rfl, hA⟩
theorem cntL_le (r : List Int) (e : Int) : cntL r e ≤ 999999999 := by unfold cntL; split <;> omega
theorem edit_f (hk : 3000 ≤ k) (hS : S.size ≤ 4611686018427387904) : tithebarnref16_edit.f k S = some (rEdit (bytesOf S)) := by
 have hA0 : At S 0 (bytesOf S) := ⟨0, rfl, Nat.zero_le _, rfl⟩
 obtain ⟨a1, h1, hA1⟩ := count_f (k := k) (by omega) hS hA0 0
 obtain ⟨a2, h2, hA2⟩ := drops_f hk hS (cntL (bytesOf S) 0).toNat a1 _ (aUint (bytesOf S) 0).2.2 [] hA1
 unfold tithebarnref16_edit.f rEdit
 rw [h1, Option.bind_some]
 simp only
 rw [if_pos (cntL_le _ _), h2, Option.bind_some]
 generalize rDrops (cntL (bytesOf S) 0).toNat (aUint (bytesOf S) 0).2.1 (aUint (bytesOf S) 0).2.2 [] = q at *
 obtain ⟨d, r, e⟩ := q
 simp only at hA2 ⊢
 generalize cntL (bytesOf S) 0 = n
 obtain ⟨a3, h3, hA3⟩ := count_f (k := k) (by omega) hS hA2 e
 obtain ⟨a4, h4, hA4⟩ := adds_f hk hS (cntL r e).toNat a3 _ (aUint r e).2.2 [] hA3
 unfold tithebarnref16_edit.mid rMid
 simp only
 rw [h3, Option.bind_some]
 simp only
 rw [if_pos (cntL_le _ _), h4, Option.bind_some]
 generalize rAdds (cntL r e).toNat (aUint r e).2.1 (aUint r e).2.2 [] = q at *
 obtain ⟨aa, r2, e2⟩ := q
 simp only at hA4 ⊢
 generalize cntL r e = m
 obtain ⟨a5, h5, hA5⟩ := count_f (k := k) (by omega) hS hA4 e2
 obtain ⟨a6, h6, hA6⟩ := count_f (k := k) (by omega) hS hA5 (aUint r2 e2).2.2
 unfold tithebarnref16_edit.tail rTail
 simp only
 rw [h5, Option.bind_some]
 simp only
 rw [h6, Option.bind_some]
 simp only
 unfold tithebarnref16_edit.fin
 by_cases hn : 0 ≤ n
 ·rw [if_pos hn, decide_eq_true hn]
  by_cases hm : 0 ≤ m
  ·rw [if_pos hm, decide_eq_true hm]
   obtain ⟨x, hd⟩ := done_f hS hA6 (aUint (aUint r2 e2).2.1 (aUint r2 e2).2.2).2.2
   rw [hd, Option.bind_some]
   simp only
   by_cases hz : aDone (aUint (aUint r2 e2).2.1 (aUint r2 e2).2.2).2.1 (aUint (aUint r2 e2).2.1 (aUint r2 e2).2.2).2.2 = 0
   ·rw [if_pos hz, rRight_f _ _ _ _ hk, Option.bind_some, hz]; simp
   ·rw [if_neg hz, beq_eq_false_iff_ne.mpr hz]; simp
  ·rw [if_neg hm, decide_eq_false hm]; simp
 ·rw [if_neg hn, decide_eq_false hn]; simp
end
end Go.Proofs.Ytagokgijffpdnaa.G
namespace Go.Proofs.Ytagokgijffpdnaa.G
open Go.RowKit Go.Proofs.YtagokgijffpdnaaQ Go.Proofs.YtagokgijffpdnaaW.PrintWords Go.Proofs.YtagokgijffpdnaaW.PrintLast Go.Proofs.YtagokgijffpdnaaW.PrintMore
set_option linter.unusedVariables false
set_option linter.unusedSimpArgs false
theorem numL_odd (r : List Int) (e : Int) : (numL r e true).2.2.2 = true := by unfold numL; split <;> rfl
theorem num_cnt {r : List Int} (hr : Bs r) (e : Int) (odd : Bool) : (cntL r e = -1 ∧ numL r e odd = (0, (aUint r e).2.1, (aUint r e).2.2, true)) ∨ (0 ≤ cntL r e ∧ numL r e odd = (cntL r e, (aUint r e).2.1, (aUint r e).2.2, odd)) := by
 have hu := aUint_u64 hr e
 unfold cntL numL
 by_cases c : 999999999 < (aUint r e).1
 ·rw [if_pos c, if_pos c]; exact .inl ⟨rfl, rfl⟩
 ·rw [if_neg c, if_neg c]; exact .inr ⟨hu.1, rfl⟩
theorem tailL_odd (d : List Int) (a : List SP) (r : List Int) (e : Int) : (tailL d a (r, e, true)).2.2.2.2 = false := by
 unfold tailL
 have h := numL_odd r e
 generalize numL r e true = f at *
 obtain ⟨f0, f1, f2, f3⟩ := f
 simp only at h ⊢
 subst h
 have h := numL_odd f1 f2
 generalize numL f1 f2 true = x at *
 obtain ⟨x0, x1, x2, x3⟩ := x
 simp only at h ⊢
 subst h
 simp
theorem afterAdds_odd (d : List Int) (a : List SP) (r : List Int) (e : Int) : (afterAdds d (a, r, e, true)).2.2.2.2 = false := tailL_odd d a r e
theorem afterDrops_odd (d : List Int) (r : List Int) (e : Int) : (afterDrops (d, r, e, true)).2.2.2.2 = false := by
 unfold afterDrops
 have h := numL_odd r e
 generalize numL r e true = f at *
 obtain ⟨f0, f1, f2, f3⟩ := f
 simp only at h ⊢
 subst h
 rw [adds_no (by rfl)]
 exact afterAdds_odd _ _ _ _
def badA (a : List SP) : Prop := ∃ p ∈ a, p.f0 < 0 ∨ p.f1 < 0
def badD (d : List Int) : Prop := ∃ x ∈ d, x < 0
theorem right_badD {d : List Int} (h : badD d) (a : List SP) (x y : Int) : rightB d a x y = false := by
 obtain ⟨z, hz, h0⟩ := h
 cases hr : rightB d a x y with
 | false => rfl
 | true =>
  have := (right_d hr).2.2.1 z hz
  omega
theorem right_badF {d : List Int} {a : List SP} {x y : Int} (h : x < 0 ∨ y < 0) : rightB d a x y = false := by
 unfold rightB oddI
 rcases h with h | h <;> simp [h]
theorem right_badA (d : List Int) {a : List SP} (h : badA a) (x y : Int) : rightB d a x y = false := by
 obtain ⟨p, hp, h0⟩ := h
 cases hr : rightB d a x y with
 | false => rfl
 | true =>
  unfold rightB at hr
  simp only [Bool.and_eq_true, List.all_eq_true, Bool.not_eq_true'] at hr
  have h6 := hr.2.2.2.2.2 p hp
  unfold oddP oddI at h6
  rcases h0 with h0 | h0 <;> simp [h0] at h6
theorem rTail_no {n m : Int} {d : List Int} {a : List SP} (h : n < 0 ∨ m < 0 ∨ badD d ∨ badA a) (r : List Int) (e : Int) : (rTail n m d a r e).2.2.2.2 = false := by
 unfold rTail
 rcases h with h | h | h | h
 ·simp [show ¬ 0 ≤ n by omega]
 ·simp [show ¬ 0 ≤ m by omega]
 ·simp [right_badD h]
 ·simp [right_badA d h]
theorem tail_same {n m : Int} (hn : 0 ≤ n) (hm : 0 ≤ m) (d : List Int) (a : List SP) {r : List Int} (hr : Bs r) (e : Int) : (rTail n m d a r e).2.2.2.2 = (tailL d a (r, e, false)).2.2.2.2 ∧ ((tailL d a (r, e, false)).2.2.2.2 = true → rTail n m d a r e = tailL d a (r, e, false)) := by
 unfold rTail tailL
 rw [decide_eq_true hn, decide_eq_true hm]
 simp only
 rcases num_cnt hr e false with ⟨hc, hx⟩ | ⟨hc, hx⟩
 ·rw [hx, hc]
  simp only
  have h := numL_odd (aUint r e).2.1 (aUint r e).2.2
  rw [h, right_badF (.inl (by omega))]
  simp
 ·rw [hx]
  simp only
  rcases num_cnt (aUint_Bs hr e) (aUint r e).2.2 false with ⟨hc2, hx2⟩ | ⟨hc2, hx2⟩
  ·rw [hx2, hc2, right_badF (.inr (by omega))]
   simp
  ·rw [hx2]
   simp
theorem rAdds_mem : ∀ (n : Nat) (r : List Int) (e : Int) (acc : List SP) (p : SP), p ∈ acc → p ∈ (rAdds n r e acc).1 := by
 intro n
 induction n with
 | zero => intro r e acc p hp; exact hp
 | succ n ih =>
  intro r e acc p hp
  unfold rAdds
  split
  ·exact ih _ _ _ _ (List.mem_append_left _ hp)
  ·exact hp
theorem rDrops_mem : ∀ (n : Nat) (r : List Int) (e : Int) (acc : List Int) (p : Int), p ∈ acc → p ∈ (rDrops n r e acc).1 := by
 intro n
 induction n with
 | zero => intro r e acc p hp; exact hp
 | succ n ih =>
  intro r e acc p hp
  unfold rDrops
  split
  ·exact ih _ _ _ _ (List.mem_append_left _ hp)
  ·exact hp
theorem valL_Bs {r : List Int} (hr : Bs r) (e : Int) : Bs (valL r e).2.1 := (aText_Bs (aUint_Bs hr e) 64 _).2
theorem adds_same : ∀ (n : Nat) (r : List Int) (e : Int) (acc : List SP), Bs r → (∃ a r1 e1, addsL n r e false acc = (a, r1, e1, false) ∧ rAdds n r e acc = (a, r1, e1) ∧ Bs r1) ∨ (∃ a r1 e1, addsL n r e false acc = (a, r1, e1, true) ∧ badA (rAdds n r e acc).1) := by
 intro n
 induction n with
 | zero => intro r e acc hr; exact .inl ⟨_, _, _, rfl, rfl, hr⟩
 | succ n ih =>
  intro r e acc hr
  by_cases he : e = 0
  ·subst he
   have hR : rAdds (n + 1) r 0 acc = rAdds n (rPart r 0).2.1 (rPart r 0).2.2 (acc ++ [(rPart r 0).1]) := by rw [rAdds, if_pos rfl]
   rw [hR]
   have hr1 := aUint_Bs hr 0
   have hr2 := aUint_Bs hr1 (aUint r 0).2.2
   have hbad : cntL r 0 = -1 ∨ cntL (aUint r 0).2.1 (aUint r 0).2.2 = -1 → badA (rAdds n (rPart r 0).2.1 (rPart r 0).2.2 (acc ++ [(rPart r 0).1])).1 := fun h =>
    ⟨(rPart r 0).1, rAdds_mem n _ _ _ _ (List.mem_append_right _ (List.mem_singleton.2 rfl)), by
     unfold rPart
     rcases h with h | h
     ·exact .inl (show cntL r 0 < 0 by omega)
     ·exact .inr (show cntL (aUint r 0).2.1 (aUint r 0).2.2 < 0 by omega)⟩
   obtain ⟨⟨lo, r3, e3⟩, hlo⟩ : ∃ z, valL (aUint (aUint r 0).2.1 (aUint r 0).2.2).2.1 (aUint (aUint r 0).2.1 (aUint r 0).2.2).2.2 = z := ⟨_, rfl⟩
   obtain ⟨⟨hi, r4, e4⟩, hhi⟩ : ∃ z, valL r3 e3 = z := ⟨_, rfl⟩
   rcases num_cnt hr 0 false with ⟨hc, hx⟩ | ⟨hc, hx⟩
   ·obtain ⟨⟨y, r2', e2', o2⟩, hy⟩ : ∃ z, numL (aUint r 0).2.1 (aUint r 0).2.2 true = z := ⟨_, rfl⟩
    have ho : o2 = true := by have := numL_odd (aUint r 0).2.1 (aUint r 0).2.2; rw [hy] at this; exact this
    subst ho
    obtain ⟨⟨lo', r3', e3'⟩, hlo'⟩ : ∃ z, valL r2' e2' = z := ⟨_, rfl⟩
    obtain ⟨⟨hi', r4', e4'⟩, hhi'⟩ : ∃ z, valL r3' e3' = z := ⟨_, rfl⟩
    rw [adds_on (by rfl) hx hy hlo' hhi', adds_no (by rfl)]
    exact .inr ⟨_, _, _, rfl, hbad (.inl hc)⟩
   ·rcases num_cnt hr1 (aUint r 0).2.2 false with ⟨hc2, hy⟩ | ⟨hc2, hy⟩
    ·rw [adds_on (by rfl) hx hy hlo hhi, adds_no (by rfl)]
     exact .inr ⟨_, _, _, rfl, hbad (.inr hc2)⟩
    ·rw [adds_on (by rfl) hx hy hlo hhi]
     have hp : rPart r 0 = (⟨cntL r 0, cntL (aUint r 0).2.1 (aUint r 0).2.2, lo, hi⟩, r4, e4) := by unfold rPart; simp only [hlo, hhi]
     rw [hp]
     have hb3 : Bs r3 := by have := valL_Bs hr2 (aUint (aUint r 0).2.1 (aUint r 0).2.2).2.2; rw [hlo] at this; exact this
     have hb4 : Bs r4 := by have := valL_Bs hb3 e3; rw [hhi] at this; exact this
     exact ih r4 e4 _ hb4
  ·have hne : (e == 0) = false := beq_eq_false_iff_ne.mpr he
   rw [adds_no (by rw [hne]; rfl)]
   have hR : rAdds (n + 1) r e acc = (acc, r, e) := by rw [rAdds, if_neg he]
   rw [hR]
   exact .inl ⟨_, _, _, rfl, rfl, hr⟩
theorem drops_same : ∀ (n : Nat) (r : List Int) (e : Int) (acc : List Int), Bs r → (∃ a r1 e1, dropsL n r e false acc = (a, r1, e1, false) ∧ rDrops n r e acc = (a, r1, e1) ∧ Bs r1) ∨ (∃ a r1 e1, dropsL n r e false acc = (a, r1, e1, true) ∧ badD (rDrops n r e acc).1) := by
 intro n
 induction n with
 | zero => intro r e acc hr; exact .inl ⟨_, _, _, rfl, rfl, hr⟩
 | succ n ih =>
  intro r e acc hr
  by_cases he : e = 0
  ·subst he
   have hR : rDrops (n + 1) r 0 acc = rDrops n (aUint r 0).2.1 (aUint r 0).2.2 (acc ++ [cntL r 0]) := by rw [rDrops, if_pos rfl]
   rw [hR]
   rcases num_cnt hr 0 false with ⟨hc, hx⟩ | ⟨hc, hx⟩
   ·rw [drops_on (by rfl) hx, drops_no (by rfl)]
    exact .inr ⟨_, _, _, rfl, cntL r 0, rDrops_mem n _ _ _ _ (List.mem_append_right _ (List.mem_singleton.2 rfl)), by omega⟩
   ·rw [drops_on (by rfl) hx]
    exact ih _ _ _ (aUint_Bs hr 0)
  ·have hne : (e == 0) = false := beq_eq_false_iff_ne.mpr he
   rw [drops_no (by rw [hne]; rfl)]
   have hR : rDrops (n + 1) r e acc = (acc, r, e) := by rw [rDrops, if_neg he]
   rw [hR]
   exact .inl ⟨_, _, _, rfl, rfl, hr⟩
theorem rMid_no {n : Int} {d : List Int} (h : n < 0 ∨ badD d) (r : List Int) (e : Int) : (rMid n d r e).2.2.2.2 = false := by
 unfold rMid
 exact rTail_no (h.elim .inl (fun h => .inr (.inr (.inl h)))) _ _
theorem mid_same {n : Int} (hn : 0 ≤ n) (d : List Int) {r : List Int} (hr : Bs r) (e : Int) : (rMid n d r e).2.2.2.2 = (afterDrops (d, r, e, false)).2.2.2.2 ∧ ((afterDrops (d, r, e, false)).2.2.2.2 = true → rMid n d r e = afterDrops (d, r, e, false)) := by
 unfold rMid afterDrops
 simp only
 rcases num_cnt hr e false with ⟨hc, hx⟩ | ⟨hc, hx⟩
 ·rw [hx]
  simp only
  rw [adds_no (by rfl), afterAdds_odd, rTail_no (.inr (.inl (by omega)))]
  simp
 ·rw [hx]
  simp only
  rcases adds_same (cntL r e).toNat (aUint r e).2.1 (aUint r e).2.2 [] (aUint_Bs hr e) with ⟨a, r1, e1, h1, h2, hb⟩ | ⟨a, r1, e1, h1, hb⟩
  ·rw [h1, h2]
   exact tail_same hn hc d a hb e1
  ·rw [h1, afterAdds_odd, rTail_no (.inr (.inr (.inr hb)))]
   simp
theorem edit_same {r : List Int} (hr : Bs r) : (rEdit r).2.2.2.2 = (editL r).2.2.2.2 ∧ ((editL r).2.2.2.2 = true → rEdit r = editL r) := by
 unfold rEdit editL
 simp only
 rcases num_cnt hr 0 false with ⟨hc, hx⟩ | ⟨hc, hx⟩
 ·rw [hx]
  simp only
  rw [drops_no (by rfl), afterDrops_odd, rMid_no (.inl (by omega))]
  simp
 ·rw [hx]
  simp only
  rcases drops_same (cntL r 0).toNat (aUint r 0).2.1 (aUint r 0).2.2 [] (aUint_Bs hr 0) with ⟨a, r1, e1, h1, h2, hb⟩ | ⟨a, r1, e1, h1, hb⟩
  ·rw [h1, h2]
   exact mid_same hc a hb e1
  ·rw [h1, afterDrops_odd, rMid_no (.inr hb)]
   simp
end Go.Proofs.Ytagokgijffpdnaa.G
namespace Go.Proofs.Ytagokgijffpdnaa.G
open Go.RowKit Go.Proofs.YtagokgijffpdnaaQ Go.Proofs.YtagokgijffpdnaaW.PrintWords Go.Proofs.YtagokgijffpdnaaW.PrintLast Go.Proofs.YtagokgijffpdnaaW.PrintMore
attribute [local go_sem] max2_int min2_int max_two min_two max_three min_three max_four min_four   -- for this text's walks alone
set_option linter.unusedVariables false
set_option linter.unusedSimpArgs false
def tithebarnref16_at.l0 : Nat → List (S36) → Int → Int → Option (Int)
 | 0, _, _, _ => none
 | k + 1, x0, x1, x5 => if x5 < (x0.length : Int) then (if 0 ≤ x5 then (if ((rd_T36 x0 x5).f0) = x1 then (some x5) else (tithebarnref16_at.l0 k x0 x1 (wrap64 (x5 + 1)))) else (none)) else (some (-1))
def tithebarnref16_at.f (k : Nat) (l0 : List (S36)) (a1 : Int) : Option (Int) := tithebarnref16_at.l0 k l0 a1 0
theorem tithebarnref16_at.mono_l : ∀ k, (∀ y0 y1 y2, LeO (tithebarnref16_at.l0 k y0 y1 y2) (tithebarnref16_at.l0 (k + 1) y0 y1 y2))
 | 0 => fun _ _ _ r h => by simp [tithebarnref16_at.l0] at h
 | k + 1 => by
  have ih0 := tithebarnref16_at.mono_l k
  ·intro y0 y1 y2
   unfold tithebarnref16_at.l0
   repeat' first
   | (with_reducible exact ih0 _ _ _)
   | (with_reducible exact LeO.refl _)
   | (with_reducible exact LeO.none _)
   | (with_reducible refine LeO.ite ?_ ?_)
   | (with_reducible refine LeO.bind ?_ (fun _ => ?_))
   | exact ih0 _ _ _
   | exact LeO.none _
   | refine LeO.ite ?_ ?_
   | refine LeO.bind ?_ (fun _ => ?_)
theorem tithebarnref16_at.mono : ∀ a0 a1 k, LeO (tithebarnref16_at.f k a0 a1) (tithebarnref16_at.f (k + 1) a0 a1) := by
 intro a0 a1 k
 have ih0 := tithebarnref16_at.mono_l k
 unfold tithebarnref16_at.f
 repeat' first
   | (with_reducible exact ih0 _ _ _)
   | (with_reducible exact LeO.refl _)
   | (with_reducible exact LeO.none _)
   | (with_reducible refine LeO.ite ?_ ?_)
   | (with_reducible refine LeO.bind ?_ (fun _ => ?_))
   | exact ih0 _ _ _
   | exact LeO.none _
   | refine LeO.ite ?_ ?_
   | refine LeO.bind ?_ (fun _ => ?_)
set_option maxHeartbeats 8000000 in
set_option maxRecDepth 100000 in
theorem tithebarnref16_at.calls (k : Nat) (A0 : Option Addr) (c0 : Nat) (l0 : List (S36)) (a1 : Int) (r : Int) (w : World) (hr0 : Kd.C k36 w A0 l0.length l0) (hc0 : l0.length ≤ c0) (h : tithebarnref16_at.f k l0 a1 = some r) :
  Calls Try.prog 27 #[.slice A0 l0.length c0, .int .i64 a1] w fun e w' => e = .returned (.int .i64 r) ∧ Drawn0 w w' := by
 have HR0 := Aside0.mk hr0
 have HC0 := Aside0.mk hc0
 clear hr0 hc0
 have H : (tithebarnref16_at.l0 k l0 a1 0) = some r := h
 clear h
 have H' := Aside0.mk H
 clear H
 go_enter Try.func27, Try.ntmps27
 go_wp2
 go_loopg [5] k (fun kq v5 w' => ∃ (x5_1 : Int), v5 = .int .i64 x5_1 ∧ Aside0 (tithebarnref16_at.l0 kq l0 a1 x5_1 = some r) ∧ Aside0 (kq ≤ k) ∧ Drawn0 w w')
 case atStart => exact ⟨(0), z7_, H', ⟨Nat.le_refl _⟩, z12_⟩
 case round =>
  clear H'
  try clear c2
  try clear p2
  obtain ⟨x5_1, rfl, HA, HK1, ⟨m1, rfl⟩⟩ := hrel
  cases gk with
  | zero => exact absurd HA.out (by simp [tithebarnref16_at.l0])
  | succ k1 =>
   have H := HA.out
   clear HA
   simp only [tithebarnref16_at.l0] at H
   by_cases c3 : x5_1 < (l0.length : Int)
   ·rw [if_pos c3] at H
    have c3b0 : decide (x5_1 < (l0.length : Int)) = true := decide_eq_true c3
    clear c3
    by_cases c4 : 0 ≤ x5_1
    ·rw [if_pos c4] at H
     have c4b0 : decide (0 ≤ x5_1) = true := decide_eq_true c4
     clear c4
     by_cases c5 : ((rd_T36 l0 x5_1).f0) = a1
     ·rw [if_pos c5] at H
      have c5b0 : (((rd_T36 l0 x5_1).f0) == a1) = true := beq_iff_eq.mpr c5
      have c5b1 : (((rd_T36 l0 x5_1).f0) != a1) = false := bne_eq_false_iff_eq.mpr c5
      clear c5
      obtain rfl := Option.some.inj H
      have p339 : 0 ≤ (x5_1 : Int) := of_decide_eq_true z6_
      have q339 : x5_1 < (l0.length : Int) := of_decide_eq_true z6_
      obtain ⟨ad339, e339, hx339_0, hx339_1, hx339_2, hx339_3, hx339_4, hx339_5, hx339_6, hx339_7⟩ := at_T36 HR0.out x5_1 p339 q339
      cases e339
      replace p339 := eq_true p339
      replace q339 := eq_true q339
      go_wp2
      go_ret
      exact ⟨z7_, z12_⟩
     ·rw [if_neg c5] at H
      have c5b0 : (((rd_T36 l0 x5_1).f0) == a1) = false := beq_eq_false_iff_ne.mpr c5
      have c5b1 : (((rd_T36 l0 x5_1).f0) != a1) = true := bne_iff_ne.mpr c5
      have H' := Aside0.mk H
      clear H
      have p339 : 0 ≤ (x5_1 : Int) := of_decide_eq_true z6_
      have q339 : x5_1 < (l0.length : Int) := of_decide_eq_true z6_
      obtain ⟨ad339, e339, hx339_0, hx339_1, hx339_2, hx339_3, hx339_4, hx339_5, hx339_6, hx339_7⟩ := at_T36 HR0.out x5_1 p339 q339
      cases e339
      replace p339 := eq_true p339
      replace q339 := eq_true q339
      go_wp2
      go_roundg k1
      case measure => have := HK1.out; omega
      case rel => exact ⟨(wrap64 (x5_1 + 1)), z7_, H', ⟨by have := HK1.out; omega⟩, z12_⟩
    ·rw [if_neg c4] at H
     exact absurd H (by simp)
   ·rw [if_neg c3] at H
    have c3b0 : decide (x5_1 < (l0.length : Int)) = false := decide_eq_false c3
    clear c3
    obtain rfl := Option.some.inj H
    go_wp2
    go_ret
    exact ⟨z7_, z12_⟩
end Go.Proofs.Ytagokgijffpdnaa.G
