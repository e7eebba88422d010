import Derived.Test.YtagokgijffpdnaaZG5
import Derived.Test.YtagokgijffpdnaaZQR
namespace Go.Proofs.Ytagokgijffpdnaa.G
open Go.RowKit Go.Proofs.YtagokgijffpdnaaQ Go.Proofs.YtagokgijffpdnaaW.PrintWords Go.Proofs.YtagokgijffpdnaaW.PrintLast Go.Proofs.YtagokgijffpdnaaW.PrintMore
set_option linter.unusedVariables false
set_option linter.unusedSimpArgs false
abbrev SV := S34
abbrev SP := S36
abbrev SE := S32
def OkV (v : SV) : Prop := (Lit.int .i64 v.f1).wf = true ∧ v.f2.size ≤ maxLen
def OkP (p : SP) : Prop := (Lit.int .i64 p.f0).wf = true ∧ (Lit.int .i64 p.f1).wf = true ∧ OkV p.f2 ∧ OkV p.f3
def OkE (x : SE) : Prop := (x.f0.length ≤ maxLen ∧ ∀ y ∈ x.f0, (Lit.int .i64 y).wf = true) ∧ (x.f1.length ≤ maxLen ∧ ∀ y ∈ x.f1, OkP y) ∧ (Lit.int .i64 x.f2).wf = true ∧ (Lit.int .i64 x.f3).wf = true
theorem val_flds : ∃ a b c : Field, (∃ fs : Array Field, Try.prog.underlying 34 = some (.struct fs) ∧ fs.toList = [a, b, c]) ∧ (a.offset = 0 ∧ b.offset = 1 ∧ c.offset = 2) ∧
    Try.prog.underlying a.type = some .bool ∧ Try.prog.underlying b.type = some (.int .i64) ∧ Try.prog.underlying c.type = some .string ∧ Try.prog.cellsOf a.type = 1 ∧ Try.prog.cellsOf b.type = 1 ∧ Try.prog.cellsOf c.type = 1 :=
  ⟨_, _, _, ⟨_, Try.underlying34, rfl⟩, ⟨rfl, rfl, rfl⟩, by kernel_rfl, by kernel_rfl, by kernel_rfl, by kernel_rfl, by kernel_rfl, by kernel_rfl⟩
theorem val_rdg : Rdg Try.prog 34 k34 OkV (fun x => x.f2.size + 1) := by
  obtain ⟨a, b, c, ⟨fs, h0, hfs⟩, ⟨oa, ob, oc⟩, ua, ub, uc, sa, sb, sc⟩ := val_flds
  have ha : Rdg Try.prog a.type Kd.bool (fun _ => True) (fun _ => 1) := Rdg.bool ua
  have hb : Rdg Try.prog b.type (Kd.int .i64) (fun x => (Lit.int .i64 x).wf = true) (fun _ => 1) := Rdg.int ub
  have hc : Rdg Try.prog c.type Kd.string (fun s => s.size ≤ maxLen) (fun s => s.size + 1) := Rdg.string uc
  have f3 : RdgF Try.prog 2 [c] Kd.string (fun s => s.size ≤ maxLen) (fun s => s.size + 1) := RdgF.one oc sc hc
  have f2 : RdgF Try.prog 1 [b, c] (Kd.pair (Kd.int .i64) Kd.string) (fun x => (Lit.int .i64 x.1).wf = true ∧ x.2.size ≤ maxLen) (fun x => 1 + (x.2.size + 1)) := RdgF.cons ob sb hb f3
  have f1 : RdgF Try.prog 0 [a, b, c] (Kd.pair Kd.bool (Kd.pair (Kd.int .i64) Kd.string)) (fun x => True ∧ (Lit.int .i64 x.2.1).wf = true ∧ x.2.2.size ≤ maxLen) (fun x => 1 + (1 + (x.2.2.size + 1))) := RdgF.cons oa sa ha f2
  rw [← hfs] at f1
  have hs : Rdg Try.prog 34 (Kd.pair Kd.bool (Kd.pair (Kd.int .i64) Kd.string)) (fun x => True ∧ (Lit.int .i64 x.2.1).wf = true ∧ x.2.2.size ≤ maxLen) (fun x => 1 + (1 + (x.2.2.size + 1))) := Rdg.struct h0 (by kernel_rfl) f1
  have hi : Rdg Try.prog 34 k34 (fun x => True ∧ (Lit.int .i64 x.f1).wf = true ∧ x.f2.size ≤ maxLen) (fun x => 1 + (1 + (x.f2.size + 1))) := Rdg.iso (f := fun x : SV => (x.f0, x.f1, x.f2)) (fun p => ⟨p.1, p.2.1, p.2.2⟩) (fun _ => rfl) hs
  intro H enc w base spare held fuel cs dat ps hh
  obtain ⟨x, k1, k2, k3⟩ := hi hh
  exact ⟨x, k1, k2.2, Nat.le_trans (by simp only; omega) k3⟩
theorem part_flds : ∃ a b c d : Field, (∃ fs : Array Field, Try.prog.underlying 36 = some (.struct fs) ∧ fs.toList = [a, b, c, d]) ∧ (a.offset = 0 ∧ b.offset = 1 ∧ c.offset = 2 ∧ d.offset = 5) ∧
    Try.prog.underlying a.type = some (.int .i64) ∧ Try.prog.underlying b.type = some (.int .i64) ∧ c.type = 34 ∧ d.type = 34 ∧ Try.prog.cellsOf a.type = 1 ∧ Try.prog.cellsOf b.type = 1 ∧ Try.prog.cellsOf c.type = 3 ∧ Try.prog.cellsOf d.type = 3 :=
  ⟨_, _, _, _, ⟨_, Try.underlying36, rfl⟩, ⟨rfl, rfl, rfl, rfl⟩, by kernel_rfl, by kernel_rfl, rfl, rfl, by kernel_rfl, by kernel_rfl, by kernel_rfl, by kernel_rfl⟩
def BP (p : SP) : Nat := p.f2.f2.size + p.f3.f2.size + 1
theorem part_rdg : Rdg Try.prog 36 k36 OkP BP := by
  obtain ⟨a, b, c, d, ⟨fs, h0, hfs⟩, ⟨oa, ob, oc, od⟩, ua, ub, uc, ud, sa, sb, sc, sd⟩ := part_flds
  have ha : Rdg Try.prog a.type (Kd.int .i64) (fun x => (Lit.int .i64 x).wf = true) (fun _ => 1) := Rdg.int ua
  have hb : Rdg Try.prog b.type (Kd.int .i64) (fun x => (Lit.int .i64 x).wf = true) (fun _ => 1) := Rdg.int ub
  have hc : Rdg Try.prog c.type k34 OkV (fun x => x.f2.size + 1) := by rw [uc]; exact val_rdg
  have hd : Rdg Try.prog d.type k34 OkV (fun x => x.f2.size + 1) := by rw [ud]; exact val_rdg
  have f4 : RdgF Try.prog 5 [d] k34 OkV (fun x => x.f2.size + 1) := RdgF.one od sd hd
  have f3 : RdgF Try.prog 2 [c, d] (Kd.pair k34 k34) (fun x => OkV x.1 ∧ OkV x.2) (fun x => (x.1.f2.size + 1) + (x.2.f2.size + 1)) := RdgF.cons oc sc hc f4
  have f2 : RdgF Try.prog 1 [b, c, d] (Kd.pair (Kd.int .i64) (Kd.pair k34 k34)) (fun x => (Lit.int .i64 x.1).wf = true ∧ OkV x.2.1 ∧ OkV x.2.2) (fun x => 1 + ((x.2.1.f2.size + 1) + (x.2.2.f2.size + 1))) := RdgF.cons ob sb hb f3
  have f1 : RdgF Try.prog 0 [a, b, c, d] (Kd.pair (Kd.int .i64) (Kd.pair (Kd.int .i64) (Kd.pair k34 k34))) (fun x => (Lit.int .i64 x.1).wf = true ∧ (Lit.int .i64 x.2.1).wf = true ∧ OkV x.2.2.1 ∧ OkV x.2.2.2) (fun x => 1 + (1 + ((x.2.2.1.f2.size + 1) + (x.2.2.2.f2.size + 1)))) := RdgF.cons oa sa ha f2
  rw [← hfs] at f1
  have hs : Rdg Try.prog 36 (Kd.pair (Kd.int .i64) (Kd.pair (Kd.int .i64) (Kd.pair k34 k34))) (fun x => (Lit.int .i64 x.1).wf = true ∧ (Lit.int .i64 x.2.1).wf = true ∧ OkV x.2.2.1 ∧ OkV x.2.2.2) (fun x => 1 + (1 + ((x.2.2.1.f2.size + 1) + (x.2.2.2.f2.size + 1)))) := Rdg.struct h0 (by kernel_rfl) f1
  have hi : Rdg Try.prog 36 k36 (fun x => (Lit.int .i64 x.f0).wf = true ∧ (Lit.int .i64 x.f1).wf = true ∧ OkV x.f2 ∧ OkV x.f3) (fun x => 1 + (1 + ((x.f2.f2.size + 1) + (x.f3.f2.size + 1)))) := Rdg.iso (f := fun x : SP => (x.f0, x.f1, x.f2, x.f3)) (fun p => ⟨p.1, p.2.1, p.2.2.1, p.2.2.2⟩) (fun _ => rfl) hs
  intro H enc w base spare held fuel cs dat ps hh
  obtain ⟨x, k1, k2, k3⟩ := hi hh
  exact ⟨x, k1, k2, Nat.le_trans (by simp only [BP]; omega) k3⟩
theorem edit_flds : ∃ a b c d : Field, (∃ fs : Array Field, Try.prog.underlying 32 = some (.struct fs) ∧ fs.toList = [a, b, c, d]) ∧ (a.offset = 0 ∧ b.offset = 1 ∧ c.offset = 2 ∧ d.offset = 3) ∧
    Try.prog.underlying a.type = some (.slice 3) ∧ Try.prog.underlying b.type = some (.slice 36) ∧ Try.prog.underlying c.type = some (.int .i64) ∧ Try.prog.underlying d.type = some (.int .i64) ∧ Try.prog.cellsOf a.type = 1 ∧ Try.prog.cellsOf b.type = 1 ∧ Try.prog.cellsOf c.type = 1 ∧ Try.prog.cellsOf d.type = 1 :=
  ⟨_, _, _, _, ⟨_, Try.underlying32, rfl⟩, ⟨rfl, rfl, rfl, rfl⟩, by kernel_rfl, by kernel_rfl, by kernel_rfl, by kernel_rfl, by kernel_rfl, by kernel_rfl, by kernel_rfl, by kernel_rfl⟩
def BE (x : SE) : Nat := (x.f0.map fun _ => 1).sum + 1 + ((x.f1.map BP).sum + 1)
theorem edit_rdg : Rdg Try.prog 32 k32 OkE BE := by
  obtain ⟨a, b, c, d, ⟨fs, h0, hfs⟩, ⟨oa, ob, oc, od⟩, ua, ub, uc, ud, sa, sb, sc, sd⟩ := edit_flds
  have ha : Rdg Try.prog a.type (Kd.slice 3 (Kd.int .i64)) (fun xs => xs.length ≤ maxLen ∧ ∀ x ∈ xs, (Lit.int .i64 x).wf = true) (fun xs => (xs.map fun _ => 1).sum + 1) := Rdg.slice ua (by kernel_rfl) (Rdg.int Try.underlying3)
  have hb : Rdg Try.prog b.type (Kd.slice 36 k36) (fun xs => xs.length ≤ maxLen ∧ ∀ x ∈ xs, OkP x) (fun xs => (xs.map BP).sum + 1) := Rdg.slice ub (by kernel_rfl) part_rdg
  have hc : Rdg Try.prog c.type (Kd.int .i64) (fun x => (Lit.int .i64 x).wf = true) (fun _ => 1) := Rdg.int uc
  have hd : Rdg Try.prog d.type (Kd.int .i64) (fun x => (Lit.int .i64 x).wf = true) (fun _ => 1) := Rdg.int ud
  have f4 : RdgF Try.prog 3 [d] (Kd.int .i64) (fun x => (Lit.int .i64 x).wf = true) (fun _ => 1) := RdgF.one od sd hd
  have f3 : RdgF Try.prog 2 [c, d] (Kd.pair (Kd.int .i64) (Kd.int .i64)) (fun x => (Lit.int .i64 x.1).wf = true ∧ (Lit.int .i64 x.2).wf = true) (fun x => 1 + 1) := RdgF.cons oc sc hc f4
  have f2 : RdgF Try.prog 1 [b, c, d] (Kd.pair (Kd.slice 36 k36) (Kd.pair (Kd.int .i64) (Kd.int .i64))) (fun x => (x.1.length ≤ maxLen ∧ ∀ y ∈ x.1, OkP y) ∧ (Lit.int .i64 x.2.1).wf = true ∧ (Lit.int .i64 x.2.2).wf = true) (fun x => ((x.1.map BP).sum + 1) + (1 + 1)) := RdgF.cons ob sb hb f3
  have f1 : RdgF Try.prog 0 [a, b, c, d] (Kd.pair (Kd.slice 3 (Kd.int .i64)) (Kd.pair (Kd.slice 36 k36) (Kd.pair (Kd.int .i64) (Kd.int .i64)))) (fun x => (x.1.length ≤ maxLen ∧ ∀ y ∈ x.1, (Lit.int .i64 y).wf = true) ∧ (x.2.1.length ≤ maxLen ∧ ∀ y ∈ x.2.1, OkP y) ∧ (Lit.int .i64 x.2.2.1).wf = true ∧ (Lit.int .i64 x.2.2.2).wf = true) (fun x => ((x.1.map fun _ => 1).sum + 1) + (((x.2.1.map BP).sum + 1) + (1 + 1))) := RdgF.cons oa sa ha f2
  rw [← hfs] at f1
  have hs : Rdg Try.prog 32 (Kd.pair (Kd.slice 3 (Kd.int .i64)) (Kd.pair (Kd.slice 36 k36) (Kd.pair (Kd.int .i64) (Kd.int .i64)))) (fun x => (x.1.length ≤ maxLen ∧ ∀ y ∈ x.1, (Lit.int .i64 y).wf = true) ∧ (x.2.1.length ≤ maxLen ∧ ∀ y ∈ x.2.1, OkP y) ∧ (Lit.int .i64 x.2.2.1).wf = true ∧ (Lit.int .i64 x.2.2.2).wf = true) (fun x => ((x.1.map fun _ => 1).sum + 1) + (((x.2.1.map BP).sum + 1) + (1 + 1))) := Rdg.struct h0 (by kernel_rfl) f1
  have hi : Rdg Try.prog 32 k32 (fun x => (x.f0.length ≤ maxLen ∧ ∀ y ∈ x.f0, (Lit.int .i64 y).wf = true) ∧ (x.f1.length ≤ maxLen ∧ ∀ y ∈ x.f1, OkP y) ∧ (Lit.int .i64 x.f2).wf = true ∧ (Lit.int .i64 x.f3).wf = true) (fun x => ((x.f0.map fun _ => 1).sum + 1) + (((x.f1.map BP).sum + 1) + (1 + 1))) := Rdg.iso (f := fun x : SE => (x.f0, x.f1, x.f2, x.f3)) (fun p => ⟨p.1, p.2.1, p.2.2.1, p.2.2.2⟩) (fun _ => rfl) hs
  intro H enc w base spare held fuel cs dat ps hh
  obtain ⟨x, k1, k2, k3⟩ := hi hh
  exact ⟨x, k1, k2, Nat.le_trans (by simp only [BE]; omega) k3⟩
structure Inv (s : List SP) (sf sn : Int) (n : Nat) : Prop where
  wf : wfP s = true
  nd : (idsOf s).Nodup
  lt : ∀ x ∈ idsOf s, x < sn
  len : s.length ≤ n
theorem Inv.nil (n : Nat) : Inv [] 0 0 n := ⟨rfl, List.nodup_nil, fun x hx => by simp [idsOf] at hx, Nat.zero_le _⟩
theorem addB_spec : ∀ (a : List SP) (ids : List Int) (nx : Int), addB nx ids a = true → ids.Nodup → (∀ x ∈ ids, x < nx) → (ids ++ idsOf a).Nodup ∧ ∀ x ∈ ids ++ idsOf a, x < nx
  | [], ids, nx, _, hn, hl => by simpa [idsOf] using ⟨hn, hl⟩
  | p :: a, ids, nx, h, hn, hl => by
    unfold addB at h
    simp only [Bool.and_eq_true, Bool.not_eq_true', decide_eq_false_iff_not] at h
    obtain ⟨h1, h2, h3⟩ := h
    have h2' : ¬ p.f0 ∈ ids := by simpa using h2
    have hl' : ∀ x ∈ ids ++ [p.f0], x < nx := fun x hx => by
      rcases List.mem_append.mp hx with h | h
      · exact hl x h
      · rw [List.mem_singleton] at h; omega
    have := addB_spec a (ids ++ [p.f0]) nx h3 (List.nodup_append.mpr ⟨hn, by simp, fun x hx y hy e => by rw [List.mem_singleton] at hy; subst hy; subst e; exact h2' hx⟩) hl'
    rw [List.append_assoc] at this
    exact this
theorem kept_sub (s : List SP) (d : List Int) : (idsOf (keptL s d)).Sublist (idsOf s) := List.Sublist.map _ List.filter_sublist
theorem apply_ok {s : List SP} {sf sn : Int} {d : List Int} {a : List SP} {fl nx : Int} {r : List SP} {rf rn : Int} (h : applyL s sf sn d a fl nx = (r, rf, rn, 0)) :
    rightB d a fl nx = true ∧ sf ≤ fl ∧ sn ≤ nx ∧ d.all (goodD s d) = true ∧ addB nx (idsOf (keptL s d)) a = true ∧ r = keptL s d ++ a ∧ rf = fl ∧ rn = nx := by
  unfold applyL at h
  split at h
  · rename_i hc
    simp only [Bool.and_eq_true, decide_eq_true_eq] at hc
    simp only [Prod.mk.injEq] at h
    exact ⟨hc.1, hc.2.1, hc.2.2.1, hc.2.2.2.1, hc.2.2.2.2, h.1.symm, h.2.1.symm, h.2.2.1.symm⟩
  · simp only [Prod.mk.injEq] at h
    exact absurd h.2.2.2 (by decide)
theorem Inv.step {s : List SP} {sf sn : Int} {n : Nat} (hI : Inv s sf sn n) {d : List Int} {a : List SP} {fl nx : Int} {r : List SP} {rf rn : Int} (h : applyL s sf sn d a fl nx = (r, rf, rn, 0)) : Inv r rf rn (n + 1000) ∧ sf ≤ rf ∧ sn ≤ rn := by
  obtain ⟨h1, h2, h3, h4, h5, rfl, rfl, rfl⟩ := apply_ok h
  obtain ⟨q1, q2, q3, q4, q5, q6⟩ := right_d h1
  have hs := kept_sub s d
  have ha := addB_spec a _ _ h5 (hs.nodup hI.nd) (fun x hx => by have := hI.lt x (hs.subset hx); omega)
  refine ⟨⟨?_, ?_, ?_, ?_⟩, h2, h3⟩
  · unfold wfP
    rw [List.all_append, Bool.and_eq_true]
    refine ⟨?_, List.all_eq_true.mpr (fun p hp => wf_of (by have := q4 p hp; omega) (by have := q4 p hp; omega))⟩
    have := hI.wf
    unfold wfP at this
    rw [List.all_eq_true] at this ⊢
    exact fun p hp => this p (List.mem_filter.mp hp).1
  · rw [idsOf_app]; exact ha.1
  · rw [idsOf_app]; exact ha.2
  · have h6 : (keptL s d).length ≤ s.length := List.length_filter_le _ _
    have := hI.len
    rw [List.length_append]; omega
end Go.Proofs.Ytagokgijffpdnaa.G
