import Derived.Test.YtagokgijffpdnaaZMRWr
import Derived.Test.YtagokgijffpdnaaZMApply
import Derived.Test.YtagokgijffpdnaaZMSame
import Derived.Test.YtagokgijffpdnaaZMLives
import Derived.Test.YtagokgijffpdnaaZG17
namespace Go.Proofs.Ytagokgijffpdnaa.G
open Go.RowKit Go.Proofs.YtagokgijffpdnaaQ Go.Proofs.YtagokgijffpdnaaW.PrintWords Go.Proofs.YtagokgijffpdnaaW.PrintLast Go.Proofs.YtagokgijffpdnaaW.PrintMore
set_option linter.unusedVariables false
set_option linter.unusedSimpArgs false
abbrev SS := S26
def OkS (x : SS) : Prop := (x.f0.length ≤ maxLen ∧ ∀ y ∈ x.f0, OkP y) ∧ (Lit.int .i64 x.f1).wf = true ∧ (Lit.int .i64 x.f2).wf = true
def BS (x : SS) : Nat := (x.f0.map BP).sum + 1
theorem state_flds : ∃ b c d : Field, (∃ fs : Array Field, Try.prog.underlying 26 = some (.struct fs) ∧ fs.toList = [b, c, d]) ∧ (b.offset = 0 ∧ c.offset = 1 ∧ d.offset = 2) ∧
    Try.prog.underlying b.type = some (.slice 36) ∧ Try.prog.underlying c.type = some (.int .i64) ∧ Try.prog.underlying d.type = some (.int .i64) ∧ Try.prog.cellsOf b.type = 1 ∧ Try.prog.cellsOf c.type = 1 ∧ Try.prog.cellsOf d.type = 1 :=
  ⟨_, _, _, ⟨_, Try.underlying26, rfl⟩, ⟨rfl, rfl, rfl⟩, by kernel_rfl, by kernel_rfl, by kernel_rfl, by kernel_rfl, by kernel_rfl, by kernel_rfl⟩
theorem state_rdg : Rdg Try.prog 26 k26 OkS BS := by
  obtain ⟨b, c, d, ⟨fs, h0, hfs⟩, ⟨ob, oc, od⟩, ub, uc, ud, sb, sc, sd⟩ := state_flds
  have hb : Rdg Try.prog b.type (Kd.slice 36 k36) (fun xs => xs.length ≤ maxLen ∧ ∀ x ∈ xs, OkP x) (fun xs => (xs.map BP).sum + 1) := Rdg.slice ub (by kernel_rfl) part_rdg
  have hc : Rdg Try.prog c.type (Kd.int .i64) (fun x => (Lit.int .i64 x).wf = true) (fun _ => 1) := Rdg.int uc
  have hd : Rdg Try.prog d.type (Kd.int .i64) (fun x => (Lit.int .i64 x).wf = true) (fun _ => 1) := Rdg.int ud
  have f3 : RdgF Try.prog 2 [d] (Kd.int .i64) (fun x => (Lit.int .i64 x).wf = true) (fun _ => 1) := RdgF.one od sd hd
  have f2 : RdgF Try.prog 1 [c, d] (Kd.pair (Kd.int .i64) (Kd.int .i64)) (fun x => (Lit.int .i64 x.1).wf = true ∧ (Lit.int .i64 x.2).wf = true) (fun x => 1 + 1) := RdgF.cons oc sc hc f3
  have f1 : RdgF Try.prog 0 [b, c, d] (Kd.pair (Kd.slice 36 k36) (Kd.pair (Kd.int .i64) (Kd.int .i64))) (fun x => (x.1.length ≤ maxLen ∧ ∀ y ∈ x.1, OkP y) ∧ (Lit.int .i64 x.2.1).wf = true ∧ (Lit.int .i64 x.2.2).wf = true) (fun x => ((x.1.map BP).sum + 1) + (1 + 1)) := RdgF.cons ob sb hb f2
  rw [← hfs] at f1
  have hs : Rdg Try.prog 26 (Kd.pair (Kd.slice 36 k36) (Kd.pair (Kd.int .i64) (Kd.int .i64))) (fun x => (x.1.length ≤ maxLen ∧ ∀ y ∈ x.1, OkP y) ∧ (Lit.int .i64 x.2.1).wf = true ∧ (Lit.int .i64 x.2.2).wf = true) (fun x => ((x.1.map BP).sum + 1) + (1 + 1)) := Rdg.struct h0 (by kernel_rfl) f1
  have hi : Rdg Try.prog 26 k26 (fun x => (x.f0.length ≤ maxLen ∧ ∀ y ∈ x.f0, OkP y) ∧ (Lit.int .i64 x.f1).wf = true ∧ (Lit.int .i64 x.f2).wf = true) (fun x => ((x.f0.map BP).sum + 1) + (1 + 1)) := Rdg.iso (f := fun x : SS => (x.f0, x.f1, x.f2)) (fun p => ⟨p.1, p.2.1, p.2.2⟩) (fun _ => rfl) hs
  intro H enc w base spare held fuel cs dat ps hh
  obtain ⟨x, k1, k2, k3⟩ := hi hh
  exact ⟨x, k1, k2, Nat.le_trans (by simp only [BS]; omega) k3⟩
theorem BP_len (l : List SP) : l.length ≤ (l.map BP).sum := by
  induction l with
  | nil => simp
  | cons p l ih => rw [List.map_cons, List.sum_cons, List.length_cons]; unfold BP at *; omega
theorem Writes_f (s : List SP) (sf sn : Int) (d : List Int) (a : List SP) (fl nx : Int) (hs : s.length ≤ 1048576) (hw : wfP s = true) (hok : ∀ p ∈ a, OkP p) : tithebarnlaw16_ManifestWrites.f 3000000000000 s sf sn d a fl nx = some true := by
  unfold tithebarnlaw16_ManifestWrites.f
  rw [if_pos]
  unfold tithebarnlaw16_ManifestWrites.g
  have hA : manifest_Apply.f s sf sn d a fl nx = some (applyL s sf sn d a fl nx) := by
    unfold manifest_Apply.f; rw [if_pos ⟨hw, by omega⟩]
  rw [lives_f (by decide), Option.bind_some, if_pos rfl, Write_is d a fl nx hok (by decide), Option.bind_some, rWrite_is d a fl nx hok (by decide), Option.bind_some, hA, Option.bind_some, rApply_f s sf sn d a fl nx (by omega) (by decide), Option.bind_some]
  rw [if_pos rfl, if_pos rfl, if_pos rfl]
  have hl : (applyL s sf sn d a fl nx).1.length ≤ 1050000 := by
    unfold applyL
    split
    · rename_i h
      simp only [Bool.and_eq_true] at h
      obtain ⟨q1, q2, -⟩ := right_d h.1
      have h6 : (keptL s d).length ≤ s.length := List.length_filter_le _ _
      rw [List.length_append]; omega
    · simp
  rw [Same_self (Nat.le_trans hl (by decide)) (Nat.lt_of_le_of_lt (Nat.add_le_add_right hl 1) (by decide))]
  rfl
theorem ManifestWrites.law (cs : Array Value) (x : SS) (cs2 : Array Value) (y : SE) (w : World) (hk : k26.K w x cs.toList) (ok : OkS x) (hk2 : k32.K w y cs2.toList) (ok2 : OkE y) (hb : BS x + BE y ≤ 1048576) :
    Calls Try.prog 5 #[.agg cs, .agg cs2] w fun e w' => e = .returned (.bool true) ∧ Below w.heap.size w w' := by
  obtain ⟨A0, c0, hc, h1, h2⟩ := k26_open hk
  obtain rfl : cs = #[.slice A0 x.f0.length c0, .int .i64 x.f1, .int .i64 x.f2] := by cases cs; simp_all
  obtain ⟨A1, c1, A2, c2, hc2, h3, h4, h5, h6⟩ := k32_open hk2
  obtain rfl : cs2 = #[.slice A1 y.f0.length c1, .slice A2 y.f1.length c2, .int .i64 y.f2, .int .i64 y.f3] := by cases cs2; simp_all
  have hl := BP_len x.f0
  refine tithebarnlaw16_ManifestWrites.calls 3000000000000 A0 c0 x.f0 x.f1 x.f2 A1 c1 y.f0 A2 c2 y.f1 y.f2 y.f3 true w h2 h1 h4 h3 h6 h5 (Writes_f _ _ _ _ _ _ _ (by unfold BS at hb; omega) ?_ ok2.2.1.2)
  unfold wfP
  rw [List.all_eq_true]
  exact fun p hp => (ok.1.2 p hp).1
end Go.Proofs.Ytagokgijffpdnaa.G
