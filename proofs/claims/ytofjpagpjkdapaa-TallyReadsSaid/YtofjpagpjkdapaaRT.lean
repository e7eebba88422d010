import Derived.Test.YtofjpagpjkdapaaQR
import Derived.Test.YtofjpagpjkdapaaH2
/-! Things of layer 1's laws: how they read. -/
namespace Go.Proofs.Ytofjpagpjkdapaa.G
open Go.RowKit Go.Proofs.YtofjpagpjkdapaaQ Go.Proofs.YtofjpagpjkdapaaW.PrintWords Go.Proofs.YtofjpagpjkdapaaW.PrintLast Go.Proofs.YtofjpagpjkdapaaW.PrintMore
def OkT (x : ST) : Prop := i64 x.f0 ∧ i64 x.f1
def BT (x : ST) : Nat := x.f2.size + 3
theorem wf_i64 {x : Int} (h : (Lit.int .i64 x).wf = true) : i64 x := by have := bounds_i64 h; unfold i64; omega
theorem thing_flds : ∃ a b c : Field, (∃ fs : Array Field, Try.prog.underlying 48 = some (.struct fs) ∧ fs.toList = [a, b, c]) ∧ (a.offset = 0 ∧ b.offset = 1 ∧ c.offset = 2) ∧
    Try.prog.underlying a.type = some (.int .i64) ∧ Try.prog.underlying b.type = some (.int .i64) ∧ Try.prog.underlying c.type = some .string ∧ Try.prog.cellsOf a.type = 1 ∧ Try.prog.cellsOf b.type = 1 ∧ Try.prog.cellsOf c.type = 1 :=
  ⟨_, _, _, ⟨_, Try.underlying48, rfl⟩, ⟨rfl, rfl, rfl⟩, by kernel_rfl, by kernel_rfl, by kernel_rfl, by kernel_rfl, by kernel_rfl, by kernel_rfl⟩
theorem thing_rdg : Rdg Try.prog 48 kT OkT BT := by
  obtain ⟨a, b, c, ⟨fs, h0, hfs⟩, ⟨oa, ob, oc⟩, ua, ub, uc, sa, sb, sc⟩ := thing_flds
  have ha : Rdg Try.prog a.type (Kd.int .i64) (fun x => (Lit.int .i64 x).wf = true) (fun _ => 1) := Rdg.int ua
  have hb : Rdg Try.prog b.type (Kd.int .i64) (fun x => (Lit.int .i64 x).wf = true) (fun _ => 1) := Rdg.int ub
  have hc : Rdg Try.prog c.type Kd.string (fun s => s.size ≤ maxLen) (fun s => s.size + 1) := Rdg.string uc
  have f3 : RdgF Try.prog 2 [c] Kd.string (fun s => s.size ≤ maxLen) (fun s => s.size + 1) := RdgF.one oc sc hc
  have f2 : RdgF Try.prog 1 [b, c] (Kd.pair (Kd.int .i64) Kd.string) (fun x => (Lit.int .i64 x.1).wf = true ∧ x.2.size ≤ maxLen) (fun x => 1 + (x.2.size + 1)) := RdgF.cons ob sb hb f3
  have f1 : RdgF Try.prog 0 [a, b, c] (Kd.pair (Kd.int .i64) (Kd.pair (Kd.int .i64) Kd.string)) (fun x => (Lit.int .i64 x.1).wf = true ∧ (Lit.int .i64 x.2.1).wf = true ∧ x.2.2.size ≤ maxLen) (fun x => 1 + (1 + (x.2.2.size + 1))) := RdgF.cons oa sa ha f2
  rw [← hfs] at f1
  have hs : Rdg Try.prog 48 (Kd.pair (Kd.int .i64) (Kd.pair (Kd.int .i64) Kd.string)) (fun x => (Lit.int .i64 x.1).wf = true ∧ (Lit.int .i64 x.2.1).wf = true ∧ x.2.2.size ≤ maxLen) (fun x => 1 + (1 + (x.2.2.size + 1))) := Rdg.struct h0 (by kernel_rfl) f1
  have hi : Rdg Try.prog 48 kT (fun x => (Lit.int .i64 x.f0).wf = true ∧ (Lit.int .i64 x.f1).wf = true ∧ x.f2.size ≤ maxLen) (fun x => 1 + (1 + (x.f2.size + 1))) := Rdg.iso (f := fun x : ST => (x.f0, x.f1, x.f2)) (fun p => ⟨p.1, p.2.1, p.2.2⟩) (fun _ => rfl) hs
  intro H enc w base spare held fuel cs dat ps hh
  obtain ⟨x, k1, k2, k3⟩ := hi hh
  refine ⟨x, k1, ⟨wf_i64 k2.1, wf_i64 k2.2.1⟩, Nat.le_trans ?_ k3⟩
  simp only [BT]; omega
theorem BT_len (l : List ST) : 3 * l.length ≤ (l.map BT).sum := by
  induction l with
  | nil => simp
  | cons x l ih => simp only [List.map_cons, List.sum_cons, List.length_cons, BT] at *; omega
theorem BT_mem {l : List ST} {x : ST} (h : x ∈ l) : x.f2.size + 3 ≤ (l.map BT).sum := by
  induction l with
  | nil => simp at h
  | cons y l ih =>
    simp only [List.map_cons, List.sum_cons]
    rcases List.mem_cons.1 h with rfl | h
    · simp only [BT]; omega
    · have := ih h; omega
end Go.Proofs.Ytofjpagpjkdapaa.G
