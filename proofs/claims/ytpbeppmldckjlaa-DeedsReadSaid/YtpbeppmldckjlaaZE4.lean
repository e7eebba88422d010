import Derived.Test.YtpbeppmldckjlaaZE3s
import Derived.Test.YtpbeppmldckjlaaZG8
import Derived.Test.YtpbeppmldckjlaaZQR
namespace Go.Proofs.Ytpbeppmldckjlaa.G
open Go.RowKit Go.Proofs.YtpbeppmldckjlaaQ Go.Proofs.YtpbeppmldckjlaaW.PrintWords Go.Proofs.YtpbeppmldckjlaaW.PrintLast Go.Proofs.YtpbeppmldckjlaaW.PrintMore
set_option linter.unusedVariables false
set_option linter.unusedSimpArgs false
theorem col_flds : ∃ a b : Field, (∃ fs : Array Field, Try.prog.underlying 39 = some (.struct fs) ∧ fs.toList = [a, b]) ∧ (a.offset = 0 ∧ b.offset = 1) ∧
    Try.prog.underlying a.type = some (.int .i64) ∧ Try.prog.underlying b.type = some .bool ∧ Try.prog.cellsOf a.type = 1 ∧ Try.prog.cellsOf b.type = 1 :=
  ⟨_, _, ⟨_, Try.underlying39, rfl⟩, ⟨rfl, rfl⟩, by kernel_rfl, by kernel_rfl, by kernel_rfl, by kernel_rfl⟩
theorem col_rdg : Rdg Try.prog 39 k39 (fun _ => True) (fun _ => 0) := by
  obtain ⟨a, b, ⟨fs, h0, hfs⟩, ⟨oa, ob⟩, ua, ub, sa, sb⟩ := col_flds
  have ha : Rdg Try.prog a.type (Kd.int .i64) (fun x => (Lit.int .i64 x).wf = true) (fun _ => 1) := Rdg.int ua
  have hb : Rdg Try.prog b.type Kd.bool (fun _ => True) (fun _ => 1) := Rdg.bool ub
  have f2 : RdgF Try.prog 1 [b] Kd.bool (fun _ => True) (fun _ => 1) := RdgF.one ob sb hb
  have f1 : RdgF Try.prog 0 [a, b] (Kd.pair (Kd.int .i64) Kd.bool) (fun x => (Lit.int .i64 x.1).wf = true ∧ True) (fun x => 1 + 1) := RdgF.cons oa sa ha f2
  rw [← hfs] at f1
  have hs : Rdg Try.prog 39 (Kd.pair (Kd.int .i64) Kd.bool) (fun x => (Lit.int .i64 x.1).wf = true ∧ True) (fun x => 1 + 1) := Rdg.struct h0 (by kernel_rfl) f1
  have hi : Rdg Try.prog 39 k39 (fun x => (Lit.int .i64 x.f0).wf = true ∧ True) (fun x => 1 + 1) := Rdg.iso (f := fun x : SC => (x.f0, x.f1)) (fun p => ⟨p.1, p.2⟩) (fun _ => rfl) hs
  intro H enc w base spare held fuel cs dat ps hh
  obtain ⟨x, k1, k2, k3⟩ := hi hh
  exact ⟨x, k1, trivial, Nat.zero_le _⟩
theorem lives_W : writeE [(⟨1, false⟩ : SC), (⟨2, true⟩ : SC)] false [(⟨false, 3, (⟨#[]⟩ : ByteArray)⟩ : SV), (⟨true, 0, (⟨#[]⟩ : ByteArray)⟩ : SV)] = (⟨#[0, 6, 1]⟩, 0) := by kernel_rfl
theorem lives_R : deeds_Read.f [(⟨1, false⟩ : SC), (⟨2, true⟩ : SC)] (⟨#[1, 6]⟩ : ByteArray) = some (true, [(⟨false, 3, (⟨#[]⟩ : ByteArray)⟩ : SV)], 0) := by kernel_rfl
theorem lives_B : (⟨#[0, 6, 1]⟩ : ByteArray).toList = ([0, 6, 1] : List UInt8) := by kernel_rfl
theorem lives_f {k : Nat} (hk : 20 ≤ k) : tithebarnlaw07_lives.f k = some true := by
  unfold tithebarnlaw07_lives.f tithebarnlaw07_Schema.f
  simp only [Option.bind_some]
  rw [Write_f hk _ _ _ (by simp [i64]), lives_W, lives_R]
  simp only [Option.bind_some]
  rw [if_pos trivial, if_pos lives_B, if_pos trivial, if_pos trivial, if_pos (by decide), if_pos (by decide), if_pos (show (rd_T43 [(⟨false, 3, (⟨#[]⟩ : ByteArray)⟩ : SV)] 0).f1 = 3 from rfl), Same_f _ _ _ _ (by decide) (by simp; omega)]
  have : sameB true [(⟨false, 3, (⟨#[]⟩ : ByteArray)⟩ : SV)] true [(⟨false, 3, (⟨#[]⟩ : ByteArray)⟩ : SV)] = true := (sameB_iff _ _ _ _).mpr ⟨rfl, rfl⟩
  rw [this]; rfl
end Go.Proofs.Ytpbeppmldckjlaa.G
