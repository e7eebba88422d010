import Derived.Test.YtpbeppmldckjlaaZE3s
import Derived.Test.YtpbeppmldckjlaaZG8
import Derived.Test.YtpbeppmldckjlaaZQR
namespace Go.Proofs.Ytpbeppmldckjlaa.G
open Go.RowKit Go.Proofs.YtpbeppmldckjlaaQ Go.Proofs.YtpbeppmldckjlaaW.PrintWords Go.Proofs.YtpbeppmldckjlaaW.PrintLast Go.Proofs.YtpbeppmldckjlaaW.PrintMore
set_option linter.unusedVariables false
set_option linter.unusedSimpArgs false
abbrev SD := S26
def OkV (v : SV) : Prop := i64 v.f1
def OkD (x : SD) : Prop := x.f1.length ≤ maxLen ∧ ∀ v ∈ x.f1, OkV v
theorem wf_i64 {x : Int} (h : (Lit.int .i64 x).wf = true) : i64 x := by have := bounds_i64 h; unfold i64; omega
theorem col_flds : ∃ a b : Field, (∃ fs : Array Field, Try.prog.underlying 39 = some (.struct fs) ∧ fs.toList = [a, b]) ∧ (a.offset = 0 ∧ b.offset = 1) ∧
    Try.prog.underlying a.type = some (.int .i64) ∧ Try.prog.underlying b.type = some .bool ∧ Try.prog.cellsOf a.type = 1 ∧ Try.prog.cellsOf b.type = 1 :=
  ⟨_, _, ⟨_, Try.underlying39, rfl⟩, ⟨rfl, rfl⟩, by kernel_rfl, by kernel_rfl, by kernel_rfl, by kernel_rfl⟩
theorem col_rdg : Rdg Try.prog 39 k39 (fun _ => True) (fun _ => 0) := by
  obtain ⟨a, b, ⟨fs, h0, hfs⟩, ⟨oa, ob⟩, ua, ub, sa, sb⟩ := col_flds
  have ha : Rdg Try.prog a.type (Kd.int .i64) (fun x => (Lit.int .i64 x).wf = true) (fun _ => 1) := Rdg.int ua
  have hb : Rdg Try.prog b.type Kd.bool (fun _ => True) (fun _ => 1) := Rdg.bool ub
  have f2 : RdgF Try.prog 1 [b] Kd.bool (fun _ => True) (fun _ => 1) := RdgF.one ob sb hb
  have f1 : RdgF Try.prog 0 [a, b] (Kd.pair (Kd.int .i64) Kd.bool) (fun x => (Lit.int .i64 x.1).wf = true ∧ True) (fun x => 1 + 1) := RdgF.cons oa sa ha f2
  rw [← hfs] at f1
  have hs : Rdg Try.prog 39 (Kd.pair (Kd.int .i64) Kd.bool) (fun x => (Lit.int .i64 x.1).wf = true ∧ True) (fun x => 1 + 1) := Rdg.struct h0 (by kernel_rfl) f1
  have hi : Rdg Try.prog 39 k39 (fun x => (Lit.int .i64 x.f0).wf = true ∧ True) (fun x => 1 + 1) := Rdg.iso (f := fun x : SC => (x.f0, x.f1)) (fun p => ⟨p.1, p.2⟩) (fun _ => rfl) hs
  intro H enc w base spare held fuel cs dat ps hh
  obtain ⟨x, k1, k2, k3⟩ := hi hh
  exact ⟨x, k1, trivial, Nat.zero_le _⟩
theorem val_flds : ∃ a b c : Field, (∃ fs : Array Field, Try.prog.underlying 43 = some (.struct fs) ∧ fs.toList = [a, b, c]) ∧ (a.offset = 0 ∧ b.offset = 1 ∧ c.offset = 2) ∧
    Try.prog.underlying a.type = some .bool ∧ Try.prog.underlying b.type = some (.int .i64) ∧ Try.prog.underlying c.type = some .string ∧ Try.prog.cellsOf a.type = 1 ∧ Try.prog.cellsOf b.type = 1 ∧ Try.prog.cellsOf c.type = 1 :=
  ⟨_, _, _, ⟨_, Try.underlying43, rfl⟩, ⟨rfl, rfl, rfl⟩, by kernel_rfl, by kernel_rfl, by kernel_rfl, by kernel_rfl, by kernel_rfl, by kernel_rfl⟩
theorem val_rdg : Rdg Try.prog 43 k43 OkV (fun _ => 0) := by
  obtain ⟨a, b, c, ⟨fs, h0, hfs⟩, ⟨oa, ob, oc⟩, ua, ub, uc, sa, sb, sc⟩ := val_flds
  have ha : Rdg Try.prog a.type Kd.bool (fun _ => True) (fun _ => 1) := Rdg.bool ua
  have hb : Rdg Try.prog b.type (Kd.int .i64) (fun x => (Lit.int .i64 x).wf = true) (fun _ => 1) := Rdg.int ub
  have hc : Rdg Try.prog c.type Kd.string (fun s => s.size ≤ maxLen) (fun s => s.size + 1) := Rdg.string uc
  have f3 : RdgF Try.prog 2 [c] Kd.string (fun s => s.size ≤ maxLen) (fun s => s.size + 1) := RdgF.one oc sc hc
  have f2 : RdgF Try.prog 1 [b, c] (Kd.pair (Kd.int .i64) Kd.string) (fun x => (Lit.int .i64 x.1).wf = true ∧ x.2.size ≤ maxLen) (fun x => 1 + (x.2.size + 1)) := RdgF.cons ob sb hb f3
  have f1 : RdgF Try.prog 0 [a, b, c] (Kd.pair Kd.bool (Kd.pair (Kd.int .i64) Kd.string)) (fun x => True ∧ (Lit.int .i64 x.2.1).wf = true ∧ x.2.2.size ≤ maxLen) (fun x => 1 + (1 + (x.2.2.size + 1))) := RdgF.cons oa sa ha f2
  rw [← hfs] at f1
  have hs : Rdg Try.prog 43 (Kd.pair Kd.bool (Kd.pair (Kd.int .i64) Kd.string)) (fun x => True ∧ (Lit.int .i64 x.2.1).wf = true ∧ x.2.2.size ≤ maxLen) (fun x => 1 + (1 + (x.2.2.size + 1))) := Rdg.struct h0 (by kernel_rfl) f1
  have hi : Rdg Try.prog 43 k43 (fun x => True ∧ (Lit.int .i64 x.f1).wf = true ∧ x.f2.size ≤ maxLen) (fun x => 1 + (1 + (x.f2.size + 1))) := Rdg.iso (f := fun x : SV => (x.f0, x.f1, x.f2)) (fun p => ⟨p.1, p.2.1, p.2.2⟩) (fun _ => rfl) hs
  intro H enc w base spare held fuel cs dat ps hh
  obtain ⟨x, k1, k2, k3⟩ := hi hh
  exact ⟨x, k1, wf_i64 k2.2.1, Nat.zero_le _⟩
theorem deed_flds : ∃ a b : Field, (∃ fs : Array Field, Try.prog.underlying 26 = some (.struct fs) ∧ fs.toList = [a, b]) ∧ (a.offset = 0 ∧ b.offset = 1) ∧
    Try.prog.underlying a.type = some .bool ∧ Try.prog.underlying b.type = some (.slice 43) ∧ Try.prog.cellsOf a.type = 1 ∧ Try.prog.cellsOf b.type = 1 :=
  ⟨_, _, ⟨_, Try.underlying26, rfl⟩, ⟨rfl, rfl⟩, by kernel_rfl, by kernel_rfl, by kernel_rfl, by kernel_rfl⟩
theorem deed_rdg : Rdg Try.prog 26 k26 OkD (fun _ => 0) := by
  obtain ⟨a, b, ⟨fs, h0, hfs⟩, ⟨oa, ob⟩, ua, ub, sa, sb⟩ := deed_flds
  have ha : Rdg Try.prog a.type Kd.bool (fun _ => True) (fun _ => 1) := Rdg.bool ua
  have hb : Rdg Try.prog b.type (Kd.slice 43 k43) (fun xs => xs.length ≤ maxLen ∧ ∀ x ∈ xs, OkV x) (fun xs => (xs.map (fun _ => 0)).sum + 1) := Rdg.slice ub (by kernel_rfl) val_rdg
  have f2 : RdgF Try.prog 1 [b] (Kd.slice 43 k43) (fun xs => xs.length ≤ maxLen ∧ ∀ x ∈ xs, OkV x) (fun xs => (xs.map (fun _ => 0)).sum + 1) := RdgF.one ob sb hb
  have f1 : RdgF Try.prog 0 [a, b] (Kd.pair Kd.bool (Kd.slice 43 k43)) (fun x => True ∧ (x.2.length ≤ maxLen ∧ ∀ y ∈ x.2, OkV y)) (fun x => 1 + ((x.2.map (fun _ => 0)).sum + 1)) := RdgF.cons oa sa ha f2
  rw [← hfs] at f1
  have hs : Rdg Try.prog 26 (Kd.pair Kd.bool (Kd.slice 43 k43)) (fun x => True ∧ (x.2.length ≤ maxLen ∧ ∀ y ∈ x.2, OkV y)) (fun x => 1 + ((x.2.map (fun _ => 0)).sum + 1)) := Rdg.struct h0 (by kernel_rfl) f1
  have hi : Rdg Try.prog 26 k26 (fun x => True ∧ (x.f1.length ≤ maxLen ∧ ∀ y ∈ x.f1, OkV y)) (fun x => 1 + ((x.f1.map (fun _ => 0)).sum + 1)) := Rdg.iso (f := fun x : SD => (x.f0, x.f1)) (fun p => ⟨p.1, p.2⟩) (fun _ => rfl) hs
  intro H enc w base spare held fuel cs dat ps hh
  obtain ⟨x, k1, k2, k3⟩ := hi hh
  exact ⟨x, k1, k2.2, Nat.zero_le _⟩
theorem lives_W : writeE [(⟨1, false⟩ : SC), (⟨2, true⟩ : SC)] false [(⟨false, 3, (⟨#[]⟩ : ByteArray)⟩ : SV), (⟨true, 0, (⟨#[]⟩ : ByteArray)⟩ : SV)] = (⟨#[0, 6, 1]⟩, 0) := by kernel_rfl
theorem lives_R : deeds_Read.f [(⟨1, false⟩ : SC), (⟨2, true⟩ : SC)] (⟨#[1, 6]⟩ : ByteArray) = some (true, [(⟨false, 3, (⟨#[]⟩ : ByteArray)⟩ : SV)], 0) := by kernel_rfl
theorem lives_B : (⟨#[0, 6, 1]⟩ : ByteArray).toList = ([0, 6, 1] : List UInt8) := by kernel_rfl
theorem lives_f {k : Nat} (hk : 20 ≤ k) : tithebarnlaw07_lives.f k = some true := by
  unfold tithebarnlaw07_lives.f tithebarnlaw07_Schema.f
  simp only [Option.bind_some]
  rw [Write_f hk _ _ _ (by simp [i64]), lives_W, lives_R]
  simp only [Option.bind_some]
  rw [if_pos trivial, if_pos lives_B, if_pos trivial, if_pos trivial, if_pos (by decide), if_pos (by decide), if_pos (show (rd_T43 [(⟨false, 3, (⟨#[]⟩ : ByteArray)⟩ : SV)] 0).f1 = 3 from rfl), Same_f _ _ _ _ (by decide) (by simp; omega)]
  have : sameB true [(⟨false, 3, (⟨#[]⟩ : ByteArray)⟩ : SV)] true [(⟨false, 3, (⟨#[]⟩ : ByteArray)⟩ : SV)] = true := (sameB_iff _ _ _ _).mpr ⟨rfl, rfl⟩
  rw [this]; rfl
end Go.Proofs.Ytpbeppmldckjlaa.G
