import Derived.Test.YtofjpagpjkdapaaR1r
import Derived.Test.YtofjpagpjkdapaaH1
import Derived.Deep.LoopGhost
/-! The things of layer 1's laws as rows that came in; the reference's cursor as contracts. -/
namespace Go.Proofs.Ytofjpagpjkdapaa.G
open Go.RowKit Go.Proofs.YtofjpagpjkdapaaQ Go.Proofs.YtofjpagpjkdapaaW.PrintWords Go.Proofs.YtofjpagpjkdapaaW.PrintLast Go.Proofs.YtofjpagpjkdapaaW.PrintMore
set_option linter.unusedVariables false
set_option linter.unusedSimpArgs false
structure ST where
  f0 : Int
  f1 : Int
  f2 : ByteArray
def zT : ST := ⟨0, 0, ⟨#[]⟩⟩
def kT : Kd ST := Kd.iso (Kd.pair (Kd.int .i64) (Kd.pair (Kd.int .i64) Kd.string)) (fun x : ST => (x.f0, x.f1, x.f2))
theorem kT_open {w : World} {x : ST} {cs : List Value} (h : kT.K w x cs) : cs = [.int .i64 x.f0, .int .i64 x.f1, .string x.f2] := by
  obtain ⟨_, _, rfl, rfl, ⟨_, _, rfl, rfl, rfl⟩⟩ := h
  exact rfl
def rdT (xs : List ST) (i : Nat) : ST := xs.getD i zT
theorem rdT_mem {xs : List ST} {i : Nat} (h : i < xs.length) : rdT xs i ∈ xs := by
  unfold rdT; rw [List.getD_eq_getElem?_getD, List.getElem?_eq_getElem h]; exact List.getElem_mem h
theorem at_T {w : World} {A : Option Addr} {n : Nat} {xs : List ST} (h : Kd.C kT w A n xs) (i : Nat) (h1 : i < n) : ∃ ad , A = some ad ∧ w.cell? (ad.add (i * 3)) = some (.int .i64 (rdT xs i).f0) ∧ w.cell? ⟨(ad.add (i * 3)).block, (ad.add (i * 3)).off + 1, none⟩ = some (.int .i64 (rdT xs i).f1) ∧ w.cell? ⟨(ad.add (i * 3)).block, (ad.add (i * 3)).off + 2, none⟩ = some (.string (rdT xs i).f2) := by
  obtain ⟨ad, c, e, _, hK, hc0⟩ := Kd.C_get h zT (i : Int) (by omega) (by omega)
  rw [Int.toNat_natCast] at hc0 hK
  have hc : ∀ j u, c[j]? = some u → w.cell? (ad.add (i * 3 + j)) = some u := hc0
  obtain rfl := kT_open hK
  exact ⟨ad, e, hc 0 _ rfl, by rw [← add_field _ _ 1 (by omega)]; exact hc 1 _ rfl, by rw [← add_field _ _ 2 (by omega)]; exact hc 2 _ rfl⟩
theorem T_cell {w w1 : World} {ad : Addr} {n : Nat} {xs : List ST} {x : ST} {i : Nat} (h : Kd.C kT w (some ad) n xs) (h1 : i < n) (hx : rdT xs i = x) (hb : Below w.heap.size w w1) :
    w1.cell? ⟨(ad.add (i * 3)).block, (ad.add (i * 3)).off + 1, none⟩ = some (.int .i64 x.f1) ∧ w1.cell? ⟨(ad.add (i * 3)).block, (ad.add (i * 3)).off + 2, none⟩ = some (.string x.f2) := by
  obtain ⟨ad', e, _, h2, h3⟩ := at_T (Kd.C_below h hb) i h1
  cases e
  subst hx
  exact ⟨h2, h3⟩
/-- A thing's kind. -/
def kdT (x : Int) : Int := IntKind.u64.wrap x % 4
theorem kdT_cases (x : Int) : kdT x = 0 ∨ kdT x = 1 ∨ kdT x = 2 ∨ kdT x = 3 := by unfold kdT; omega
theorem kind_any {w0 w : World} {x y q : Int} {s : ByteArray} (hB : Below w0.heap.size w0 w) (hq : kdT x = q) : Calls Try.prog 22 #[.agg #[.int .i64 x, .int .i64 y, .string s]] w fun en w' =>
    en = .returned (.int .i64 q) ∧ Below w0.heap.size w0 w' ∧ Below w.heap.size w w' := by
  refine (tithebarnlaw01_Thing_kind.calls x y s q w ?_).mono ?_
  · unfold tithebarnlaw01_Thing_kind.f
    have h : 0 ≤ IntKind.u64.wrap x := by rw [wu64_def]; omega
    rw [Int.tmod_eq_emod_of_nonneg h]
    subst hq
    unfold kdT
    rw [w64 (by omega) (by omega)]
  · rintro en w' ⟨rfl, hb⟩
    exact ⟨rfl, below_then hB hB.size hb, hb⟩
/-- The reference's cursor at block g: its text, where it stands, the first error. -/
def Ref (w0 w : World) (g : Nat) (S : ByteArray) (a : Nat) (e : Int) : Prop := IsS46 w0 w g S (a : Int) e ∧ a ≤ S.size ∧ S.size ≤ 4611686018427387904
theorem Ref.keep {w0 W W' : World} {g g' : Nat} {S : ByteArray} {a : Nat} {e : Int} (h : Ref w0 W g S a e) (hk : KeepBut W W' g' none) (hne : g ≠ g') : Ref w0 W' g S a e := by
  refine ⟨⟨?_, h.1.2⟩, h.2⟩
  rw [hk.2 g (Array.getElem?_eq_some_iff.1 h.1.1).1 hne (by simp)]
  exact h.1.1
theorem Ref.below {w0 W W' : World} {g : Nat} {S : ByteArray} {a : Nat} {e : Int} (h : Ref w0 W g S a e) (hb : Below W.heap.size W W') : Ref w0 W' g S a e := by
  refine ⟨⟨?_, h.1.2⟩, h.2⟩
  rw [hb.block g (Array.getElem?_eq_some_iff.1 h.1.1).1]
  exact h.1.1
theorem Ref.drew {w0 W : World} {g : Nat} {S : ByteArray} {a : Nat} {e : Int} (h : Ref w0 W g S a e) : Ref w0 W.drew g S a e := h
theorem Ref.cell2 {w0 W : World} {g : Nat} {S : ByteArray} {a : Nat} {e : Int} (h : Ref w0 W g S a e) : W.cell? ⟨g, 2, none⟩ = some (.int .i64 e) := by simp [World.cell?, h.1.1]
section
variable {w0 w : World} {g : Nat} {S : ByteArray} {a : Nat} {e : Int}
theorem ruint_any (hR : Ref w0 w g S a e) (hB : Below w0.heap.size w0 w) : Calls Try.prog 23 #[.pointer (some ⟨g, 0, none⟩)] w fun en w' =>
    en = .returned (.int .u64 (aUint ((bytesOf S).drop a) e).1) ∧ Ref w0 w' g S (a + pUint ((bytesOf S).drop a) e) (aUint ((bytesOf S).drop a) e).2.2 ∧ Below w0.heap.size w0 w' ∧ KeepBut w w' g none := by
  refine (tithebarnref01_Cursor_Uint.calls 30 g _ _ _ _ _ _ _ w0 w hR.1 hB (rcUint_f (Nat.le_refl _) S a e hR.2.1 hR.2.2)).mono ?_
  rintro en w' ⟨rfl, hI, hb, hk⟩
  have h1 := pUint_le ((bytesOf S).drop a) e
  rw [List.length_drop, bytesOf_size] at h1
  have := hR.2.1
  exact ⟨rfl, ⟨hI, by omega, hR.2.2⟩, hb, hk⟩
theorem rint_any (hR : Ref w0 w g S a e) (hB : Below w0.heap.size w0 w) : Calls Try.prog 25 #[.pointer (some ⟨g, 0, none⟩)] w fun en w' =>
    en = .returned (.int .i64 (aInt ((bytesOf S).drop a) e).1) ∧ Ref w0 w' g S (a + pUint ((bytesOf S).drop a) e) (aUint ((bytesOf S).drop a) e).2.2 ∧ Below w0.heap.size w0 w' ∧ KeepBut w w' g none := by
  refine (tithebarnref01_Cursor_Int.calls 30 g _ _ _ _ _ _ _ w0 w hR.1 hB (rcInt_f (Nat.le_refl _) S a e hR.2.1 hR.2.2)).mono ?_
  rintro en w' ⟨rfl, hI, hb, hk⟩
  have h1 := pUint_le ((bytesOf S).drop a) e
  rw [List.length_drop, bytesOf_size] at h1
  have := hR.2.1
  exact ⟨rfl, ⟨hI, by omega, hR.2.2⟩, hb, hk⟩
theorem rbyte_any (hR : Ref w0 w g S a e) (hB : Below w0.heap.size w0 w) : Calls Try.prog 28 #[.pointer (some ⟨g, 0, none⟩)] w fun en w' =>
    en = .returned (.int .i64 (aByte ((bytesOf S).drop a) e).1) ∧ Ref w0 w' g S (a + pByte ((bytesOf S).drop a) e) (aByte ((bytesOf S).drop a) e).2.2 ∧ Below w0.heap.size w0 w' ∧ KeepBut w w' g none := by
  refine (tithebarnref01_Cursor_Byte.calls g _ _ _ _ _ _ _ w0 w hR.1 hB (rcByte_f S a e hR.2.1 hR.2.2)).mono ?_
  rintro en w' ⟨rfl, hI, hb, hk⟩
  have h1 : pByte ((bytesOf S).drop a) e ≤ ((bytesOf S).drop a).length := by
    unfold pByte; split
    · rename_i h
      have := List.length_pos_iff.2 h.2
      omega
    · omega
  rw [List.length_drop, bytesOf_size] at h1
  have := hR.2.1
  exact ⟨rfl, ⟨hI, by omega, hR.2.2⟩, hb, hk⟩
theorem rtext_any (m : Int) (hm : i64 m) (hR : Ref w0 w g S a e) (hB : Below w0.heap.size w0 w) : Calls Try.prog 26 #[.pointer (some ⟨g, 0, none⟩), .int .i64 m] w fun en w' =>
    en = .returned (.string (strOfNums (aText m ((bytesOf S).drop a) e).1)) ∧ Ref w0 w' g S (a + pText m ((bytesOf S).drop a) e) (aText m ((bytesOf S).drop a) e).2.2 ∧ Below w0.heap.size w0 w' ∧ KeepBut w w' g none := by
  refine (tithebarnref01_Cursor_Text.calls 31 g _ _ _ m _ _ _ _ w0 w hR.1 hB (rcText_f (Nat.le_refl _) S a e m (by obtain ⟨h, _⟩ := hm; omega) (by obtain ⟨_, h⟩ := hm; omega) hR.2.1 hR.2.2)).mono ?_
  rintro en w' ⟨rfl, hI, hb, hk⟩
  have h1 := pText_le m ((Bs.bytesOf S).drop a) e
  rw [List.length_drop, bytesOf_size] at h1
  have := hR.2.1
  exact ⟨rfl, ⟨hI, by omega, hR.2.2⟩, hb, hk⟩
theorem rleft_any (hR : Ref w0 w g S a e) (hB : Below w0.heap.size w0 w) : Calls Try.prog 29 #[.pointer (some ⟨g, 0, none⟩)] w fun en w' =>
    en = .returned (.int .i64 (((bytesOf S).drop a).length : Int)) ∧ Ref w0 w' g S a e ∧ Below w0.heap.size w0 w' ∧ KeepBut w w' g none := by
  have h1 := hR.2.1
  have h2 := hR.2.2
  refine (tithebarnref01_Cursor_Left.calls g _ _ _ (((bytesOf S).drop a).length : Int) S a e w0 w hR.1 hB ?_).mono ?_
  · unfold tithebarnref01_Cursor_Left.f
    rw [w64 (by omega) (by omega), List.length_drop, bytesOf_size]
    have : (S.size : Int) - (a : Int) = ((S.size - a : Nat) : Int) := by omega
    rw [this]
  · rintro en w' ⟨rfl, hI, hb, hk⟩
    exact ⟨rfl, ⟨hI, hR.2⟩, hb, hk⟩
theorem rdone_any (hR : Ref w0 w g S a e) (hB : Below w0.heap.size w0 w) : Calls Try.prog 31 #[.pointer (some ⟨g, 0, none⟩)] w fun en w' =>
    en = .returned (.int .i64 (aDone ((bytesOf S).drop a) e)) ∧ Ref w0 w' g S a e ∧ Below w0.heap.size w0 w' ∧ KeepBut w w' g none := by
  refine (tithebarnref01_Cursor_Done.calls g _ _ _ _ _ _ _ w0 w hR.1 hB (rcDone_f S a e hR.2.1 hR.2.2)).mono ?_
  rintro en w' ⟨rfl, hI, hb, hk⟩
  exact ⟨rfl, ⟨hI, hR.2⟩, hb, hk⟩
end
end Go.Proofs.Ytofjpagpjkdapaa.G
