import Derived.Test.YtlbcpigjbjolaaaZQA
import Derived.Test.YtlbcpigjbjolaaaZG3
namespace Go.Proofs.Ytlbcpigjbjolaaa.G
open Go.RowKit Go.Proofs.YtlbcpigjbjolaaaQ Go.Proofs.YtlbcpigjbjolaaaW.PrintWords Go.Proofs.YtlbcpigjbjolaaaW.PrintLast Go.Proofs.YtlbcpigjbjolaaaW.PrintMore
attribute [local go_sem] max2_int min2_int max_two min_two max_three min_three max_four min_four   -- for this text's walks alone
set_option linter.unusedVariables false
set_option linter.unusedSimpArgs false
theorem bytesWorld_C (W : World) {t : ByteArray} {n : Nat} (hn : t.size = n) (hz : n ≤ 9223372036854775807) : Kd.C (Kd.int .u8) (Go.Lib.bytesWorld W 5 t) (some ⟨W.heap.size, 0, none⟩) n (bytesOf t) := by
 subst hn
 refine ⟨by rw [bytesOf_length], hz, fun _ => ⟨_, rfl, fun j p hj => ⟨[.int .u8 p], rfl, rfl, fun i u hu => ?_⟩⟩⟩
 have hi : i = 0 := by
  rcases i with _ | i
  ·rfl
  ·simp at hu
 subst hi
 obtain ⟨hj1, hj2⟩ := List.getElem?_eq_some_iff.1 hj
 rw [bytesOf_length] at hj1
 have h := Go.Lib.bytesWorld_cell W 5 t j hj1
 have e : ((t.data.toList.getD j 0).toNat : Int) = p := by
  rw [← hj2]
  simp [bytesOf, List.getD_eq_getElem?_getD, hj1]
 rw [e] at h
 have hu' : Value.int .u8 p = u := by simpa using hu
 rw [← hu', ← h]
 show World.cell? _ ((⟨W.heap.size, 0, none⟩ : Addr).add (j * 1 + 0)) = _
 rw [Nat.mul_one, Nat.add_zero, add_plain]
theorem le_grownCap_ (W : World) (n e : Nat) : n ≤ grownCap W n 0 e := grownCap_ge W n 0 e
def rd22 (s : ByteArray) : Option (Bool × ByteArray) := if s.size ≤ 4611686018427387904 then (tally_Cursor_Uint.f s 0).bind fun u => if u.2.1.size ≤ s.size then (if u.2.2 = 0 ∧ u.1 ≠ 0 ∧ u.1 = (u.2.1.size : Int) then some (true, s.extract (s.size - u.2.1.size) s.size) else some (false, ⟨#[]⟩)) else none else none
set_option maxHeartbeats 2000000 in
set_option maxRecDepth 100000 in
theorem read.bad (s : ByteArray) (n : Int) (s1 : ByteArray) (e1 : Int) (hU : tally_Cursor_Uint.f s 0 = some (n, s1, e1)) (hz : s.size ≤ 4611686018427387904) (hz1 : s1.size ≤ s.size) (he : ¬ e1 = 0) (w : World) :
  Calls Try.prog 24 #[.string s] w fun e w' => (∃ A c, e = .returned (.tuple #[.slice A 0 c, .bool false]) ∧ 0 ≤ c ∧ Kd.C (Kd.int .u8) w' A 0 []) ∧ Below w.heap.size w w' := by
 have HU := Aside0.mk hU
 have d1 : (e1 == 0) = false := beq_eq_false_iff_ne.mpr he
 have d2 : (e1 != 0) = true := bne_iff_ne.mpr he
 clear hU hz hz1 he
 go_enter Try.func24, Try.ntmps24
 go_wp2_with fail
 refine (tally_From.calls s s 0 w w (Below.refl _ _) rfl).mono ?_; rintro e w1 ⟨g, rfl, hI, hb, _⟩
 have HI := Aside0.mk hI; have HB := Aside0.mk hb; clear hI hb
 go_wp2_with fail
 refine (tally_Cursor_Uint.calls g s 0 n s1 e1 w w1 HI.out HB.out HU.out).mono ?_; rintro e w2 ⟨rfl, hI, hb, _⟩
 replace HI := Aside0.mk hI; replace HB := Aside0.mk hb; clear hI hb
 go_wp2_with fail
 refine (tally_Cursor_Err.calls g s1 e1 e1 s1 e1 w w2 HI.out HB.out rfl).mono ?_; rintro e w3 ⟨rfl, hI, hb, _⟩
 replace HI := Aside0.mk hI; replace HB := Aside0.mk hb; clear hI hb
 go_wp2
 go_ret2
 exact ⟨⟨none, 0, rfl, Nat.le_refl _, rfl, by omega, fun h => by omega⟩, HB.out⟩
set_option maxHeartbeats 2000000 in
set_option maxRecDepth 100000 in
theorem read.zero (s : ByteArray) (n : Int) (s1 : ByteArray) (e1 : Int) (hU : tally_Cursor_Uint.f s 0 = some (n, s1, e1)) (hz : s.size ≤ 4611686018427387904) (hz1 : s1.size ≤ s.size) (he : e1 = 0) (hn : n = 0) (w : World) :
  Calls Try.prog 24 #[.string s] w fun e w' => (∃ A c, e = .returned (.tuple #[.slice A 0 c, .bool false]) ∧ 0 ≤ c ∧ Kd.C (Kd.int .u8) w' A 0 []) ∧ Below w.heap.size w w' := by
 have HU := Aside0.mk hU
 subst he; subst hn
 clear hU hz hz1
 go_enter Try.func24, Try.ntmps24
 go_wp2_with fail
 refine (tally_From.calls s s 0 w w (Below.refl _ _) rfl).mono ?_; rintro e w1 ⟨g, rfl, hI, hb, _⟩
 have HI := Aside0.mk hI; have HB := Aside0.mk hb; clear hI hb
 go_wp2_with fail
 refine (tally_Cursor_Uint.calls g s 0 0 s1 0 w w1 HI.out HB.out HU.out).mono ?_; rintro e w2 ⟨rfl, hI, hb, _⟩
 replace HI := Aside0.mk hI; replace HB := Aside0.mk hb; clear hI hb
 go_wp2_with fail
 refine (tally_Cursor_Err.calls g s1 0 0 s1 0 w w2 HI.out HB.out rfl).mono ?_; rintro e w3 ⟨rfl, hI, hb, _⟩
 replace HI := Aside0.mk hI; replace HB := Aside0.mk hb; clear hI hb
 go_wp2
 go_ret2
 exact ⟨⟨none, 0, rfl, Nat.le_refl _, rfl, by omega, fun h => by omega⟩, HB.out⟩
set_option maxHeartbeats 2000000 in
set_option maxRecDepth 100000 in
theorem read.other (s : ByteArray) (n : Int) (s1 : ByteArray) (e1 : Int) (hU : tally_Cursor_Uint.f s 0 = some (n, s1, e1)) (hz : s.size ≤ 4611686018427387904) (hz1 : s1.size ≤ s.size) (he : e1 = 0) (hn : ¬ n = 0) (hs : ¬ n = (s1.size : Int)) (w : World) :
  Calls Try.prog 24 #[.string s] w fun e w' => (∃ A c, e = .returned (.tuple #[.slice A 0 c, .bool false]) ∧ 0 ≤ c ∧ Kd.C (Kd.int .u8) w' A 0 []) ∧ Below w.heap.size w w' := by
 have HU := Aside0.mk hU
 subst he
 have d1 : (n == 0) = false := beq_eq_false_iff_ne.mpr hn
 have d2 : (n != 0) = true := bne_iff_ne.mpr hn
 have hw : IntKind.u64.wrap (s1.size : Int) = (s1.size : Int) := u64_nat (by omega)
 have d3 : (n == (s1.size : Int)) = false := beq_eq_false_iff_ne.mpr hs
 have d4 : (n != (s1.size : Int)) = true := bne_iff_ne.mpr hs
 clear hU hz hz1 hn hs
 go_enter Try.func24, Try.ntmps24
 go_wp2_with fail
 refine (tally_From.calls s s 0 w w (Below.refl _ _) rfl).mono ?_; rintro e w1 ⟨g, rfl, hI, hb, _⟩
 have HI := Aside0.mk hI; have HB := Aside0.mk hb; clear hI hb
 go_wp2_with fail
 refine (tally_Cursor_Uint.calls g s 0 n s1 0 w w1 HI.out HB.out HU.out).mono ?_; rintro e w2 ⟨rfl, hI, hb, _⟩
 replace HI := Aside0.mk hI; replace HB := Aside0.mk hb; clear hI hb
 go_wp2_with fail
 refine (tally_Cursor_Err.calls g s1 0 0 s1 0 w w2 HI.out HB.out rfl).mono ?_; rintro e w3 ⟨rfl, hI, hb, _⟩
 replace HI := Aside0.mk hI; replace HB := Aside0.mk hb; clear hI hb
 go_wp2_with fail
 refine (tally_Cursor_Left.calls g s1 0 (s1.size : Int) s1 0 w _ HI.out HB.out rfl).mono ?_; rintro e w4 ⟨rfl, hI, hb, _⟩
 replace HI := Aside0.mk hI; replace HB := Aside0.mk hb; clear hI hb
 go_wp2
 go_ret2
 exact ⟨⟨none, 0, rfl, Nat.le_refl _, rfl, by omega, fun h => by omega⟩, HB.out⟩
set_option maxHeartbeats 2000000 in
set_option maxRecDepth 100000 in
theorem read.yes (s : ByteArray) (n : Int) (s1 : ByteArray) (e1 : Int) (hU : tally_Cursor_Uint.f s 0 = some (n, s1, e1)) (hz : s.size ≤ 4611686018427387904) (hz1 : s1.size ≤ s.size) (he : e1 = 0) (hn : ¬ n = 0) (hs : n = (s1.size : Int)) (w : World) :
  Calls Try.prog 24 #[.string s] w fun e w' => (∃ A c, e = .returned (.tuple #[.slice A s1.size c, .bool true]) ∧ s1.size ≤ c ∧ Kd.C (Kd.int .u8) w' A s1.size (bytesOf (s.extract (s.size - s1.size) s.size))) ∧ Below w.heap.size w w' := by
 have HU := Aside0.mk hU
 subst he; subst hs
 have HZ := Aside0.mk hz; have HZ1 := Aside0.mk hz1
 have d1 : (((s1.size : Nat) : Int) == 0) = false := beq_eq_false_iff_ne.mpr hn
 have d2 : (((s1.size : Nat) : Int) != 0) = true := bne_iff_ne.mpr hn
 have hw : IntKind.u64.wrap (s1.size : Int) = (s1.size : Int) := u64_nat (by omega)
 have hw2 : wrap64 ((s.size : Int) - (s1.size : Int)) = ((s.size - s1.size : Nat) : Int) := by rw [w64 (by omega) (by omega)]; omega
 have d5 : (s.size - s1.size : Nat) ≤ s.size := by omega
 have d6 : ((s.size - s1.size : Nat) : Int) ≤ (s.size : Int) := by omega
 have d7 : (0 : Int) ≤ ((s.size - s1.size : Nat) : Int) := by omega
 clear hU hz hz1 hn
 go_enter Try.func24, Try.ntmps24
 go_wp2_with fail
 refine (tally_From.calls s s 0 w w (Below.refl _ _) rfl).mono ?_; rintro e w1 ⟨g, rfl, hI, hb, _⟩
 have HI := Aside0.mk hI; have HB := Aside0.mk hb; clear hI hb
 go_wp2_with fail
 refine (tally_Cursor_Uint.calls g s 0 (s1.size : Int) s1 0 w w1 HI.out HB.out HU.out).mono ?_; rintro e w2 ⟨rfl, hI, hb, _⟩
 replace HI := Aside0.mk hI; replace HB := Aside0.mk hb; clear hI hb
 go_wp2_with fail
 refine (tally_Cursor_Err.calls g s1 0 0 s1 0 w w2 HI.out HB.out rfl).mono ?_; rintro e w3 ⟨rfl, hI, hb, _⟩
 replace HI := Aside0.mk hI; replace HB := Aside0.mk hb; clear hI hb
 go_wp2_with fail
 refine (tally_Cursor_Left.calls g s1 0 (s1.size : Int) s1 0 w _ HI.out HB.out rfl).mono ?_; rintro e w4 ⟨rfl, hI, hb, _⟩
 replace HI := Aside0.mk hI; replace HB := Aside0.mk hb; clear hI hb
 go_wp2_with fail
 refine (tally_Cursor_Left.calls g s1 0 (s1.size : Int) s1 0 w _ HI.out HB.out rfl).mono ?_; rintro e w5 ⟨rfl, hI, hb, _⟩
 replace HI := Aside0.mk hI; replace HB := Aside0.mk hb; clear hI hb
 have hcv := fun W => Go.Lib.run_convert_string_bytes (P := Try.prog) W 9 39 5 (s.extract (s.size - s1.size) s.size) Try.underlying9 Try.underlying39 Try.underlying5
 have hts : (s.extract (s.size - s1.size) s.size).size = s1.size := by rw [ByteArray.size_extract, Nat.min_self]; have := HZ1.out; omega
 rw [hts] at hcv
 go_wp2
 go_ret2
 exact ⟨⟨some ⟨w5.heap.size, 0, none⟩, _, rfl, le_grownCap_ _ _ _, bytesWorld_C w5 hts (by have := HZ.out; have := HZ1.out; omega)⟩, HB.out.trans ⟨rfl, rfl, rfl, by rw [Go.Lib.bytesWorld_size]; omega, fun q hq => Go.Lib.bytesWorld_at_old _ _ _ _ (Nat.lt_of_lt_of_le hq HB.out.size)⟩⟩
theorem read_calls (s : ByteArray) (b : Bool) (t : ByteArray) (h : rd22 s = some (b, t)) (w : World) :
  Calls Try.prog 24 #[.string s] w fun e w' => (∃ A c, e = .returned (.tuple #[.slice A t.size c, .bool b]) ∧ t.size ≤ c ∧ Kd.C (Kd.int .u8) w' A t.size (bytesOf t)) ∧ Below w.heap.size w w' := by
 unfold rd22 at h
 split at h
 ·rename_i hz
  obtain ⟨⟨n, s1, e1⟩, hU, h⟩ := Option.bind_eq_some_iff.1 h
  split at h
  ·rename_i hz1
   split at h
   ·rename_i hc
    obtain ⟨he, hn, hs⟩ := hc
    obtain ⟨rfl, rfl⟩ := Prod.mk.injEq _ _ _ _ ▸ Option.some.inj h
    have hts : (s.extract (s.size - s1.size) s.size).size = s1.size := by rw [ByteArray.size_extract, Nat.min_self]; have : s1.size ≤ s.size := hz1; omega
    rw [hts]
    exact read.yes s n s1 e1 hU hz hz1 he hn hs w
   ·rename_i hc
    obtain ⟨rfl, rfl⟩ := Prod.mk.injEq _ _ _ _ ▸ Option.some.inj h
    by_cases he : e1 = 0
    ·by_cases hn : n = 0
     ·exact read.zero s n s1 e1 hU hz hz1 he hn w
     ·exact read.other s n s1 e1 hU hz hz1 he hn (fun hs => hc ⟨he, hn, hs⟩) w
    ·exact read.bad s n s1 e1 hU hz hz1 he w
  ·exact absurd h (by simp)
 ·exact absurd h (by simp)
def mayAll (bs : List Int) : List Nat → Option Bool
 | [] => some true
 | p :: ps => (filter_bitmap_is.f bs (p : Int)).bind fun b => if b = true then mayAll bs ps else some false
def mayF (k : Nat) (s : ByteArray) (x0 : Bool) (x1 : Int) (x2 : ByteArray) : Option (Bool × Int) := (rd22 s).bind fun u => if u.1 = true then (if 0 < u.2.size ∧ u.2.size ≤ 1000000 then (tailOf k ⟨x0, x1, x2⟩).bind fun T => (mayAll (bytesOf u.2) (places u.2.size T)).bind fun b => some (b, 0) else none) else some (false, 8)
theorem mayF_mono : ∀ a0 a1 a2 a3 k, LeO (mayF k a0 a1 a2 a3) (mayF (k + 1) a0 a1 a2 a3) := by
 intro a0 a1 a2 a3 k
 unfold mayF
 refine LeO.bind (LeO.refl _) (fun u => LeO.ite (LeO.ite (LeO.bind (tailOf_mono k _) (fun _ => LeO.refl _)) (LeO.none _)) (LeO.refl _))
theorem is_calls (A : Option Addr) (c : Nat) (t : ByteArray) (p : Int) (b : Bool) (w : World) (hC : Kd.C (Kd.int .u8) w A t.size (bytesOf t)) (hc : t.size ≤ c) (h : filter_bitmap_is.f (bytesOf t) p = some b) :
  Calls Try.prog 25 #[.slice A t.size c, .int .i64 p] w fun e w' => e = .returned (.bool b) ∧ Below w.heap.size w w' := by
 have hl := bytesOf_length t
 generalize bytesOf t = bs at hl hC h
 rw [← hl] at hC hc ⊢
 refine (filter_bitmap_is.calls A c bs p b w hC hc h).mono ?_
 rintro e w' ⟨he, hd⟩
 exact ⟨he, by obtain ⟨m, rfl⟩ := hd; exact pw_below_drewN (Below.refl _ _) _⟩
set_option maxHeartbeats 2000000 in
set_option maxRecDepth 100000 in
theorem may.no (s : ByteArray) (t : ByteArray) (x : S28) (h : rd22 s = some (false, t)) (w : World) :
  Calls Try.prog 10 #[.string s, .agg #[.bool x.f0, .int .i64 x.f1, .string x.f2]] w fun e w' => e = .returned (.tuple #[.bool false, .int .i64 8]) ∧ Below w.heap.size w w' := by
 have H := Aside0.mk h; clear h
 go_enter Try.func10, Try.ntmps10
 go_wp2_with fail
 refine (read_calls s false t H.out _).mono ?_; rintro e w1 ⟨⟨A, c, rfl, hc, hC⟩, hb⟩
 have HB := Aside0.mk (below_then (below_alloc (Below.refl w.heap.size w) (.cells #[.bool x.f0, .int .i64 x.f1, .string x.f2] 28 (0, 0))) (by simp only [World.alloc, Array.size_push]; omega) hb)
 clear hc hC hb
 go_wp2
 go_ret2
 exact ⟨rfl, HB.out⟩
set_option maxHeartbeats 4000000 in
set_option maxRecDepth 100000 in
theorem may.yes (k : Nat) (s : ByteArray) (t : ByteArray) (x : S28) (T : List Int) (r : Bool) (h : rd22 s = some (true, t)) (hn : 0 < t.size) (hn2 : t.size ≤ 1000000) (hT : tailOf k x = some T) (hr : mayAll (bytesOf t) (places t.size T) = some r) (w : World) :
  Calls Try.prog 10 #[.string s, .agg #[.bool x.f0, .int .i64 x.f1, .string x.f2]] w fun e w' => e = .returned (.tuple #[.bool r, .int .i64 0]) ∧ Below w.heap.size w w' := by
 have H := Aside0.mk h; have HN := Aside0.mk hn; have HN2 := Aside0.mk hn2; have HT := Aside0.mk hT; have HR := Aside0.mk hr
 clear h hn hn2 hT hr
 go_enter Try.func10, Try.ntmps10
 go_wp2_with fail
 refine (read_calls s true t H.out _).mono ?_; rintro e w1 ⟨⟨A, c, rfl, hc, hC⟩, hb⟩
 have HC := Aside0.mk hC; have HCC := Aside0.mk hc
 have HBX := Aside0.mk (blk_below (blk_new w (.cells #[.bool x.f0, .int .i64 x.f1, .string x.f2] 28 (0, 0))) hb)
 have HB := Aside0.mk (below_then (below_alloc (Below.refl w.heap.size w) (.cells #[.bool x.f0, .int .i64 x.f1, .string x.f2] 28 (0, 0))) (by simp only [World.alloc, Array.size_push]; omega) hb)
 clear hc hC hb
 have q0 : w1.cell? ⟨w.heap.size, 0, none⟩ = some (.bool x.f0) := (blk_cell HBX.out 0).trans rfl
 have q1 : w1.cell? ⟨w.heap.size, 1, none⟩ = some (.int .i64 x.f1) := (blk_cell HBX.out 1).trans rfl
 have q2 : w1.cell? ⟨w.heap.size, 2, none⟩ = some (.string x.f2) := (blk_cell HBX.out 2).trans rfl
 go_wp2_with fail
 refine (at_calls k t.size x T HT.out A c HN.out HN2.out _).mono ?_; rintro e w2 ⟨rfl, hb⟩
 have HC2 := Aside0.mk (Kd.C_below HC.out hb)
 have HB2 := Aside0.mk (below_then HB.out HB.out.size hb)
 clear hb HB HBX HC q0 q1 q2
 go_wp2
 go_loopg [20] 4 (fun gq s20 wx => ∃ j : Nat, j ≤ 4 ∧ gq = 4 - j ∧ s20 = .int .i64 (j : Int) ∧ Aside0 (Below w.heap.size w wx) ∧ Aside0 (Kd.C (Kd.int .u8) wx A t.size (bytesOf t)) ∧ Aside0 (mayAll (bytesOf t) ((places t.size T).drop j) = some r))
 case atStart => exact ⟨0, by omega, rfl, rfl, HB2, HC2, HR⟩
 case round =>
  clear HB2 HC2 HR
  obtain ⟨j, hj, rfl, rfl, HB, HC, HR⟩ := hrel
  by_cases hjl : j < 4
  ·have HJ := Aside0.mk hjl
   have hix := idx4 t.size T j hjl
   have k1 : decide ((j : Int) < 4) = true := decide_eq_true (by omega)
   have k2 : decide (j < 4) = true := decide_eq_true hjl
   have hw5 : wrap64 ((j : Int) + 1) = ((j + 1 : Nat) : Int) := by rw [w64 (by omega) (by omega)]; omega
   have hdr : (places t.size T).drop j = placeAt t.size T j :: (places t.size T).drop (j + 1) := by
    rcases (by omega : j = 0 ∨ j = 1 ∨ j = 2 ∨ j = 3) with rfl | rfl | rfl | rfl <;> rfl
   have hr := HR.out
   rw [hdr, mayAll] at hr
   obtain ⟨b, hb, hr⟩ := Option.bind_eq_some_iff.1 hr
   have HBIT := Aside0.mk hb; have HREST := Aside0.mk hr
   clear hj hjl hdr hb hr HR
   go_wp2_with fail
   refine (is_calls A c t _ b _ HC.out HCC.out HBIT.out).mono ?_
   rintro e w3 ⟨rfl, hd⟩
   have HB3 := Aside0.mk (below_then HB.out HB.out.size hd)
   have HC3 := Aside0.mk (Kd.C_below HC.out hd)
   clear hd HB HC hix
   cases b
   ·have hr := HREST.out
    rw [if_neg (by decide)] at hr
    obtain rfl := Option.some.inj hr
    clear hr
    go_wp2
    go_ret2
    exact ⟨rfl, HB3.out⟩
   ·have hr := HREST.out
    rw [if_pos rfl] at hr
    have HR := Aside0.mk hr; clear hr
    go_wp2
    go_roundg (4 - (j + 1))
    case measure => have := HJ.out; omega
    case rel => exact ⟨j + 1, by have := HJ.out; omega, rfl, by go_num, HB3, HC3, HR⟩
  ·have hj4 : j = 4 := by omega
   subst hj4
   have hr := HR.out
   have hd4 : (places t.size T).drop 4 = [] := rfl
   rw [hd4, mayAll] at hr
   obtain rfl := Option.some.inj hr
   clear hj hjl hr hd4
   go_wp2
   go_ret2
   exact ⟨rfl, HB.out⟩
theorem may_calls (k : Nat) (s : ByteArray) (x0 : Bool) (x1 : Int) (x2 : ByteArray) (r1 : Bool) (r2 : Int) (w : World) (h : mayF k s x0 x1 x2 = some (r1, r2)) :
  Calls Try.prog 10 #[.string s, .agg #[.bool x0, .int .i64 x1, .string x2]] w fun e w' => e = .returned (.tuple #[.bool r1, .int .i64 r2]) ∧ Below w.heap.size w w' := by
 unfold mayF at h
 obtain ⟨⟨b, t⟩, hrd, h⟩ := Option.bind_eq_some_iff.1 h
 cases b
 ·rw [if_neg (show ¬ (false = true) by decide)] at h
  obtain ⟨rfl, rfl⟩ := Prod.mk.injEq _ _ _ _ ▸ Option.some.inj h
  exact may.no s t ⟨x0, x1, x2⟩ hrd w
 ·rw [if_pos rfl] at h
  split at h
  ·rename_i hc
   obtain ⟨T, hT, h⟩ := Option.bind_eq_some_iff.1 h
   obtain ⟨b, hb, h⟩ := Option.bind_eq_some_iff.1 h
   obtain ⟨rfl, rfl⟩ := Prod.mk.injEq _ _ _ _ ▸ Option.some.inj h
   exact may.yes k s t ⟨x0, x1, x2⟩ T b hrd hc.1 hc.2 hT hb w
  ·exact absurd h (by simp)
def filter_May.f (k : Nat) (a0 : ByteArray) (a1_0 : Bool) (a1_1 : Int) (a1_2 : ByteArray) : Option (Bool × Int) := mayF k a0 a1_0 a1_1 a1_2
theorem filter_May.mono : ∀ a0 a1 a2 a3 k, LeO (filter_May.f k a0 a1 a2 a3) (filter_May.f (k + 1) a0 a1 a2 a3) := mayF_mono
theorem filter_May.calls (k : Nat) (a0 : ByteArray) (a1_0 : Bool) (a1_1 : Int) (a1_2 : ByteArray) (r1 : Bool) (r2 : Int) (w : World) (h : filter_May.f k a0 a1_0 a1_1 a1_2 = some (r1, r2)) :
  Calls Try.prog 10 #[.string a0, .agg #[.bool a1_0, .int .i64 a1_1, .string a1_2]] w fun e w' => e = .returned (.tuple #[.bool r1, .int .i64 r2]) ∧ Below w.heap.size w w' :=
 may_calls k a0 a1_0 a1_1 a1_2 r1 r2 w h
def tithebarnlaw22_lives.f (k : Nat)  : Option (Bool) := (filter_Make.f k (([(⟨false, 3, (⟨#[]⟩ : ByteArray)⟩ : S28)] : List (S28)))).bind fun t152 => ((filter_May.f k t152 false 3 (⟨#[]⟩ : ByteArray)).bind fun bt153 => ((filter_Make.f k ([] : List (S28))).bind fun t155 => ((filter_May.f k t155 false 3 (⟨#[]⟩ : ByteArray)).bind fun bt156 => (if bt153.1 = true then (if bt153.2 = 0 then (if bt156.1 = true then (some false) else (if bt156.2 = 0 then ((filter_Make.f k ([] : List (S28))).bind fun t158 => (some (t158.toList == ([1, 0] : List UInt8)))) else (some false))) else (some false)) else (some false)))))
theorem tithebarnlaw22_lives.mono : ∀ k, LeO (tithebarnlaw22_lives.f k ) (tithebarnlaw22_lives.f (k + 1) ) := by
 intro  k
 unfold tithebarnlaw22_lives.f
 repeat' first
   | (with_reducible exact filter_Make.mono _ _)
   | (with_reducible exact filter_May.mono _ _ _ _ _)
   | (with_reducible exact LeO.refl _)
   | (with_reducible exact LeO.none _)
   | (with_reducible refine LeO.ite ?_ ?_)
   | (with_reducible refine LeO.bind ?_ (fun _ => ?_))
   | exact filter_Make.mono _ _
   | exact filter_May.mono _ _ _ _ _
   | exact LeO.none _
   | refine LeO.ite ?_ ?_
   | refine LeO.bind ?_ (fun _ => ?_)
set_option maxHeartbeats 8000000 in
set_option maxRecDepth 100000 in
theorem tithebarnlaw22_lives.calls (k : Nat)  (r : Bool) (w : World) (h : tithebarnlaw22_lives.f k  = some r) :
  Calls Try.prog 6 #[] w fun e w' => e = .returned (.bool r) ∧ Below w.heap.size w w' := by
 have hu28 := Try.underlying28
 have HB := Aside0.mk (Below.refl w.heap.size w)
 have H : ((filter_Make.f k (([(⟨false, 3, (⟨#[]⟩ : ByteArray)⟩ : S28)] : List (S28)))).bind fun t152 => ((filter_May.f k t152 false 3 (⟨#[]⟩ : ByteArray)).bind fun bt153 => ((filter_Make.f k ([] : List (S28))).bind fun t155 => ((filter_May.f k t155 false 3 (⟨#[]⟩ : ByteArray)).bind fun bt156 => (if bt153.1 = true then (if bt153.2 = 0 then (if bt156.1 = true then (some false) else (if bt156.2 = 0 then ((filter_Make.f k ([] : List (S28))).bind fun t158 => (some (t158.toList == ([1, 0] : List UInt8)))) else (some false))) else (some false)) else (some false)))))) = some r := h
 clear h
 obtain ⟨y149, hy149⟩ : ∃ y_ : List (S28), y_ = (([(⟨false, 3, (⟨#[]⟩ : ByteArray)⟩ : S28)] : List (S28))) := ⟨_, rfl⟩
 replace H : ((filter_Make.f k y149).bind fun t152 => ((filter_May.f k t152 false 3 (⟨#[]⟩ : ByteArray)).bind fun bt153 => ((filter_Make.f k ([] : List (S28))).bind fun t155 => ((filter_May.f k t155 false 3 (⟨#[]⟩ : ByteArray)).bind fun bt156 => (if bt153.1 = true then (if bt153.2 = 0 then (if bt156.1 = true then (some false) else (if bt156.2 = 0 then ((filter_Make.f k ([] : List (S28))).bind fun t158 => (some (t158.toList == ([1, 0] : List UInt8)))) else (some false))) else (some false)) else (some false)))))) = some r := by first | (rw [hy149]; with_reducible exact H) | (have H2_ := (Option.bind_some _ _).symm.trans H; rw [hy149]; with_reducible exact H2_) | (have H2_ := (Option.bind_some _ _).symm.trans H; with_reducible exact H2_) | with_reducible exact H | (rw [hy149]; exact H) | exact H
 have Ny149 := Aside0.mk hy149
 clear hy149
 replace H := Option.bind_eq_some_iff.mp H
 obtain ⟨t152, A10, H⟩ := H
 replace H : ((filter_May.f k t152 false 3 (⟨#[]⟩ : ByteArray)).bind fun bt153 => ((filter_Make.f k ([] : List (S28))).bind fun t155 => ((filter_May.f k t155 false 3 (⟨#[]⟩ : ByteArray)).bind fun bt156 => (if bt153.1 = true then (if bt153.2 = 0 then (if bt156.1 = true then (some false) else (if bt156.2 = 0 then ((filter_Make.f k ([] : List (S28))).bind fun t158 => (some (t158.toList == ([1, 0] : List UInt8)))) else (some false))) else (some false)) else (some false))))) = some r := H
 have A1 := Aside0.mk A10
 clear A10
 replace H := Option.bind_eq_some_iff.mp H
 obtain ⟨⟨t153, t154⟩, A20, H⟩ := H
 replace H : ((filter_Make.f k ([] : List (S28))).bind fun t155 => ((filter_May.f k t155 false 3 (⟨#[]⟩ : ByteArray)).bind fun bt156 => (if t153 = true then (if t154 = 0 then (if bt156.1 = true then (some false) else (if bt156.2 = 0 then ((filter_Make.f k ([] : List (S28))).bind fun t158 => (some (t158.toList == ([1, 0] : List UInt8)))) else (some false))) else (some false)) else (some false)))) = some r := H
 have A2 := Aside0.mk A20
 clear A20
 replace H := Option.bind_eq_some_iff.mp H
 obtain ⟨t155, A30, H⟩ := H
 replace H : ((filter_May.f k t155 false 3 (⟨#[]⟩ : ByteArray)).bind fun bt156 => (if t153 = true then (if t154 = 0 then (if bt156.1 = true then (some false) else (if bt156.2 = 0 then ((filter_Make.f k ([] : List (S28))).bind fun t158 => (some (t158.toList == ([1, 0] : List UInt8)))) else (some false))) else (some false)) else (some false))) = some r := H
 have A3 := Aside0.mk A30
 clear A30
 replace H := Option.bind_eq_some_iff.mp H
 obtain ⟨⟨t156, t157⟩, A40, H⟩ := H
 replace H : (if t153 = true then (if t154 = 0 then (if t156 = true then (some false) else (if t157 = 0 then ((filter_Make.f k ([] : List (S28))).bind fun t158 => (some (t158.toList == ([1, 0] : List UInt8)))) else (some false))) else (some false)) else (some false)) = some r := H
 have A4 := Aside0.mk A40
 clear A40
 by_cases c5 : t153 = true
 ·subst c5
  have H1 : (if t154 = 0 then (if t156 = true then (some false) else (if t157 = 0 then ((filter_Make.f k ([] : List (S28))).bind fun t158 => (some (t158.toList == ([1, 0] : List UInt8)))) else (some false))) else (some false)) = some r := by rw [if_pos rfl] at H; exact H
  clear H
  have H := H1
  clear H1
  by_cases c6 : t154 = 0
  ·rw [if_pos c6] at H
   have c6b0 : (t154 == 0) = true := beq_iff_eq.mpr c6
   have c6b1 : (t154 != 0) = false := bne_eq_false_iff_eq.mpr c6
   clear c6
   by_cases c7 : t156 = true
   ·subst c7
    have H1 : (some false) = some r := by rw [if_pos rfl] at H; exact H
    clear H
    have H := H1
    clear H1
    obtain rfl := Option.some.inj H
    go_enter Try.func6, Try.ntmps6
    go_wp2_with (first | ((with_reducible refine gate_dst (N := 7) rfl ?_); refine Kd.R_lit k28 _ 28 ?hg (N := 7) ?hd (xs := ([(⟨false, 3, (⟨#[]⟩ : ByteArray)⟩ : S28)] : List (S28))) (inner := [.bool false, .int .i64 3, .string (⟨#[]⟩ : ByteArray)]) (ok := fun _ => True) (okp := fun _ => True) ?hr ?hp (fun _ hk => hk) trivial (Below.refl _ _) (Nat.le_refl _) (by simp) ?_; (case hd => rfl); (case hg => rfl); (case hr => first | (go_simp; done) | (go_simp; rfl)); (case hp => exact (Reps.c3 (show Kd.M k28 _ _ _ (⟨false, 3, (⟨#[]⟩ : ByteArray)⟩ : S28) [.bool false, .int .i64 3, .string (⟨#[]⟩ : ByteArray)] from (k28_mkM _ _ _ (⟨false, 3, (⟨#[]⟩ : ByteArray)⟩ : S28) )) (Reps.none _ _))); intro v150 w8 ho9 hb hg_ hnew_; clear hg_ hnew_; (first | rw [← Ny149.out] at ho9 | (simp only [Int.reduceToNat] at ho9; rw [← Ny149.out] at ho9)); have n0_ := Aside0.mk (Kd.R_lower ho9 (below_size (by repeat (first | (with_reducible first | exact HB.out | apply below_alloc | apply pw_below_drewN | apply below_drew1) | exact HB.out)))); have n1_ := Aside0.mk (below_step (by repeat (first | (with_reducible first | exact HB.out | apply below_alloc | apply pw_below_drewN | apply below_drew1) | exact HB.out)) hb); clear HB; have HO151 := n0_; have HB := n1_; clear n0_ n1_; clear hb ho9; obtain ⟨Ao10, co10, eo10⟩ := Kd.R_slice HO151.out; subst eo10) | ((with_reducible refine gate_callee (f := 7) rfl ?_); refine goesL_ (some 8) rfl rfl Try.func7 (by kernel_rfl) rfl #[.slice Ao10 y149.length co10] rfl (by (try simp only [List.map_toArray, List.map_cons, List.map_nil]); first | done | rfl | (simp only [List.length_drop, List.length_take]; rfl) | (go_simp; simp [IntKind.wrap, IntKind.bits, IntKind.signed]; omega)) ?_; (with_reducible refine (filter_Make.calls k _ _ y149 t152 _ ?side1 ?side2 A1.out).mono ?_); (case side1 => repeat (first | exact (Kd.R_reads' HO151.out).2.2 | (with_reducible refine Kd.C_alloc ?_ _) | (with_reducible refine Kd.C_drewN ?_ _) | (with_reducible refine Kd.C_drew ?_))); (case side2 => exact (Kd.R_reads' HO151.out).2.1); rintro e w11 ⟨rfl, hb⟩; refine ⟨_, rfl, ?_⟩; have n0_ := Aside0.mk (Kd.R_below (by (with_reducible repeat (first | apply Kd.R_alloc | apply Kd.R_drewN | apply Kd.R_drew)); exact HO151.out) hb); have n1_ := Aside0.mk (below_step (by repeat (first | (with_reducible first | exact HB.out | apply below_alloc | apply pw_below_drewN | apply below_drew1) | exact HB.out)) hb); clear HO151; clear HB; have HO151 := n0_; have HB := n1_; clear n0_ n1_; (try clear hb); (try clear hb2); (try clear hk); (try clear hi)) | ((with_reducible refine gate_callee (f := 10) rfl ?_); refine goesL_ (some 10) rfl rfl Try.func10 (by kernel_rfl) rfl #[.string t152, .agg #[.bool false, .int .i64 3, .string (⟨#[]⟩ : ByteArray)]] rfl (by (try simp only [List.map_toArray, List.map_cons, List.map_nil]); first | done | rfl | (simp only [List.length_drop, List.length_take]; rfl) | (go_simp; simp [IntKind.wrap, IntKind.bits, IntKind.signed]; omega)) ?_; (with_reducible refine (filter_May.calls k t152 false 3 (⟨#[]⟩ : ByteArray) true t154 _ A2.out).mono ?_); rintro e w12 ⟨rfl, hb⟩; refine ⟨_, rfl, ?_⟩; have n0_ := Aside0.mk (Kd.R_below (by (with_reducible repeat (first | apply Kd.R_alloc | apply Kd.R_drewN | apply Kd.R_drew)); exact HO151.out) hb); have n1_ := Aside0.mk (below_step (by repeat (first | (with_reducible first | exact HB.out | apply below_alloc | apply pw_below_drewN | apply below_drew1) | exact HB.out)) hb); clear HO151; clear HB; have HO151 := n0_; have HB := n1_; clear n0_ n1_; (try clear hb); (try clear hb2); (try clear hk); (try clear hi)) | ((with_reducible refine gate_callee (f := 7) rfl ?_); refine goesL_ (some 14) rfl rfl Try.func7 (by kernel_rfl) rfl #[.slice none 0 0] rfl (by (try simp only [List.map_toArray, List.map_cons, List.map_nil]); first | done | rfl | (simp only [List.length_drop, List.length_take]; rfl) | (go_simp; simp [IntKind.wrap, IntKind.bits, IntKind.signed]; omega)) ?_; (refine (filter_Make.calls k _ _ ([] : List (S28)) t155 _ ?side1 ?side2 A3.out).mono ?_); (case side1 => exact Kd.C_nil _ _); (case side2 => exact Nat.le_refl _); rintro e w13 ⟨rfl, hb⟩; refine ⟨_, rfl, ?_⟩; have n0_ := Aside0.mk (Kd.R_below (by (with_reducible repeat (first | apply Kd.R_alloc | apply Kd.R_drewN | apply Kd.R_drew)); exact HO151.out) hb); have n1_ := Aside0.mk (below_step (by repeat (first | (with_reducible first | exact HB.out | apply below_alloc | apply pw_below_drewN | apply below_drew1) | exact HB.out)) hb); clear HO151; clear HB; have HO151 := n0_; have HB := n1_; clear n0_ n1_; (try clear hb); (try clear hb2); (try clear hk); (try clear hi)) | ((with_reducible refine gate_callee (f := 10) rfl ?_); refine goesL_ (some 16) rfl rfl Try.func10 (by kernel_rfl) rfl #[.string t155, .agg #[.bool false, .int .i64 3, .string (⟨#[]⟩ : ByteArray)]] rfl (by (try simp only [List.map_toArray, List.map_cons, List.map_nil]); first | done | rfl | (simp only [List.length_drop, List.length_take]; rfl) | (go_simp; simp [IntKind.wrap, IntKind.bits, IntKind.signed]; omega)) ?_; (with_reducible refine (filter_May.calls k t155 false 3 (⟨#[]⟩ : ByteArray) true t157 _ A4.out).mono ?_); rintro e w14 ⟨rfl, hb⟩; refine ⟨_, rfl, ?_⟩; have n0_ := Aside0.mk (Kd.R_below (by (with_reducible repeat (first | apply Kd.R_alloc | apply Kd.R_drewN | apply Kd.R_drew)); exact HO151.out) hb); have n1_ := Aside0.mk (below_step (by repeat (first | (with_reducible first | exact HB.out | apply below_alloc | apply pw_below_drewN | apply below_drew1) | exact HB.out)) hb); clear HO151; clear HB; have HO151 := n0_; have HB := n1_; clear n0_ n1_; (try clear hb); (try clear hb2); (try clear hk); (try clear hi)))
    go_ret
    exact ⟨by first | rfl | (simp [errW_none, errW_some] <;> rfl) | (simp [*, errW_none, errW_some] <;> rfl), by repeat (first | (with_reducible first | exact HB.out | apply below_alloc | apply pw_below_drewN | apply below_drew1) | exact HB.out)⟩
   ·replace c7 := Bool.eq_false_iff.mpr c7
    subst c7
    have H1 : (if t157 = 0 then ((filter_Make.f k ([] : List (S28))).bind fun t158 => (some (t158.toList == ([1, 0] : List UInt8)))) else (some false)) = some r := by rw [if_neg (show ¬ (false = true) by decide)] at H; exact H
    clear H
    have H := H1
    clear H1
    by_cases c15 : t157 = 0
    ·rw [if_pos c15] at H
     have c15b0 : (t157 == 0) = true := beq_iff_eq.mpr c15
     have c15b1 : (t157 != 0) = false := bne_eq_false_iff_eq.mpr c15
     clear c15
     replace H := Option.bind_eq_some_iff.mp H
     obtain ⟨t158, A160, H⟩ := H
     replace H : (some (t158.toList == ([1, 0] : List UInt8))) = some r := H
     have A16 := Aside0.mk A160
     clear A160
     obtain rfl := Option.some.inj H
     go_enter Try.func6, Try.ntmps6
     go_wp2_with (first | ((with_reducible refine gate_dst (N := 7) rfl ?_); refine Kd.R_lit k28 _ 28 ?hg (N := 7) ?hd (xs := ([(⟨false, 3, (⟨#[]⟩ : ByteArray)⟩ : S28)] : List (S28))) (inner := [.bool false, .int .i64 3, .string (⟨#[]⟩ : ByteArray)]) (ok := fun _ => True) (okp := fun _ => True) ?hr ?hp (fun _ hk => hk) trivial (Below.refl _ _) (Nat.le_refl _) (by simp) ?_; (case hd => rfl); (case hg => rfl); (case hr => first | (go_simp; done) | (go_simp; rfl)); (case hp => exact (Reps.c3 (show Kd.M k28 _ _ _ (⟨false, 3, (⟨#[]⟩ : ByteArray)⟩ : S28) [.bool false, .int .i64 3, .string (⟨#[]⟩ : ByteArray)] from (k28_mkM _ _ _ (⟨false, 3, (⟨#[]⟩ : ByteArray)⟩ : S28) )) (Reps.none _ _))); intro v150 w17 ho18 hb hg_ hnew_; clear hg_ hnew_; (first | rw [← Ny149.out] at ho18 | (simp only [Int.reduceToNat] at ho18; rw [← Ny149.out] at ho18)); have n0_ := Aside0.mk (Kd.R_lower ho18 (below_size (by repeat (first | (with_reducible first | exact HB.out | apply below_alloc | apply pw_below_drewN | apply below_drew1) | exact HB.out)))); have n1_ := Aside0.mk (below_step (by repeat (first | (with_reducible first | exact HB.out | apply below_alloc | apply pw_below_drewN | apply below_drew1) | exact HB.out)) hb); clear HB; have HO151 := n0_; have HB := n1_; clear n0_ n1_; clear hb ho18; obtain ⟨Ao19, co19, eo19⟩ := Kd.R_slice HO151.out; subst eo19) | ((with_reducible refine gate_callee (f := 7) rfl ?_); refine goesL_ (some 8) rfl rfl Try.func7 (by kernel_rfl) rfl #[.slice Ao19 y149.length co19] rfl (by (try simp only [List.map_toArray, List.map_cons, List.map_nil]); first | done | rfl | (simp only [List.length_drop, List.length_take]; rfl) | (go_simp; simp [IntKind.wrap, IntKind.bits, IntKind.signed]; omega)) ?_; (with_reducible refine (filter_Make.calls k _ _ y149 t152 _ ?side1 ?side2 A1.out).mono ?_); (case side1 => repeat (first | exact (Kd.R_reads' HO151.out).2.2 | (with_reducible refine Kd.C_alloc ?_ _) | (with_reducible refine Kd.C_drewN ?_ _) | (with_reducible refine Kd.C_drew ?_))); (case side2 => exact (Kd.R_reads' HO151.out).2.1); rintro e w20 ⟨rfl, hb⟩; refine ⟨_, rfl, ?_⟩; have n0_ := Aside0.mk (Kd.R_below (by (with_reducible repeat (first | apply Kd.R_alloc | apply Kd.R_drewN | apply Kd.R_drew)); exact HO151.out) hb); have n1_ := Aside0.mk (below_step (by repeat (first | (with_reducible first | exact HB.out | apply below_alloc | apply pw_below_drewN | apply below_drew1) | exact HB.out)) hb); clear HO151; clear HB; have HO151 := n0_; have HB := n1_; clear n0_ n1_; (try clear hb); (try clear hb2); (try clear hk); (try clear hi)) | ((with_reducible refine gate_callee (f := 10) rfl ?_); refine goesL_ (some 10) rfl rfl Try.func10 (by kernel_rfl) rfl #[.string t152, .agg #[.bool false, .int .i64 3, .string (⟨#[]⟩ : ByteArray)]] rfl (by (try simp only [List.map_toArray, List.map_cons, List.map_nil]); first | done | rfl | (simp only [List.length_drop, List.length_take]; rfl) | (go_simp; simp [IntKind.wrap, IntKind.bits, IntKind.signed]; omega)) ?_; (with_reducible refine (filter_May.calls k t152 false 3 (⟨#[]⟩ : ByteArray) true t154 _ A2.out).mono ?_); rintro e w21 ⟨rfl, hb⟩; refine ⟨_, rfl, ?_⟩; have n0_ := Aside0.mk (Kd.R_below (by (with_reducible repeat (first | apply Kd.R_alloc | apply Kd.R_drewN | apply Kd.R_drew)); exact HO151.out) hb); have n1_ := Aside0.mk (below_step (by repeat (first | (with_reducible first | exact HB.out | apply below_alloc | apply pw_below_drewN | apply below_drew1) | exact HB.out)) hb); clear HO151; clear HB; have HO151 := n0_; have HB := n1_; clear n0_ n1_; (try clear hb); (try clear hb2); (try clear hk); (try clear hi)) | ((with_reducible refine gate_callee (f := 7) rfl ?_); refine goesL_ (some 14) rfl rfl Try.func7 (by kernel_rfl) rfl #[.slice none 0 0] rfl (by (try simp only [List.map_toArray, List.map_cons, List.map_nil]); first | done | rfl | (simp only [List.length_drop, List.length_take]; rfl) | (go_simp; simp [IntKind.wrap, IntKind.bits, IntKind.signed]; omega)) ?_; (refine (filter_Make.calls k _ _ ([] : List (S28)) t155 _ ?side1 ?side2 A3.out).mono ?_); (case side1 => exact Kd.C_nil _ _); (case side2 => exact Nat.le_refl _); rintro e w22 ⟨rfl, hb⟩; refine ⟨_, rfl, ?_⟩; have n0_ := Aside0.mk (Kd.R_below (by (with_reducible repeat (first | apply Kd.R_alloc | apply Kd.R_drewN | apply Kd.R_drew)); exact HO151.out) hb); have n1_ := Aside0.mk (below_step (by repeat (first | (with_reducible first | exact HB.out | apply below_alloc | apply pw_below_drewN | apply below_drew1) | exact HB.out)) hb); clear HO151; clear HB; have HO151 := n0_; have HB := n1_; clear n0_ n1_; (try clear hb); (try clear hb2); (try clear hk); (try clear hi)) | ((with_reducible refine gate_callee (f := 10) rfl ?_); refine goesL_ (some 16) rfl rfl Try.func10 (by kernel_rfl) rfl #[.string t155, .agg #[.bool false, .int .i64 3, .string (⟨#[]⟩ : ByteArray)]] rfl (by (try simp only [List.map_toArray, List.map_cons, List.map_nil]); first | done | rfl | (simp only [List.length_drop, List.length_take]; rfl) | (go_simp; simp [IntKind.wrap, IntKind.bits, IntKind.signed]; omega)) ?_; (with_reducible refine (filter_May.calls k t155 false 3 (⟨#[]⟩ : ByteArray) false t157 _ A4.out).mono ?_); rintro e w23 ⟨rfl, hb⟩; refine ⟨_, rfl, ?_⟩; have n0_ := Aside0.mk (Kd.R_below (by (with_reducible repeat (first | apply Kd.R_alloc | apply Kd.R_drewN | apply Kd.R_drew)); exact HO151.out) hb); have n1_ := Aside0.mk (below_step (by repeat (first | (with_reducible first | exact HB.out | apply below_alloc | apply pw_below_drewN | apply below_drew1) | exact HB.out)) hb); clear HO151; clear HB; have HO151 := n0_; have HB := n1_; clear n0_ n1_; (try clear hb); (try clear hb2); (try clear hk); (try clear hi)) | (go_at_call 7; (refine (filter_Make.calls k _ _ ([] : List (S28)) t158 _ ?side1 ?side2 A16.out).mono ?_); (case side1 => exact Kd.C_nil _ _); (case side2 => exact Nat.le_refl _); rintro e w24 ⟨rfl, hb⟩; have n0_ := Aside0.mk (Kd.R_below (by (with_reducible repeat (first | apply Kd.R_alloc | apply Kd.R_drewN | apply Kd.R_drew)); exact HO151.out) hb); have n1_ := Aside0.mk (below_step (by repeat (first | (with_reducible first | exact HB.out | apply below_alloc | apply pw_below_drewN | apply below_drew1) | exact HB.out)) hb); clear HO151; clear HB; have HO151 := n0_; have HB := n1_; clear n0_ n1_; (try clear hb); (try clear hb2); (try clear hk); (try clear hi)))
     go_ret
     exact ⟨by first | rfl | (simp [errW_none, errW_some] <;> rfl) | (simp [*, errW_none, errW_some] <;> rfl), by repeat (first | (with_reducible first | exact HB.out | apply below_alloc | apply pw_below_drewN | apply below_drew1) | exact HB.out)⟩
    ·rw [if_neg c15] at H
     have c15b0 : (t157 == 0) = false := beq_eq_false_iff_ne.mpr c15
     have c15b1 : (t157 != 0) = true := bne_iff_ne.mpr c15
     obtain rfl := Option.some.inj H
     go_enter Try.func6, Try.ntmps6
     go_wp2_with (first | ((with_reducible refine gate_dst (N := 7) rfl ?_); refine Kd.R_lit k28 _ 28 ?hg (N := 7) ?hd (xs := ([(⟨false, 3, (⟨#[]⟩ : ByteArray)⟩ : S28)] : List (S28))) (inner := [.bool false, .int .i64 3, .string (⟨#[]⟩ : ByteArray)]) (ok := fun _ => True) (okp := fun _ => True) ?hr ?hp (fun _ hk => hk) trivial (Below.refl _ _) (Nat.le_refl _) (by simp) ?_; (case hd => rfl); (case hg => rfl); (case hr => first | (go_simp; done) | (go_simp; rfl)); (case hp => exact (Reps.c3 (show Kd.M k28 _ _ _ (⟨false, 3, (⟨#[]⟩ : ByteArray)⟩ : S28) [.bool false, .int .i64 3, .string (⟨#[]⟩ : ByteArray)] from (k28_mkM _ _ _ (⟨false, 3, (⟨#[]⟩ : ByteArray)⟩ : S28) )) (Reps.none _ _))); intro v150 w25 ho26 hb hg_ hnew_; clear hg_ hnew_; (first | rw [← Ny149.out] at ho26 | (simp only [Int.reduceToNat] at ho26; rw [← Ny149.out] at ho26)); have n0_ := Aside0.mk (Kd.R_lower ho26 (below_size (by repeat (first | (with_reducible first | exact HB.out | apply below_alloc | apply pw_below_drewN | apply below_drew1) | exact HB.out)))); have n1_ := Aside0.mk (below_step (by repeat (first | (with_reducible first | exact HB.out | apply below_alloc | apply pw_below_drewN | apply below_drew1) | exact HB.out)) hb); clear HB; have HO151 := n0_; have HB := n1_; clear n0_ n1_; clear hb ho26; obtain ⟨Ao27, co27, eo27⟩ := Kd.R_slice HO151.out; subst eo27) | ((with_reducible refine gate_callee (f := 7) rfl ?_); refine goesL_ (some 8) rfl rfl Try.func7 (by kernel_rfl) rfl #[.slice Ao27 y149.length co27] rfl (by (try simp only [List.map_toArray, List.map_cons, List.map_nil]); first | done | rfl | (simp only [List.length_drop, List.length_take]; rfl) | (go_simp; simp [IntKind.wrap, IntKind.bits, IntKind.signed]; omega)) ?_; (with_reducible refine (filter_Make.calls k _ _ y149 t152 _ ?side1 ?side2 A1.out).mono ?_); (case side1 => repeat (first | exact (Kd.R_reads' HO151.out).2.2 | (with_reducible refine Kd.C_alloc ?_ _) | (with_reducible refine Kd.C_drewN ?_ _) | (with_reducible refine Kd.C_drew ?_))); (case side2 => exact (Kd.R_reads' HO151.out).2.1); rintro e w28 ⟨rfl, hb⟩; refine ⟨_, rfl, ?_⟩; have n0_ := Aside0.mk (Kd.R_below (by (with_reducible repeat (first | apply Kd.R_alloc | apply Kd.R_drewN | apply Kd.R_drew)); exact HO151.out) hb); have n1_ := Aside0.mk (below_step (by repeat (first | (with_reducible first | exact HB.out | apply below_alloc | apply pw_below_drewN | apply below_drew1) | exact HB.out)) hb); clear HO151; clear HB; have HO151 := n0_; have HB := n1_; clear n0_ n1_; (try clear hb); (try clear hb2); (try clear hk); (try clear hi)) | ((with_reducible refine gate_callee (f := 10) rfl ?_); refine goesL_ (some 10) rfl rfl Try.func10 (by kernel_rfl) rfl #[.string t152, .agg #[.bool false, .int .i64 3, .string (⟨#[]⟩ : ByteArray)]] rfl (by (try simp only [List.map_toArray, List.map_cons, List.map_nil]); first | done | rfl | (simp only [List.length_drop, List.length_take]; rfl) | (go_simp; simp [IntKind.wrap, IntKind.bits, IntKind.signed]; omega)) ?_; (with_reducible refine (filter_May.calls k t152 false 3 (⟨#[]⟩ : ByteArray) true t154 _ A2.out).mono ?_); rintro e w29 ⟨rfl, hb⟩; refine ⟨_, rfl, ?_⟩; have n0_ := Aside0.mk (Kd.R_below (by (with_reducible repeat (first | apply Kd.R_alloc | apply Kd.R_drewN | apply Kd.R_drew)); exact HO151.out) hb); have n1_ := Aside0.mk (below_step (by repeat (first | (with_reducible first | exact HB.out | apply below_alloc | apply pw_below_drewN | apply below_drew1) | exact HB.out)) hb); clear HO151; clear HB; have HO151 := n0_; have HB := n1_; clear n0_ n1_; (try clear hb); (try clear hb2); (try clear hk); (try clear hi)) | ((with_reducible refine gate_callee (f := 7) rfl ?_); refine goesL_ (some 14) rfl rfl Try.func7 (by kernel_rfl) rfl #[.slice none 0 0] rfl (by (try simp only [List.map_toArray, List.map_cons, List.map_nil]); first | done | rfl | (simp only [List.length_drop, List.length_take]; rfl) | (go_simp; simp [IntKind.wrap, IntKind.bits, IntKind.signed]; omega)) ?_; (refine (filter_Make.calls k _ _ ([] : List (S28)) t155 _ ?side1 ?side2 A3.out).mono ?_); (case side1 => exact Kd.C_nil _ _); (case side2 => exact Nat.le_refl _); rintro e w30 ⟨rfl, hb⟩; refine ⟨_, rfl, ?_⟩; have n0_ := Aside0.mk (Kd.R_below (by (with_reducible repeat (first | apply Kd.R_alloc | apply Kd.R_drewN | apply Kd.R_drew)); exact HO151.out) hb); have n1_ := Aside0.mk (below_step (by repeat (first | (with_reducible first | exact HB.out | apply below_alloc | apply pw_below_drewN | apply below_drew1) | exact HB.out)) hb); clear HO151; clear HB; have HO151 := n0_; have HB := n1_; clear n0_ n1_; (try clear hb); (try clear hb2); (try clear hk); (try clear hi)) | ((with_reducible refine gate_callee (f := 10) rfl ?_); refine goesL_ (some 16) rfl rfl Try.func10 (by kernel_rfl) rfl #[.string t155, .agg #[.bool false, .int .i64 3, .string (⟨#[]⟩ : ByteArray)]] rfl (by (try simp only [List.map_toArray, List.map_cons, List.map_nil]); first | done | rfl | (simp only [List.length_drop, List.length_take]; rfl) | (go_simp; simp [IntKind.wrap, IntKind.bits, IntKind.signed]; omega)) ?_; (with_reducible refine (filter_May.calls k t155 false 3 (⟨#[]⟩ : ByteArray) false t157 _ A4.out).mono ?_); rintro e w31 ⟨rfl, hb⟩; refine ⟨_, rfl, ?_⟩; have n0_ := Aside0.mk (Kd.R_below (by (with_reducible repeat (first | apply Kd.R_alloc | apply Kd.R_drewN | apply Kd.R_drew)); exact HO151.out) hb); have n1_ := Aside0.mk (below_step (by repeat (first | (with_reducible first | exact HB.out | apply below_alloc | apply pw_below_drewN | apply below_drew1) | exact HB.out)) hb); clear HO151; clear HB; have HO151 := n0_; have HB := n1_; clear n0_ n1_; (try clear hb); (try clear hb2); (try clear hk); (try clear hi)))
     go_ret
     exact ⟨by first | rfl | (simp [errW_none, errW_some] <;> rfl) | (simp [*, errW_none, errW_some] <;> rfl), by repeat (first | (with_reducible first | exact HB.out | apply below_alloc | apply pw_below_drewN | apply below_drew1) | exact HB.out)⟩
  ·rw [if_neg c6] at H
   have c6b0 : (t154 == 0) = false := beq_eq_false_iff_ne.mpr c6
   have c6b1 : (t154 != 0) = true := bne_iff_ne.mpr c6
   obtain rfl := Option.some.inj H
   go_enter Try.func6, Try.ntmps6
   go_wp2_with (first | ((with_reducible refine gate_dst (N := 7) rfl ?_); refine Kd.R_lit k28 _ 28 ?hg (N := 7) ?hd (xs := ([(⟨false, 3, (⟨#[]⟩ : ByteArray)⟩ : S28)] : List (S28))) (inner := [.bool false, .int .i64 3, .string (⟨#[]⟩ : ByteArray)]) (ok := fun _ => True) (okp := fun _ => True) ?hr ?hp (fun _ hk => hk) trivial (Below.refl _ _) (Nat.le_refl _) (by simp) ?_; (case hd => rfl); (case hg => rfl); (case hr => first | (go_simp; done) | (go_simp; rfl)); (case hp => exact (Reps.c3 (show Kd.M k28 _ _ _ (⟨false, 3, (⟨#[]⟩ : ByteArray)⟩ : S28) [.bool false, .int .i64 3, .string (⟨#[]⟩ : ByteArray)] from (k28_mkM _ _ _ (⟨false, 3, (⟨#[]⟩ : ByteArray)⟩ : S28) )) (Reps.none _ _))); intro v150 w32 ho33 hb hg_ hnew_; clear hg_ hnew_; (first | rw [← Ny149.out] at ho33 | (simp only [Int.reduceToNat] at ho33; rw [← Ny149.out] at ho33)); have n0_ := Aside0.mk (Kd.R_lower ho33 (below_size (by repeat (first | (with_reducible first | exact HB.out | apply below_alloc | apply pw_below_drewN | apply below_drew1) | exact HB.out)))); have n1_ := Aside0.mk (below_step (by repeat (first | (with_reducible first | exact HB.out | apply below_alloc | apply pw_below_drewN | apply below_drew1) | exact HB.out)) hb); clear HB; have HO151 := n0_; have HB := n1_; clear n0_ n1_; clear hb ho33; obtain ⟨Ao34, co34, eo34⟩ := Kd.R_slice HO151.out; subst eo34) | ((with_reducible refine gate_callee (f := 7) rfl ?_); refine goesL_ (some 8) rfl rfl Try.func7 (by kernel_rfl) rfl #[.slice Ao34 y149.length co34] rfl (by (try simp only [List.map_toArray, List.map_cons, List.map_nil]); first | done | rfl | (simp only [List.length_drop, List.length_take]; rfl) | (go_simp; simp [IntKind.wrap, IntKind.bits, IntKind.signed]; omega)) ?_; (with_reducible refine (filter_Make.calls k _ _ y149 t152 _ ?side1 ?side2 A1.out).mono ?_); (case side1 => repeat (first | exact (Kd.R_reads' HO151.out).2.2 | (with_reducible refine Kd.C_alloc ?_ _) | (with_reducible refine Kd.C_drewN ?_ _) | (with_reducible refine Kd.C_drew ?_))); (case side2 => exact (Kd.R_reads' HO151.out).2.1); rintro e w35 ⟨rfl, hb⟩; refine ⟨_, rfl, ?_⟩; have n0_ := Aside0.mk (Kd.R_below (by (with_reducible repeat (first | apply Kd.R_alloc | apply Kd.R_drewN | apply Kd.R_drew)); exact HO151.out) hb); have n1_ := Aside0.mk (below_step (by repeat (first | (with_reducible first | exact HB.out | apply below_alloc | apply pw_below_drewN | apply below_drew1) | exact HB.out)) hb); clear HO151; clear HB; have HO151 := n0_; have HB := n1_; clear n0_ n1_; (try clear hb); (try clear hb2); (try clear hk); (try clear hi)) | ((with_reducible refine gate_callee (f := 10) rfl ?_); refine goesL_ (some 10) rfl rfl Try.func10 (by kernel_rfl) rfl #[.string t152, .agg #[.bool false, .int .i64 3, .string (⟨#[]⟩ : ByteArray)]] rfl (by (try simp only [List.map_toArray, List.map_cons, List.map_nil]); first | done | rfl | (simp only [List.length_drop, List.length_take]; rfl) | (go_simp; simp [IntKind.wrap, IntKind.bits, IntKind.signed]; omega)) ?_; (with_reducible refine (filter_May.calls k t152 false 3 (⟨#[]⟩ : ByteArray) true t154 _ A2.out).mono ?_); rintro e w36 ⟨rfl, hb⟩; refine ⟨_, rfl, ?_⟩; have n0_ := Aside0.mk (Kd.R_below (by (with_reducible repeat (first | apply Kd.R_alloc | apply Kd.R_drewN | apply Kd.R_drew)); exact HO151.out) hb); have n1_ := Aside0.mk (below_step (by repeat (first | (with_reducible first | exact HB.out | apply below_alloc | apply pw_below_drewN | apply below_drew1) | exact HB.out)) hb); clear HO151; clear HB; have HO151 := n0_; have HB := n1_; clear n0_ n1_; (try clear hb); (try clear hb2); (try clear hk); (try clear hi)) | ((with_reducible refine gate_callee (f := 7) rfl ?_); refine goesL_ (some 14) rfl rfl Try.func7 (by kernel_rfl) rfl #[.slice none 0 0] rfl (by (try simp only [List.map_toArray, List.map_cons, List.map_nil]); first | done | rfl | (simp only [List.length_drop, List.length_take]; rfl) | (go_simp; simp [IntKind.wrap, IntKind.bits, IntKind.signed]; omega)) ?_; (refine (filter_Make.calls k _ _ ([] : List (S28)) t155 _ ?side1 ?side2 A3.out).mono ?_); (case side1 => exact Kd.C_nil _ _); (case side2 => exact Nat.le_refl _); rintro e w37 ⟨rfl, hb⟩; refine ⟨_, rfl, ?_⟩; have n0_ := Aside0.mk (Kd.R_below (by (with_reducible repeat (first | apply Kd.R_alloc | apply Kd.R_drewN | apply Kd.R_drew)); exact HO151.out) hb); have n1_ := Aside0.mk (below_step (by repeat (first | (with_reducible first | exact HB.out | apply below_alloc | apply pw_below_drewN | apply below_drew1) | exact HB.out)) hb); clear HO151; clear HB; have HO151 := n0_; have HB := n1_; clear n0_ n1_; (try clear hb); (try clear hb2); (try clear hk); (try clear hi)) | ((with_reducible refine gate_callee (f := 10) rfl ?_); refine goesL_ (some 16) rfl rfl Try.func10 (by kernel_rfl) rfl #[.string t155, .agg #[.bool false, .int .i64 3, .string (⟨#[]⟩ : ByteArray)]] rfl (by (try simp only [List.map_toArray, List.map_cons, List.map_nil]); first | done | rfl | (simp only [List.length_drop, List.length_take]; rfl) | (go_simp; simp [IntKind.wrap, IntKind.bits, IntKind.signed]; omega)) ?_; (with_reducible refine (filter_May.calls k t155 false 3 (⟨#[]⟩ : ByteArray) t156 t157 _ A4.out).mono ?_); rintro e w38 ⟨rfl, hb⟩; refine ⟨_, rfl, ?_⟩; have n0_ := Aside0.mk (Kd.R_below (by (with_reducible repeat (first | apply Kd.R_alloc | apply Kd.R_drewN | apply Kd.R_drew)); exact HO151.out) hb); have n1_ := Aside0.mk (below_step (by repeat (first | (with_reducible first | exact HB.out | apply below_alloc | apply pw_below_drewN | apply below_drew1) | exact HB.out)) hb); clear HO151; clear HB; have HO151 := n0_; have HB := n1_; clear n0_ n1_; (try clear hb); (try clear hb2); (try clear hk); (try clear hi)))
   go_ret
   exact ⟨by first | rfl | (simp [errW_none, errW_some] <;> rfl) | (simp [*, errW_none, errW_some] <;> rfl), by repeat (first | (with_reducible first | exact HB.out | apply below_alloc | apply pw_below_drewN | apply below_drew1) | exact HB.out)⟩
 ·replace c5 := Bool.eq_false_iff.mpr c5
  subst c5
  have H1 : (some false) = some r := by rw [if_neg (show ¬ (false = true) by decide)] at H; exact H
  clear H
  have H := H1
  clear H1
  obtain rfl := Option.some.inj H
  go_enter Try.func6, Try.ntmps6
  go_wp2_with (first | ((with_reducible refine gate_dst (N := 7) rfl ?_); refine Kd.R_lit k28 _ 28 ?hg (N := 7) ?hd (xs := ([(⟨false, 3, (⟨#[]⟩ : ByteArray)⟩ : S28)] : List (S28))) (inner := [.bool false, .int .i64 3, .string (⟨#[]⟩ : ByteArray)]) (ok := fun _ => True) (okp := fun _ => True) ?hr ?hp (fun _ hk => hk) trivial (Below.refl _ _) (Nat.le_refl _) (by simp) ?_; (case hd => rfl); (case hg => rfl); (case hr => first | (go_simp; done) | (go_simp; rfl)); (case hp => exact (Reps.c3 (show Kd.M k28 _ _ _ (⟨false, 3, (⟨#[]⟩ : ByteArray)⟩ : S28) [.bool false, .int .i64 3, .string (⟨#[]⟩ : ByteArray)] from (k28_mkM _ _ _ (⟨false, 3, (⟨#[]⟩ : ByteArray)⟩ : S28) )) (Reps.none _ _))); intro v150 w39 ho40 hb hg_ hnew_; clear hg_ hnew_; (first | rw [← Ny149.out] at ho40 | (simp only [Int.reduceToNat] at ho40; rw [← Ny149.out] at ho40)); have n0_ := Aside0.mk (Kd.R_lower ho40 (below_size (by repeat (first | (with_reducible first | exact HB.out | apply below_alloc | apply pw_below_drewN | apply below_drew1) | exact HB.out)))); have n1_ := Aside0.mk (below_step (by repeat (first | (with_reducible first | exact HB.out | apply below_alloc | apply pw_below_drewN | apply below_drew1) | exact HB.out)) hb); clear HB; have HO151 := n0_; have HB := n1_; clear n0_ n1_; clear hb ho40; obtain ⟨Ao41, co41, eo41⟩ := Kd.R_slice HO151.out; subst eo41) | ((with_reducible refine gate_callee (f := 7) rfl ?_); refine goesL_ (some 8) rfl rfl Try.func7 (by kernel_rfl) rfl #[.slice Ao41 y149.length co41] rfl (by (try simp only [List.map_toArray, List.map_cons, List.map_nil]); first | done | rfl | (simp only [List.length_drop, List.length_take]; rfl) | (go_simp; simp [IntKind.wrap, IntKind.bits, IntKind.signed]; omega)) ?_; (with_reducible refine (filter_Make.calls k _ _ y149 t152 _ ?side1 ?side2 A1.out).mono ?_); (case side1 => repeat (first | exact (Kd.R_reads' HO151.out).2.2 | (with_reducible refine Kd.C_alloc ?_ _) | (with_reducible refine Kd.C_drewN ?_ _) | (with_reducible refine Kd.C_drew ?_))); (case side2 => exact (Kd.R_reads' HO151.out).2.1); rintro e w42 ⟨rfl, hb⟩; refine ⟨_, rfl, ?_⟩; have n0_ := Aside0.mk (Kd.R_below (by (with_reducible repeat (first | apply Kd.R_alloc | apply Kd.R_drewN | apply Kd.R_drew)); exact HO151.out) hb); have n1_ := Aside0.mk (below_step (by repeat (first | (with_reducible first | exact HB.out | apply below_alloc | apply pw_below_drewN | apply below_drew1) | exact HB.out)) hb); clear HO151; clear HB; have HO151 := n0_; have HB := n1_; clear n0_ n1_; (try clear hb); (try clear hb2); (try clear hk); (try clear hi)) | ((with_reducible refine gate_callee (f := 10) rfl ?_); refine goesL_ (some 10) rfl rfl Try.func10 (by kernel_rfl) rfl #[.string t152, .agg #[.bool false, .int .i64 3, .string (⟨#[]⟩ : ByteArray)]] rfl (by (try simp only [List.map_toArray, List.map_cons, List.map_nil]); first | done | rfl | (simp only [List.length_drop, List.length_take]; rfl) | (go_simp; simp [IntKind.wrap, IntKind.bits, IntKind.signed]; omega)) ?_; (with_reducible refine (filter_May.calls k t152 false 3 (⟨#[]⟩ : ByteArray) false t154 _ A2.out).mono ?_); rintro e w43 ⟨rfl, hb⟩; refine ⟨_, rfl, ?_⟩; have n0_ := Aside0.mk (Kd.R_below (by (with_reducible repeat (first | apply Kd.R_alloc | apply Kd.R_drewN | apply Kd.R_drew)); exact HO151.out) hb); have n1_ := Aside0.mk (below_step (by repeat (first | (with_reducible first | exact HB.out | apply below_alloc | apply pw_below_drewN | apply below_drew1) | exact HB.out)) hb); clear HO151; clear HB; have HO151 := n0_; have HB := n1_; clear n0_ n1_; (try clear hb); (try clear hb2); (try clear hk); (try clear hi)) | ((with_reducible refine gate_callee (f := 7) rfl ?_); refine goesL_ (some 14) rfl rfl Try.func7 (by kernel_rfl) rfl #[.slice none 0 0] rfl (by (try simp only [List.map_toArray, List.map_cons, List.map_nil]); first | done | rfl | (simp only [List.length_drop, List.length_take]; rfl) | (go_simp; simp [IntKind.wrap, IntKind.bits, IntKind.signed]; omega)) ?_; (refine (filter_Make.calls k _ _ ([] : List (S28)) t155 _ ?side1 ?side2 A3.out).mono ?_); (case side1 => exact Kd.C_nil _ _); (case side2 => exact Nat.le_refl _); rintro e w44 ⟨rfl, hb⟩; refine ⟨_, rfl, ?_⟩; have n0_ := Aside0.mk (Kd.R_below (by (with_reducible repeat (first | apply Kd.R_alloc | apply Kd.R_drewN | apply Kd.R_drew)); exact HO151.out) hb); have n1_ := Aside0.mk (below_step (by repeat (first | (with_reducible first | exact HB.out | apply below_alloc | apply pw_below_drewN | apply below_drew1) | exact HB.out)) hb); clear HO151; clear HB; have HO151 := n0_; have HB := n1_; clear n0_ n1_; (try clear hb); (try clear hb2); (try clear hk); (try clear hi)) | ((with_reducible refine gate_callee (f := 10) rfl ?_); refine goesL_ (some 16) rfl rfl Try.func10 (by kernel_rfl) rfl #[.string t155, .agg #[.bool false, .int .i64 3, .string (⟨#[]⟩ : ByteArray)]] rfl (by (try simp only [List.map_toArray, List.map_cons, List.map_nil]); first | done | rfl | (simp only [List.length_drop, List.length_take]; rfl) | (go_simp; simp [IntKind.wrap, IntKind.bits, IntKind.signed]; omega)) ?_; (with_reducible refine (filter_May.calls k t155 false 3 (⟨#[]⟩ : ByteArray) t156 t157 _ A4.out).mono ?_); rintro e w45 ⟨rfl, hb⟩; refine ⟨_, rfl, ?_⟩; have n0_ := Aside0.mk (Kd.R_below (by (with_reducible repeat (first | apply Kd.R_alloc | apply Kd.R_drewN | apply Kd.R_drew)); exact HO151.out) hb); have n1_ := Aside0.mk (below_step (by repeat (first | (with_reducible first | exact HB.out | apply below_alloc | apply pw_below_drewN | apply below_drew1) | exact HB.out)) hb); clear HO151; clear HB; have HO151 := n0_; have HB := n1_; clear n0_ n1_; (try clear hb); (try clear hb2); (try clear hk); (try clear hi)))
  go_ret
  exact ⟨by first | rfl | (simp [errW_none, errW_some] <;> rfl) | (simp [*, errW_none, errW_some] <;> rfl), by repeat (first | (with_reducible first | exact HB.out | apply below_alloc | apply pw_below_drewN | apply below_drew1) | exact HB.out)⟩
mutual
def tithebarnref02_ahead.l0 : Nat → ByteArray → ByteArray → Int → Option (Bool)
 | 0, _, _, _ => none
 | k + 1, x0, x1, x5 => if x5 < (x0.size : Int) then (tithebarnref02_ahead.j1 k x0 x1 x5 (decide (x5 < (x1.size : Int)))) else (tithebarnref02_ahead.j1 k x0 x1 x5 false)
def tithebarnref02_ahead.j1 : Nat → ByteArray → ByteArray → Int → Bool → Option (Bool)
 | 0, _, _, _, _ => none
 | k + 1, x0, x1, x5, x15 => if x15 = true then (if 0 ≤ x5 then (if x5 < (x0.size : Int) then (if x5 < (x1.size : Int) then (if (bt x0 x5) = (bt x1 x5) then (tithebarnref02_ahead.l0 k x0 x1 (wrap64 (x5 + 1))) else (some (decide ((bt x0 x5) < (bt x1 x5))))) else (none)) else (none)) else (none)) else (some (decide ((x0.size : Int) < (x1.size : Int))))
end
def tithebarnref02_ahead.f (k : Nat) (a0 : ByteArray) (a1 : ByteArray) : Option (Bool) := tithebarnref02_ahead.l0 k a0 a1 0
theorem tithebarnref02_ahead.mono_l : ∀ k, (∀ y0 y1 y2, LeO (tithebarnref02_ahead.l0 k y0 y1 y2) (tithebarnref02_ahead.l0 (k + 1) y0 y1 y2)) ∧ (∀ y0 y1 y2 y3, LeO (tithebarnref02_ahead.j1 k y0 y1 y2 y3) (tithebarnref02_ahead.j1 (k + 1) y0 y1 y2 y3))
 | 0 => ⟨fun _ _ _ r h => by simp [tithebarnref02_ahead.l0] at h, fun _ _ _ _ r h => by simp [tithebarnref02_ahead.j1] at h⟩
 | k + 1 => by
  obtain ⟨ih0, ih1⟩ := tithebarnref02_ahead.mono_l k
  refine ⟨?_, ?_⟩
  ·intro y0 y1 y2
   unfold tithebarnref02_ahead.l0
   repeat' first
   | (with_reducible exact ih0 _ _ _)
   | (with_reducible exact ih1 _ _ _ _)
   | (with_reducible exact LeO.refl _)
   | (with_reducible exact LeO.none _)
   | (with_reducible refine LeO.ite ?_ ?_)
   | (with_reducible refine LeO.bind ?_ (fun _ => ?_))
   | exact ih0 _ _ _
   | exact ih1 _ _ _ _
   | exact LeO.none _
   | refine LeO.ite ?_ ?_
   | refine LeO.bind ?_ (fun _ => ?_)
  ·intro y0 y1 y2 y3
   unfold tithebarnref02_ahead.j1
   repeat' first
   | (with_reducible exact ih0 _ _ _)
   | (with_reducible exact ih1 _ _ _ _)
   | (with_reducible exact LeO.refl _)
   | (with_reducible exact LeO.none _)
   | (with_reducible refine LeO.ite ?_ ?_)
   | (with_reducible refine LeO.bind ?_ (fun _ => ?_))
   | exact ih0 _ _ _
   | exact ih1 _ _ _ _
   | exact LeO.none _
   | refine LeO.ite ?_ ?_
   | refine LeO.bind ?_ (fun _ => ?_)
theorem tithebarnref02_ahead.mono : ∀ a0 a1 k, LeO (tithebarnref02_ahead.f k a0 a1) (tithebarnref02_ahead.f (k + 1) a0 a1) := by
 intro a0 a1 k
 obtain ⟨ih0, ih1⟩ := tithebarnref02_ahead.mono_l k
 unfold tithebarnref02_ahead.f
 repeat' first
   | (with_reducible exact ih0 _ _ _)
   | (with_reducible exact ih1 _ _ _ _)
   | (with_reducible exact LeO.refl _)
   | (with_reducible exact LeO.none _)
   | (with_reducible refine LeO.ite ?_ ?_)
   | (with_reducible refine LeO.bind ?_ (fun _ => ?_))
   | exact ih0 _ _ _
   | exact ih1 _ _ _ _
   | exact LeO.none _
   | refine LeO.ite ?_ ?_
   | refine LeO.bind ?_ (fun _ => ?_)
set_option maxHeartbeats 8000000 in
set_option maxRecDepth 100000 in
theorem tithebarnref02_ahead.calls (k : Nat) (a0 : ByteArray) (a1 : ByteArray) (r : Bool) (w : World) (h : tithebarnref02_ahead.f k a0 a1 = some r) :
  Calls Try.prog 66 #[.string a0, .string a1] w fun e w' => e = .returned (.bool r) ∧ Drawn0 w w' := by
 have H : (tithebarnref02_ahead.l0 k a0 a1 0) = some r := h
 clear h
 have H' := Aside0.mk H
 clear H
 go_enter Try.func66, Try.ntmps66
 go_wp2
 repeat (go_quiet (fail); try go_wp2)
 go_loopg [5] k (fun kq v5 w' => ∃ (x5_1 : Int), v5 = .int .i64 x5_1 ∧ Aside0 (tithebarnref02_ahead.l0 kq a0 a1 x5_1 = some r) ∧ Aside0 (kq ≤ k) ∧ Drawn0 w w')
 case atStart => exact ⟨(0), (by first | rfl | (simp; done) | (simp [*]; done)), H', ⟨Nat.le_refl _⟩, by repeat (first | exact Drawn0.refl _ | apply Drawn0.step)⟩
 case round =>
  clear H'
  try clear p2
  obtain ⟨x5_1, rfl, HA, HK1, ⟨m1, rfl⟩⟩ := hrel
  cases gk with
  | zero => exact absurd HA.out (by simp [tithebarnref02_ahead.l0])
  | succ k1 =>
   have H := HA.out
   clear HA
   simp only [tithebarnref02_ahead.l0] at H
   have HC3 := Aside0.mk H
   clear H
   go_upto_region 2 with (fail)
   repeat (go_quiet (fail); go_upto_region 2 with (fail))
   go_cut [15] (fun v15 wc => ∃ (kq : Nat) (x15_2 : Bool), v15 = .bool x15_2 ∧ Aside0 (tithebarnref02_ahead.j1 kq a0 a1 x5_1 x15_2 = some r) ∧ Aside0 (kq ≤ k1) ∧ Drawn0 w wc)
   case first =>
    have H := HC3.out
    clear HC3
    by_cases c4 : x5_1 < (a0.size : Int)
    ·rw [if_pos c4] at H
     have c4b0 : decide (x5_1 < (a0.size : Int)) = true := decide_eq_true c4
     clear c4
     (first | rw [c4b0] | (simp only [i64_w, i32_w]; rw [c4b0]) | skip)
     have H' := Aside0.mk H
     clear H
     go_wp2
     repeat (go_quiet (fail); try go_wp2)
     go_meet
     case rel => exact ⟨_, (decide (x5_1 < (a1.size : Int))), (by first | rfl | (simp; done) | (simp [*]; done)), H', ⟨by have := HK1.out; first | omega | exact Nat.le_refl _⟩, by repeat (first | exact Drawn0.refl _ | apply Drawn0.step)⟩
    ·rw [if_neg c4] at H
     have c4b0 : decide (x5_1 < (a0.size : Int)) = false := decide_eq_false c4
     clear c4
     (first | rw [c4b0] | (simp only [i64_w, i32_w]; rw [c4b0]) | skip)
     have H' := Aside0.mk H
     clear H
     go_wp2
     repeat (go_quiet (fail); try go_wp2)
     go_meet
     case rel => exact ⟨_, (false), (by first | rfl | (simp; done) | (simp [*]; done)), H', ⟨by have := HK1.out; first | omega | exact Nat.le_refl _⟩, by repeat (first | exact Drawn0.refl _ | apply Drawn0.step)⟩
   case rest =>
    clear HC3
    try clear p2
    try clear c4
    try clear c4b0
    try clear p2
    obtain ⟨kq, x15_2, rfl, HA, HJ2, ⟨mc2, rfl⟩⟩ := hcut
    cases kq with
    | zero => exact absurd HA.out (by simp [tithebarnref02_ahead.j1])
    | succ kj2 =>
     have H := HA.out
     clear HA
     simp only [tithebarnref02_ahead.j1] at H
     by_cases c5 : x15_2 = true
     ·subst c5
      have H1 : (if 0 ≤ x5_1 then (if x5_1 < (a0.size : Int) then (if x5_1 < (a1.size : Int) then (if (bt a0 x5_1) = (bt a1 x5_1) then (tithebarnref02_ahead.l0 kj2 a0 a1 (wrap64 (x5_1 + 1))) else (some (decide ((bt a0 x5_1) < (bt a1 x5_1))))) else (none)) else (none)) else (none)) = some r := by rw [if_pos rfl] at H; exact H
      clear H
      have H := H1
      clear H1
      by_cases c6 : 0 ≤ x5_1
      ·rw [if_pos c6] at H
       have c6b0 : decide (0 ≤ x5_1) = true := decide_eq_true c6
       clear c6
       by_cases c7 : x5_1 < (a0.size : Int)
       ·rw [if_pos c7] at H
        have c7b0 : decide (x5_1 < (a0.size : Int)) = true := decide_eq_true c7
        clear c7
        by_cases c9 : x5_1 < (a1.size : Int)
        ·rw [if_pos c9] at H
         have c9b0 : decide (x5_1 < (a1.size : Int)) = true := decide_eq_true c9
         clear c9
         by_cases c11 : (bt a0 x5_1) = (bt a1 x5_1)
         ·rw [if_pos c11] at H
          have c11b0 : ((bt a0 x5_1) == (bt a1 x5_1)) = true := beq_iff_eq.mpr c11
          have c11b1 : ((bt a0 x5_1) != (bt a1 x5_1)) = false := bne_eq_false_iff_eq.mpr c11
          clear c11
          have H' := Aside0.mk H
          clear H
          have p8 : 0 ≤ (x5_1 : Int) := of_decide_eq_true (by first | (with_reducible assumption) | assumption)
          have q8 : x5_1 < (a0.size : Int) := of_decide_eq_true (by first | (with_reducible assumption) | assumption)
          have hx8 := bt_at a0 x5_1
          replace p8 := eq_true p8
          replace q8 := eq_true q8
          have p10 : 0 ≤ (x5_1 : Int) := of_decide_eq_true (by first | (with_reducible assumption) | assumption)
          have q10 : x5_1 < (a1.size : Int) := of_decide_eq_true (by first | (with_reducible assumption) | assumption)
          have hx10 := bt_at a1 x5_1
          replace p10 := eq_true p10
          replace q10 := eq_true q10
          go_wp2
          repeat (go_quiet (fail); try go_wp2)
          go_roundg kj2
          case measure => have := HK1.out; have := HJ2.out; omega
          case rel => exact ⟨(wrap64 (x5_1 + 1)), (by first | rfl | (simp; done) | (simp [*]; done)), H', ⟨by have := HK1.out; have := HJ2.out; omega⟩, by repeat (first | exact Drawn0.refl _ | apply Drawn0.step)⟩
         ·rw [if_neg c11] at H
          have c11b0 : ((bt a0 x5_1) == (bt a1 x5_1)) = false := beq_eq_false_iff_ne.mpr c11
          have c11b1 : ((bt a0 x5_1) != (bt a1 x5_1)) = true := bne_iff_ne.mpr c11
          obtain rfl := Option.some.inj H
          have p8 : 0 ≤ (x5_1 : Int) := of_decide_eq_true (by first | (with_reducible assumption) | assumption)
          have q8 : x5_1 < (a0.size : Int) := of_decide_eq_true (by first | (with_reducible assumption) | assumption)
          have hx8 := bt_at a0 x5_1
          replace p8 := eq_true p8
          replace q8 := eq_true q8
          have p10 : 0 ≤ (x5_1 : Int) := of_decide_eq_true (by first | (with_reducible assumption) | assumption)
          have q10 : x5_1 < (a1.size : Int) := of_decide_eq_true (by first | (with_reducible assumption) | assumption)
          have hx10 := bt_at a1 x5_1
          replace p10 := eq_true p10
          replace q10 := eq_true q10
          have p12 : 0 ≤ (x5_1 : Int) := of_decide_eq_true (by first | (with_reducible assumption) | assumption)
          have q12 : x5_1 < (a0.size : Int) := of_decide_eq_true (by first | (with_reducible assumption) | assumption)
          have hx12 := bt_at a0 x5_1
          replace p12 := eq_true p12
          replace q12 := eq_true q12
          have p13 : 0 ≤ (x5_1 : Int) := of_decide_eq_true (by first | (with_reducible assumption) | assumption)
          have q13 : x5_1 < (a1.size : Int) := of_decide_eq_true (by first | (with_reducible assumption) | assumption)
          have hx13 := bt_at a1 x5_1
          replace p13 := eq_true p13
          replace q13 := eq_true q13
          go_wp2
          repeat (go_quiet (fail); try go_wp2)
          go_ret
          exact ⟨by first | rfl | (simp; done) | (simp [*]; done), by repeat (first | exact Drawn0.refl _ | apply Drawn0.step)⟩
        ·rw [if_neg c9] at H
         exact absurd H (by simp)
       ·rw [if_neg c7] at H
        exact absurd H (by simp)
      ·rw [if_neg c6] at H
       exact absurd H (by simp)
     ·replace c5 := Bool.eq_false_iff.mpr c5
      subst c5
      have H1 : (some (decide ((a0.size : Int) < (a1.size : Int)))) = some r := by rw [if_neg (show ¬ (false = true) by decide)] at H; exact H
      clear H
      have H := H1
      clear H1
      obtain rfl := Option.some.inj H
      go_wp2
      repeat (go_quiet (fail); try go_wp2)
      go_ret
      exact ⟨by first | rfl | (simp; done) | (simp [*]; done), by repeat (first | exact Drawn0.refl _ | apply Drawn0.step)⟩
def tithebarnref02_Ahead.j0 : Nat → Bool → Bool → Int → ByteArray → Bool → Int → ByteArray → Option (Bool)
 | 0, _, _, _, _, _, _, _ => none
 | k + 1, x10, x163000, x163001, x163002, x164000, x164001, x164002 => if x10 = true then (if x163000 = true then (some (!x164000)) else (some false)) else (if x163001 = x164001 then ((tithebarnref02_ahead.f k x163002 x164002).bind fun t164 => (some t164)) else (some (decide (x163001 < x164001))))
def tithebarnref02_Ahead.f (k : Nat) (a0_0 : Bool) (a0_1 : Int) (a0_2 : ByteArray) (a1_0 : Bool) (a1_1 : Int) (a1_2 : ByteArray) : Option (Bool) := if a0_0 = true then (tithebarnref02_Ahead.j0 k true a0_0 a0_1 a0_2 a1_0 a1_1 a1_2) else (tithebarnref02_Ahead.j0 k a1_0 a0_0 a0_1 a0_2 a1_0 a1_1 a1_2)
theorem tithebarnref02_Ahead.mono_l : ∀ k, (∀ y0 y1 y2 y3 y4 y5 y6, LeO (tithebarnref02_Ahead.j0 k y0 y1 y2 y3 y4 y5 y6) (tithebarnref02_Ahead.j0 (k + 1) y0 y1 y2 y3 y4 y5 y6))
 | 0 => fun _ _ _ _ _ _ _ r h => by simp [tithebarnref02_Ahead.j0] at h
 | k + 1 => by
  have ih0 := tithebarnref02_Ahead.mono_l k
  ·intro y0 y1 y2 y3 y4 y5 y6
   unfold tithebarnref02_Ahead.j0
   repeat' first
   | (with_reducible exact ih0 _ _ _ _ _ _ _)
   | (with_reducible exact tithebarnref02_ahead.mono _ _ _)
   | (with_reducible exact LeO.refl _)
   | (with_reducible exact LeO.none _)
   | (with_reducible refine LeO.ite ?_ ?_)
   | (with_reducible refine LeO.bind ?_ (fun _ => ?_))
   | exact ih0 _ _ _ _ _ _ _
   | exact tithebarnref02_ahead.mono _ _ _
   | exact LeO.none _
   | refine LeO.ite ?_ ?_
   | refine LeO.bind ?_ (fun _ => ?_)
theorem tithebarnref02_Ahead.mono : ∀ a0 a1 a2 a3 a4 a5 k, LeO (tithebarnref02_Ahead.f k a0 a1 a2 a3 a4 a5) (tithebarnref02_Ahead.f (k + 1) a0 a1 a2 a3 a4 a5) := by
 intro a0 a1 a2 a3 a4 a5 k
 have ih0 := tithebarnref02_Ahead.mono_l k
 unfold tithebarnref02_Ahead.f
 repeat' first
   | (with_reducible exact ih0 _ _ _ _ _ _ _)
   | (with_reducible exact tithebarnref02_ahead.mono _ _ _)
   | (with_reducible exact LeO.refl _)
   | (with_reducible exact LeO.none _)
   | (with_reducible refine LeO.ite ?_ ?_)
   | (with_reducible refine LeO.bind ?_ (fun _ => ?_))
   | exact ih0 _ _ _ _ _ _ _
   | exact tithebarnref02_ahead.mono _ _ _
   | exact LeO.none _
   | refine LeO.ite ?_ ?_
   | refine LeO.bind ?_ (fun _ => ?_)
set_option maxHeartbeats 8000000 in
set_option maxRecDepth 100000 in
theorem tithebarnref02_Ahead.calls (k : Nat) (a0_0 : Bool) (a0_1 : Int) (a0_2 : ByteArray) (a1_0 : Bool) (a1_1 : Int) (a1_2 : ByteArray) (r : Bool) (w : World) (h : tithebarnref02_Ahead.f k a0_0 a0_1 a0_2 a1_0 a1_1 a1_2 = some r) :
  Calls Try.prog 57 #[.agg #[.bool a0_0, .int .i64 a0_1, .string a0_2], .agg #[.bool a1_0, .int .i64 a1_1, .string a1_2]] w fun e w' => e = .returned (.bool r) ∧ Below w.heap.size w w' := by
 have hu28 := Try.underlying28
 have HB := Aside0.mk (Below.refl w.heap.size w)
 have H : (if a0_0 = true then (tithebarnref02_Ahead.j0 k true a0_0 a0_1 a0_2 a1_0 a1_1 a1_2) else (tithebarnref02_Ahead.j0 k a1_0 a0_0 a0_1 a0_2 a1_0 a1_1 a1_2)) = some r := h
 clear h
 have HC3 := Aside0.mk H
 clear H
 go_enter Try.func57, Try.ntmps57
 go_upto_region 1 with (first | ((with_reducible refine gate_dst (N := 2) rfl ?_); refine box_event ?hg (N := 2) ?hd (cs := #[.bool a0_0, .int .i64 a0_1, .string a0_2]) (t := 28) ?hr ?_; (case hd => rfl); (case hg => rfl); (case hr => first | (go_simp; done) | (go_simp; rfl)); intro gb162 hg w4 hbox hb; have n0_ := Aside0.mk (below_step (by repeat (first | (with_reducible first | exact HB.out | apply below_alloc | apply pw_below_drewN | apply below_drew1) | exact HB.out)) hb); have n1_ := Aside0.mk (hbox); have n2_ := Aside0.mk ((by rw [hg]; exact (below_size (by repeat (first | (with_reducible first | exact HB.out | apply below_alloc | apply pw_below_drewN | apply below_drew1) | exact HB.out))) : w.heap.size ≤ gb162)); have n3_ := Aside0.mk ((by rw [hg]; exact (below_size (by repeat (first | (with_reducible first | exact HB.out | apply below_alloc | apply pw_below_drewN | apply below_drew1) | exact HB.out))) : w.heap.size ≤ gb162)); clear HB; have HB := n0_; have BK162 := n1_; have GW162 := n2_; have GE162 := n3_; clear n0_ n1_ n2_ n3_; clear hb hbox hg) | ((with_reducible refine gate_dst (N := 3) rfl ?_); refine box_event ?hg (N := 3) ?hd (cs := #[.bool a1_0, .int .i64 a1_1, .string a1_2]) (t := 28) ?hr ?_; (case hd => rfl); (case hg => rfl); (case hr => first | (go_simp; done) | (go_simp; rfl)); intro gb163 hg w5 hbox hb; have n0_ := Aside0.mk (blk_below (g := gb162) (o := .cells #[.bool a0_0, .int .i64 a0_1, .string a0_2] 28 (0, 0)) (by (with_reducible repeat (first | refine blk_drewN ?_ _ | refine blk_drew ?_ | refine blk_alloc ?_ _)); exact BK162.out) hb); have n1_ := Aside0.mk (below_step (by repeat (first | (with_reducible first | exact HB.out | apply below_alloc | apply pw_below_drewN | apply below_drew1 | refine below_set ?_ GE162.out) | exact HB.out)) hb); have n2_ := Aside0.mk (hbox); have n3_ := Aside0.mk ((by rw [hg]; exact (below_size (by repeat (first | (with_reducible first | exact HB.out | apply below_alloc | apply pw_below_drewN | apply below_drew1 | refine below_set ?_ GE162.out) | exact HB.out))) : w.heap.size ≤ gb163)); have n4_ := Aside0.mk ((by rw [hg]; exact (below_size (by repeat (first | (with_reducible first | exact HB.out | apply below_alloc | apply pw_below_drewN | apply below_drew1 | refine below_set ?_ GE162.out) | exact HB.out))) : w.heap.size ≤ gb163)); have n5_ := Aside0.mk ((by rw [hg]; exact Nat.ne_of_lt (blk_lt (g := gb162) (o := .cells #[.bool a0_0, .int .i64 a0_1, .string a0_2] 28 (0, 0)) (by (with_reducible repeat (first | refine blk_drewN ?_ _ | refine blk_drew ?_ | refine blk_alloc ?_ _)); exact BK162.out)) : gb162 ≠ gb163)); have n6_ := Aside0.mk ((by rw [hg]; exact Nat.ne_of_gt (blk_lt (g := gb162) (o := .cells #[.bool a0_0, .int .i64 a0_1, .string a0_2] 28 (0, 0)) (by (with_reducible repeat (first | refine blk_drewN ?_ _ | refine blk_drew ?_ | refine blk_alloc ?_ _)); exact BK162.out)) : gb163 ≠ gb162)); clear BK162; clear HB; have BK162 := n0_; have HB := n1_; have BK163 := n2_; have GW163 := n3_; have GE163 := n4_; have NB162_163 := n5_; have NB163_162 := n6_; clear n0_ n1_ n2_ n3_ n4_ n5_ n6_; clear hb hbox hg))
 (try simp only [Act.put, List.setIfInBounds_toArray, List.set_cons_zero, List.set_cons_succ])
 go_cut [10] (fun v10 wc => ∃ (kq : Nat) (x10_2 : Bool), v10 = .bool x10_2 ∧ Aside0 (tithebarnref02_Ahead.j0 kq x10_2 a0_0 a0_1 a0_2 a1_0 a1_1 a1_2 = some r) ∧ Aside0 (kq ≤ k) ∧ Aside0 (wc.heap[gb162]? = some (.cells #[.bool a0_0, .int .i64 a0_1, .string a0_2] 28 (0, 0))) ∧ Aside0 (wc.heap[gb163]? = some (.cells #[.bool a1_0, .int .i64 a1_1, .string a1_2] 28 (0, 0))) ∧ Aside0 (Below w.heap.size w wc))
 case first =>
  have H := HC3.out
  clear HC3
  by_cases c6 : a0_0 = true
  ·subst c6
   have H1 : (tithebarnref02_Ahead.j0 k true true a0_1 a0_2 a1_0 a1_1 a1_2) = some r := by rw [if_pos rfl] at H; exact H
   clear H
   have H := H1
   clear H1
   have H' := Aside0.mk H
   clear H
   have hnb7 := NB162_163.out
   have hnc7 := NB163_162.out
   have hcz8_0 : w5.cell? ⟨gb162, 0, none⟩ = some (.bool true) := (blk_cell BK162.out 0).trans rfl
   have hcz8_1 : w5.cell? ⟨gb162, 1, none⟩ = some (.int .i64 a0_1) := (blk_cell BK162.out 1).trans rfl
   have hcz8_2 : w5.cell? ⟨gb162, 2, none⟩ = some (.string a0_2) := (blk_cell BK162.out 2).trans rfl
   have hfz8_0 := blk_frozen BK162.out 0
   have hfz8_1 := blk_frozen BK162.out 1
   have hfz8_2 := blk_frozen BK162.out 2
   go_wp2
   go_meet
   case rel => exact ⟨_, (true), (by first | rfl | (simp; done) | (simp [*]; done)), H', ⟨by first | omega | exact Nat.le_refl _⟩, ⟨by (with_reducible repeat (first | refine blk_drewN ?_ _ | refine blk_drew ?_ | refine blk_alloc ?_ _)); exact BK162.out⟩, ⟨by (with_reducible repeat (first | refine blk_drewN ?_ _ | refine blk_drew ?_ | refine blk_alloc ?_ _)); exact BK163.out⟩, ⟨by repeat (first | (with_reducible first | exact HB.out | apply below_alloc | apply pw_below_drewN | apply below_drew1 | refine below_set ?_ GE162.out | refine below_set ?_ GE163.out) | exact HB.out)⟩⟩
  ·replace c6 := Bool.eq_false_iff.mpr c6
   subst c6
   have H1 : (tithebarnref02_Ahead.j0 k a1_0 false a0_1 a0_2 a1_0 a1_1 a1_2) = some r := by rw [if_neg (show ¬ (false = true) by decide)] at H; exact H
   clear H
   have H := H1
   clear H1
   have H' := Aside0.mk H
   clear H
   have hnb9 := NB162_163.out
   have hnc9 := NB163_162.out
   have hcz10_0 : w5.cell? ⟨gb162, 0, none⟩ = some (.bool false) := (blk_cell BK162.out 0).trans rfl
   have hcz10_1 : w5.cell? ⟨gb162, 1, none⟩ = some (.int .i64 a0_1) := (blk_cell BK162.out 1).trans rfl
   have hcz10_2 : w5.cell? ⟨gb162, 2, none⟩ = some (.string a0_2) := (blk_cell BK162.out 2).trans rfl
   have hfz10_0 := blk_frozen BK162.out 0
   have hfz10_1 := blk_frozen BK162.out 1
   have hfz10_2 := blk_frozen BK162.out 2
   have hcz11_0 : w5.cell? ⟨gb163, 0, none⟩ = some (.bool a1_0) := (blk_cell BK163.out 0).trans rfl
   have hcz11_1 : w5.cell? ⟨gb163, 1, none⟩ = some (.int .i64 a1_1) := (blk_cell BK163.out 1).trans rfl
   have hcz11_2 : w5.cell? ⟨gb163, 2, none⟩ = some (.string a1_2) := (blk_cell BK163.out 2).trans rfl
   have hfz11_0 := blk_frozen BK163.out 0
   have hfz11_1 := blk_frozen BK163.out 1
   have hfz11_2 := blk_frozen BK163.out 2
   go_wp2
   go_meet
   case rel => exact ⟨_, (a1_0), (by first | rfl | (simp; done) | (simp [*]; done)), H', ⟨by first | omega | exact Nat.le_refl _⟩, ⟨by (with_reducible repeat (first | refine blk_drewN ?_ _ | refine blk_drew ?_ | refine blk_alloc ?_ _)); exact BK162.out⟩, ⟨by (with_reducible repeat (first | refine blk_drewN ?_ _ | refine blk_drew ?_ | refine blk_alloc ?_ _)); exact BK163.out⟩, ⟨by repeat (first | (with_reducible first | exact HB.out | apply below_alloc | apply pw_below_drewN | apply below_drew1 | refine below_set ?_ GE162.out | refine below_set ?_ GE163.out) | exact HB.out)⟩⟩
 case rest =>
  clear HC3
  try clear p2
  try clear c5
  try clear c6
  try clear c7
  try clear c9
  try clear hcz10_0
  try clear hcz10_1
  try clear hcz10_2
  try clear hcz11_0
  try clear hcz11_1
  try clear hcz11_2
  try clear hcz8_0
  try clear hcz8_1
  try clear hcz8_2
  try clear hfz10_0
  try clear hfz10_1
  try clear hfz10_2
  try clear hfz11_0
  try clear hfz11_1
  try clear hfz11_2
  try clear hfz8_0
  try clear hfz8_1
  try clear hfz8_2
  obtain ⟨kq, x10_2, rfl, HA, HJ2, BK162, BK163, HB⟩ := hcut
  cases kq with
  | zero => exact absurd HA.out (by simp [tithebarnref02_Ahead.j0])
  | succ kj2 =>
   have H := HA.out
   clear HA
   simp only [tithebarnref02_Ahead.j0] at H
   by_cases c12 : x10_2 = true
   ·subst c12
    have H1 : (if a0_0 = true then (some (!a1_0)) else (some false)) = some r := by rw [if_pos rfl] at H; exact H
    clear H
    have H := H1
    clear H1
    by_cases c13 : a0_0 = true
    ·subst c13
     have H1 : (some (!a1_0)) = some r := by rw [if_pos rfl] at H; exact H
     clear H
     have H := H1
     clear H1
     obtain rfl := Option.some.inj H
     have hnb14 := NB162_163.out
     have hnc14 := NB163_162.out
     have hcz15_0 : wc.cell? ⟨gb162, 0, none⟩ = some (.bool true) := (blk_cell BK162.out 0).trans rfl
     have hcz15_1 : wc.cell? ⟨gb162, 1, none⟩ = some (.int .i64 a0_1) := (blk_cell BK162.out 1).trans rfl
     have hcz15_2 : wc.cell? ⟨gb162, 2, none⟩ = some (.string a0_2) := (blk_cell BK162.out 2).trans rfl
     have hfz15_0 := blk_frozen BK162.out 0
     have hfz15_1 := blk_frozen BK162.out 1
     have hfz15_2 := blk_frozen BK162.out 2
     have hcz16_0 : wc.cell? ⟨gb163, 0, none⟩ = some (.bool a1_0) := (blk_cell BK163.out 0).trans rfl
     have hcz16_1 : wc.cell? ⟨gb163, 1, none⟩ = some (.int .i64 a1_1) := (blk_cell BK163.out 1).trans rfl
     have hcz16_2 : wc.cell? ⟨gb163, 2, none⟩ = some (.string a1_2) := (blk_cell BK163.out 2).trans rfl
     have hfz16_0 := blk_frozen BK163.out 0
     have hfz16_1 := blk_frozen BK163.out 1
     have hfz16_2 := blk_frozen BK163.out 2
     go_wp2
     go_ret
     exact ⟨by first | rfl | (simp [errW_none, errW_some] <;> rfl) | (simp [*, errW_none, errW_some] <;> rfl), by repeat (first | (with_reducible first | exact HB.out | apply below_alloc | apply pw_below_drewN | apply below_drew1 | refine below_set ?_ GE162.out | refine below_set ?_ GE163.out) | exact HB.out)⟩
    ·replace c13 := Bool.eq_false_iff.mpr c13
     subst c13
     have H1 : (some false) = some r := by rw [if_neg (show ¬ (false = true) by decide)] at H; exact H
     clear H
     have H := H1
     clear H1
     obtain rfl := Option.some.inj H
     have hnb17 := NB162_163.out
     have hnc17 := NB163_162.out
     have hcz18_0 : wc.cell? ⟨gb162, 0, none⟩ = some (.bool false) := (blk_cell BK162.out 0).trans rfl
     have hcz18_1 : wc.cell? ⟨gb162, 1, none⟩ = some (.int .i64 a0_1) := (blk_cell BK162.out 1).trans rfl
     have hcz18_2 : wc.cell? ⟨gb162, 2, none⟩ = some (.string a0_2) := (blk_cell BK162.out 2).trans rfl
     have hfz18_0 := blk_frozen BK162.out 0
     have hfz18_1 := blk_frozen BK162.out 1
     have hfz18_2 := blk_frozen BK162.out 2
     go_wp2
     go_ret
     exact ⟨by first | rfl | (simp [errW_none, errW_some] <;> rfl) | (simp [*, errW_none, errW_some] <;> rfl), by repeat (first | (with_reducible first | exact HB.out | apply below_alloc | apply pw_below_drewN | apply below_drew1 | refine below_set ?_ GE162.out | refine below_set ?_ GE163.out) | exact HB.out)⟩
   ·replace c12 := Bool.eq_false_iff.mpr c12
    subst c12
    have H1 : (if a0_1 = a1_1 then ((tithebarnref02_ahead.f kj2 a0_2 a1_2).bind fun t164 => (some t164)) else (some (decide (a0_1 < a1_1)))) = some r := by rw [if_neg (show ¬ (false = true) by decide)] at H; exact H
    clear H
    have H := H1
    clear H1
    by_cases c19 : a0_1 = a1_1
    ·rw [if_pos c19] at H
     have c19b0 : (a0_1 == a1_1) = true := beq_iff_eq.mpr c19
     have c19b1 : (a0_1 != a1_1) = false := bne_eq_false_iff_eq.mpr c19
     clear c19
     replace H := Option.bind_eq_some_iff.mp H
     obtain ⟨t164, A200, H⟩ := H
     replace H : (some t164) = some r := H
     have A20 := Aside0.mk A200
     clear A200
     obtain rfl := Option.some.inj H
     have hnb21 := NB162_163.out
     have hnc21 := NB163_162.out
     have hcz22_0 : wc.cell? ⟨gb162, 0, none⟩ = some (.bool a0_0) := (blk_cell BK162.out 0).trans rfl
     have hcz22_1 : wc.cell? ⟨gb162, 1, none⟩ = some (.int .i64 a0_1) := (blk_cell BK162.out 1).trans rfl
     have hcz22_2 : wc.cell? ⟨gb162, 2, none⟩ = some (.string a0_2) := (blk_cell BK162.out 2).trans rfl
     have hfz22_0 := blk_frozen BK162.out 0
     have hfz22_1 := blk_frozen BK162.out 1
     have hfz22_2 := blk_frozen BK162.out 2
     have hcz23_0 : wc.cell? ⟨gb163, 0, none⟩ = some (.bool a1_0) := (blk_cell BK163.out 0).trans rfl
     have hcz23_1 : wc.cell? ⟨gb163, 1, none⟩ = some (.int .i64 a1_1) := (blk_cell BK163.out 1).trans rfl
     have hcz23_2 : wc.cell? ⟨gb163, 2, none⟩ = some (.string a1_2) := (blk_cell BK163.out 2).trans rfl
     have hfz23_0 := blk_frozen BK163.out 0
     have hfz23_1 := blk_frozen BK163.out 1
     have hfz23_2 := blk_frozen BK163.out 2
     go_wp2_with (first | ((with_reducible refine gate_callee (f := 66) rfl ?_); refine goesL_ (some 32) rfl rfl Try.func66 (by kernel_rfl) rfl #[.string a0_2, .string a1_2] rfl (by (try simp only [List.map_toArray, List.map_cons, List.map_nil]); first | done | rfl | (simp only [List.length_drop, List.length_take]; rfl) | (go_simp; simp [IntKind.wrap, IntKind.bits, IntKind.signed]; omega)) ?_; (with_reducible refine (tithebarnref02_ahead.calls kj2 a0_2 a1_2 t164 _ A20.out).mono ?_); rintro e w' ⟨rfl, ⟨nd, rfl⟩⟩; refine ⟨_, rfl, ?_⟩))
     go_ret
     exact ⟨by first | rfl | (simp [errW_none, errW_some] <;> rfl) | (simp [*, errW_none, errW_some] <;> rfl), by repeat (first | (with_reducible first | exact HB.out | apply below_alloc | apply pw_below_drewN | apply below_drew1 | refine below_set ?_ GE162.out | refine below_set ?_ GE163.out) | exact HB.out)⟩
    ·rw [if_neg c19] at H
     have c19b0 : (a0_1 == a1_1) = false := beq_eq_false_iff_ne.mpr c19
     have c19b1 : (a0_1 != a1_1) = true := bne_iff_ne.mpr c19
     obtain rfl := Option.some.inj H
     have hnb24 := NB162_163.out
     have hnc24 := NB163_162.out
     have hcz25_0 : wc.cell? ⟨gb162, 0, none⟩ = some (.bool a0_0) := (blk_cell BK162.out 0).trans rfl
     have hcz25_1 : wc.cell? ⟨gb162, 1, none⟩ = some (.int .i64 a0_1) := (blk_cell BK162.out 1).trans rfl
     have hcz25_2 : wc.cell? ⟨gb162, 2, none⟩ = some (.string a0_2) := (blk_cell BK162.out 2).trans rfl
     have hfz25_0 := blk_frozen BK162.out 0
     have hfz25_1 := blk_frozen BK162.out 1
     have hfz25_2 := blk_frozen BK162.out 2
     have hcz26_0 : wc.cell? ⟨gb163, 0, none⟩ = some (.bool a1_0) := (blk_cell BK163.out 0).trans rfl
     have hcz26_1 : wc.cell? ⟨gb163, 1, none⟩ = some (.int .i64 a1_1) := (blk_cell BK163.out 1).trans rfl
     have hcz26_2 : wc.cell? ⟨gb163, 2, none⟩ = some (.string a1_2) := (blk_cell BK163.out 2).trans rfl
     have hfz26_0 := blk_frozen BK163.out 0
     have hfz26_1 := blk_frozen BK163.out 1
     have hfz26_2 := blk_frozen BK163.out 2
     go_wp2
     go_ret
     exact ⟨by first | rfl | (simp [errW_none, errW_some] <;> rfl) | (simp [*, errW_none, errW_some] <;> rfl), by repeat (first | (with_reducible first | exact HB.out | apply below_alloc | apply pw_below_drewN | apply below_drew1 | refine below_set ?_ GE162.out | refine below_set ?_ GE163.out) | exact HB.out)⟩
end Go.Proofs.Ytlbcpigjbjolaaa.G
namespace Go.Proofs.Ytlbcpigjbjolaaa.G
open Go.RowKit Go.Proofs.YtlbcpigjbjolaaaQ Go.Proofs.YtlbcpigjbjolaaaW.PrintWords Go.Proofs.YtlbcpigjbjolaaaW.PrintLast Go.Proofs.YtlbcpigjbjolaaaW.PrintMore
attribute [local go_sem] max2_int min2_int max_two min_two max_three min_three max_four min_four   -- for this text's walks alone
set_option linter.unusedVariables false
set_option linter.unusedSimpArgs false
def tithebarnref02_Compare.f (k : Nat) (a0_0 : Bool) (a0_1 : Int) (a0_2 : ByteArray) (a1_0 : Bool) (a1_1 : Int) (a1_2 : ByteArray) : Option (Int) := (tithebarnref02_Ahead.f k a0_0 a0_1 a0_2 a1_0 a1_1 a1_2).bind fun t167 => (if t167 = true then (some (-1)) else ((tithebarnref02_Ahead.f k a1_0 a1_1 a1_2 a0_0 a0_1 a0_2).bind fun t168 => (if t168 = true then (some 1) else (some 0))))
theorem tithebarnref02_Compare.mono : ∀ a0 a1 a2 a3 a4 a5 k, LeO (tithebarnref02_Compare.f k a0 a1 a2 a3 a4 a5) (tithebarnref02_Compare.f (k + 1) a0 a1 a2 a3 a4 a5) := by
 intro a0 a1 a2 a3 a4 a5 k
 unfold tithebarnref02_Compare.f
 repeat' first
   | (with_reducible exact tithebarnref02_Ahead.mono _ _ _ _ _ _ _)
   | (with_reducible exact LeO.refl _)
   | (with_reducible exact LeO.none _)
   | (with_reducible refine LeO.ite ?_ ?_)
   | (with_reducible refine LeO.bind ?_ (fun _ => ?_))
   | exact tithebarnref02_Ahead.mono _ _ _ _ _ _ _
   | exact LeO.none _
   | refine LeO.ite ?_ ?_
   | refine LeO.bind ?_ (fun _ => ?_)
set_option maxHeartbeats 8000000 in
set_option maxRecDepth 100000 in
theorem tithebarnref02_Compare.calls (k : Nat) (a0_0 : Bool) (a0_1 : Int) (a0_2 : ByteArray) (a1_0 : Bool) (a1_1 : Int) (a1_2 : ByteArray) (r : Int) (w : World) (h : tithebarnref02_Compare.f k a0_0 a0_1 a0_2 a1_0 a1_1 a1_2 = some r) :
  Calls Try.prog 36 #[.agg #[.bool a0_0, .int .i64 a0_1, .string a0_2], .agg #[.bool a1_0, .int .i64 a1_1, .string a1_2]] w fun e w' => e = .returned (.int .i64 r) ∧ Below w.heap.size w w' := by
 have hu28 := Try.underlying28
 have HB := Aside0.mk (Below.refl w.heap.size w)
 have H : ((tithebarnref02_Ahead.f k a0_0 a0_1 a0_2 a1_0 a1_1 a1_2).bind fun t167 => (if t167 = true then (some (-1)) else ((tithebarnref02_Ahead.f k a1_0 a1_1 a1_2 a0_0 a0_1 a0_2).bind fun t168 => (if t168 = true then (some 1) else (some 0))))) = some r := h
 clear h
 replace H := Option.bind_eq_some_iff.mp H
 obtain ⟨t167, A30, H⟩ := H
 replace H : (if t167 = true then (some (-1)) else ((tithebarnref02_Ahead.f k a1_0 a1_1 a1_2 a0_0 a0_1 a0_2).bind fun t168 => (if t168 = true then (some 1) else (some 0)))) = some r := H
 have A3 := Aside0.mk A30
 clear A30
 by_cases c4 : t167 = true
 ·subst c4
  have H1 : (some (-1)) = some r := by rw [if_pos rfl] at H; exact H
  clear H
  have H := H1
  clear H1
  obtain rfl := Option.some.inj H
  go_enter Try.func36, Try.ntmps36
  go_wp2_with (first | ((with_reducible refine gate_dst (N := 2) rfl ?_); refine box_event ?hg (N := 2) ?hd (cs := #[.bool a0_0, .int .i64 a0_1, .string a0_2]) (t := 28) ?hr ?_; (case hd => rfl); (case hg => rfl); (case hr => first | (go_simp; done) | (go_simp; rfl)); intro gb165 hg w5 hbox hb; have n0_ := Aside0.mk (below_step (by repeat (first | (with_reducible first | exact HB.out | apply below_alloc | apply pw_below_drewN | apply below_drew1) | exact HB.out)) hb); have n1_ := Aside0.mk (hbox); have n2_ := Aside0.mk ((by rw [hg]; exact (below_size (by repeat (first | (with_reducible first | exact HB.out | apply below_alloc | apply pw_below_drewN | apply below_drew1) | exact HB.out))) : w.heap.size ≤ gb165)); have n3_ := Aside0.mk ((by rw [hg]; exact (below_size (by repeat (first | (with_reducible first | exact HB.out | apply below_alloc | apply pw_below_drewN | apply below_drew1) | exact HB.out))) : w.heap.size ≤ gb165)); clear HB; have HB := n0_; have BK165 := n1_; have GW165 := n2_; have GE165 := n3_; clear n0_ n1_ n2_ n3_; clear hb hbox hg) | ((with_reducible refine gate_dst (N := 3) rfl ?_); refine box_event ?hg (N := 3) ?hd (cs := #[.bool a1_0, .int .i64 a1_1, .string a1_2]) (t := 28) ?hr ?_; (case hd => rfl); (case hg => rfl); (case hr => first | (go_simp; done) | (go_simp; rfl)); intro gb166 hg w6 hbox hb; have n0_ := Aside0.mk (blk_below (g := gb165) (o := .cells #[.bool a0_0, .int .i64 a0_1, .string a0_2] 28 (0, 0)) (by (with_reducible repeat (first | refine blk_drewN ?_ _ | refine blk_drew ?_ | refine blk_alloc ?_ _)); exact BK165.out) hb); have n1_ := Aside0.mk (below_step (by repeat (first | (with_reducible first | exact HB.out | apply below_alloc | apply pw_below_drewN | apply below_drew1 | refine below_set ?_ GE165.out) | exact HB.out)) hb); have n2_ := Aside0.mk (hbox); have n3_ := Aside0.mk ((by rw [hg]; exact (below_size (by repeat (first | (with_reducible first | exact HB.out | apply below_alloc | apply pw_below_drewN | apply below_drew1 | refine below_set ?_ GE165.out) | exact HB.out))) : w.heap.size ≤ gb166)); have n4_ := Aside0.mk ((by rw [hg]; exact (below_size (by repeat (first | (with_reducible first | exact HB.out | apply below_alloc | apply pw_below_drewN | apply below_drew1 | refine below_set ?_ GE165.out) | exact HB.out))) : w.heap.size ≤ gb166)); have n5_ := Aside0.mk ((by rw [hg]; exact Nat.ne_of_lt (blk_lt (g := gb165) (o := .cells #[.bool a0_0, .int .i64 a0_1, .string a0_2] 28 (0, 0)) (by (with_reducible repeat (first | refine blk_drewN ?_ _ | refine blk_drew ?_ | refine blk_alloc ?_ _)); exact BK165.out)) : gb165 ≠ gb166)); have n6_ := Aside0.mk ((by rw [hg]; exact Nat.ne_of_gt (blk_lt (g := gb165) (o := .cells #[.bool a0_0, .int .i64 a0_1, .string a0_2] 28 (0, 0)) (by (with_reducible repeat (first | refine blk_drewN ?_ _ | refine blk_drew ?_ | refine blk_alloc ?_ _)); exact BK165.out)) : gb166 ≠ gb165)); clear BK165; clear HB; have BK165 := n0_; have HB := n1_; have BK166 := n2_; have GW166 := n3_; have GE166 := n4_; have NB165_166 := n5_; have NB166_165 := n6_; clear n0_ n1_ n2_ n3_ n4_ n5_ n6_; clear hb hbox hg; have hnb7 := NB165_166.out; have hnc7 := NB166_165.out; have hcz8_0 : w6.cell? ⟨gb165, 0, none⟩ = some (.bool a0_0) := (blk_cell BK165.out 0).trans rfl; have hcz8_1 : w6.cell? ⟨gb165, 1, none⟩ = some (.int .i64 a0_1) := (blk_cell BK165.out 1).trans rfl; have hcz8_2 : w6.cell? ⟨gb165, 2, none⟩ = some (.string a0_2) := (blk_cell BK165.out 2).trans rfl; have hfz8_0 := blk_frozen BK165.out 0; have hfz8_1 := blk_frozen BK165.out 1; have hfz8_2 := blk_frozen BK165.out 2; have hcz9_0 : w6.cell? ⟨gb166, 0, none⟩ = some (.bool a1_0) := (blk_cell BK166.out 0).trans rfl; have hcz9_1 : w6.cell? ⟨gb166, 1, none⟩ = some (.int .i64 a1_1) := (blk_cell BK166.out 1).trans rfl; have hcz9_2 : w6.cell? ⟨gb166, 2, none⟩ = some (.string a1_2) := (blk_cell BK166.out 2).trans rfl; have hfz9_0 := blk_frozen BK166.out 0; have hfz9_1 := blk_frozen BK166.out 1; have hfz9_2 := blk_frozen BK166.out 2) | ((with_reducible refine gate_callee (f := 57) rfl ?_); refine goesL_ (some 7) rfl rfl Try.func57 (by kernel_rfl) rfl #[.agg #[.bool a0_0, .int .i64 a0_1, .string a0_2], .agg #[.bool a1_0, .int .i64 a1_1, .string a1_2]] rfl (by (try simp only [List.map_toArray, List.map_cons, List.map_nil]); first | done | rfl | (simp only [List.length_drop, List.length_take]; rfl) | (go_simp; simp [IntKind.wrap, IntKind.bits, IntKind.signed]; omega)) ?_; (with_reducible refine (tithebarnref02_Ahead.calls k a0_0 a0_1 a0_2 a1_0 a1_1 a1_2 true _ A3.out).mono ?_); rintro e w10 ⟨rfl, hb⟩; refine ⟨_, rfl, ?_⟩; have n0_ := Aside0.mk (blk_below (g := gb165) (o := .cells #[.bool a0_0, .int .i64 a0_1, .string a0_2] 28 (0, 0)) (by (with_reducible repeat (first | refine blk_drewN ?_ _ | refine blk_drew ?_ | refine blk_alloc ?_ _)); exact BK165.out) hb); have n1_ := Aside0.mk (blk_below (g := gb166) (o := .cells #[.bool a1_0, .int .i64 a1_1, .string a1_2] 28 (0, 0)) (by (with_reducible repeat (first | refine blk_drewN ?_ _ | refine blk_drew ?_ | refine blk_alloc ?_ _)); exact BK166.out) hb); have n2_ := Aside0.mk (below_step (by repeat (first | (with_reducible first | exact HB.out | apply below_alloc | apply pw_below_drewN | apply below_drew1 | refine below_set ?_ GE165.out | refine below_set ?_ GE166.out) | exact HB.out)) hb); clear BK165; clear BK166; clear HB; have BK165 := n0_; have BK166 := n1_; have HB := n2_; clear n0_ n1_ n2_; (try clear hb); (try clear hb2); (try clear hk); (try clear hi)))
  go_ret
  exact ⟨by first | rfl | (simp [errW_none, errW_some] <;> rfl) | (simp [*, errW_none, errW_some] <;> rfl), by repeat (first | (with_reducible first | exact HB.out | apply below_alloc | apply pw_below_drewN | apply below_drew1 | refine below_set ?_ GE165.out | refine below_set ?_ GE166.out) | exact HB.out)⟩
 ·replace c4 := Bool.eq_false_iff.mpr c4
  subst c4
  have H1 : ((tithebarnref02_Ahead.f k a1_0 a1_1 a1_2 a0_0 a0_1 a0_2).bind fun t168 => (if t168 = true then (some 1) else (some 0))) = some r := by rw [if_neg (show ¬ (false = true) by decide)] at H; exact H
  clear H
  have H := H1
  clear H1
  replace H := Option.bind_eq_some_iff.mp H
  obtain ⟨t168, A110, H⟩ := H
  replace H : (if t168 = true then (some 1) else (some 0)) = some r := H
  have A11 := Aside0.mk A110
  clear A110
  by_cases c12 : t168 = true
  ·subst c12
   have H1 : (some 1) = some r := by rw [if_pos rfl] at H; exact H
   clear H
   have H := H1
   clear H1
   obtain rfl := Option.some.inj H
   go_enter Try.func36, Try.ntmps36
   go_wp2_with (first | ((with_reducible refine gate_dst (N := 2) rfl ?_); refine box_event ?hg (N := 2) ?hd (cs := #[.bool a0_0, .int .i64 a0_1, .string a0_2]) (t := 28) ?hr ?_; (case hd => rfl); (case hg => rfl); (case hr => first | (go_simp; done) | (go_simp; rfl)); intro gb165 hg w13 hbox hb; have n0_ := Aside0.mk (below_step (by repeat (first | (with_reducible first | exact HB.out | apply below_alloc | apply pw_below_drewN | apply below_drew1) | exact HB.out)) hb); have n1_ := Aside0.mk (hbox); have n2_ := Aside0.mk ((by rw [hg]; exact (below_size (by repeat (first | (with_reducible first | exact HB.out | apply below_alloc | apply pw_below_drewN | apply below_drew1) | exact HB.out))) : w.heap.size ≤ gb165)); have n3_ := Aside0.mk ((by rw [hg]; exact (below_size (by repeat (first | (with_reducible first | exact HB.out | apply below_alloc | apply pw_below_drewN | apply below_drew1) | exact HB.out))) : w.heap.size ≤ gb165)); clear HB; have HB := n0_; have BK165 := n1_; have GW165 := n2_; have GE165 := n3_; clear n0_ n1_ n2_ n3_; clear hb hbox hg) | ((with_reducible refine gate_dst (N := 3) rfl ?_); refine box_event ?hg (N := 3) ?hd (cs := #[.bool a1_0, .int .i64 a1_1, .string a1_2]) (t := 28) ?hr ?_; (case hd => rfl); (case hg => rfl); (case hr => first | (go_simp; done) | (go_simp; rfl)); intro gb166 hg w14 hbox hb; have n0_ := Aside0.mk (blk_below (g := gb165) (o := .cells #[.bool a0_0, .int .i64 a0_1, .string a0_2] 28 (0, 0)) (by (with_reducible repeat (first | refine blk_drewN ?_ _ | refine blk_drew ?_ | refine blk_alloc ?_ _)); exact BK165.out) hb); have n1_ := Aside0.mk (below_step (by repeat (first | (with_reducible first | exact HB.out | apply below_alloc | apply pw_below_drewN | apply below_drew1 | refine below_set ?_ GE165.out) | exact HB.out)) hb); have n2_ := Aside0.mk (hbox); have n3_ := Aside0.mk ((by rw [hg]; exact (below_size (by repeat (first | (with_reducible first | exact HB.out | apply below_alloc | apply pw_below_drewN | apply below_drew1 | refine below_set ?_ GE165.out) | exact HB.out))) : w.heap.size ≤ gb166)); have n4_ := Aside0.mk ((by rw [hg]; exact (below_size (by repeat (first | (with_reducible first | exact HB.out | apply below_alloc | apply pw_below_drewN | apply below_drew1 | refine below_set ?_ GE165.out) | exact HB.out))) : w.heap.size ≤ gb166)); have n5_ := Aside0.mk ((by rw [hg]; exact Nat.ne_of_lt (blk_lt (g := gb165) (o := .cells #[.bool a0_0, .int .i64 a0_1, .string a0_2] 28 (0, 0)) (by (with_reducible repeat (first | refine blk_drewN ?_ _ | refine blk_drew ?_ | refine blk_alloc ?_ _)); exact BK165.out)) : gb165 ≠ gb166)); have n6_ := Aside0.mk ((by rw [hg]; exact Nat.ne_of_gt (blk_lt (g := gb165) (o := .cells #[.bool a0_0, .int .i64 a0_1, .string a0_2] 28 (0, 0)) (by (with_reducible repeat (first | refine blk_drewN ?_ _ | refine blk_drew ?_ | refine blk_alloc ?_ _)); exact BK165.out)) : gb166 ≠ gb165)); clear BK165; clear HB; have BK165 := n0_; have HB := n1_; have BK166 := n2_; have GW166 := n3_; have GE166 := n4_; have NB165_166 := n5_; have NB166_165 := n6_; clear n0_ n1_ n2_ n3_ n4_ n5_ n6_; clear hb hbox hg; have hnb15 := NB165_166.out; have hnc15 := NB166_165.out; have hcz16_0 : w14.cell? ⟨gb165, 0, none⟩ = some (.bool a0_0) := (blk_cell BK165.out 0).trans rfl; have hcz16_1 : w14.cell? ⟨gb165, 1, none⟩ = some (.int .i64 a0_1) := (blk_cell BK165.out 1).trans rfl; have hcz16_2 : w14.cell? ⟨gb165, 2, none⟩ = some (.string a0_2) := (blk_cell BK165.out 2).trans rfl; have hfz16_0 := blk_frozen BK165.out 0; have hfz16_1 := blk_frozen BK165.out 1; have hfz16_2 := blk_frozen BK165.out 2; have hcz17_0 : w14.cell? ⟨gb166, 0, none⟩ = some (.bool a1_0) := (blk_cell BK166.out 0).trans rfl; have hcz17_1 : w14.cell? ⟨gb166, 1, none⟩ = some (.int .i64 a1_1) := (blk_cell BK166.out 1).trans rfl; have hcz17_2 : w14.cell? ⟨gb166, 2, none⟩ = some (.string a1_2) := (blk_cell BK166.out 2).trans rfl; have hfz17_0 := blk_frozen BK166.out 0; have hfz17_1 := blk_frozen BK166.out 1; have hfz17_2 := blk_frozen BK166.out 2) | ((with_reducible refine gate_callee (f := 57) rfl ?_); refine goesL_ (some 7) rfl rfl Try.func57 (by kernel_rfl) rfl #[.agg #[.bool a0_0, .int .i64 a0_1, .string a0_2], .agg #[.bool a1_0, .int .i64 a1_1, .string a1_2]] rfl (by (try simp only [List.map_toArray, List.map_cons, List.map_nil]); first | done | rfl | (simp only [List.length_drop, List.length_take]; rfl) | (go_simp; simp [IntKind.wrap, IntKind.bits, IntKind.signed]; omega)) ?_; (with_reducible refine (tithebarnref02_Ahead.calls k a0_0 a0_1 a0_2 a1_0 a1_1 a1_2 false _ A3.out).mono ?_); rintro e w18 ⟨rfl, hb⟩; refine ⟨_, rfl, ?_⟩; have n0_ := Aside0.mk (blk_below (g := gb165) (o := .cells #[.bool a0_0, .int .i64 a0_1, .string a0_2] 28 (0, 0)) (by (with_reducible repeat (first | refine blk_drewN ?_ _ | refine blk_drew ?_ | refine blk_alloc ?_ _)); exact BK165.out) hb); have n1_ := Aside0.mk (blk_below (g := gb166) (o := .cells #[.bool a1_0, .int .i64 a1_1, .string a1_2] 28 (0, 0)) (by (with_reducible repeat (first | refine blk_drewN ?_ _ | refine blk_drew ?_ | refine blk_alloc ?_ _)); exact BK166.out) hb); have n2_ := Aside0.mk (below_step (by repeat (first | (with_reducible first | exact HB.out | apply below_alloc | apply pw_below_drewN | apply below_drew1 | refine below_set ?_ GE165.out | refine below_set ?_ GE166.out) | exact HB.out)) hb); clear BK165; clear BK166; clear HB; have BK165 := n0_; have BK166 := n1_; have HB := n2_; clear n0_ n1_ n2_; (try clear hb); (try clear hb2); (try clear hk); (try clear hi); have hcz19_0 : w18.cell? ⟨gb166, 0, none⟩ = some (.bool a1_0) := (blk_cell BK166.out 0).trans rfl; have hcz19_1 : w18.cell? ⟨gb166, 1, none⟩ = some (.int .i64 a1_1) := (blk_cell BK166.out 1).trans rfl; have hcz19_2 : w18.cell? ⟨gb166, 2, none⟩ = some (.string a1_2) := (blk_cell BK166.out 2).trans rfl; have hfz19_0 := blk_frozen BK166.out 0; have hfz19_1 := blk_frozen BK166.out 1; have hfz19_2 := blk_frozen BK166.out 2; have hcz20_0 : w18.cell? ⟨gb165, 0, none⟩ = some (.bool a0_0) := (blk_cell BK165.out 0).trans rfl; have hcz20_1 : w18.cell? ⟨gb165, 1, none⟩ = some (.int .i64 a0_1) := (blk_cell BK165.out 1).trans rfl; have hcz20_2 : w18.cell? ⟨gb165, 2, none⟩ = some (.string a0_2) := (blk_cell BK165.out 2).trans rfl; have hfz20_0 := blk_frozen BK165.out 0; have hfz20_1 := blk_frozen BK165.out 1; have hfz20_2 := blk_frozen BK165.out 2) | ((with_reducible refine gate_callee (f := 57) rfl ?_); refine goesL_ (some 10) rfl rfl Try.func57 (by kernel_rfl) rfl #[.agg #[.bool a1_0, .int .i64 a1_1, .string a1_2], .agg #[.bool a0_0, .int .i64 a0_1, .string a0_2]] rfl (by (try simp only [List.map_toArray, List.map_cons, List.map_nil]); first | done | rfl | (simp only [List.length_drop, List.length_take]; rfl) | (go_simp; simp [IntKind.wrap, IntKind.bits, IntKind.signed]; omega)) ?_; (with_reducible refine (tithebarnref02_Ahead.calls k a1_0 a1_1 a1_2 a0_0 a0_1 a0_2 true _ A11.out).mono ?_); rintro e w21 ⟨rfl, hb⟩; refine ⟨_, rfl, ?_⟩; have n0_ := Aside0.mk (blk_below (g := gb165) (o := .cells #[.bool a0_0, .int .i64 a0_1, .string a0_2] 28 (0, 0)) (by (with_reducible repeat (first | refine blk_drewN ?_ _ | refine blk_drew ?_ | refine blk_alloc ?_ _)); exact BK165.out) hb); have n1_ := Aside0.mk (blk_below (g := gb166) (o := .cells #[.bool a1_0, .int .i64 a1_1, .string a1_2] 28 (0, 0)) (by (with_reducible repeat (first | refine blk_drewN ?_ _ | refine blk_drew ?_ | refine blk_alloc ?_ _)); exact BK166.out) hb); have n2_ := Aside0.mk (below_step (by repeat (first | (with_reducible first | exact HB.out | apply below_alloc | apply pw_below_drewN | apply below_drew1 | refine below_set ?_ GE165.out | refine below_set ?_ GE166.out) | exact HB.out)) hb); clear BK165; clear BK166; clear HB; have BK165 := n0_; have BK166 := n1_; have HB := n2_; clear n0_ n1_ n2_; (try clear hb); (try clear hb2); (try clear hk); (try clear hi)))
   go_ret
   exact ⟨by first | rfl | (simp [errW_none, errW_some] <;> rfl) | (simp [*, errW_none, errW_some] <;> rfl), by repeat (first | (with_reducible first | exact HB.out | apply below_alloc | apply pw_below_drewN | apply below_drew1 | refine below_set ?_ GE165.out | refine below_set ?_ GE166.out) | exact HB.out)⟩
  ·replace c12 := Bool.eq_false_iff.mpr c12
   subst c12
   have H1 : (some 0) = some r := by rw [if_neg (show ¬ (false = true) by decide)] at H; exact H
   clear H
   have H := H1
   clear H1
   obtain rfl := Option.some.inj H
   go_enter Try.func36, Try.ntmps36
   go_wp2_with (first | ((with_reducible refine gate_dst (N := 2) rfl ?_); refine box_event ?hg (N := 2) ?hd (cs := #[.bool a0_0, .int .i64 a0_1, .string a0_2]) (t := 28) ?hr ?_; (case hd => rfl); (case hg => rfl); (case hr => first | (go_simp; done) | (go_simp; rfl)); intro gb165 hg w22 hbox hb; have n0_ := Aside0.mk (below_step (by repeat (first | (with_reducible first | exact HB.out | apply below_alloc | apply pw_below_drewN | apply below_drew1) | exact HB.out)) hb); have n1_ := Aside0.mk (hbox); have n2_ := Aside0.mk ((by rw [hg]; exact (below_size (by repeat (first | (with_reducible first | exact HB.out | apply below_alloc | apply pw_below_drewN | apply below_drew1) | exact HB.out))) : w.heap.size ≤ gb165)); have n3_ := Aside0.mk ((by rw [hg]; exact (below_size (by repeat (first | (with_reducible first | exact HB.out | apply below_alloc | apply pw_below_drewN | apply below_drew1) | exact HB.out))) : w.heap.size ≤ gb165)); clear HB; have HB := n0_; have BK165 := n1_; have GW165 := n2_; have GE165 := n3_; clear n0_ n1_ n2_ n3_; clear hb hbox hg) | ((with_reducible refine gate_dst (N := 3) rfl ?_); refine box_event ?hg (N := 3) ?hd (cs := #[.bool a1_0, .int .i64 a1_1, .string a1_2]) (t := 28) ?hr ?_; (case hd => rfl); (case hg => rfl); (case hr => first | (go_simp; done) | (go_simp; rfl)); intro gb166 hg w23 hbox hb; have n0_ := Aside0.mk (blk_below (g := gb165) (o := .cells #[.bool a0_0, .int .i64 a0_1, .string a0_2] 28 (0, 0)) (by (with_reducible repeat (first | refine blk_drewN ?_ _ | refine blk_drew ?_ | refine blk_alloc ?_ _)); exact BK165.out) hb); have n1_ := Aside0.mk (below_step (by repeat (first | (with_reducible first | exact HB.out | apply below_alloc | apply pw_below_drewN | apply below_drew1 | refine below_set ?_ GE165.out) | exact HB.out)) hb); have n2_ := Aside0.mk (hbox); have n3_ := Aside0.mk ((by rw [hg]; exact (below_size (by repeat (first | (with_reducible first | exact HB.out | apply below_alloc | apply pw_below_drewN | apply below_drew1 | refine below_set ?_ GE165.out) | exact HB.out))) : w.heap.size ≤ gb166)); have n4_ := Aside0.mk ((by rw [hg]; exact (below_size (by repeat (first | (with_reducible first | exact HB.out | apply below_alloc | apply pw_below_drewN | apply below_drew1 | refine below_set ?_ GE165.out) | exact HB.out))) : w.heap.size ≤ gb166)); have n5_ := Aside0.mk ((by rw [hg]; exact Nat.ne_of_lt (blk_lt (g := gb165) (o := .cells #[.bool a0_0, .int .i64 a0_1, .string a0_2] 28 (0, 0)) (by (with_reducible repeat (first | refine blk_drewN ?_ _ | refine blk_drew ?_ | refine blk_alloc ?_ _)); exact BK165.out)) : gb165 ≠ gb166)); have n6_ := Aside0.mk ((by rw [hg]; exact Nat.ne_of_gt (blk_lt (g := gb165) (o := .cells #[.bool a0_0, .int .i64 a0_1, .string a0_2] 28 (0, 0)) (by (with_reducible repeat (first | refine blk_drewN ?_ _ | refine blk_drew ?_ | refine blk_alloc ?_ _)); exact BK165.out)) : gb166 ≠ gb165)); clear BK165; clear HB; have BK165 := n0_; have HB := n1_; have BK166 := n2_; have GW166 := n3_; have GE166 := n4_; have NB165_166 := n5_; have NB166_165 := n6_; clear n0_ n1_ n2_ n3_ n4_ n5_ n6_; clear hb hbox hg; have hnb24 := NB165_166.out; have hnc24 := NB166_165.out; have hcz25_0 : w23.cell? ⟨gb165, 0, none⟩ = some (.bool a0_0) := (blk_cell BK165.out 0).trans rfl; have hcz25_1 : w23.cell? ⟨gb165, 1, none⟩ = some (.int .i64 a0_1) := (blk_cell BK165.out 1).trans rfl; have hcz25_2 : w23.cell? ⟨gb165, 2, none⟩ = some (.string a0_2) := (blk_cell BK165.out 2).trans rfl; have hfz25_0 := blk_frozen BK165.out 0; have hfz25_1 := blk_frozen BK165.out 1; have hfz25_2 := blk_frozen BK165.out 2; have hcz26_0 : w23.cell? ⟨gb166, 0, none⟩ = some (.bool a1_0) := (blk_cell BK166.out 0).trans rfl; have hcz26_1 : w23.cell? ⟨gb166, 1, none⟩ = some (.int .i64 a1_1) := (blk_cell BK166.out 1).trans rfl; have hcz26_2 : w23.cell? ⟨gb166, 2, none⟩ = some (.string a1_2) := (blk_cell BK166.out 2).trans rfl; have hfz26_0 := blk_frozen BK166.out 0; have hfz26_1 := blk_frozen BK166.out 1; have hfz26_2 := blk_frozen BK166.out 2) | ((with_reducible refine gate_callee (f := 57) rfl ?_); refine goesL_ (some 7) rfl rfl Try.func57 (by kernel_rfl) rfl #[.agg #[.bool a0_0, .int .i64 a0_1, .string a0_2], .agg #[.bool a1_0, .int .i64 a1_1, .string a1_2]] rfl (by (try simp only [List.map_toArray, List.map_cons, List.map_nil]); first | done | rfl | (simp only [List.length_drop, List.length_take]; rfl) | (go_simp; simp [IntKind.wrap, IntKind.bits, IntKind.signed]; omega)) ?_; (with_reducible refine (tithebarnref02_Ahead.calls k a0_0 a0_1 a0_2 a1_0 a1_1 a1_2 false _ A3.out).mono ?_); rintro e w27 ⟨rfl, hb⟩; refine ⟨_, rfl, ?_⟩; have n0_ := Aside0.mk (blk_below (g := gb165) (o := .cells #[.bool a0_0, .int .i64 a0_1, .string a0_2] 28 (0, 0)) (by (with_reducible repeat (first | refine blk_drewN ?_ _ | refine blk_drew ?_ | refine blk_alloc ?_ _)); exact BK165.out) hb); have n1_ := Aside0.mk (blk_below (g := gb166) (o := .cells #[.bool a1_0, .int .i64 a1_1, .string a1_2] 28 (0, 0)) (by (with_reducible repeat (first | refine blk_drewN ?_ _ | refine blk_drew ?_ | refine blk_alloc ?_ _)); exact BK166.out) hb); have n2_ := Aside0.mk (below_step (by repeat (first | (with_reducible first | exact HB.out | apply below_alloc | apply pw_below_drewN | apply below_drew1 | refine below_set ?_ GE165.out | refine below_set ?_ GE166.out) | exact HB.out)) hb); clear BK165; clear BK166; clear HB; have BK165 := n0_; have BK166 := n1_; have HB := n2_; clear n0_ n1_ n2_; (try clear hb); (try clear hb2); (try clear hk); (try clear hi); have hcz28_0 : w27.cell? ⟨gb166, 0, none⟩ = some (.bool a1_0) := (blk_cell BK166.out 0).trans rfl; have hcz28_1 : w27.cell? ⟨gb166, 1, none⟩ = some (.int .i64 a1_1) := (blk_cell BK166.out 1).trans rfl; have hcz28_2 : w27.cell? ⟨gb166, 2, none⟩ = some (.string a1_2) := (blk_cell BK166.out 2).trans rfl; have hfz28_0 := blk_frozen BK166.out 0; have hfz28_1 := blk_frozen BK166.out 1; have hfz28_2 := blk_frozen BK166.out 2; have hcz29_0 : w27.cell? ⟨gb165, 0, none⟩ = some (.bool a0_0) := (blk_cell BK165.out 0).trans rfl; have hcz29_1 : w27.cell? ⟨gb165, 1, none⟩ = some (.int .i64 a0_1) := (blk_cell BK165.out 1).trans rfl; have hcz29_2 : w27.cell? ⟨gb165, 2, none⟩ = some (.string a0_2) := (blk_cell BK165.out 2).trans rfl; have hfz29_0 := blk_frozen BK165.out 0; have hfz29_1 := blk_frozen BK165.out 1; have hfz29_2 := blk_frozen BK165.out 2) | ((with_reducible refine gate_callee (f := 57) rfl ?_); refine goesL_ (some 10) rfl rfl Try.func57 (by kernel_rfl) rfl #[.agg #[.bool a1_0, .int .i64 a1_1, .string a1_2], .agg #[.bool a0_0, .int .i64 a0_1, .string a0_2]] rfl (by (try simp only [List.map_toArray, List.map_cons, List.map_nil]); first | done | rfl | (simp only [List.length_drop, List.length_take]; rfl) | (go_simp; simp [IntKind.wrap, IntKind.bits, IntKind.signed]; omega)) ?_; (with_reducible refine (tithebarnref02_Ahead.calls k a1_0 a1_1 a1_2 a0_0 a0_1 a0_2 false _ A11.out).mono ?_); rintro e w30 ⟨rfl, hb⟩; refine ⟨_, rfl, ?_⟩; have n0_ := Aside0.mk (blk_below (g := gb165) (o := .cells #[.bool a0_0, .int .i64 a0_1, .string a0_2] 28 (0, 0)) (by (with_reducible repeat (first | refine blk_drewN ?_ _ | refine blk_drew ?_ | refine blk_alloc ?_ _)); exact BK165.out) hb); have n1_ := Aside0.mk (blk_below (g := gb166) (o := .cells #[.bool a1_0, .int .i64 a1_1, .string a1_2] 28 (0, 0)) (by (with_reducible repeat (first | refine blk_drewN ?_ _ | refine blk_drew ?_ | refine blk_alloc ?_ _)); exact BK166.out) hb); have n2_ := Aside0.mk (below_step (by repeat (first | (with_reducible first | exact HB.out | apply below_alloc | apply pw_below_drewN | apply below_drew1 | refine below_set ?_ GE165.out | refine below_set ?_ GE166.out) | exact HB.out)) hb); clear BK165; clear BK166; clear HB; have BK165 := n0_; have BK166 := n1_; have HB := n2_; clear n0_ n1_ n2_; (try clear hb); (try clear hb2); (try clear hk); (try clear hi)))
   go_ret
   exact ⟨by first | rfl | (simp [errW_none, errW_some] <;> rfl) | (simp [*, errW_none, errW_some] <;> rfl), by repeat (first | (with_reducible first | exact HB.out | apply below_alloc | apply pw_below_drewN | apply below_drew1 | refine below_set ?_ GE165.out | refine below_set ?_ GE166.out) | exact HB.out)⟩
mutual
def tithebarnref22_Unlike.l0 : Nat → List (S28) → Int → Int → Option (Int)
 | 0, _, _, _ => none
 | k + 1, x0, x3, x4 => if x4 < (x0.length : Int) then (tithebarnref22_Unlike.l1 k x0 x3 x4 true 0) else (some x3)
def tithebarnref22_Unlike.l1 : Nat → List (S28) → Int → Int → Bool → Int → Option (Int)
 | 0, _, _, _, _, _ => none
 | k + 1, x0, x3, x4, x5, x6 => if x6 < x4 then (if x5 = true then (if 0 ≤ x4 then (if x4 < (x0.length : Int) then (if 0 ≤ x6 then (if x6 < (x0.length : Int) then ((tithebarnref02_Compare.f k ((rd_T28 x0 x4).f0) ((rd_T28 x0 x4).f1) ((rd_T28 x0 x4).f2) ((rd_T28 x0 x6).f0) ((rd_T28 x0 x6).f1) ((rd_T28 x0 x6).f2)).bind fun t171 => (tithebarnref22_Unlike.l1 k x0 x3 x4 (t171 != 0) (wrap64 (x6 + 1)))) else (none)) else (none)) else (none)) else (none)) else (tithebarnref22_Unlike.l1 k x0 x3 x4 false (wrap64 (x6 + 1)))) else (if x5 = true then (tithebarnref22_Unlike.l0 k x0 (wrap64 (x3 + 1)) (wrap64 (x4 + 1))) else (tithebarnref22_Unlike.l0 k x0 x3 (wrap64 (x4 + 1))))
end
def tithebarnref22_Unlike.f (k : Nat) (l0 : List (S28)) : Option (Int) := tithebarnref22_Unlike.l0 k l0 0 0
theorem tithebarnref22_Unlike.mono_l : ∀ k, (∀ y0 y1 y2, LeO (tithebarnref22_Unlike.l0 k y0 y1 y2) (tithebarnref22_Unlike.l0 (k + 1) y0 y1 y2)) ∧ (∀ y0 y1 y2 y3 y4, LeO (tithebarnref22_Unlike.l1 k y0 y1 y2 y3 y4) (tithebarnref22_Unlike.l1 (k + 1) y0 y1 y2 y3 y4))
 | 0 => ⟨fun _ _ _ r h => by simp [tithebarnref22_Unlike.l0] at h, fun _ _ _ _ _ r h => by simp [tithebarnref22_Unlike.l1] at h⟩
 | k + 1 => by
  obtain ⟨ih0, ih1⟩ := tithebarnref22_Unlike.mono_l k
  refine ⟨?_, ?_⟩
  ·intro y0 y1 y2
   unfold tithebarnref22_Unlike.l0
   repeat' first
   | (with_reducible exact ih0 _ _ _)
   | (with_reducible exact ih1 _ _ _ _ _)
   | (with_reducible exact tithebarnref02_Compare.mono _ _ _ _ _ _ _)
   | (with_reducible exact LeO.refl _)
   | (with_reducible exact LeO.none _)
   | (with_reducible refine LeO.ite ?_ ?_)
   | (with_reducible refine LeO.bind ?_ (fun _ => ?_))
   | exact ih0 _ _ _
   | exact ih1 _ _ _ _ _
   | exact tithebarnref02_Compare.mono _ _ _ _ _ _ _
   | exact LeO.none _
   | refine LeO.ite ?_ ?_
   | refine LeO.bind ?_ (fun _ => ?_)
  ·intro y0 y1 y2 y3 y4
   unfold tithebarnref22_Unlike.l1
   repeat' first
   | (with_reducible exact ih0 _ _ _)
   | (with_reducible exact ih1 _ _ _ _ _)
   | (with_reducible exact tithebarnref02_Compare.mono _ _ _ _ _ _ _)
   | (with_reducible exact LeO.refl _)
   | (with_reducible exact LeO.none _)
   | (with_reducible refine LeO.ite ?_ ?_)
   | (with_reducible refine LeO.bind ?_ (fun _ => ?_))
   | exact ih0 _ _ _
   | exact ih1 _ _ _ _ _
   | exact tithebarnref02_Compare.mono _ _ _ _ _ _ _
   | exact LeO.none _
   | refine LeO.ite ?_ ?_
   | refine LeO.bind ?_ (fun _ => ?_)
theorem tithebarnref22_Unlike.mono : ∀ a0 k, LeO (tithebarnref22_Unlike.f k a0) (tithebarnref22_Unlike.f (k + 1) a0) := by
 intro a0 k
 obtain ⟨ih0, ih1⟩ := tithebarnref22_Unlike.mono_l k
 unfold tithebarnref22_Unlike.f
 repeat' first
   | (with_reducible exact ih0 _ _ _)
   | (with_reducible exact ih1 _ _ _ _ _)
   | (with_reducible exact tithebarnref02_Compare.mono _ _ _ _ _ _ _)
   | (with_reducible exact LeO.refl _)
   | (with_reducible exact LeO.none _)
   | (with_reducible refine LeO.ite ?_ ?_)
   | (with_reducible refine LeO.bind ?_ (fun _ => ?_))
   | exact ih0 _ _ _
   | exact ih1 _ _ _ _ _
   | exact tithebarnref02_Compare.mono _ _ _ _ _ _ _
   | exact LeO.none _
   | refine LeO.ite ?_ ?_
   | refine LeO.bind ?_ (fun _ => ?_)
def tithebarnref22_Unlike.T9 : Bool × List (List Nat × List Nat) := (true, [([], []), ([0], [0]), ([1], [1]), ([1], [1]), ([2, 3, 1], [1, 2, 3]), ([4, 1], [1, 4]), ([1], [1]), ([1], [1]), ([6, 7, 1], [1, 6, 7]), ([8, 1], [1, 8]), ([5, 9, 1, 1], [1, 5, 9]), ([10, 1], [1, 10]), ([1, 11], [1, 11]), ([12, 10, 0, 1, 2, 3, 4, 5, 6, 7, 8, 9, 10, 11, 12], [0, 12])])
def tithebarnref22_Unlike.B9 : List Nat := [0, 1, 3, 3, 15, 31, 3, 3, 195, 451, 1023, 2047, 4095, 8191]
theorem tithebarnref22_Unlike.tab9 : rtab .any (opsOf Try.f20 9) = tithebarnref22_Unlike.T9 := by kernel_rfl
theorem tithebarnref22_Unlike.bits9 : waitsOk tithebarnref22_Unlike.T9.2 tithebarnref22_Unlike.B9 = true := by kernel_rfl
set_option maxHeartbeats 8000000 in
set_option maxRecDepth 100000 in
theorem tithebarnref22_Unlike.calls (k : Nat) (A0 : Option Addr) (c0 : Nat) (l0 : List (S28)) (r : Int) (w : World) (hr0 : Kd.C k28 w A0 l0.length l0) (hc0 : l0.length ≤ c0) (h : tithebarnref22_Unlike.f k l0 = some r) :
  Calls Try.prog 20 #[.slice A0 l0.length c0] w fun e w' => e = .returned (.int .i64 r) ∧ Below w.heap.size w w' := by
 have hu28 := Try.underlying28
 have HR0 := Aside0.mk hr0
 have HC0 := Aside0.mk hc0
 clear hr0 hc0
 have HB := Aside0.mk (Below.refl w.heap.size w)
 have H : (tithebarnref22_Unlike.l0 k l0 0 0) = some r := h
 clear h
 have H' := Aside0.mk H
 clear H
 go_enter Try.func20, Try.ntmps20
 go_wp2
 go_loopg [3, 4] k (fun kq v3 v4 w' => ∃ (x3_1 : Int) (x4_1 : Int), v3 = .int .i64 x3_1 ∧ v4 = .int .i64 x4_1 ∧ Aside0 (tithebarnref22_Unlike.l0 kq l0 x3_1 x4_1 = some r) ∧ Aside0 (kq ≤ k) ∧ Aside0 (Below w.heap.size w w'))
 case atStart => exact ⟨(0), (0), (by first | rfl | (simp; done) | (simp [*]; done)), (by first | rfl | (simp; done) | (simp [*]; done)), H', ⟨Nat.le_refl _⟩, ⟨by repeat (first | (with_reducible first | exact HB.out | apply below_alloc | apply pw_below_drewN | apply below_drew1) | exact HB.out)⟩⟩
 case round =>
  clear H'
  obtain ⟨x3_1, x4_1, rfl, rfl, HA, HK1, HB⟩ := hrel
  cases gk with
  | zero => exact absurd HA.out (by simp [tithebarnref22_Unlike.l0])
  | succ k1 =>
   have H := HA.out
   clear HA
   simp only [tithebarnref22_Unlike.l0] at H
   by_cases c2 : x4_1 < (l0.length : Int)
   ·rw [if_pos c2] at H
    have c2b0 : decide (x4_1 < (l0.length : Int)) = true := decide_eq_true c2
    clear c2
    have H' := Aside0.mk H
    clear H
    go_wp2
    go_loopg [5, 6] k1 (fun kq v5 v6 w' => ∃ (x5_2 : Bool) (x6_2 : Int), v5 = .bool x5_2 ∧ v6 = .int .i64 x6_2 ∧ Aside0 (tithebarnref22_Unlike.l1 kq l0 x3_1 x4_1 x5_2 x6_2 = some r) ∧ Aside0 (kq ≤ k1) ∧ Aside0 (Below w.heap.size w w'))
    case atStart => exact ⟨(true), (0), (by first | rfl | (simp; done) | (simp [*]; done)), (by first | rfl | (simp; done) | (simp [*]; done)), H', ⟨Nat.le_refl _⟩, ⟨by repeat (first | (with_reducible first | exact HB.out | apply below_alloc | apply pw_below_drewN | apply below_drew1) | exact HB.out)⟩⟩
    case round =>
     clear H'
     try clear c2
     try clear c2b0
     try clear p2
     obtain ⟨x5_2, x6_2, rfl, rfl, HA, HK2, HB⟩ := hrel
     cases gk with
     | zero => exact absurd HA.out (by simp [tithebarnref22_Unlike.l1])
     | succ k2 =>
      have H := HA.out
      clear HA
      simp only [tithebarnref22_Unlike.l1] at H
      by_cases c3 : x6_2 < x4_1
      ·rw [if_pos c3] at H
       have c3b0 : decide (x6_2 < x4_1) = true := decide_eq_true c3
       clear c3
       by_cases c4 : x5_2 = true
       ·subst c4
        have H1 : (if 0 ≤ x4_1 then (if x4_1 < (l0.length : Int) then (if 0 ≤ x6_2 then (if x6_2 < (l0.length : Int) then ((tithebarnref02_Compare.f k2 ((rd_T28 l0 x4_1).f0) ((rd_T28 l0 x4_1).f1) ((rd_T28 l0 x4_1).f2) ((rd_T28 l0 x6_2).f0) ((rd_T28 l0 x6_2).f1) ((rd_T28 l0 x6_2).f2)).bind fun t171 => (tithebarnref22_Unlike.l1 k2 l0 x3_1 x4_1 (t171 != 0) (wrap64 (x6_2 + 1)))) else (none)) else (none)) else (none)) else (none)) = some r := by rw [if_pos rfl] at H; exact H
        clear H
        have H := H1
        clear H1
        by_cases c5 : 0 ≤ x4_1
        ·rw [if_pos c5] at H
         have c5b0 : decide (0 ≤ x4_1) = true := decide_eq_true c5
         clear c5
         by_cases c6 : x4_1 < (l0.length : Int)
         ·rw [if_pos c6] at H
          have c6b0 : decide (x4_1 < (l0.length : Int)) = true := decide_eq_true c6
          clear c6
          by_cases c7 : 0 ≤ x6_2
          ·rw [if_pos c7] at H
           have c7b0 : decide (0 ≤ x6_2) = true := decide_eq_true c7
           clear c7
           by_cases c8 : x6_2 < (l0.length : Int)
           ·rw [if_pos c8] at H
            have c8b0 : decide (x6_2 < (l0.length : Int)) = true := decide_eq_true c8
            clear c8
            replace H := Option.bind_eq_some_iff.mp H
            obtain ⟨t171, A90, H⟩ := H
            replace H : (tithebarnref22_Unlike.l1 k2 l0 x3_1 x4_1 (t171 != 0) (wrap64 (x6_2 + 1))) = some r := H
            have A9 := Aside0.mk A90
            clear A90
            have H' := Aside0.mk H
            clear H
            try go_wp2
            have n0_ := Aside0.mk (below_drew1 HB.out)
            clear HB
            have HB := n0_
            clear n0_
            have p169 : 0 ≤ (x4_1 : Int) := of_decide_eq_true (by first | (with_reducible assumption) | assumption)
            have q169 : x4_1 < (l0.length : Int) := of_decide_eq_true (by first | (with_reducible assumption) | assumption)
            obtain ⟨ad169, e169, hx169_0, hx169_1, hx169_2⟩ := at_T28 HR0.out x4_1 p169 q169
            have hw169_2 := hx169_2
            have hw169_1 := hx169_1
            have hw169_0 := hx169_0
            cases e169
            replace hx169_0 := (HB.out.cell (World.block_lt_of_cell? w _ hx169_0)).trans hx169_0
            replace hx169_1 := (HB.out.cell (World.block_lt_of_cell? w _ hx169_1)).trans hx169_1
            replace hx169_2 := (HB.out.cell (World.block_lt_of_cell? w _ hx169_2)).trans hx169_2
            replace p169 := eq_true p169
            replace q169 := eq_true q169
            have p170 : 0 ≤ (x6_2 : Int) := of_decide_eq_true (by first | (with_reducible assumption) | assumption)
            have q170 : x6_2 < (l0.length : Int) := of_decide_eq_true (by first | (with_reducible assumption) | assumption)
            obtain ⟨ad170, e170, hx170_0, hx170_1, hx170_2⟩ := at_T28 HR0.out x6_2 p170 q170
            have hw170_2 := hx170_2
            have hw170_1 := hx170_1
            have hw170_0 := hx170_0
            obtain rfl : ad169 = ad170 := (by injection e170)
            replace hx170_0 := (HB.out.cell (World.block_lt_of_cell? w _ hx170_0)).trans hx170_0
            replace hx170_1 := (HB.out.cell (World.block_lt_of_cell? w _ hx170_1)).trans hx170_1
            replace hx170_2 := (HB.out.cell (World.block_lt_of_cell? w _ hx170_2)).trans hx170_2
            replace p170 := eq_true p170
            replace q170 := eq_true q170
            refine start_ (n := 14) (S := fun w' => w'.cell? (ad169.add ((x4_1).toNat * 3)) = some (.bool ((rd_T28 l0 x4_1).f0)) ∧ w'.cell? ⟨(ad169.add ((x4_1).toNat * 3)).block, (ad169.add ((x4_1).toNat * 3)).off + 1, none⟩ = some (.int .i64 ((rd_T28 l0 x4_1).f1)) ∧ w'.cell? ⟨(ad169.add ((x4_1).toNat * 3)).block, (ad169.add ((x4_1).toNat * 3)).off + 2, none⟩ = some (.string ((rd_T28 l0 x4_1).f2)) ∧ w'.cell? (ad169.add ((x6_2).toNat * 3)) = some (.bool ((rd_T28 l0 x6_2).f0)) ∧ w'.cell? ⟨(ad169.add ((x6_2).toNat * 3)).block, (ad169.add ((x6_2).toNat * 3)).off + 1, none⟩ = some (.int .i64 ((rd_T28 l0 x6_2).f1)) ∧ w'.cell? ⟨(ad169.add ((x6_2).toNat * 3)).block, (ad169.add ((x6_2).toNat * 3)).off + 2, none⟩ = some (.string ((rd_T28 l0 x6_2).f2))) (ds := []) #[false, false, false, false, false, false, false, false, false, false, false, false, false, false] (by kernel_rfl) rfl rfl ⟨((HB.out.cell (World.block_lt_of_cell? w _ hw169_0)).trans hw169_0), ((HB.out.cell (World.block_lt_of_cell? w _ hw169_1)).trans hw169_1), ((HB.out.cell (World.block_lt_of_cell? w _ hw169_2)).trans hw169_2), ((HB.out.cell (World.block_lt_of_cell? w _ hw170_0)).trans hw170_0), ((HB.out.cell (World.block_lt_of_cell? w _ hw170_1)).trans hw170_1), ((HB.out.cell (World.block_lt_of_cell? w _ hw170_2)).trans hw170_2)⟩ (fun hHeld => ?_); refine with_tabW tithebarnref22_Unlike.tab9 tithebarnref22_Unlike.bits9 (fun HT_ HW_ => ?_)
            generalize wr.drew = w10 at HB hx169_0 hx169_1 hx169_2 hx170_0 hx170_1 hx170_2 hHeld ⊢
            refine pure_ (i := 0) (N := some 18) (v := ?_) (a' := ?_) #[true, false, false, false, false, false, false, false, false, false, false, false, false, false] rfl rfl (any_of HT_.out (by kernel_rfl)) (fun _ _ _ h => h) (Or.inl ⟨by rfl, ?_⟩) ?_ ?_
            rotate_left
            ·intro w'
             go_simp
             with_reducible rfl
            rotate_left
            ·simp only [Act.put, List.setIfInBounds_toArray, List.set_cons_zero, List.set_cons_succ, i64_w, i32_w]
             rfl
            refine pure_ (i := 1) (N := some 19) (v := ?_) (a' := ?_) #[true, true, false, false, false, false, false, false, false, false, false, false, false, false] rfl rfl (any_of HT_.out (by kernel_rfl)) (fun _ _ _ h => h) (Or.inl ⟨by rfl, ?_⟩) ?_ ?_
            rotate_left
            ·intro w'
             go_simp
             with_reducible rfl
            rotate_left
            ·simp only [Act.put, List.setIfInBounds_toArray, List.set_cons_zero, List.set_cons_succ, i64_w, i32_w]
             rfl
            refine pure_ (i := 2) (N := some 20) (v := ?_) (a' := ?_) #[true, true, true, false, false, false, false, false, false, false, false, false, false, false] rfl rfl (any_of HT_.out (by kernel_rfl)) (fun _ _ _ h => h) (Or.inl ⟨by rfl, ?_⟩) ?_ ?_
            rotate_left
            ·intro w'
             go_simp
             with_reducible rfl
            rotate_left
            ·simp only [Act.put, List.setIfInBounds_toArray, List.set_cons_zero, List.set_cons_succ, i64_w, i32_w]
             rfl
            refine pure_ (i := 3) (N := some 21) (v := ?_) (a' := ?_) #[true, true, true, true, false, false, false, false, false, false, false, false, false, false] rfl rfl (any_of HT_.out (by kernel_rfl)) (fun _ _ _ h => h) (Or.inl ⟨by rfl, ?_⟩) ?_ ?_
            rotate_left
            ·intro w'
             go_simp
             with_reducible rfl
            rotate_left
            ·simp only [Act.put, List.setIfInBounds_toArray, List.set_cons_zero, List.set_cons_succ, i64_w, i32_w]
             rfl
            refine pure_ (i := 4) (N := some 22) (v := ?_) (a' := ?_) #[true, true, true, true, true, false, false, false, false, false, false, false, false, false] rfl rfl (any_of HT_.out (by kernel_rfl)) (fun _ _ _ h => h) (Or.inl ⟨by rfl, ?_⟩) ?_ ?_
            rotate_left
            ·intro w'
             go_simp
             with_reducible rfl
            rotate_left
            ·simp only [Act.put, List.setIfInBounds_toArray, List.set_cons_zero, List.set_cons_succ, i64_w, i32_w]
             rfl
            refine pure_ (i := 6) (N := some 24) (v := ?_) (a' := ?_) #[true, true, true, true, true, false, true, false, false, false, false, false, false, false] rfl rfl (any_of HT_.out (by kernel_rfl)) (fun _ _ _ h => h) (Or.inl ⟨by rfl, ?_⟩) ?_ ?_
            rotate_left
            ·intro w'
             go_simp
             with_reducible rfl
            rotate_left
            ·simp only [Act.put, List.setIfInBounds_toArray, List.set_cons_zero, List.set_cons_succ, i64_w, i32_w]
             rfl
            refine pure_ (i := 7) (N := some 25) (v := ?_) (a' := ?_) #[true, true, true, true, true, false, true, true, false, false, false, false, false, false] rfl rfl (any_of HT_.out (by kernel_rfl)) (fun _ _ _ h => h) (Or.inl ⟨by rfl, ?_⟩) ?_ ?_
            rotate_left
            ·intro w'
             go_simp
             with_reducible rfl
            rotate_left
            ·simp only [Act.put, List.setIfInBounds_toArray, List.set_cons_zero, List.set_cons_succ, i64_w, i32_w]
             rfl
            refine pure_ (i := 8) (N := some 26) (v := ?_) (a' := ?_) #[true, true, true, true, true, false, true, true, true, false, false, false, false, false] rfl rfl (any_of HT_.out (by kernel_rfl)) (fun _ _ _ h => h) (Or.inl ⟨by rfl, ?_⟩) ?_ ?_
            rotate_left
            ·intro w'
             go_simp
             with_reducible rfl
            rotate_left
            ·simp only [Act.put, List.setIfInBounds_toArray, List.set_cons_zero, List.set_cons_succ, i64_w, i32_w]
             rfl
            refine take_ (i := 5) (N := some 23) (v := ?_) (a' := ?_) #[true, true, true, true, true, true, true, true, true, false, false, false, false, false] rfl rfl (take_ofW HT_.out HW_.out (by kernel_rfl)) (fun _ _ _ h => h) (Or.inl ⟨by rfl, ?_⟩) hHeld ?_ ?_
            rotate_left
            ·rintro w' ⟨s0, s1, s2, s3, s4, s5⟩
             go_simp
             with_reducible rfl
            rotate_left
            ·simp only [Act.put, List.setIfInBounds_toArray, List.set_cons_zero, List.set_cons_succ, i64_w, i32_w]
             rfl
            refine take_ (i := 9) (N := some 27) (v := ?_) (a' := ?_) #[true, true, true, true, true, true, true, true, true, true, false, false, false, false] rfl rfl (take_ofW HT_.out HW_.out (by kernel_rfl)) (fun _ _ _ h => h) (Or.inl ⟨by rfl, ?_⟩) hHeld ?_ ?_
            rotate_left
            ·rintro w' ⟨s0, s1, s2, s3, s4, s5⟩
             go_simp
             with_reducible rfl
            rotate_left
            ·simp only [Act.put, List.setIfInBounds_toArray, List.set_cons_zero, List.set_cons_succ, i64_w, i32_w]
             rfl
            refine one_ (i := 10) (N := some 28) #[true, true, true, true, true, true, true, true, true, true, true, false, false, false] rfl rfl (one_of HT_.out (by kernel_rfl)) (by decide) (fun K hK => ?_)
            refine goes_ Try.func36 (by kernel_rfl) rfl #[.agg #[.bool ((rd_T28 l0 x4_1).f0), .int .i64 ((rd_T28 l0 x4_1).f1), .string ((rd_T28 l0 x4_1).f2)], .agg #[.bool ((rd_T28 l0 x6_2).f0), .int .i64 ((rd_T28 l0 x6_2).f1), .string ((rd_T28 l0 x6_2).f2)]] (by rfl) rfl rfl (by (try simp only [List.map_toArray, List.map_cons, List.map_nil]); first | done | rfl | (simp only [List.length_drop, List.length_take]; rfl)) ?_
            with_reducible refine (tithebarnref02_Compare.calls k2 ((rd_T28 l0 x4_1).f0) ((rd_T28 l0 x4_1).f1) ((rd_T28 l0 x4_1).f2) ((rd_T28 l0 x6_2).f0) ((rd_T28 l0 x6_2).f1) ((rd_T28 l0 x6_2).f2) t171 _ A9.out).mono ?_
            rintro e w11 ⟨rfl, hb⟩
            refine ⟨_, rfl, ?_⟩
            have n0_ := Aside0.mk (below_step (by repeat (first | (with_reducible first | exact HB.out | apply below_alloc | apply pw_below_drewN | apply below_drew1) | exact HB.out)) hb)
            clear HB
            have HB := n0_
            clear n0_
            (try clear hb)
            (try clear hb2)
            (try clear hk)
            (try clear hi)
            refine hK.out _ _ ⟨((HB.out.cell (World.block_lt_of_cell? w _ hw169_0)).trans hw169_0), ((HB.out.cell (World.block_lt_of_cell? w _ hw169_1)).trans hw169_1), ((HB.out.cell (World.block_lt_of_cell? w _ hw169_2)).trans hw169_2), ((HB.out.cell (World.block_lt_of_cell? w _ hw170_0)).trans hw170_0), ((HB.out.cell (World.block_lt_of_cell? w _ hw170_1)).trans hw170_1), ((HB.out.cell (World.block_lt_of_cell? w _ hw170_2)).trans hw170_2)⟩ (fun hHeld => ?_)
            clear hK K
            refine norm_ (a' := ?_) ?_ ?_
            rotate_left
            ·show Act.put _ (some 28) _ = _
             simp only [Act.put, List.setIfInBounds_toArray, List.set_cons_zero, List.set_cons_succ, i64_w, i32_w]
             rfl
            refine pure_ (i := 11) (N := some 29) (v := ?_) (a' := ?_) #[true, true, true, true, true, true, true, true, true, true, true, true, false, false] rfl rfl (any_of HT_.out (by kernel_rfl)) (fun _ _ _ h => h) (Or.inl ⟨by rfl, ?_⟩) ?_ ?_
            rotate_left
            ·intro w'
             go_simp
             with_reducible rfl
            rotate_left
            ·simp only [Act.put, List.setIfInBounds_toArray, List.set_cons_zero, List.set_cons_succ, i64_w, i32_w]
             rfl
            refine pure_ (i := 12) (N := some 30) (v := ?_) (a' := ?_) #[true, true, true, true, true, true, true, true, true, true, true, true, true, false] rfl rfl (any_of HT_.out (by kernel_rfl)) (fun _ _ _ h => h) (Or.inl ⟨by rfl, ?_⟩) ?_ ?_
            rotate_left
            ·intro w'
             go_simp
             with_reducible rfl
            rotate_left
            ·simp only [Act.put, List.setIfInBounds_toArray, List.set_cons_zero, List.set_cons_succ, i64_w, i32_w]
             rfl
            refine pure_ (i := 13) (N := some 5) (v := ?_) (a' := ?_) #[true, true, true, true, true, true, true, true, true, true, true, true, true, true] rfl rfl (any_of HT_.out (by kernel_rfl)) (fun _ _ _ h => h) (Or.inl ⟨by rfl, ?_⟩) ?_ ?_
            rotate_left
            ·intro w'
             go_simp
             with_reducible rfl
            rotate_left
            ·simp only [Act.put, List.setIfInBounds_toArray, List.set_cons_zero, List.set_cons_succ, i64_w, i32_w]
             rfl
            refine done_ (done_of HT_.out (by kernel_rfl)) ?_
            try go_wp2
            go_roundg k2
            case measure => have := HK1.out; have := HK2.out; omega
            case rel => exact ⟨((t171 != 0)), (wrap64 (x6_2 + 1)), (by first | rfl | (simp; done) | (simp [*]; done)), (by first | rfl | (simp; done) | (simp [*]; done)), H', ⟨by have := HK1.out; have := HK2.out; omega⟩, ⟨by repeat (first | (with_reducible first | exact HB.out | apply below_alloc | apply pw_below_drewN | apply below_drew1) | exact HB.out)⟩⟩
           ·rw [if_neg c8] at H
            exact absurd H (by simp)
          ·rw [if_neg c7] at H
           exact absurd H (by simp)
         ·rw [if_neg c6] at H
          exact absurd H (by simp)
        ·rw [if_neg c5] at H
         exact absurd H (by simp)
       ·replace c4 := Bool.eq_false_iff.mpr c4
        subst c4
        have H1 : (tithebarnref22_Unlike.l1 k2 l0 x3_1 x4_1 false (wrap64 (x6_2 + 1))) = some r := by rw [if_neg (show ¬ (false = true) by decide)] at H; exact H
        clear H
        have H := H1
        clear H1
        have H' := Aside0.mk H
        clear H
        try go_wp2
        have n0_ := Aside0.mk (below_drew1 HB.out)
        clear HB
        have HB := n0_
        clear n0_
        refine start_ (n := 14) (S := fun w' => True) (ds := []) #[false, false, false, false, false, false, false, false, false, false, false, false, false, false] (by kernel_rfl) rfl rfl trivial (fun hHeld => ?_); refine with_tabW tithebarnref22_Unlike.tab9 tithebarnref22_Unlike.bits9 (fun HT_ HW_ => ?_)
        generalize wr.drew = w12 at HB hHeld ⊢
        refine pure_ (i := 0) (N := some 18) (v := ?_) (a' := ?_) #[true, false, false, false, false, false, false, false, false, false, false, false, false, false] rfl rfl (any_of HT_.out (by kernel_rfl)) (fun _ _ _ h => h) (Or.inl ⟨by rfl, ?_⟩) ?_ ?_
        rotate_left
        ·intro w'
         go_simp
         with_reducible rfl
        rotate_left
        ·simp only [Act.put, List.setIfInBounds_toArray, List.set_cons_zero, List.set_cons_succ, i64_w, i32_w]
         rfl
        refine pure_ (i := 1) (N := some 19) (v := ?_) (a' := ?_) #[true, true, false, false, false, false, false, false, false, false, false, false, false, false] rfl rfl (any_of HT_.out (by kernel_rfl)) (fun _ _ _ h => h) (Or.inl ⟨by rfl, ?_⟩) ?_ ?_
        rotate_left
        ·intro w'
         go_simp
         with_reducible rfl
        rotate_left
        ·simp only [Act.put, List.setIfInBounds_toArray, List.set_cons_zero, List.set_cons_succ, i64_w, i32_w]
         rfl
        refine pure_ (i := 2) (N := some 20) (v := undef) (a' := ?_) #[true, true, true, false, false, false, false, false, false, false, false, false, false, false] rfl rfl (any_of HT_.out (by kernel_rfl)) (fun _ _ _ h => h) (Or.inr ⟨by rfl, rfl⟩) ?_ ?_
        rotate_left
        ·simp only [Act.put, List.setIfInBounds_toArray, List.set_cons_zero, List.set_cons_succ, i64_w, i32_w]
         rfl
        refine pure_ (i := 3) (N := some 21) (v := undef) (a' := ?_) #[true, true, true, true, false, false, false, false, false, false, false, false, false, false] rfl rfl (any_of HT_.out (by kernel_rfl)) (fun _ _ _ h => h) (Or.inr ⟨by rfl, rfl⟩) ?_ ?_
        rotate_left
        ·simp only [Act.put, List.setIfInBounds_toArray, List.set_cons_zero, List.set_cons_succ, i64_w, i32_w]
         rfl
        refine pure_ (i := 4) (N := some 22) (v := undef) (a' := ?_) #[true, true, true, true, true, false, false, false, false, false, false, false, false, false] rfl rfl (any_of HT_.out (by kernel_rfl)) (fun _ _ _ h => h) (Or.inr ⟨by rfl, rfl⟩) ?_ ?_
        rotate_left
        ·simp only [Act.put, List.setIfInBounds_toArray, List.set_cons_zero, List.set_cons_succ, i64_w, i32_w]
         rfl
        refine pure_ (i := 5) (N := some 23) (v := undef) (a' := ?_) #[true, true, true, true, true, true, false, false, false, false, false, false, false, false] rfl rfl (any_of HT_.out (by kernel_rfl)) (fun _ _ _ h => h) (Or.inr ⟨by rfl, rfl⟩) ?_ ?_
        rotate_left
        ·simp only [Act.put, List.setIfInBounds_toArray, List.set_cons_zero, List.set_cons_succ, i64_w, i32_w]
         rfl
        refine pure_ (i := 6) (N := some 24) (v := undef) (a' := ?_) #[true, true, true, true, true, true, true, false, false, false, false, false, false, false] rfl rfl (any_of HT_.out (by kernel_rfl)) (fun _ _ _ h => h) (Or.inr ⟨by rfl, rfl⟩) ?_ ?_
        rotate_left
        ·simp only [Act.put, List.setIfInBounds_toArray, List.set_cons_zero, List.set_cons_succ, i64_w, i32_w]
         rfl
        refine pure_ (i := 7) (N := some 25) (v := undef) (a' := ?_) #[true, true, true, true, true, true, true, true, false, false, false, false, false, false] rfl rfl (any_of HT_.out (by kernel_rfl)) (fun _ _ _ h => h) (Or.inr ⟨by rfl, rfl⟩) ?_ ?_
        rotate_left
        ·simp only [Act.put, List.setIfInBounds_toArray, List.set_cons_zero, List.set_cons_succ, i64_w, i32_w]
         rfl
        refine pure_ (i := 8) (N := some 26) (v := undef) (a' := ?_) #[true, true, true, true, true, true, true, true, true, false, false, false, false, false] rfl rfl (any_of HT_.out (by kernel_rfl)) (fun _ _ _ h => h) (Or.inr ⟨by rfl, rfl⟩) ?_ ?_
        rotate_left
        ·simp only [Act.put, List.setIfInBounds_toArray, List.set_cons_zero, List.set_cons_succ, i64_w, i32_w]
         rfl
        refine pure_ (i := 9) (N := some 27) (v := undef) (a' := ?_) #[true, true, true, true, true, true, true, true, true, true, false, false, false, false] rfl rfl (any_of HT_.out (by kernel_rfl)) (fun _ _ _ h => h) (Or.inr ⟨by rfl, rfl⟩) ?_ ?_
        rotate_left
        ·simp only [Act.put, List.setIfInBounds_toArray, List.set_cons_zero, List.set_cons_succ, i64_w, i32_w]
         rfl
        refine pure_ (i := 10) (N := some 28) (v := undef) (a' := ?_) #[true, true, true, true, true, true, true, true, true, true, true, false, false, false] rfl rfl (any_of HT_.out (by kernel_rfl)) (fun _ _ _ h => h) (Or.inr ⟨by rfl, rfl⟩) ?_ ?_
        rotate_left
        ·simp only [Act.put, List.setIfInBounds_toArray, List.set_cons_zero, List.set_cons_succ, i64_w, i32_w]
         rfl
        refine pure_ (i := 11) (N := some 29) (v := undef) (a' := ?_) #[true, true, true, true, true, true, true, true, true, true, true, true, false, false] rfl rfl (any_of HT_.out (by kernel_rfl)) (fun _ _ _ h => h) (Or.inr ⟨by rfl, rfl⟩) ?_ ?_
        rotate_left
        ·simp only [Act.put, List.setIfInBounds_toArray, List.set_cons_zero, List.set_cons_succ, i64_w, i32_w]
         rfl
        refine pure_ (i := 12) (N := some 30) (v := ?_) (a' := ?_) #[true, true, true, true, true, true, true, true, true, true, true, true, true, false] rfl rfl (any_of HT_.out (by kernel_rfl)) (fun _ _ _ h => h) (Or.inl ⟨by rfl, ?_⟩) ?_ ?_
        rotate_left
        ·intro w'
         go_simp
         with_reducible rfl
        rotate_left
        ·simp only [Act.put, List.setIfInBounds_toArray, List.set_cons_zero, List.set_cons_succ, i64_w, i32_w]
         rfl
        refine pure_ (i := 13) (N := some 5) (v := ?_) (a' := ?_) #[true, true, true, true, true, true, true, true, true, true, true, true, true, true] rfl rfl (any_of HT_.out (by kernel_rfl)) (fun _ _ _ h => h) (Or.inl ⟨by rfl, ?_⟩) ?_ ?_
        rotate_left
        ·intro w'
         go_simp
         with_reducible rfl
        rotate_left
        ·simp only [Act.put, List.setIfInBounds_toArray, List.set_cons_zero, List.set_cons_succ, i64_w, i32_w]
         rfl
        refine done_ (done_of HT_.out (by kernel_rfl)) ?_
        try go_wp2
        go_roundg k2
        case measure => have := HK1.out; have := HK2.out; omega
        case rel => exact ⟨(false), (wrap64 (x6_2 + 1)), (by first | rfl | (simp; done) | (simp [*]; done)), (by first | rfl | (simp; done) | (simp [*]; done)), H', ⟨by have := HK1.out; have := HK2.out; omega⟩, ⟨by repeat (first | (with_reducible first | exact HB.out | apply below_alloc | apply pw_below_drewN | apply below_drew1) | exact HB.out)⟩⟩
      ·rw [if_neg c3] at H
       have c3b0 : decide (x6_2 < x4_1) = false := decide_eq_false c3
       clear c3
       by_cases c13 : x5_2 = true
       ·subst c13
        have H1 : (tithebarnref22_Unlike.l0 k2 l0 (wrap64 (x3_1 + 1)) (wrap64 (x4_1 + 1))) = some r := by rw [if_pos rfl] at H; exact H
        clear H
        have H := H1
        clear H1
        have H' := Aside0.mk H
        clear H
        go_wp2
        go_roundg k2
        case measure => have := HK1.out; have := HK2.out; omega
        case rel => exact ⟨(wrap64 (x3_1 + 1)), (wrap64 (x4_1 + 1)), (by first | rfl | (simp; done) | (simp [*]; done)), (by first | rfl | (simp; done) | (simp [*]; done)), H', ⟨by have := HK1.out; have := HK2.out; omega⟩, ⟨by repeat (first | (with_reducible first | exact HB.out | apply below_alloc | apply pw_below_drewN | apply below_drew1) | exact HB.out)⟩⟩
       ·replace c13 := Bool.eq_false_iff.mpr c13
        subst c13
        have H1 : (tithebarnref22_Unlike.l0 k2 l0 x3_1 (wrap64 (x4_1 + 1))) = some r := by rw [if_neg (show ¬ (false = true) by decide)] at H; exact H
        clear H
        have H := H1
        clear H1
        have H' := Aside0.mk H
        clear H
        go_wp2
        go_roundg k2
        case measure => have := HK1.out; have := HK2.out; omega
        case rel => exact ⟨(x3_1), (wrap64 (x4_1 + 1)), (by first | rfl | (simp; done) | (simp [*]; done)), (by first | rfl | (simp; done) | (simp [*]; done)), H', ⟨by have := HK1.out; have := HK2.out; omega⟩, ⟨by repeat (first | (with_reducible first | exact HB.out | apply below_alloc | apply pw_below_drewN | apply below_drew1) | exact HB.out)⟩⟩
   ·rw [if_neg c2] at H
    have c2b0 : decide (x4_1 < (l0.length : Int)) = false := decide_eq_false c2
    clear c2
    obtain rfl := Option.some.inj H
    go_wp2
    go_ret
    exact ⟨by first | rfl | (simp [errW_none, errW_some] <;> rfl) | (simp [*, errW_none, errW_some] <;> rfl), by repeat (first | (with_reducible first | exact HB.out | apply below_alloc | apply pw_below_drewN | apply below_drew1) | exact HB.out)⟩
mutual
def tithebarnref01_Uint.j0 : Nat → Int → Int → Int → Option (ByteArray)
 | 0, _, _, _ => none
 | k + 1, x0, x3, x4 => tithebarnref01_Uint.l0 k x0 x3 x4 ([] : List Int) (wrap64 (x3 - 1))
def tithebarnref01_Uint.l0 : Nat → Int → Int → Int → List Int → Int → Option (ByteArray)
 | 0, _, _, _, _, _ => none
 | k + 1, x0, x3, x4, x5, x6 => if x6 ≥ 0 then (if x6 < 8 then (if 0 ≤ (IntKind.u64.wrap (wrap64 (8 * x6))) then (if x6 = (wrap64 (x3 - 1)) then (if x5.length < 140737488355328 then (tithebarnref01_Uint.l0 k x0 x3 x4 (x5 ++ [((shr .u64 x0 (IntKind.u64.wrap (wrap64 (8 * x6)))) + x4) % 256]) (wrap64 (x6 - 1))) else (none)) else (if x5.length < 140737488355328 then (tithebarnref01_Uint.l0 k x0 x3 x4 (x5 ++ [(shr .u64 x0 (IntKind.u64.wrap (wrap64 (8 * x6)))) % 256]) (wrap64 (x6 - 1))) else (none))) else (none)) else (if x6 = (wrap64 (x3 - 1)) then (if x5.length < 140737488355328 then (tithebarnref01_Uint.l0 k x0 x3 x4 (x5 ++ [(x4) % 256]) (wrap64 (x6 - 1))) else (none)) else (if x5.length < 140737488355328 then (tithebarnref01_Uint.l0 k x0 x3 x4 (x5 ++ [0]) (wrap64 (x6 - 1))) else (none)))) else (some (strOfNums x5))
end
def tithebarnref01_Uint.f (k : Nat) (a0 : Int) : Option (ByteArray) := if a0 < 64 then (tithebarnref01_Uint.j0 k a0 1 0) else (if a0 < 16384 then (tithebarnref01_Uint.j0 k a0 2 64) else (if a0 < 1073741824 then (tithebarnref01_Uint.j0 k a0 4 128) else (tithebarnref01_Uint.j0 k a0 9 192)))
theorem tithebarnref01_Uint.mono_l : ∀ k, (∀ y0 y1 y2, LeO (tithebarnref01_Uint.j0 k y0 y1 y2) (tithebarnref01_Uint.j0 (k + 1) y0 y1 y2)) ∧ (∀ y0 y1 y2 y3 y4, LeO (tithebarnref01_Uint.l0 k y0 y1 y2 y3 y4) (tithebarnref01_Uint.l0 (k + 1) y0 y1 y2 y3 y4))
 | 0 => ⟨fun _ _ _ r h => by simp [tithebarnref01_Uint.j0] at h, fun _ _ _ _ _ r h => by simp [tithebarnref01_Uint.l0] at h⟩
 | k + 1 => by
  obtain ⟨ih0, ih1⟩ := tithebarnref01_Uint.mono_l k
  refine ⟨?_, ?_⟩
  ·intro y0 y1 y2
   unfold tithebarnref01_Uint.j0
   repeat' first
   | (with_reducible exact ih0 _ _ _)
   | (with_reducible exact ih1 _ _ _ _ _)
   | (with_reducible exact LeO.refl _)
   | (with_reducible exact LeO.none _)
   | (with_reducible refine LeO.ite ?_ ?_)
   | (with_reducible refine LeO.bind ?_ (fun _ => ?_))
   | exact ih0 _ _ _
   | exact ih1 _ _ _ _ _
   | exact LeO.none _
   | refine LeO.ite ?_ ?_
   | refine LeO.bind ?_ (fun _ => ?_)
  ·intro y0 y1 y2 y3 y4
   unfold tithebarnref01_Uint.l0
   repeat' first
   | (with_reducible exact ih0 _ _ _)
   | (with_reducible exact ih1 _ _ _ _ _)
   | (with_reducible exact LeO.refl _)
   | (with_reducible exact LeO.none _)
   | (with_reducible refine LeO.ite ?_ ?_)
   | (with_reducible refine LeO.bind ?_ (fun _ => ?_))
   | exact ih0 _ _ _
   | exact ih1 _ _ _ _ _
   | exact LeO.none _
   | refine LeO.ite ?_ ?_
   | refine LeO.bind ?_ (fun _ => ?_)
theorem tithebarnref01_Uint.mono : ∀ a0 k, LeO (tithebarnref01_Uint.f k a0) (tithebarnref01_Uint.f (k + 1) a0) := by
 intro a0 k
 obtain ⟨ih0, ih1⟩ := tithebarnref01_Uint.mono_l k
 unfold tithebarnref01_Uint.f
 repeat' first
   | (with_reducible exact ih0 _ _ _)
   | (with_reducible exact ih1 _ _ _ _ _)
   | (with_reducible exact LeO.refl _)
   | (with_reducible exact LeO.none _)
   | (with_reducible refine LeO.ite ?_ ?_)
   | (with_reducible refine LeO.bind ?_ (fun _ => ?_))
   | exact ih0 _ _ _
   | exact ih1 _ _ _ _ _
   | exact LeO.none _
   | refine LeO.ite ?_ ?_
   | refine LeO.bind ?_ (fun _ => ?_)
set_option maxHeartbeats 8000000 in
set_option maxRecDepth 100000 in
theorem tithebarnref01_Uint.calls (k : Nat) (a0 : Int) (r : ByteArray) (w : World) (h : tithebarnref01_Uint.f k a0 = some r) :
  Calls Try.prog 22 #[.int .u64 a0] w fun e w' => e = .returned (.string r) ∧ Below w.heap.size w w' := by
 have HB := Aside0.mk (Below.refl w.heap.size w)
 have H : (if a0 < 64 then (tithebarnref01_Uint.j0 k a0 1 0) else (if a0 < 16384 then (tithebarnref01_Uint.j0 k a0 2 64) else (if a0 < 1073741824 then (tithebarnref01_Uint.j0 k a0 4 128) else (tithebarnref01_Uint.j0 k a0 9 192)))) = some r := h
 clear h
 have HC2 := Aside0.mk H
 clear H
 go_enter Try.func22, Try.ntmps22
 go_upto_block 0 with (fail)
 go_cut [3, 4] (fun v3 v4 wc => ∃ (kq : Nat) (x3_1 : Int) (x4_1 : Int), v3 = .int .i64 x3_1 ∧ v4 = .int .u64 x4_1 ∧ Aside0 (tithebarnref01_Uint.j0 kq a0 x3_1 x4_1 = some r) ∧ Aside0 (kq ≤ k) ∧ Aside0 (Below w.heap.size w wc))
 case first =>
  have H := HC2.out
  clear HC2
  by_cases c3 : a0 < 64
  ·rw [if_pos c3] at H
   have c3b0 : decide (a0 < 64) = true := decide_eq_true c3
   clear c3
   (first | rw [c3b0] | (simp only [i64_w, i32_w]; rw [c3b0]) | skip)
   have H' := Aside0.mk H
   clear H
   go_wp2
   go_meet
   case rel => exact ⟨_, (1), (0), (by first | rfl | (simp; done) | (simp [*]; done)), (by first | rfl | (simp; done) | (simp [*]; done)), H', ⟨by first | omega | exact Nat.le_refl _⟩, ⟨by repeat (first | (with_reducible first | exact HB.out | apply below_alloc | apply pw_below_drewN | apply below_drew1) | exact HB.out)⟩⟩
  ·rw [if_neg c3] at H
   have c3b0 : decide (a0 < 64) = false := decide_eq_false c3
   clear c3
   (first | rw [c3b0] | (simp only [i64_w, i32_w]; rw [c3b0]) | skip)
   by_cases c4 : a0 < 16384
   ·rw [if_pos c4] at H
    have c4b0 : decide (a0 < 16384) = true := decide_eq_true c4
    clear c4
    have H' := Aside0.mk H
    clear H
    go_wp2
    go_meet
    case rel => exact ⟨_, (2), (64), (by first | rfl | (simp; done) | (simp [*]; done)), (by first | rfl | (simp; done) | (simp [*]; done)), H', ⟨by first | omega | exact Nat.le_refl _⟩, ⟨by repeat (first | (with_reducible first | exact HB.out | apply below_alloc | apply pw_below_drewN | apply below_drew1) | exact HB.out)⟩⟩
   ·rw [if_neg c4] at H
    have c4b0 : decide (a0 < 16384) = false := decide_eq_false c4
    clear c4
    by_cases c5 : a0 < 1073741824
    ·rw [if_pos c5] at H
     have c5b0 : decide (a0 < 1073741824) = true := decide_eq_true c5
     clear c5
     have H' := Aside0.mk H
     clear H
     go_wp2
     go_meet
     case rel => exact ⟨_, (4), (128), (by first | rfl | (simp; done) | (simp [*]; done)), (by first | rfl | (simp; done) | (simp [*]; done)), H', ⟨by first | omega | exact Nat.le_refl _⟩, ⟨by repeat (first | (with_reducible first | exact HB.out | apply below_alloc | apply pw_below_drewN | apply below_drew1) | exact HB.out)⟩⟩
    ·rw [if_neg c5] at H
     have c5b0 : decide (a0 < 1073741824) = false := decide_eq_false c5
     clear c5
     have H' := Aside0.mk H
     clear H
     go_wp2
     go_meet
     case rel => exact ⟨_, (9), (192), (by first | rfl | (simp; done) | (simp [*]; done)), (by first | rfl | (simp; done) | (simp [*]; done)), H', ⟨by first | omega | exact Nat.le_refl _⟩, ⟨by repeat (first | (with_reducible first | exact HB.out | apply below_alloc | apply pw_below_drewN | apply below_drew1) | exact HB.out)⟩⟩
 case rest =>
  clear HC2
  try clear c2
  try clear p2
  try clear c3
  try clear c3b0
  try clear c4
  try clear c4b0
  try clear c5
  try clear c5b0
  obtain ⟨kq, x3_1, x4_1, rfl, rfl, HA, HJ1, HB⟩ := hcut
  cases kq with
  | zero => exact absurd HA.out (by simp [tithebarnref01_Uint.j0])
  | succ kj1 =>
   have H := HA.out
   clear HA
   simp only [tithebarnref01_Uint.j0] at H
   have H' := Aside0.mk H
   clear H
   go_wp2
   go_loopg [5, 6] kj1 (fun kq v5 v6 w' => ∃ (x5_2 : List Int) (x6_2 : Int), v6 = .int .i64 x6_2 ∧ Aside0 (tithebarnref01_Uint.l0 kq a0 x3_1 x4_1 x5_2 x6_2 = some r) ∧ Aside0 (kq ≤ kj1) ∧ Aside0 (Kd.R (Kd.int .u8) 5 w' w.heap.size (fun _ => True) v5 x5_2) ∧ Aside0 (Below w.heap.size w w'))
   case atStart => exact ⟨(([] : List Int)), (wrap64 (x3_1 - 1)), (by first | rfl | (simp; done) | (simp [*]; done)), H', ⟨Nat.le_refl _⟩, ⟨by first | exact Kd.R_nil _ _ _ _ _ | exact Kd.N_nil _ _ _ _ _ | exact Kd.V_nil _ _ _ _ _ | exact Kd.Q_nil _ _ _ _ _ | exact Kd.S_nil _ _ _ _ _⟩, ⟨by repeat (first | (with_reducible first | exact HB.out | apply below_alloc | apply pw_below_drewN | apply below_drew1) | exact HB.out)⟩⟩
   case round =>
    clear H'
    try clear c2
    try clear p2
    try clear c3
    try clear c3b0
    try clear c4
    try clear c4b0
    try clear c5
    try clear c5b0
    try clear p2
    obtain ⟨x5_2, x6_2, rfl, HA, HK2, HO_5, HB⟩ := hrel
    cases gk with
    | zero => exact absurd HA.out (by simp [tithebarnref01_Uint.l0])
    | succ k2 =>
     have H := HA.out
     clear HA
     simp only [tithebarnref01_Uint.l0] at H
     by_cases c6 : x6_2 ≥ 0
     ·rw [if_pos c6] at H
      have c6b0 : decide (0 ≤ x6_2) = true := decide_eq_true c6
      clear c6
      by_cases c7 : x6_2 < 8
      ·rw [if_pos c7] at H
       have c7b0 : decide (x6_2 < 8) = true := decide_eq_true c7
       clear c7
       obtain ⟨ji8, hji8⟩ : ∃ j_ : Int, (IntKind.u64.wrap (wrap64 (8 * x6_2))) = j_ := ⟨_, rfl⟩
       replace H : (if 0 ≤ (ji8) then (if x6_2 = (wrap64 (x3_1 - 1)) then (if x5_2.length < 140737488355328 then (tithebarnref01_Uint.l0 k2 a0 x3_1 x4_1 (x5_2 ++ [((shr .u64 a0 (ji8)) + x4_1) % 256]) (wrap64 (x6_2 - 1))) else (none)) else (if x5_2.length < 140737488355328 then (tithebarnref01_Uint.l0 k2 a0 x3_1 x4_1 (x5_2 ++ [(shr .u64 a0 (ji8)) % 256]) (wrap64 (x6_2 - 1))) else (none))) else (none)) = some r := by first | (rw [hji8] at H; exact H) | (simp only [hji8] at H ⊢; exact H)
       by_cases c9 : 0 ≤ (ji8)
       ·rw [if_pos c9] at H
        have c9b0 := eq_true c9
        have c9b1 : decide (0 ≤ (ji8)) = true := decide_eq_true c9
        clear c9
        obtain ⟨ji10, hji10⟩ : ∃ j_ : Int, (shr .u64 a0 (ji8)) = j_ := ⟨_, rfl⟩
        replace H : (if x6_2 = (wrap64 (x3_1 - 1)) then (if x5_2.length < 140737488355328 then (tithebarnref01_Uint.l0 k2 a0 x3_1 x4_1 (x5_2 ++ [((ji10) + x4_1) % 256]) (wrap64 (x6_2 - 1))) else (none)) else (if x5_2.length < 140737488355328 then (tithebarnref01_Uint.l0 k2 a0 x3_1 x4_1 (x5_2 ++ [(ji10) % 256]) (wrap64 (x6_2 - 1))) else (none))) = some r := by first | (rw [hji10] at H; exact H) | (simp only [hji10] at H ⊢; exact H)
        have hji10_ : (a0 / 2 ^ min (ji8).toNat 64) = ji10 := hji10
        have hji10z : (ji8) ≤ 64 → (a0 / 2 ^ (ji8).toNat) = ji10 := shr_small hji10
        by_cases c11 : x6_2 = (wrap64 (x3_1 - 1))
        ·rw [if_pos c11] at H
         have c11b0 : (x6_2 == (wrap64 (x3_1 - 1))) = true := beq_iff_eq.mpr c11
         have c11b1 : (x6_2 != (wrap64 (x3_1 - 1))) = false := bne_eq_false_iff_eq.mpr c11
         clear c11
         by_cases c12 : x5_2.length < 140737488355328
         ·rw [if_pos c12] at H
          have LMc12 := Aside0.mk c12
          clear c12
          obtain ⟨y172, hy172⟩ : ∃ y_ : List Int, y_ = (x5_2 ++ [((ji10) + x4_1) % 256]) := ⟨_, rfl⟩
          replace H : (tithebarnref01_Uint.l0 k2 a0 x3_1 x4_1 y172 (wrap64 (x6_2 - 1))) = some r := by first | (rw [hy172]; with_reducible exact H) | (have H2_ := (Option.bind_some _ _).symm.trans H; rw [hy172]; with_reducible exact H2_) | (have H2_ := (Option.bind_some _ _).symm.trans H; with_reducible exact H2_) | with_reducible exact H | (rw [hy172]; exact H) | exact H
          have Ny172 := Aside0.mk hy172
          clear hy172
          have H' := Aside0.mk H
          clear H
          go_wp2_with (first | ((with_reducible refine gate_builtin (b := .append) (xs := #[.tmp 39, .tmp 41]) rfl ?_); at_builtin; refine Kd.R_append (Kd.int .u8) (w0 := w) w.heap.size rfl (.tmp 39) (.tmp 41) 38 5 (.int .u8 0) 1 rfl Try.underlying38 info5 rfl (by decide) (by omega) u5 x5_2 (((ji10) + x4_1) % 256) [.int .u8 (((ji10) + x4_1) % 256)] (fun _ => True) (fun _ => False) rfl rfl ?aP (fun _ hk => hk.elim) ?aF ?aO ?aB ?aS ?aL ?_; (case aP => exact rfl); (case aB => exact (by repeat (first | (with_reducible first | exact HB.out | apply below_alloc | apply pw_below_drewN | apply below_drew1) | exact HB.out))); (case aF => exact (fun _ _ => trivial)); (case aO => exact (by (with_reducible repeat (first | apply Kd.R_alloc | apply Kd.R_drewN | apply Kd.R_drew)); exact HO_5.out)); (case aS => exact (below_size (by repeat (first | (with_reducible first | exact HB.out | apply below_alloc | apply pw_below_drewN | apply below_drew1) | exact HB.out)))); (case aL => have := LMc12.out; omega); intro v173 w13 ho hb hg hat; rw [← Ny172.out] at ho; have n0_ := Aside0.mk (hb); have n1_ := Aside0.mk (ho); clear HB; clear HO_5; have HB := n0_; have HO174 := n1_; clear n0_ n1_; clear ho hb hg hat))
          go_roundg k2
          case measure => have := HJ1.out; have := HK2.out; omega
          case rel => exact ⟨(y172), (wrap64 (x6_2 - 1)), (by first | rfl | (simp; done) | (simp [*]; done)), H', ⟨by have := HJ1.out; have := HK2.out; omega⟩, ⟨by (with_reducible repeat (first | apply Kd.R_alloc | apply Kd.R_drewN | apply Kd.R_drew)); exact HO174.out⟩, ⟨by repeat (first | (with_reducible first | exact HB.out | apply below_alloc | apply pw_below_drewN | apply below_drew1) | exact HB.out)⟩⟩
         ·rw [if_neg c12] at H
          exact absurd H (by simp)
        ·rw [if_neg c11] at H
         have c11b0 : (x6_2 == (wrap64 (x3_1 - 1))) = false := beq_eq_false_iff_ne.mpr c11
         have c11b1 : (x6_2 != (wrap64 (x3_1 - 1))) = true := bne_iff_ne.mpr c11
         by_cases c14 : x5_2.length < 140737488355328
         ·rw [if_pos c14] at H
          have LMc14 := Aside0.mk c14
          clear c14
          obtain ⟨y175, hy175⟩ : ∃ y_ : List Int, y_ = (x5_2 ++ [(ji10) % 256]) := ⟨_, rfl⟩
          replace H : (tithebarnref01_Uint.l0 k2 a0 x3_1 x4_1 y175 (wrap64 (x6_2 - 1))) = some r := by first | (rw [hy175]; with_reducible exact H) | (have H2_ := (Option.bind_some _ _).symm.trans H; rw [hy175]; with_reducible exact H2_) | (have H2_ := (Option.bind_some _ _).symm.trans H; with_reducible exact H2_) | with_reducible exact H | (rw [hy175]; exact H) | exact H
          have Ny175 := Aside0.mk hy175
          clear hy175
          have H' := Aside0.mk H
          clear H
          go_wp2_with (first | ((with_reducible refine gate_builtin (b := .append) (xs := #[.tmp 39, .tmp 41]) rfl ?_); at_builtin; refine Kd.R_append (Kd.int .u8) (w0 := w) w.heap.size rfl (.tmp 39) (.tmp 41) 38 5 (.int .u8 0) 1 rfl Try.underlying38 info5 rfl (by decide) (by omega) u5 x5_2 ((ji10) % 256) [.int .u8 ((ji10) % 256)] (fun _ => True) (fun _ => False) rfl rfl ?aP (fun _ hk => hk.elim) ?aF ?aO ?aB ?aS ?aL ?_; (case aP => exact rfl); (case aB => exact (by repeat (first | (with_reducible first | exact HB.out | apply below_alloc | apply pw_below_drewN | apply below_drew1) | exact HB.out))); (case aF => exact (fun _ _ => trivial)); (case aO => exact (by (with_reducible repeat (first | apply Kd.R_alloc | apply Kd.R_drewN | apply Kd.R_drew)); exact HO_5.out)); (case aS => exact (below_size (by repeat (first | (with_reducible first | exact HB.out | apply below_alloc | apply pw_below_drewN | apply below_drew1) | exact HB.out)))); (case aL => have := LMc14.out; omega); intro v176 w15 ho hb hg hat; rw [← Ny175.out] at ho; have n0_ := Aside0.mk (hb); have n1_ := Aside0.mk (ho); clear HB; clear HO_5; have HB := n0_; have HO177 := n1_; clear n0_ n1_; clear ho hb hg hat))
          go_roundg k2
          case measure => have := HJ1.out; have := HK2.out; omega
          case rel => exact ⟨(y175), (wrap64 (x6_2 - 1)), (by first | rfl | (simp; done) | (simp [*]; done)), H', ⟨by have := HJ1.out; have := HK2.out; omega⟩, ⟨by (with_reducible repeat (first | apply Kd.R_alloc | apply Kd.R_drewN | apply Kd.R_drew)); exact HO177.out⟩, ⟨by repeat (first | (with_reducible first | exact HB.out | apply below_alloc | apply pw_below_drewN | apply below_drew1) | exact HB.out)⟩⟩
         ·rw [if_neg c14] at H
          exact absurd H (by simp)
       ·rw [if_neg c9] at H
        exact absurd H (by simp)
      ·rw [if_neg c7] at H
       have c7b0 : decide (x6_2 < 8) = false := decide_eq_false c7
       clear c7
       by_cases c16 : x6_2 = (wrap64 (x3_1 - 1))
       ·rw [if_pos c16] at H
        have c16b0 : (x6_2 == (wrap64 (x3_1 - 1))) = true := beq_iff_eq.mpr c16
        have c16b1 : (x6_2 != (wrap64 (x3_1 - 1))) = false := bne_eq_false_iff_eq.mpr c16
        clear c16
        by_cases c17 : x5_2.length < 140737488355328
        ·rw [if_pos c17] at H
         have LMc17 := Aside0.mk c17
         clear c17
         obtain ⟨y178, hy178⟩ : ∃ y_ : List Int, y_ = (x5_2 ++ [(x4_1) % 256]) := ⟨_, rfl⟩
         replace H : (tithebarnref01_Uint.l0 k2 a0 x3_1 x4_1 y178 (wrap64 (x6_2 - 1))) = some r := by first | (rw [hy178]; with_reducible exact H) | (have H2_ := (Option.bind_some _ _).symm.trans H; rw [hy178]; with_reducible exact H2_) | (have H2_ := (Option.bind_some _ _).symm.trans H; with_reducible exact H2_) | with_reducible exact H | (rw [hy178]; exact H) | exact H
         have Ny178 := Aside0.mk hy178
         clear hy178
         have H' := Aside0.mk H
         clear H
         go_wp2_with (first | ((with_reducible refine gate_builtin (b := .append) (xs := #[.tmp 39, .tmp 41]) rfl ?_); at_builtin; refine Kd.R_append (Kd.int .u8) (w0 := w) w.heap.size rfl (.tmp 39) (.tmp 41) 38 5 (.int .u8 0) 1 rfl Try.underlying38 info5 rfl (by decide) (by omega) u5 x5_2 ((x4_1) % 256) [.int .u8 ((x4_1) % 256)] (fun _ => True) (fun _ => False) rfl rfl ?aP (fun _ hk => hk.elim) ?aF ?aO ?aB ?aS ?aL ?_; (case aP => exact rfl); (case aB => exact (by repeat (first | (with_reducible first | exact HB.out | apply below_alloc | apply pw_below_drewN | apply below_drew1) | exact HB.out))); (case aF => exact (fun _ _ => trivial)); (case aO => exact (by (with_reducible repeat (first | apply Kd.R_alloc | apply Kd.R_drewN | apply Kd.R_drew)); exact HO_5.out)); (case aS => exact (below_size (by repeat (first | (with_reducible first | exact HB.out | apply below_alloc | apply pw_below_drewN | apply below_drew1) | exact HB.out)))); (case aL => have := LMc17.out; omega); intro v179 w18 ho hb hg hat; rw [← Ny178.out] at ho; have n0_ := Aside0.mk (hb); have n1_ := Aside0.mk (ho); clear HB; clear HO_5; have HB := n0_; have HO180 := n1_; clear n0_ n1_; clear ho hb hg hat))
         go_roundg k2
         case measure => have := HJ1.out; have := HK2.out; omega
         case rel => exact ⟨(y178), (wrap64 (x6_2 - 1)), (by first | rfl | (simp; done) | (simp [*]; done)), H', ⟨by have := HJ1.out; have := HK2.out; omega⟩, ⟨by (with_reducible repeat (first | apply Kd.R_alloc | apply Kd.R_drewN | apply Kd.R_drew)); exact HO180.out⟩, ⟨by repeat (first | (with_reducible first | exact HB.out | apply below_alloc | apply pw_below_drewN | apply below_drew1) | exact HB.out)⟩⟩
        ·rw [if_neg c17] at H
         exact absurd H (by simp)
       ·rw [if_neg c16] at H
        have c16b0 : (x6_2 == (wrap64 (x3_1 - 1))) = false := beq_eq_false_iff_ne.mpr c16
        have c16b1 : (x6_2 != (wrap64 (x3_1 - 1))) = true := bne_iff_ne.mpr c16
        by_cases c19 : x5_2.length < 140737488355328
        ·rw [if_pos c19] at H
         have LMc19 := Aside0.mk c19
         clear c19
         obtain ⟨y181, hy181⟩ : ∃ y_ : List Int, y_ = (x5_2 ++ [0]) := ⟨_, rfl⟩
         replace H : (tithebarnref01_Uint.l0 k2 a0 x3_1 x4_1 y181 (wrap64 (x6_2 - 1))) = some r := by first | (rw [hy181]; with_reducible exact H) | (have H2_ := (Option.bind_some _ _).symm.trans H; rw [hy181]; with_reducible exact H2_) | (have H2_ := (Option.bind_some _ _).symm.trans H; with_reducible exact H2_) | with_reducible exact H | (rw [hy181]; exact H) | exact H
         have Ny181 := Aside0.mk hy181
         clear hy181
         have H' := Aside0.mk H
         clear H
         go_wp2_with (first | ((with_reducible refine gate_builtin (b := .append) (xs := #[.tmp 39, .tmp 41]) rfl ?_); at_builtin; refine Kd.R_append (Kd.int .u8) (w0 := w) w.heap.size rfl (.tmp 39) (.tmp 41) 38 5 (.int .u8 0) 1 rfl Try.underlying38 info5 rfl (by decide) (by omega) u5 x5_2 0 [.int .u8 0] (fun _ => True) (fun _ => False) rfl rfl ?aP (fun _ hk => hk.elim) ?aF ?aO ?aB ?aS ?aL ?_; (case aP => exact rfl); (case aB => exact (by repeat (first | (with_reducible first | exact HB.out | apply below_alloc | apply pw_below_drewN | apply below_drew1) | exact HB.out))); (case aF => exact (fun _ _ => trivial)); (case aO => exact (by (with_reducible repeat (first | apply Kd.R_alloc | apply Kd.R_drewN | apply Kd.R_drew)); exact HO_5.out)); (case aS => exact (below_size (by repeat (first | (with_reducible first | exact HB.out | apply below_alloc | apply pw_below_drewN | apply below_drew1) | exact HB.out)))); (case aL => have := LMc19.out; omega); intro v182 w20 ho hb hg hat; rw [← Ny181.out] at ho; have n0_ := Aside0.mk (hb); have n1_ := Aside0.mk (ho); clear HB; clear HO_5; have HB := n0_; have HO183 := n1_; clear n0_ n1_; clear ho hb hg hat))
         go_roundg k2
         case measure => have := HJ1.out; have := HK2.out; omega
         case rel => exact ⟨(y181), (wrap64 (x6_2 - 1)), (by first | rfl | (simp; done) | (simp [*]; done)), H', ⟨by have := HJ1.out; have := HK2.out; omega⟩, ⟨by (with_reducible repeat (first | apply Kd.R_alloc | apply Kd.R_drewN | apply Kd.R_drew)); exact HO183.out⟩, ⟨by repeat (first | (with_reducible first | exact HB.out | apply below_alloc | apply pw_below_drewN | apply below_drew1) | exact HB.out)⟩⟩
        ·rw [if_neg c19] at H
         exact absurd H (by simp)
     ·rw [if_neg c6] at H
      have c6b0 : decide (0 ≤ x6_2) = false := decide_eq_false c6
      clear c6
      obtain rfl := Option.some.inj H
      have hcv21 := own_string (P := Try.prog) Try.underlying38 Try.underlying5 Try.underlying9 (Kd.own_of_R HO_5.out)
      go_wp2
      go_ret
      exact ⟨by first | rfl | (simp [errW_none, errW_some] <;> rfl) | (simp [*, errW_none, errW_some] <;> rfl), by repeat (first | (with_reducible first | exact HB.out | apply below_alloc | apply pw_below_drewN | apply below_drew1) | exact HB.out)⟩
def tithebarnref01_Fold.f (a0 : Int) : Option (Int) := if a0 < 0 then (some (IntKind.u64.wrap ((IntKind.u64.wrap (2 * (IntKind.u64.wrap (wrap64 (-(wrap64 (a0 + 1))))))) + 1))) else (some (IntKind.u64.wrap (2 * (IntKind.u64.wrap (a0)))))
set_option maxHeartbeats 8000000 in
set_option maxRecDepth 100000 in
theorem tithebarnref01_Fold.calls (a0 : Int) (r : Int) (w : World) (h : tithebarnref01_Fold.f a0 = some r) :
  Calls Try.prog 58 #[.int .i64 a0] w fun e w' => e = .returned (.int .u64 r) ∧ Drawn0 w w' := by
 have H : (if a0 < 0 then (some (IntKind.u64.wrap ((IntKind.u64.wrap (2 * (IntKind.u64.wrap (wrap64 (-(wrap64 (a0 + 1))))))) + 1))) else (some (IntKind.u64.wrap (2 * (IntKind.u64.wrap (a0)))))) = some r := h
 clear h
 by_cases c2 : a0 < 0
 ·rw [if_pos c2] at H
  have c2b0 : decide (a0 < 0) = true := decide_eq_true c2
  clear c2
  obtain rfl := Option.some.inj H
  go_enter Try.func58, Try.ntmps58
  go_wp2
  go_ret
  exact ⟨by first | rfl | (simp; done) | (simp [*]; done), by repeat (first | exact Drawn0.refl _ | apply Drawn0.step)⟩
 ·rw [if_neg c2] at H
  have c2b0 : decide (a0 < 0) = false := decide_eq_false c2
  clear c2
  obtain rfl := Option.some.inj H
  go_enter Try.func58, Try.ntmps58
  go_wp2
  go_ret
  exact ⟨by first | rfl | (simp; done) | (simp [*]; done), by repeat (first | exact Drawn0.refl _ | apply Drawn0.step)⟩
def tithebarnref01_Int.f (k : Nat) (a0 : Int) : Option (ByteArray) := (tithebarnref01_Fold.f a0).bind fun t184 => ((tithebarnref01_Uint.f k t184).bind fun t185 => (some t185))
theorem tithebarnref01_Int.mono : ∀ a0 k, LeO (tithebarnref01_Int.f k a0) (tithebarnref01_Int.f (k + 1) a0) := by
 intro a0 k
 unfold tithebarnref01_Int.f
 repeat' first
   | (with_reducible exact tithebarnref01_Uint.mono _ _)
   | (with_reducible exact LeO.refl _)
   | (with_reducible exact LeO.none _)
   | (with_reducible refine LeO.ite ?_ ?_)
   | (with_reducible refine LeO.bind ?_ (fun _ => ?_))
   | exact tithebarnref01_Uint.mono _ _
   | exact LeO.none _
   | refine LeO.ite ?_ ?_
   | refine LeO.bind ?_ (fun _ => ?_)
set_option maxHeartbeats 8000000 in
set_option maxRecDepth 100000 in
theorem tithebarnref01_Int.calls (k : Nat) (a0 : Int) (r : ByteArray) (w : World) (h : tithebarnref01_Int.f k a0 = some r) :
  Calls Try.prog 37 #[.int .i64 a0] w fun e w' => e = .returned (.string r) ∧ Below w.heap.size w w' := by
 have HB := Aside0.mk (Below.refl w.heap.size w)
 have H : ((tithebarnref01_Fold.f a0).bind fun t184 => ((tithebarnref01_Uint.f k t184).bind fun t185 => (some t185))) = some r := h
 clear h
 replace H := Option.bind_eq_some_iff.mp H
 obtain ⟨t184, A20, H⟩ := H
 replace H : ((tithebarnref01_Uint.f k t184).bind fun t185 => (some t185)) = some r := H
 have A2 := Aside0.mk A20
 clear A20
 replace H := Option.bind_eq_some_iff.mp H
 obtain ⟨t185, A30, H⟩ := H
 replace H : (some t185) = some r := H
 have A3 := Aside0.mk A30
 clear A30
 obtain rfl := Option.some.inj H
 go_enter Try.func37, Try.ntmps37
 go_wp2_with (first | ((with_reducible refine gate_callee (f := 58) rfl ?_); refine goesL_ (some 4) rfl rfl Try.func58 (by kernel_rfl) rfl #[.int .i64 a0] rfl (by (try simp only [List.map_toArray, List.map_cons, List.map_nil]); first | done | rfl | (simp only [List.length_drop, List.length_take]; rfl) | (go_simp; simp [IntKind.wrap, IntKind.bits, IntKind.signed]; omega)) ?_; (with_reducible refine (tithebarnref01_Fold.calls a0 t184 _ A2.out).mono ?_); rintro e w' ⟨rfl, ⟨nd, rfl⟩⟩; refine ⟨_, rfl, ?_⟩) | ((with_reducible refine gate_callee (f := 22) rfl ?_); refine goesL_ (some 5) rfl rfl Try.func22 (by kernel_rfl) rfl #[.int .u64 t184] rfl (by (try simp only [List.map_toArray, List.map_cons, List.map_nil]); first | done | rfl | (simp only [List.length_drop, List.length_take]; rfl) | (go_simp; simp [IntKind.wrap, IntKind.bits, IntKind.signed]; omega)) ?_; (with_reducible refine (tithebarnref01_Uint.calls k t184 t185 _ A3.out).mono ?_); rintro e w4 ⟨rfl, hb⟩; refine ⟨_, rfl, ?_⟩; have n0_ := Aside0.mk (below_step (by repeat (first | (with_reducible first | exact HB.out | apply below_alloc | apply pw_below_drewN | apply below_drew1) | exact HB.out)) hb); clear HB; have HB := n0_; clear n0_; (try clear hb); (try clear hb2); (try clear hk); (try clear hi)))
 go_ret
 exact ⟨by first | rfl | (simp [errW_none, errW_some] <;> rfl) | (simp [*, errW_none, errW_some] <;> rfl), by repeat (first | (with_reducible first | exact HB.out | apply below_alloc | apply pw_below_drewN | apply below_drew1) | exact HB.out)⟩
def tithebarnref01_Text.f (k : Nat) (a0 : ByteArray) : Option (ByteArray) := (tithebarnref01_Uint.f k (IntKind.u64.wrap ((a0.size : Int)))).bind fun t186 => (if t186.size + a0.size ≤ 9223372036854775807 then (some (t186 ++ a0)) else (none))
theorem tithebarnref01_Text.mono : ∀ a0 k, LeO (tithebarnref01_Text.f k a0) (tithebarnref01_Text.f (k + 1) a0) := by
 intro a0 k
 unfold tithebarnref01_Text.f
 repeat' first
   | (with_reducible exact tithebarnref01_Uint.mono _ _)
   | (with_reducible exact LeO.refl _)
   | (with_reducible exact LeO.none _)
   | (with_reducible refine LeO.ite ?_ ?_)
   | (with_reducible refine LeO.bind ?_ (fun _ => ?_))
   | exact tithebarnref01_Uint.mono _ _
   | exact LeO.none _
   | refine LeO.ite ?_ ?_
   | refine LeO.bind ?_ (fun _ => ?_)
set_option maxHeartbeats 8000000 in
set_option maxRecDepth 100000 in
theorem tithebarnref01_Text.calls (k : Nat) (a0 : ByteArray) (r : ByteArray) (w : World) (h : tithebarnref01_Text.f k a0 = some r) :
  Calls Try.prog 38 #[.string a0] w fun e w' => e = .returned (.string r) ∧ Below w.heap.size w w' := by
 have HB := Aside0.mk (Below.refl w.heap.size w)
 have H : ((tithebarnref01_Uint.f k (IntKind.u64.wrap ((a0.size : Int)))).bind fun t186 => (if t186.size + a0.size ≤ 9223372036854775807 then (some (t186 ++ a0)) else (none))) = some r := h
 clear h
 replace H := Option.bind_eq_some_iff.mp H
 obtain ⟨t186, A20, H⟩ := H
 replace H : (if t186.size + a0.size ≤ 9223372036854775807 then (some (t186 ++ a0)) else (none)) = some r := H
 have A2 := Aside0.mk A20
 clear A20
 by_cases c3 : t186.size + a0.size ≤ 9223372036854775807
 ·rw [if_pos c3] at H
  have c3b0 := eq_true c3
  have c3b1 : decide (t186.size + a0.size ≤ 9223372036854775807) = true := decide_eq_true c3
  try have c3b2 : (9223372036854775807 < t186.size + a0.size) = False := eq_false (Nat.not_lt.2 c3)
  try (have c3b3 := c3b2; simp only [ByteArray.size_append] at c3b3)
  try (have c3b4 := c3b0; simp only [ByteArray.size_append] at c3b4)
  try (have c3b5 := c3b1; simp only [ByteArray.size_append] at c3b5)
  obtain rfl := Option.some.inj H
  go_enter Try.func38, Try.ntmps38
  go_wp2_with (first | ((with_reducible refine gate_callee (f := 22) rfl ?_); refine goesL_ (some 6) rfl rfl Try.func22 (by kernel_rfl) rfl #[.int .u64 (IntKind.u64.wrap ((a0.size : Int)))] rfl (by (try simp only [List.map_toArray, List.map_cons, List.map_nil]); first | done | rfl | (simp only [List.length_drop, List.length_take]; rfl) | (go_simp; simp [IntKind.wrap, IntKind.bits, IntKind.signed]; omega)) ?_; (with_reducible refine (tithebarnref01_Uint.calls k (IntKind.u64.wrap ((a0.size : Int))) t186 _ A2.out).mono ?_); rintro e w4 ⟨rfl, hb⟩; refine ⟨_, rfl, ?_⟩; have n0_ := Aside0.mk (below_step (by repeat (first | (with_reducible first | exact HB.out | apply below_alloc | apply pw_below_drewN | apply below_drew1) | exact HB.out)) hb); clear HB; have HB := n0_; clear n0_; (try clear hb); (try clear hb2); (try clear hk); (try clear hi)))
  go_ret
  exact ⟨by first | rfl | (simp [errW_none, errW_some] <;> rfl) | (simp [*, errW_none, errW_some] <;> rfl), by repeat (first | (with_reducible first | exact HB.out | apply below_alloc | apply pw_below_drewN | apply below_drew1) | exact HB.out)⟩
 ·rw [if_neg c3] at H
  exact absurd H (by simp)
end Go.Proofs.Ytlbcpigjbjolaaa.G
