import Derived.Test.YtagokgijffpdnaaZQA
namespace Go.Proofs.Ytagokgijffpdnaa.G
open Go.RowKit Go.Proofs.YtagokgijffpdnaaQ Go.Proofs.YtagokgijffpdnaaW.PrintWords Go.Proofs.YtagokgijffpdnaaW.PrintLast Go.Proofs.YtagokgijffpdnaaW.PrintMore
attribute [local go_sem] max2_int min2_int max_two min_two max_three min_three max_four min_four   -- for this text's walks alone
set_option linter.unusedVariables false
set_option linter.unusedSimpArgs false
def IsS88 (w0 W : World) (g : Nat) (f0 : ByteArray) (f1 : Int) : Prop := W.heap[g]? = some (.cells #[.string f0, .int .i64 f1] 88 (0, 0)) ∧ w0.heap.size ≤ g
theorem IsS88.grown {w0 W : World} {g : Nat} {f0 : ByteArray} {f1 : Int} {W1 : World} {row : Option Nat} (h : IsS88 w0 W g f0 f1) (hw : W.grownBy W1 row) (hne : some g ≠ row) : IsS88 w0 W1 g f0 f1 := by
 obtain ⟨hb, hg⟩ := h
 exact ⟨blk_grown hb hw hne, hg⟩
theorem IsS88.kept {w0 W : World} {g : Nat} {f0 : ByteArray} {f1 : Int} {W1 : World} {S : Nat → Prop} (h : IsS88 w0 W g f0 f1) (hk : Kept W W1 S) (hne : ¬ S g) : IsS88 w0 W1 g f0 f1 := by
 obtain ⟨hb, hg⟩ := h
 exact ⟨blk_kept hb hk hne, hg⟩
theorem IsS88.below {w0 W : World} {g : Nat} {f0 : ByteArray} {f1 : Int} {W1 : World} (h : IsS88 w0 W g f0 f1) (hw : Below W.heap.size W W1) : IsS88 w0 W1 g f0 f1 := h.grown (grown_of_below hw none) (by simp)
theorem IsS88.alloc {w0 W : World} {g : Nat} {f0 : ByteArray} {f1 : Int} (h : IsS88 w0 W g f0 f1) (o : Obj) : IsS88 w0 (W.alloc o) g f0 f1 := h.below (below_alloc (Below.refl _ _) o)
theorem IsS88.drewN {w0 W : World} {g : Nat} {f0 : ByteArray} {f1 : Int} (h : IsS88 w0 W g f0 f1) (m : Nat) : IsS88 w0 (W.drewN m) g f0 f1 := h
theorem IsS88.drew {w0 W : World} {g : Nat} {f0 : ByteArray} {f1 : Int} (h : IsS88 w0 W g f0 f1) : IsS88 w0 W.drew g f0 f1 := h
theorem IsS88.at_ {w0 W : World} {g : Nat} {f0 : ByteArray} {f1 : Int} {w' : World} {m : Nat} (hq : W.drewN m = w') (h : IsS88 w0 W g f0 f1) : IsS88 w0 w' g f0 f1 := by subst hq; exact IsS88.drewN h m
theorem IsS88.apart {w0 W : World} {g : Nat} {f0 : ByteArray} {f1 : Int} {α : Type} {d : Kd α} {e : Nat} {base : Nat} {ok : Nat → Prop} {v : Value} {xs : List α} (h : IsS88 w0 W g f0 f1) (ho : d.R e W base ok v xs) (ht : ∀ q, q ∈ e :: d.E → q ≠ 88) : d.R e W base (fun k => ok k ∧ k ≠ g) v xs := by
 obtain ⟨hb, hg⟩ := h
 exact Kd.R_types ho hb ht
theorem IsS88.own_ne {w0 W : World} {g : Nat} {f0 : ByteArray} {f1 : Int} {α : Type} {d : Kd α} {e : Nat} {base : Nat} {ok : Nat → Prop} {v : Value} {xs : List α} (h : IsS88 w0 W g f0 f1) (ho : d.R e W base ok v xs) (ht : e ≠ 88) : some g ≠ v.ownBlock := by
 obtain ⟨hb, hg⟩ := h
 exact Kd.R_ne ho hb ht
theorem IsS88.lt {w0 W : World} {g : Nat} {f0 : ByteArray} {f1 : Int} (h : IsS88 w0 W g f0 f1) : g < W.heap.size := by
 obtain ⟨hb, hg⟩ := h
 exact blk_lt hb
theorem IsS88.ge {w0 W : World} {g : Nat} {f0 : ByteArray} {f1 : Int} (h : IsS88 w0 W g f0 f1) : w0.heap.size ≤ g := by
 obtain ⟨hb, hg⟩ := h
 exact hg
theorem IsS88.ne_blk {w0 W : World} {g : Nat} {f0 : ByteArray} {f1 : Int} {a : Nat} {cs : Array Value} {t : TypeId} {fr : Nat × Nat} (h : IsS88 w0 W g f0 f1) (hb2 : W.heap[a]? = some (.cells cs t fr)) (ht : t ≠ 88) : g ≠ a := by
 obtain ⟨hb, hg⟩ := h
 rintro rfl
 rw [hb] at hb2
 injection hb2 with hb2
 injection hb2 with _ ht2
 exact ht ht2.symm
theorem IsS88.far {w0 W : World} {g : Nat} {f0 : ByteArray} {f1 : Int} {p : Addr} (h : IsS88 w0 W g f0 f1) (hne : g ≠ p.block) (u : Value) : IsS88 w0 (W.setCell p u) g f0 f1 := by
 obtain ⟨hb, hg⟩ := h
 exact ⟨blk_far hb hne u, hg⟩
theorem cellS88_0 {W : World} {g : Nat} {f0 : ByteArray} {f1 : Int} (h : W.heap[g]? = some (.cells #[.string f0, .int .i64 f1] 88 (0, 0))) : W.cell? ⟨g, 0, none⟩ = some (.string f0) := (blk_cell h 0).trans rfl
theorem IsS88.set_0 {w0 W : World} {g : Nat} {f0 : ByteArray} {f1 : Int} (h : IsS88 w0 W g f0 f1) (x : ByteArray) : IsS88 w0 (W.setCell ⟨g, 0, none⟩ (.string x)) g x f1 := by
 obtain ⟨hb, hg⟩ := h
 exact ⟨by simpa using blk_set hb 0 (.string x), hg⟩
theorem cellS88_1 {W : World} {g : Nat} {f0 : ByteArray} {f1 : Int} (h : W.heap[g]? = some (.cells #[.string f0, .int .i64 f1] 88 (0, 0))) : W.cell? ⟨g, 1, none⟩ = some (.int .i64 f1) := (blk_cell h 1).trans rfl
theorem IsS88.set_1 {w0 W : World} {g : Nat} {f0 : ByteArray} {f1 : Int} (h : IsS88 w0 W g f0 f1) (x : Int) : IsS88 w0 (W.setCell ⟨g, 1, none⟩ (.int .i64 x)) g f0 x := by
 obtain ⟨hb, hg⟩ := h
 exact ⟨by simpa using blk_set hb 1 (.int .i64 x), hg⟩
theorem IsS88.new (w0 W : World) (f0 : ByteArray) (f1 : Int) (hB : Below w0.heap.size w0 W) : IsS88 w0 (W.alloc (.cells #[.string f0, .int .i64 f1] 88)) W.heap.size f0 f1 := ⟨by simpa using heap_alloc_new W _, hB.size⟩
def tally_Cursor_ok.f (s0_0 : ByteArray) (s0_1 : Int) : Option (Bool × ByteArray × Int) := some ((s0_1 == 0), s0_0, s0_1)
set_option maxHeartbeats 8000000 in
set_option maxRecDepth 100000 in
theorem tally_Cursor_ok.calls (g : Nat) (s0_0 : ByteArray) (s0_1 : Int) (r1 : Bool) (r2 : ByteArray) (r3 : Int) (w0 w : World) (hI : IsS88 w0 w g s0_0 s0_1) (hB : Below w0.heap.size w0 w) (h : tally_Cursor_ok.f s0_0 s0_1 = some (r1, r2, r3)) :
  Calls Try.prog 73 #[.pointer (some ⟨g, 0, none⟩)] w fun e w' => e = .returned (.bool r1) ∧ IsS88 w0 w' g r2 r3 ∧ Below w0.heap.size w0 w' ∧ KeepBut w w' g none := by
 have HI0 := Aside0.mk hI
 have HK := Aside0.mk (KeepBut.refl w g none)
 have HL := Aside0.mk hB.size
 clear hI
 have HW0 := Aside0.mk hB.size
 have HB := Aside0.mk hB
 clear hB
 have H : (some ((s0_1 == 0), s0_0, s0_1)) = some (r1, r2, r3) := h
 clear h
 simp only [Option.some.injEq, Prod.mk.injEq] at H
 obtain ⟨rfl, rfl, rfl⟩ := H
 obtain ⟨HGz2, hgz2⟩ := HI0.out
 have hcz2_0 := cellS88_0 HGz2
 have hcz2_1 := cellS88_1 HGz2
 have hfz2_0 := blk_frozen HGz2 0
 have hfz2_1 := blk_frozen HGz2 1
 clear HGz2 hgz2
 go_enter Try.func73, Try.ntmps73
 go_wp2
 go_ret
 exact ⟨z3_, z5_, z4_, z2_⟩
def tally_next.f (a0 : ByteArray) : Option (Int × ByteArray × Int) := some ((decU (bytesOf a0)).1, a0.extract (decU (bytesOf a0)).2.1 a0.size, (decU (bytesOf a0)).2.2)
theorem tally_next.bt0 (s : ByteArray) : ∀ h : 0 < s.size, (((s[0]'h).toNat : Nat) : Int) = bt s 0 := fun h => bt_at s 0 h
theorem tally_next.whole (s : ByteArray) : s.extract 0 s.size = s := bytesOf_inj (by rw [bytesOf_tail]; rfl)
theorem tally_next.tl (s : ByteArray) : (s.toList.isEmpty = true ↔ bytesOf s = []) := by
 rw [ByteArray.toList_eq]; unfold bytesOf; simp
theorem tally_next.or_ (x c : Int) (h0 : 0 ≤ x) (h1 : x * 256 < 18446744073709551616) (hc : 0 ≤ c) (hc2 : c < 256) : Go.bits .or .u64 (IntKind.u64.wrap (x * 256)) (IntKind.u64.wrap c) = x * 256 + c := by
 have e1 : IntKind.u64.wrap (x * 256) = x * 256 := by simp [IntKind.wrap, IntKind.bits, IntKind.signed]; omega
 have e2 : IntKind.u64.wrap c = c := by simp [IntKind.wrap, IntKind.bits, IntKind.signed]; omega
 rw [e1, e2, Go.u64_or _ _ (by omega) h1 hc (by omega), Go.nat_join 8 _ _ (by omega) (by omega)]
 omega
set_option maxHeartbeats 400000 in
set_option maxRecDepth 100000 in
theorem tally_next.empty (s : ByteArray) (w : World) (h0 : s.toList.isEmpty = true) :
  Calls Try.prog 82 #[.string s] w fun e w' => e = .returned (.tuple #[.int .u64 0, .string s, .int .i64 2]) ∧ Below w.heap.size w w' := by
 go_enter Try.func82, Try.ntmps82
 go_wp2
 go_ret3
 exact ⟨rfl, Below.refl _ _⟩
set_option maxHeartbeats 400000 in
set_option maxRecDepth 100000 in
theorem tally_next.big (s : ByteArray) (w : World) (h0 : s.toList.isEmpty = false) (h1 : 0 < s.size) (h2 : 192 < bt s 0) :
  Calls Try.prog 82 #[.string s] w fun e w' => e = .returned (.tuple #[.int .u64 0, .string s, .int .i64 5]) ∧ Below w.heap.size w w' := by
 have hb := tally_next.bt0 s
 have hr := bt_range s 0
 have q1 : 0 ≤ bt s 0 / 64 := by omega
 have q2 : bt s 0 / 64 ≤ 64 := by omega
 have q3 : decide (192 ≤ bt s 0) = true := by simp; omega
 have q4 : decide (192 < bt s 0) = true := by simp; omega
 go_enter Try.func82, Try.ntmps82
 go_wp2
 go_ret3
 exact ⟨rfl, Below.refl _ _⟩
set_option maxHeartbeats 400000 in
set_option maxRecDepth 100000 in
theorem tally_next.short (s : ByteArray) (w : World) (n : Nat) (h0 : s.toList.isEmpty = false) (h1 : 0 < s.size) (h2 : bt s 0 < 192) (hn : IntKind.i64.wrap (2 ^ (bt s 0 / 64).toNat) = (n : Int)) (h3 : s.size < n) :
  Calls Try.prog 82 #[.string s] w fun e w' => e = .returned (.tuple #[.int .u64 0, .string s, .int .i64 2]) ∧ Below w.heap.size w w' := by
 have hb := tally_next.bt0 s
 have hr := bt_range s 0
 have q1 : 0 ≤ bt s 0 / 64 := by omega
 have q2 : bt s 0 / 64 ≤ 64 := by omega
 have q3 : decide (192 ≤ bt s 0) = false := by simp; omega
 go_enter Try.func82, Try.ntmps82
 go_wp2
 go_ret3
 exact ⟨rfl, Below.refl _ _⟩
set_option maxHeartbeats 400000 in
set_option maxRecDepth 100000 in
theorem tally_next.short9 (s : ByteArray) (w : World) (h0 : s.toList.isEmpty = false) (h1 : 0 < s.size) (h2 : bt s 0 = 192) (h3 : s.size < 9) :
  Calls Try.prog 82 #[.string s] w fun e w' => e = .returned (.tuple #[.int .u64 0, .string s, .int .i64 2]) ∧ Below w.heap.size w w' := by
 have hb : ∀ h : 0 < s.size, (((s[0]'h).toNat : Nat) : Int) = 192 := fun h => (tally_next.bt0 s h).trans h2
 clear h2
 go_enter Try.func82, Try.ntmps82
 go_wp2
 go_ret3
 exact ⟨rfl, Below.refl _ _⟩
theorem tally_next.cells (s : ByteArray) (w : World) (n : Nat) (h3 : n ≤ s.size) (L : List Int) (hL : L = ((bytesOf s).take n).drop 1) : ∀ j, j < n - 1 → (Lib.bytesWorld w 5 (s.extract 1 n)).cell? ⟨w.heap.size, j, none⟩ = some (.int .u8 (rd L j)) := by
 intro j hj
 rw [Lib.bytesWorld_cell w 5 (s.extract 1 n) j (by simp; omega), hL, ← bytesOf_extract]
 unfold bytesOf rd
 have hs : j < (s.extract 1 n).data.toList.length := by simp; omega
 simp only [List.getD_eq_getElem?_getD, List.getElem?_map, Int.toNat_natCast, List.getElem?_eq_getElem hs, Option.map_some, Option.getD_some]
set_option maxHeartbeats 1000000 in
set_option maxRecDepth 100000 in
theorem tally_next.loop_lt_bad (s : ByteArray) (w : World) (n : Nat) (x0 least : Int) (h0 : s.toList.isEmpty = false) (h1 : 0 < s.size) (h2 : bt s 0 < 192) (hn : IntKind.i64.wrap (2 ^ (bt s 0 / 64).toNat) = (n : Int)) (h3 : n ≤ s.size) (hm : 1 ≤ n) (hm2 : n < 10)
  (hx : bt s 0 % 64 = x0) (L : List Int) (hL : L = ((bytesOf s).take n).drop 1) (hbd : ∀ k, k < n - 1 → 0 ≤ numI x0 (L.take k) ∧ numI x0 (L.take k) * 256 < 18446744073709551616)
  (hleast : ∀ w, (Instr.index 119 (.agg #[.int .u64 0, .int .u64 0, .int .u64 64, .int .u64 0, .int .u64 16384, .int .u64 0, .int .u64 0, .int .u64 0, .int .u64 0, .int .u64 1073741824]) (.int .i64 n)).run Try.prog w = .ok (.int .u64 least) w)
  (hd : decide (numI x0 L < least) = true) :
  Calls Try.prog 82 #[.string s] w fun e w' => e = .returned (.tuple #[.int .u64 0, .string s, .int .i64 5]) ∧ Below w.heap.size w w' := by
 have hb := tally_next.bt0 s
 have hr := bt_range s 0
 have q1 : 0 ≤ bt s 0 / 64 := by omega
 have q2 : bt s 0 / 64 ≤ 64 := by omega
 have q3 : decide (192 ≤ bt s 0) = false := by simp; omega
 have q4 : decide (s.size < n) = false := by simp; omega
 have q5 : (1 : Int) ≤ (n : Int) := by omega
 have q6 : (n : Int) ≤ (s.size : Int) := by omega
 have hcv := fun (W : World) (t : ByteArray) => Lib.run_convert_string_bytes (P := Try.prog) W 9 51 5 t Try.underlying9 Try.underlying51 Try.underlying5
 have HLB : Bs L := by rw [hL]; exact ((Bs.bytesOf s).take _).drop _
 have hLl : L.length = n - 1 := by rw [hL]; simp [bytesOf_size]; omega
 have hcell := tally_next.cells s w n h3 L hL
 have HL := Aside0.mk hLl; have HC := Aside0.mk hcell; have HB := Aside0.mk hbd; have HBL := Aside0.mk HLB
 have HBW := Aside0.mk (bytes_below (Below.refl w.heap.size w) (Nat.le_refl _) 5 (s.extract 1 n))
 have hlo : 0 ≤ numI x0 L ∨ True := .inr trivial
 clear hL hLl hcell hbd HLB
 go_enter Try.func82, Try.ntmps82
 go_wp2
 go_loop [7, 37] (fun x i => ∃ k : Nat, k ≤ n - 1 ∧ i = .int .i64 k ∧ x = .int .u64 (numI x0 (L.take k))) (fun _ i => (n - 1) - (intOf i).toNat)
 case atStart => exact ⟨0, Nat.zero_le _, rfl, by first | rfl | (simp [numI_nil, ← hx]; done) | (simp [numI_nil, hx])⟩
 case round =>
  obtain ⟨k, hk, rfl, rfl⟩ := hrel
  by_cases hlt : k < n - 1
  ·have hc := HC.out k hlt
   have hs := numI_step x0 L k (by rw [HL.out]; exact hlt)
   have hrd : 0 ≤ rd L k ∧ rd L k < 256 := by
    have hk' : k < L.length := by rw [HL.out]; exact hlt
    have := HBL.out (rd L k) (by simp [rd, List.getD_eq_getElem?_getD, List.getElem?_eq_getElem hk'])
    exact this
   have ho := Aside0.mk ((tally_next.or_ (numI x0 (L.take k)) (rd L k) (HB.out k hlt).1 (HB.out k hlt).2 hrd.1 hrd.2).trans hs.symm)
   clear hs
   go_wp2
   go_round
   case rel => exact ⟨k + 1, by omega, by go_num, by first | (rw [← ho.out]; rfl) | (rw [← ho.out]; congr 2; simp [IntKind.wrap, IntKind.bits, IntKind.signed]; omega)⟩
   case measure => simp [intOf]; omega
  ·have he : k = n - 1 := by omega
   have ht : L.take k = L := List.take_of_length_le (by rw [HL.out]; omega)
   rw [ht]
   clear hk
   go_wp2
   try go_quiet (fail)
   try go_wp2
   go_ret3
   exact ⟨by rfl, by first | exact HBW.out | exact pw_below_drewN HBW.out _⟩
set_option maxHeartbeats 1000000 in
set_option maxRecDepth 100000 in
theorem tally_next.loop_lt_ok (s : ByteArray) (w : World) (n : Nat) (x0 least : Int) (h0 : s.toList.isEmpty = false) (h1 : 0 < s.size) (h2 : bt s 0 < 192) (hn : IntKind.i64.wrap (2 ^ (bt s 0 / 64).toNat) = (n : Int)) (h3 : n ≤ s.size) (hm : 1 ≤ n) (hm2 : n < 10)
  (hx : bt s 0 % 64 = x0) (L : List Int) (hL : L = ((bytesOf s).take n).drop 1) (hbd : ∀ k, k < n - 1 → 0 ≤ numI x0 (L.take k) ∧ numI x0 (L.take k) * 256 < 18446744073709551616)
  (hleast : ∀ w, (Instr.index 119 (.agg #[.int .u64 0, .int .u64 0, .int .u64 64, .int .u64 0, .int .u64 16384, .int .u64 0, .int .u64 0, .int .u64 0, .int .u64 0, .int .u64 1073741824]) (.int .i64 n)).run Try.prog w = .ok (.int .u64 least) w)
  (hd : decide (numI x0 L < least) = false) :
  Calls Try.prog 82 #[.string s] w fun e w' => e = .returned (.tuple #[.int .u64 (numI x0 L), .string (s.extract n s.size), .int .i64 0]) ∧ Below w.heap.size w w' := by
 have hb := tally_next.bt0 s
 have hr := bt_range s 0
 have q1 : 0 ≤ bt s 0 / 64 := by omega
 have q2 : bt s 0 / 64 ≤ 64 := by omega
 have q3 : decide (192 ≤ bt s 0) = false := by simp; omega
 have q4 : decide (s.size < n) = false := by simp; omega
 have q5 : (1 : Int) ≤ (n : Int) := by omega
 have q6 : (n : Int) ≤ (s.size : Int) := by omega
 have hcv := fun (W : World) (t : ByteArray) => Lib.run_convert_string_bytes (P := Try.prog) W 9 51 5 t Try.underlying9 Try.underlying51 Try.underlying5
 have HLB : Bs L := by rw [hL]; exact ((Bs.bytesOf s).take _).drop _
 have hLl : L.length = n - 1 := by rw [hL]; simp [bytesOf_size]; omega
 have hcell := tally_next.cells s w n h3 L hL
 have HL := Aside0.mk hLl; have HC := Aside0.mk hcell; have HB := Aside0.mk hbd; have HBL := Aside0.mk HLB
 have HBW := Aside0.mk (bytes_below (Below.refl w.heap.size w) (Nat.le_refl _) 5 (s.extract 1 n))
 have hlo : 0 ≤ numI x0 L ∨ True := .inr trivial
 clear hL hLl hcell hbd HLB
 go_enter Try.func82, Try.ntmps82
 go_wp2
 go_loop [7, 37] (fun x i => ∃ k : Nat, k ≤ n - 1 ∧ i = .int .i64 k ∧ x = .int .u64 (numI x0 (L.take k))) (fun _ i => (n - 1) - (intOf i).toNat)
 case atStart => exact ⟨0, Nat.zero_le _, rfl, by first | rfl | (simp [numI_nil, ← hx]; done) | (simp [numI_nil, hx])⟩
 case round =>
  obtain ⟨k, hk, rfl, rfl⟩ := hrel
  by_cases hlt : k < n - 1
  ·have hc := HC.out k hlt
   have hs := numI_step x0 L k (by rw [HL.out]; exact hlt)
   have hrd : 0 ≤ rd L k ∧ rd L k < 256 := by
    have hk' : k < L.length := by rw [HL.out]; exact hlt
    have := HBL.out (rd L k) (by simp [rd, List.getD_eq_getElem?_getD, List.getElem?_eq_getElem hk'])
    exact this
   have ho := Aside0.mk ((tally_next.or_ (numI x0 (L.take k)) (rd L k) (HB.out k hlt).1 (HB.out k hlt).2 hrd.1 hrd.2).trans hs.symm)
   clear hs
   go_wp2
   go_round
   case rel => exact ⟨k + 1, by omega, by go_num, by first | (rw [← ho.out]; rfl) | (rw [← ho.out]; congr 2; simp [IntKind.wrap, IntKind.bits, IntKind.signed]; omega)⟩
   case measure => simp [intOf]; omega
  ·have he : k = n - 1 := by omega
   have ht : L.take k = L := List.take_of_length_le (by rw [HL.out]; omega)
   rw [ht]
   clear hk
   go_wp2
   try go_quiet (fail)
   try go_wp2
   go_ret3
   exact ⟨by rfl, by first | exact HBW.out | exact pw_below_drewN HBW.out _⟩
set_option maxHeartbeats 1000000 in
set_option maxRecDepth 100000 in
theorem tally_next.loop_eq_bad (s : ByteArray) (w : World) (least : Int) (h0 : s.toList.isEmpty = false) (h1 : 0 < s.size) (h2 : bt s 0 = 192) (h3 : 9 ≤ s.size)
  (L : List Int) (hL : L = ((bytesOf s).take 9).drop 1) (hbd : ∀ k, k < 9 - 1 → 0 ≤ numI 0 (L.take k) ∧ numI 0 (L.take k) * 256 < 18446744073709551616)
  (hleast : ∀ w, (Instr.index 119 (.agg #[.int .u64 0, .int .u64 0, .int .u64 64, .int .u64 0, .int .u64 16384, .int .u64 0, .int .u64 0, .int .u64 0, .int .u64 0, .int .u64 1073741824]) (.int .i64 9)).run Try.prog w = .ok (.int .u64 least) w)
  (hd : decide (numI 0 L < least) = true) :
  Calls Try.prog 82 #[.string s] w fun e w' => e = .returned (.tuple #[.int .u64 0, .string s, .int .i64 5]) ∧ Below w.heap.size w w' := by
 have hb : ∀ h : 0 < s.size, (((s[0]'h).toNat : Nat) : Int) = 192 := fun h => (tally_next.bt0 s h).trans h2
 clear h2
 have q4 : decide (s.size < 9) = false := by simp; omega
 have q5 : (1 : Int) ≤ (9 : Int) := by omega
 have q6 : (9 : Int) ≤ (s.size : Int) := by omega
 have hcv := fun (W : World) (t : ByteArray) => Lib.run_convert_string_bytes (P := Try.prog) W 9 51 5 t Try.underlying9 Try.underlying51 Try.underlying5
 have HLB : Bs L := by rw [hL]; exact ((Bs.bytesOf s).take _).drop _
 have hLl : L.length = 9 - 1 := by rw [hL]; simp [bytesOf_size]; omega
 have hcell := tally_next.cells s w 9 h3 L hL
 have HL := Aside0.mk hLl; have HC := Aside0.mk hcell; have HB := Aside0.mk hbd; have HBL := Aside0.mk HLB
 have HBW := Aside0.mk (bytes_below (Below.refl w.heap.size w) (Nat.le_refl _) 5 (s.extract 1 9))
 have hlo : 0 ≤ numI 0 L ∨ True := .inr trivial
 clear hL hLl hcell hbd HLB
 go_enter Try.func82, Try.ntmps82
 go_wp2
 go_loop [7, 37] (fun x i => ∃ k : Nat, k ≤ 9 - 1 ∧ i = .int .i64 k ∧ x = .int .u64 (numI 0 (L.take k))) (fun _ i => (9 - 1) - (intOf i).toNat)
 case atStart => exact ⟨0, Nat.zero_le _, rfl, by rfl⟩
 case round =>
  obtain ⟨k, hk, rfl, rfl⟩ := hrel
  by_cases hlt : k < 9 - 1
  ·have hc := HC.out k hlt
   have hs := numI_step 0 L k (by rw [HL.out]; exact hlt)
   have hrd : 0 ≤ rd L k ∧ rd L k < 256 := by
    have hk' : k < L.length := by rw [HL.out]; exact hlt
    have := HBL.out (rd L k) (by simp [rd, List.getD_eq_getElem?_getD, List.getElem?_eq_getElem hk'])
    exact this
   have ho := Aside0.mk ((tally_next.or_ (numI 0 (L.take k)) (rd L k) (HB.out k hlt).1 (HB.out k hlt).2 hrd.1 hrd.2).trans hs.symm)
   clear hs
   go_wp2
   go_round
   case rel => exact ⟨k + 1, by omega, by go_num, by first | (rw [← ho.out]; rfl) | (rw [← ho.out]; congr 2; simp [IntKind.wrap, IntKind.bits, IntKind.signed]; omega)⟩
   case measure => simp [intOf]; omega
  ·have he : k = 9 - 1 := by omega
   have ht : L.take k = L := List.take_of_length_le (by rw [HL.out]; omega)
   rw [ht]
   clear hk
   go_wp2
   try go_quiet (fail)
   try go_wp2
   go_ret3
   exact ⟨by rfl, by first | exact HBW.out | exact pw_below_drewN HBW.out _⟩
set_option maxHeartbeats 1000000 in
set_option maxRecDepth 100000 in
theorem tally_next.loop_eq_ok (s : ByteArray) (w : World) (least : Int) (h0 : s.toList.isEmpty = false) (h1 : 0 < s.size) (h2 : bt s 0 = 192) (h3 : 9 ≤ s.size)
  (L : List Int) (hL : L = ((bytesOf s).take 9).drop 1) (hbd : ∀ k, k < 9 - 1 → 0 ≤ numI 0 (L.take k) ∧ numI 0 (L.take k) * 256 < 18446744073709551616)
  (hleast : ∀ w, (Instr.index 119 (.agg #[.int .u64 0, .int .u64 0, .int .u64 64, .int .u64 0, .int .u64 16384, .int .u64 0, .int .u64 0, .int .u64 0, .int .u64 0, .int .u64 1073741824]) (.int .i64 9)).run Try.prog w = .ok (.int .u64 least) w)
  (hd : decide (numI 0 L < least) = false) :
  Calls Try.prog 82 #[.string s] w fun e w' => e = .returned (.tuple #[.int .u64 (numI 0 L), .string (s.extract 9 s.size), .int .i64 0]) ∧ Below w.heap.size w w' := by
 have hb : ∀ h : 0 < s.size, (((s[0]'h).toNat : Nat) : Int) = 192 := fun h => (tally_next.bt0 s h).trans h2
 clear h2
 have q4 : decide (s.size < 9) = false := by simp; omega
 have q5 : (1 : Int) ≤ (9 : Int) := by omega
 have q6 : (9 : Int) ≤ (s.size : Int) := by omega
 have hcv := fun (W : World) (t : ByteArray) => Lib.run_convert_string_bytes (P := Try.prog) W 9 51 5 t Try.underlying9 Try.underlying51 Try.underlying5
 have HLB : Bs L := by rw [hL]; exact ((Bs.bytesOf s).take _).drop _
 have hLl : L.length = 9 - 1 := by rw [hL]; simp [bytesOf_size]; omega
 have hcell := tally_next.cells s w 9 h3 L hL
 have HL := Aside0.mk hLl; have HC := Aside0.mk hcell; have HB := Aside0.mk hbd; have HBL := Aside0.mk HLB
 have HBW := Aside0.mk (bytes_below (Below.refl w.heap.size w) (Nat.le_refl _) 5 (s.extract 1 9))
 have hlo : 0 ≤ numI 0 L ∨ True := .inr trivial
 clear hL hLl hcell hbd HLB
 go_enter Try.func82, Try.ntmps82
 go_wp2
 go_loop [7, 37] (fun x i => ∃ k : Nat, k ≤ 9 - 1 ∧ i = .int .i64 k ∧ x = .int .u64 (numI 0 (L.take k))) (fun _ i => (9 - 1) - (intOf i).toNat)
 case atStart => exact ⟨0, Nat.zero_le _, rfl, by rfl⟩
 case round =>
  obtain ⟨k, hk, rfl, rfl⟩ := hrel
  by_cases hlt : k < 9 - 1
  ·have hc := HC.out k hlt
   have hs := numI_step 0 L k (by rw [HL.out]; exact hlt)
   have hrd : 0 ≤ rd L k ∧ rd L k < 256 := by
    have hk' : k < L.length := by rw [HL.out]; exact hlt
    have := HBL.out (rd L k) (by simp [rd, List.getD_eq_getElem?_getD, List.getElem?_eq_getElem hk'])
    exact this
   have ho := Aside0.mk ((tally_next.or_ (numI 0 (L.take k)) (rd L k) (HB.out k hlt).1 (HB.out k hlt).2 hrd.1 hrd.2).trans hs.symm)
   clear hs
   go_wp2
   go_round
   case rel => exact ⟨k + 1, by omega, by go_num, by first | (rw [← ho.out]; rfl) | (rw [← ho.out]; congr 2; simp [IntKind.wrap, IntKind.bits, IntKind.signed]; omega)⟩
   case measure => simp [intOf]; omega
  ·have he : k = 9 - 1 := by omega
   have ht : L.take k = L := List.take_of_length_le (by rw [HL.out]; omega)
   rw [ht]
   clear hk
   go_wp2
   try go_quiet (fail)
   try go_wp2
   go_ret3
   exact ⟨by rfl, by first | exact HBW.out | exact pw_below_drewN HBW.out _⟩
set_option maxRecDepth 100000 in
theorem tally_next.at_ (n : Nat) (v : Int) (h : [(0 : Int), 0, 64, 0, 16384, 0, 0, 0, 0, 1073741824][n]? = some v) : ∀ w, (Instr.index 119 (.agg #[.int .u64 0, .int .u64 0, .int .u64 64, .int .u64 0, .int .u64 16384, .int .u64 0, .int .u64 0, .int .u64 0, .int .u64 0, .int .u64 1073741824]) (.int .i64 n)).run Try.prog w = .ok (.int .u64 v) w := by
 match n, h with
 | 0, h => simp at h; subst h; exact fun _ => by kernel_rfl
 | 1, h => simp at h; subst h; exact fun _ => by kernel_rfl
 | 2, h => simp at h; subst h; exact fun _ => by kernel_rfl
 | 3, h => simp at h; subst h; exact fun _ => by kernel_rfl
 | 4, h => simp at h; subst h; exact fun _ => by kernel_rfl
 | 5, h => simp at h; subst h; exact fun _ => by kernel_rfl
 | 6, h => simp at h; subst h; exact fun _ => by kernel_rfl
 | 7, h => simp at h; subst h; exact fun _ => by kernel_rfl
 | 8, h => simp at h; subst h; exact fun _ => by kernel_rfl
 | 9, h => simp at h; subst h; exact fun _ => by kernel_rfl
 | n + 10, h => simp at h
theorem tally_next.bd (x : Int) (m : Nat) (h0 : 0 ≤ x) (hx : (x + 1) * 256 ^ m ≤ 18446744073709551616) (L : List Int) (hB : Bs L) (hl : L.length = m) : ∀ k, k < m → 0 ≤ numI x (L.take k) ∧ numI x (L.take k) * 256 < 18446744073709551616 := by
 intro k hk
 obtain ⟨a, b⟩ := numI_bd h0 (L.take k) (hB.take k)
 refine ⟨a, ?_⟩
 rw [List.length_take, Nat.min_eq_left (by omega)] at b
 have e : (256 : Int) ^ m = 256 ^ (k + 1) * 256 ^ (m - k - 1) := by rw [← Int.pow_add]; congr 1; omega
 have p1 : (1 : Int) ≤ 256 ^ (m - k - 1) := by have : (0 : Int) < 256 ^ (m - k - 1) := Int.pow_pos (by omega); omega
 have p2 : (0 : Int) ≤ (x + 1) * 256 ^ (k + 1) := Int.mul_nonneg (by omega) (Int.pow_nonneg (by omega))
 rw [e, ← Int.mul_assoc] at hx
 have p3 : (x + 1) * 256 ^ (k + 1) ≤ (x + 1) * 256 ^ (k + 1) * 256 ^ (m - k - 1) := by
  have := Int.mul_le_mul_of_nonneg_left p1 p2
  omega
 rw [Int.pow_succ, ← Int.mul_assoc] at p3 hx
 omega
theorem tally_next.calls (a0 : ByteArray) (r1 : Int) (r2 : ByteArray) (r3 : Int) (w : World) (h : tally_next.f a0 = some (r1, r2, r3)) :
  Calls Try.prog 82 #[.string a0] w fun e w' => e = .returned (.tuple #[.int .u64 r1, .string r2, .int .i64 r3]) ∧ Below w.heap.size w w' := by
 unfold tally_next.f at h
 simp only [Option.some.injEq, Prod.mk.injEq] at h
 obtain ⟨h1, h2, h3⟩ := h
 subst h1 h2 h3
 have hsz := bytesOf_size a0
 have hB := Bs.bytesOf a0
 rcases hl : bytesOf a0 with _ | ⟨b, r⟩
 ·simp only [decU]
  rw [tally_next.whole]
  exact tally_next.empty a0 w ((tally_next.tl a0).2 hl)
 ·have ne : a0.toList.isEmpty = false := by
   cases hE : a0.toList.isEmpty with
   | false => rfl
   | true => rw [(tally_next.tl a0).1 hE] at hl; cases hl
  have pos : 0 < a0.size := by rw [← hsz, hl]; simp
  have hb0 : bt a0 0 = b := by rw [bt_rd, hl]; rfl
  rw [hl] at hB hsz
  have hb := hB.head
  have hlen : r.length + 1 = a0.size := by simpa using hsz
  simp only [decU]
  by_cases c1 : 192 < b
  ·rw [if_pos c1]
   simp only [tally_next.whole]
   exact tally_next.big a0 w ne pos (by rw [hb0]; exact c1)
  ·rw [if_neg c1]
   have hL : r.take (szU b) = ((bytesOf a0).take (szU b + 1)).drop 1 := by rw [hl]; rfl
   have hLB : Bs (r.take (szU b)) := hB.tail.take _
   by_cases c2 : b = 192
   ·subst c2
    have e1 : szU 192 = 8 := by decide
    rw [e1] at hL hLB ⊢
    by_cases c3 : r.length < 8
    ·rw [if_pos c3]
     simp only [tally_next.whole]
     exact tally_next.short9 a0 w ne pos hb0 (by omega)
    ·rw [if_neg c3]
     have hbd := tally_next.bd 0 8 (by omega) (by decide) (r.take 8) hLB (by simp; omega)
     have e2 : leastU 8 = 1073741824 := by decide
     have e3 : (192 : Int) % 64 = 0 := by decide
     rw [e2, e3]
     by_cases c4 : numI 0 (r.take 8) < 1073741824
     ·rw [if_pos c4]
      simp only [tally_next.whole]
      exact tally_next.loop_eq_bad a0 w 1073741824 ne pos hb0 (by omega) (r.take 8) hL hbd (tally_next.at_ 9 _ rfl) (decide_eq_true c4)
     ·rw [if_neg c4]
      exact tally_next.loop_eq_ok a0 w 1073741824 ne pos hb0 (by omega) (r.take 8) hL hbd (tally_next.at_ 9 _ rfl) (decide_eq_false c4)
   ·have hlt : b < 192 := by omega
    have hn : IntKind.i64.wrap (2 ^ (bt a0 0 / 64).toNat) = ((szU b + 1 : Nat) : Int) ∧ (b % 64 + 1) * 256 ^ szU b ≤ 18446744073709551616 ∧ szU b + 1 < 10 ∧ [(0 : Int), 0, 64, 0, 16384, 0, 0, 0, 0, 1073741824][szU b + 1]? = some (leastU (szU b)) := by
     rw [hb0]
     have : b / 64 = 0 ∧ szU b = 0 ∨ b / 64 = 1 ∧ szU b = 1 ∨ b / 64 = 2 ∧ szU b = 3 := by
      unfold szU
      by_cases d1 : b < 64
      ·rw [if_pos d1]; omega
      ·rw [if_neg d1]
       by_cases d2 : b < 128
       ·rw [if_pos d2]; omega
       ·rw [if_neg d2, if_pos hlt]; omega
     rcases this with ⟨e, e'⟩ | ⟨e, e'⟩ | ⟨e, e'⟩ <;> rw [e, e'] <;> refine ⟨by decide, by simp; omega, by decide, by decide⟩
    obtain ⟨hn, hx, h10, hat⟩ := hn
    by_cases c3 : r.length < szU b
    ·rw [if_pos c3]
     simp only [tally_next.whole]
     exact tally_next.short a0 w (szU b + 1) ne pos (by rw [hb0]; exact hlt) hn (by omega)
    ·rw [if_neg c3]
     have hbd := tally_next.bd (b % 64) (szU b) (by omega) hx (r.take (szU b)) hLB (by simp; omega)
     by_cases c4 : numI (b % 64) (r.take (szU b)) < leastU (szU b)
     ·rw [if_pos c4]
      simp only [tally_next.whole]
      exact tally_next.loop_lt_bad a0 w (szU b + 1) (b % 64) (leastU (szU b)) ne pos (by rw [hb0]; exact hlt) hn (by omega) (by omega) h10 (by rw [hb0]) (r.take (szU b)) hL hbd (tally_next.at_ _ _ hat) (decide_eq_true c4)
     ·rw [if_neg c4]
      exact tally_next.loop_lt_ok a0 w (szU b + 1) (b % 64) (leastU (szU b)) ne pos (by rw [hb0]; exact hlt) hn (by omega) (by omega) h10 (by rw [hb0]) (r.take (szU b)) hL hbd (tally_next.at_ _ _ hat) (decide_eq_false c4)
def tally_Cursor_Uint.f (s0_0 : ByteArray) (s0_1 : Int) : Option (Int × ByteArray × Int) := (tally_Cursor_ok.f s0_0 s0_1).bind fun bt396 => (if bt396.1 = true then ((tally_next.f bt396.2.1).bind fun bt399 => (some (bt399.1, bt399.2.1, bt399.2.2))) else (some (0, bt396.2.1, bt396.2.2)))
set_option maxHeartbeats 8000000 in
set_option maxRecDepth 100000 in
theorem tally_Cursor_Uint.calls (g : Nat) (s0_0 : ByteArray) (s0_1 : Int) (r1 : Int) (r2 : ByteArray) (r3 : Int) (w0 w : World) (hI : IsS88 w0 w g s0_0 s0_1) (hB : Below w0.heap.size w0 w) (h : tally_Cursor_Uint.f s0_0 s0_1 = some (r1, r2, r3)) :
  Calls Try.prog 69 #[.pointer (some ⟨g, 0, none⟩)] w fun e w' => e = .returned (.int .u64 r1) ∧ IsS88 w0 w' g r2 r3 ∧ Below w0.heap.size w0 w' ∧ KeepBut w w' g none := by
 have HI0 := Aside0.mk hI
 have HK := Aside0.mk (KeepBut.refl w g none)
 have HL := Aside0.mk hB.size
 clear hI
 have HW0 := Aside0.mk hB.size
 have HB := Aside0.mk hB
 clear hB
 have H : ((tally_Cursor_ok.f s0_0 s0_1).bind fun bt396 => (if bt396.1 = true then ((tally_next.f bt396.2.1).bind fun bt399 => (some (bt399.1, bt399.2.1, bt399.2.2))) else (some (0, bt396.2.1, bt396.2.2)))) = some (r1, r2, r3) := h
 clear h
 replace H := Option.bind_eq_some_iff.mp H
 obtain ⟨⟨t396, t397, t398⟩, A20, H⟩ := H
 replace H : (if t396 = true then ((tally_next.f t397).bind fun bt399 => (some (bt399.1, bt399.2.1, bt399.2.2))) else (some (0, t397, t398))) = some (r1, r2, r3) := H
 have A2 := Aside0.mk A20
 clear A20
 by_cases c3 : t396 = true
 ·subst c3
  have H1 : ((tally_next.f t397).bind fun bt399 => (some (bt399.1, bt399.2.1, bt399.2.2))) = some (r1, r2, r3) := by rw [if_pos rfl] at H; exact H
  clear H
  have H := H1
  clear H1
  replace H := Option.bind_eq_some_iff.mp H
  obtain ⟨⟨t399, t400, t401⟩, A40, H⟩ := H
  replace H : (some (t399, t400, t401)) = some (r1, r2, r3) := H
  have A4 := Aside0.mk A40
  clear A40
  simp only [Option.some.injEq, Prod.mk.injEq] at H
  obtain ⟨rfl, rfl, rfl⟩ := H
  go_enter Try.func69, Try.ntmps69
  go_wp2_with (first | ((with_reducible refine gate_callee (f := 73) rfl ?_); refine goesL_ (some 7) rfl rfl Try.func73 (by kernel_rfl) rfl #[.pointer (some ⟨g, 0, none⟩)] rfl (by (try simp only [List.map_toArray, List.map_cons, List.map_nil]); first | done | rfl | (simp only [List.length_drop, List.length_take]; rfl) | (go_simp; simp [IntKind.wrap, IntKind.bits, IntKind.signed]; omega)) ?_; (with_reducible refine (tally_Cursor_ok.calls g s0_0 s0_1 true t397 t398 w0 _ ?side1 ?side2 A2.out).mono ?_); (case side1 => repeat (first | (with_reducible first | exact HI0.out | apply IsS88.alloc | apply IsS88.drewN | apply IsS88.drew | apply IsS88.set_0 | apply IsS88.set_1) | exact HI0.out)); (case side2 => repeat (first | (with_reducible first | exact HB.out | apply below_alloc | apply pw_below_drewN | apply below_drew1 | refine below_set ?_ (IsS88.ge HI0.out)) | exact HB.out)); rintro e w5 ⟨rfl, hi, hb, hk⟩; refine ⟨_, rfl, ?_⟩; have n0_ := Aside0.mk (KeepBut.trans z2_ hk (.inl rfl)); have n1_ := Aside0.mk (hb); have n2_ := Aside0.mk (hi); clear HK; clear HB; clear HI0; have HK := n0_; have HB := n1_; have HI0 := n2_; clear n0_ n1_ n2_; (try clear hb); (try clear hb2); (try clear hk); (try clear hi); obtain ⟨HGz6, hgz6⟩ := HI0.out; have hcz6_0 := cellS88_0 HGz6; have hcz6_1 := cellS88_1 HGz6; have hfz6_0 := blk_frozen HGz6 0; have hfz6_1 := blk_frozen HGz6 1; clear HGz6 hgz6) | ((with_reducible refine gate_callee (f := 82) rfl ?_); refine goesL_ (some 14) rfl rfl Try.func82 (by kernel_rfl) rfl #[.string t397] rfl (by (try simp only [List.map_toArray, List.map_cons, List.map_nil]); first | done | rfl | (simp only [List.length_drop, List.length_take]; rfl) | (go_simp; simp [IntKind.wrap, IntKind.bits, IntKind.signed]; omega)) ?_; (with_reducible refine (tally_next.calls t397 t399 t400 t401 _ A4.out).mono ?_); rintro e w7 ⟨rfl, hb⟩; refine ⟨_, rfl, ?_⟩; have n0_ := Aside0.mk (IsS88.below z5_ hb); have n1_ := Aside0.mk (KeepBut.trans z2_ (KeepBut.of_below hb g none) (.inl rfl)); have n2_ := Aside0.mk (below_step z4_ hb); clear HI0; clear HK; clear HB; have HI0 := n0_; have HK := n1_; have HB := n2_; clear n0_ n1_ n2_; (try clear hb); (try clear hb2); (try clear hk); (try clear hi); obtain ⟨HGz8, hgz8⟩ := HI0.out; have hcz8_0 := cellS88_0 HGz8; have hcz8_1 := cellS88_1 HGz8; have hfz8_0 := blk_frozen HGz8 0; have hfz8_1 := blk_frozen HGz8 1; clear HGz8 hgz8))
  go_ret
  exact ⟨z3_, z5_, z4_, z2_⟩
 ·replace c3 := Bool.eq_false_iff.mpr c3
  subst c3
  have H1 : (some (0, t397, t398)) = some (r1, r2, r3) := by rw [if_neg (show ¬ (false = true) by decide)] at H; exact H
  clear H
  have H := H1
  clear H1
  simp only [Option.some.injEq, Prod.mk.injEq] at H
  obtain ⟨rfl, rfl, rfl⟩ := H
  go_enter Try.func69, Try.ntmps69
  go_wp2_with (first | ((with_reducible refine gate_callee (f := 73) rfl ?_); refine goesL_ (some 7) rfl rfl Try.func73 (by kernel_rfl) rfl #[.pointer (some ⟨g, 0, none⟩)] rfl (by (try simp only [List.map_toArray, List.map_cons, List.map_nil]); first | done | rfl | (simp only [List.length_drop, List.length_take]; rfl) | (go_simp; simp [IntKind.wrap, IntKind.bits, IntKind.signed]; omega)) ?_; (with_reducible refine (tally_Cursor_ok.calls g s0_0 s0_1 false t397 t398 w0 _ ?side1 ?side2 A2.out).mono ?_); (case side1 => repeat (first | (with_reducible first | exact HI0.out | apply IsS88.alloc | apply IsS88.drewN | apply IsS88.drew | apply IsS88.set_0 | apply IsS88.set_1) | exact HI0.out)); (case side2 => repeat (first | (with_reducible first | exact HB.out | apply below_alloc | apply pw_below_drewN | apply below_drew1 | refine below_set ?_ (IsS88.ge HI0.out)) | exact HB.out)); rintro e w9 ⟨rfl, hi, hb, hk⟩; refine ⟨_, rfl, ?_⟩; have n0_ := Aside0.mk (KeepBut.trans z2_ hk (.inl rfl)); have n1_ := Aside0.mk (hb); have n2_ := Aside0.mk (hi); clear HK; clear HB; clear HI0; have HK := n0_; have HB := n1_; have HI0 := n2_; clear n0_ n1_ n2_; (try clear hb); (try clear hb2); (try clear hk); (try clear hi)))
  go_ret
  exact ⟨z3_, z5_, z4_, z2_⟩
def tally_Cursor_Err.f (s0_0 : ByteArray) (s0_1 : Int) : Option (Int × ByteArray × Int) := some (s0_1, s0_0, s0_1)
set_option maxHeartbeats 8000000 in
set_option maxRecDepth 100000 in
theorem tally_Cursor_Err.calls (g : Nat) (s0_0 : ByteArray) (s0_1 : Int) (r1 : Int) (r2 : ByteArray) (r3 : Int) (w0 w : World) (hI : IsS88 w0 w g s0_0 s0_1) (hB : Below w0.heap.size w0 w) (h : tally_Cursor_Err.f s0_0 s0_1 = some (r1, r2, r3)) :
  Calls Try.prog 70 #[.pointer (some ⟨g, 0, none⟩)] w fun e w' => e = .returned (.int .i64 r1) ∧ IsS88 w0 w' g r2 r3 ∧ Below w0.heap.size w0 w' ∧ KeepBut w w' g none := by
 have HI0 := Aside0.mk hI
 have HK := Aside0.mk (KeepBut.refl w g none)
 have HL := Aside0.mk hB.size
 clear hI
 have HW0 := Aside0.mk hB.size
 have HB := Aside0.mk hB
 clear hB
 have H : (some (s0_1, s0_0, s0_1)) = some (r1, r2, r3) := h
 clear h
 simp only [Option.some.injEq, Prod.mk.injEq] at H
 obtain ⟨rfl, rfl, rfl⟩ := H
 obtain ⟨HGz2, hgz2⟩ := HI0.out
 have hcz2_0 := cellS88_0 HGz2
 have hcz2_1 := cellS88_1 HGz2
 have hfz2_0 := blk_frozen HGz2 0
 have hfz2_1 := blk_frozen HGz2 1
 clear HGz2 hgz2
 go_enter Try.func70, Try.ntmps70
 go_wp2
 go_ret
 exact ⟨z3_, z5_, z4_, z2_⟩
def tally_Cursor_Int.f (s0_0 : ByteArray) (s0_1 : Int) : Option (Int × ByteArray × Int) := (tally_Cursor_Uint.f s0_0 s0_1).bind fun bt402 => (some (Go.bits .xor .i64 (wrap64 (bt402.1 / 2)) (wrap64 (-(wrap64 (Go.bits .and .u64 bt402.1 1)))), bt402.2.1, bt402.2.2))
set_option maxHeartbeats 8000000 in
set_option maxRecDepth 100000 in
theorem tally_Cursor_Int.calls (g : Nat) (s0_0 : ByteArray) (s0_1 : Int) (r1 : Int) (r2 : ByteArray) (r3 : Int) (w0 w : World) (hI : IsS88 w0 w g s0_0 s0_1) (hB : Below w0.heap.size w0 w) (h : tally_Cursor_Int.f s0_0 s0_1 = some (r1, r2, r3)) :
  Calls Try.prog 71 #[.pointer (some ⟨g, 0, none⟩)] w fun e w' => e = .returned (.int .i64 r1) ∧ IsS88 w0 w' g r2 r3 ∧ Below w0.heap.size w0 w' ∧ KeepBut w w' g none := by
 have HI0 := Aside0.mk hI
 have HK := Aside0.mk (KeepBut.refl w g none)
 have HL := Aside0.mk hB.size
 clear hI
 have HW0 := Aside0.mk hB.size
 have HB := Aside0.mk hB
 clear hB
 have H : ((tally_Cursor_Uint.f s0_0 s0_1).bind fun bt402 => (some (Go.bits .xor .i64 (wrap64 (bt402.1 / 2)) (wrap64 (-(wrap64 (Go.bits .and .u64 bt402.1 1)))), bt402.2.1, bt402.2.2))) = some (r1, r2, r3) := h
 clear h
 replace H := Option.bind_eq_some_iff.mp H
 obtain ⟨⟨t402, t403, t404⟩, A20, H⟩ := H
 replace H : (some (Go.bits .xor .i64 (wrap64 (t402 / 2)) (wrap64 (-(wrap64 (Go.bits .and .u64 t402 1)))), t403, t404)) = some (r1, r2, r3) := H
 have A2 := Aside0.mk A20
 clear A20
 simp only [Option.some.injEq, Prod.mk.injEq] at H
 obtain ⟨rfl, rfl, rfl⟩ := H
 go_enter Try.func71, Try.ntmps71
 go_wp2_with (first | ((with_reducible refine gate_callee (f := 69) rfl ?_); refine goesL_ (some 5) rfl rfl Try.func69 (by kernel_rfl) rfl #[.pointer (some ⟨g, 0, none⟩)] rfl (by (try simp only [List.map_toArray, List.map_cons, List.map_nil]); first | done | rfl | (simp only [List.length_drop, List.length_take]; rfl) | (go_simp; simp [IntKind.wrap, IntKind.bits, IntKind.signed]; omega)) ?_; (with_reducible refine (tally_Cursor_Uint.calls g s0_0 s0_1 t402 t403 t404 w0 _ ?side1 ?side2 A2.out).mono ?_); (case side1 => repeat (first | (with_reducible first | exact HI0.out | apply IsS88.alloc | apply IsS88.drewN | apply IsS88.drew | apply IsS88.set_0 | apply IsS88.set_1) | exact HI0.out)); (case side2 => repeat (first | (with_reducible first | exact HB.out | apply below_alloc | apply pw_below_drewN | apply below_drew1 | refine below_set ?_ (IsS88.ge HI0.out)) | exact HB.out)); rintro e w3 ⟨rfl, hi, hb, hk⟩; refine ⟨_, rfl, ?_⟩; have n0_ := Aside0.mk (KeepBut.trans z2_ hk (.inl rfl)); have n1_ := Aside0.mk (hb); have n2_ := Aside0.mk (hi); clear HK; clear HB; clear HI0; have HK := n0_; have HB := n1_; have HI0 := n2_; clear n0_ n1_ n2_; (try clear hb); (try clear hb2); (try clear hk); (try clear hi)))
 go_ret
 exact ⟨z3_, z5_, z4_, z2_⟩
def tally_Cursor_Text.j0 : Nat → Int → ByteArray → Bool → ByteArray → Int → Option (ByteArray × ByteArray × Int)
 | 0, _, _, _, _, _ => none
 | k + 1, x5, x6, x36, x1000, x1001 => if x36 = true then (some ((⟨#[]⟩ : ByteArray), x1000, 3)) else (if (IntKind.u64.wrap ((x6.size : Int))) < x5 then (some ((⟨#[]⟩ : ByteArray), x1000, 2)) else (if 0 ≤ x5 then (if x5 ≤ (x6.size : Int) then (some (x6.extract 0 (x5 : Int).toNat, x6.extract (x5 : Int).toNat x6.size, x1001)) else (none)) else (none)))
def tally_Cursor_Text.f (k : Nat) (s0_0 : ByteArray) (s0_1 : Int) (a1 : Int) : Option (ByteArray × ByteArray × Int) := (tally_Cursor_ok.f s0_0 s0_1).bind fun bt405 => (if bt405.1 = true then ((tally_next.f bt405.2.1).bind fun bt408 => (if bt408.2.2 = 0 then (if a1 < 0 then (tally_Cursor_Text.j0 k bt408.1 bt408.2.1 true bt405.2.1 bt405.2.2) else (tally_Cursor_Text.j0 k bt408.1 bt408.2.1 (decide (bt408.1 > (IntKind.u64.wrap (a1)))) bt405.2.1 bt405.2.2)) else (some ((⟨#[]⟩ : ByteArray), bt405.2.1, bt408.2.2)))) else (some ((⟨#[]⟩ : ByteArray), bt405.2.1, bt405.2.2)))
theorem tally_Cursor_Text.mono_l : ∀ k, (∀ y0 y1 y2 y3 y4, LeO (tally_Cursor_Text.j0 k y0 y1 y2 y3 y4) (tally_Cursor_Text.j0 (k + 1) y0 y1 y2 y3 y4))
 | 0 => fun _ _ _ _ _ r h => by simp [tally_Cursor_Text.j0] at h
 | k + 1 => by
  have ih0 := tally_Cursor_Text.mono_l k
  ·intro y0 y1 y2 y3 y4
   unfold tally_Cursor_Text.j0
   repeat' first
   | (with_reducible exact ih0 _ _ _ _ _)
   | (with_reducible exact LeO.refl _)
   | (with_reducible exact LeO.none _)
   | (with_reducible refine LeO.ite ?_ ?_)
   | (with_reducible refine LeO.bind ?_ (fun _ => ?_))
   | exact ih0 _ _ _ _ _
   | exact LeO.none _
   | refine LeO.ite ?_ ?_
   | refine LeO.bind ?_ (fun _ => ?_)
theorem tally_Cursor_Text.mono : ∀ a0 a1 a2 k, LeO (tally_Cursor_Text.f k a0 a1 a2) (tally_Cursor_Text.f (k + 1) a0 a1 a2) := by
 intro a0 a1 a2 k
 have ih0 := tally_Cursor_Text.mono_l k
 unfold tally_Cursor_Text.f
 repeat' first
   | (with_reducible exact ih0 _ _ _ _ _)
   | (with_reducible exact LeO.refl _)
   | (with_reducible exact LeO.none _)
   | (with_reducible refine LeO.ite ?_ ?_)
   | (with_reducible refine LeO.bind ?_ (fun _ => ?_))
   | exact ih0 _ _ _ _ _
   | exact LeO.none _
   | refine LeO.ite ?_ ?_
   | refine LeO.bind ?_ (fun _ => ?_)
set_option maxHeartbeats 8000000 in
set_option maxRecDepth 100000 in
theorem tally_Cursor_Text.calls (k : Nat) (g : Nat) (s0_0 : ByteArray) (s0_1 : Int) (a1 : Int) (r1 : ByteArray) (r2 : ByteArray) (r3 : Int) (w0 w : World) (hI : IsS88 w0 w g s0_0 s0_1) (hB : Below w0.heap.size w0 w) (h : tally_Cursor_Text.f k s0_0 s0_1 a1 = some (r1, r2, r3)) :
  Calls Try.prog 72 #[.pointer (some ⟨g, 0, none⟩), .int .i64 a1] w fun e w' => e = .returned (.string r1) ∧ IsS88 w0 w' g r2 r3 ∧ Below w0.heap.size w0 w' ∧ KeepBut w w' g none := by
 have HI0 := Aside0.mk hI
 have HK := Aside0.mk (KeepBut.refl w g none)
 have HL := Aside0.mk hB.size
 clear hI
 have HW0 := Aside0.mk hB.size
 have HB := Aside0.mk hB
 clear hB
 have H : ((tally_Cursor_ok.f s0_0 s0_1).bind fun bt405 => (if bt405.1 = true then ((tally_next.f bt405.2.1).bind fun bt408 => (if bt408.2.2 = 0 then (if a1 < 0 then (tally_Cursor_Text.j0 k bt408.1 bt408.2.1 true bt405.2.1 bt405.2.2) else (tally_Cursor_Text.j0 k bt408.1 bt408.2.1 (decide (bt408.1 > (IntKind.u64.wrap (a1)))) bt405.2.1 bt405.2.2)) else (some ((⟨#[]⟩ : ByteArray), bt405.2.1, bt408.2.2)))) else (some ((⟨#[]⟩ : ByteArray), bt405.2.1, bt405.2.2)))) = some (r1, r2, r3) := h
 clear h
 replace H := Option.bind_eq_some_iff.mp H
 obtain ⟨⟨t405, t406, t407⟩, A30, H⟩ := H
 replace H : (if t405 = true then ((tally_next.f t406).bind fun bt408 => (if bt408.2.2 = 0 then (if a1 < 0 then (tally_Cursor_Text.j0 k bt408.1 bt408.2.1 true t406 t407) else (tally_Cursor_Text.j0 k bt408.1 bt408.2.1 (decide (bt408.1 > (IntKind.u64.wrap (a1)))) t406 t407)) else (some ((⟨#[]⟩ : ByteArray), t406, bt408.2.2)))) else (some ((⟨#[]⟩ : ByteArray), t406, t407))) = some (r1, r2, r3) := H
 have A3 := Aside0.mk A30
 clear A30
 by_cases c4 : t405 = true
 ·subst c4
  have H1 : ((tally_next.f t406).bind fun bt408 => (if bt408.2.2 = 0 then (if a1 < 0 then (tally_Cursor_Text.j0 k bt408.1 bt408.2.1 true t406 t407) else (tally_Cursor_Text.j0 k bt408.1 bt408.2.1 (decide (bt408.1 > (IntKind.u64.wrap (a1)))) t406 t407)) else (some ((⟨#[]⟩ : ByteArray), t406, bt408.2.2)))) = some (r1, r2, r3) := by rw [if_pos rfl] at H; exact H
  clear H
  have H := H1
  clear H1
  replace H := Option.bind_eq_some_iff.mp H
  obtain ⟨⟨t408, t409, t410⟩, A50, H⟩ := H
  replace H : (if t410 = 0 then (if a1 < 0 then (tally_Cursor_Text.j0 k t408 t409 true t406 t407) else (tally_Cursor_Text.j0 k t408 t409 (decide (t408 > (IntKind.u64.wrap (a1)))) t406 t407)) else (some ((⟨#[]⟩ : ByteArray), t406, t410))) = some (r1, r2, r3) := H
  have A5 := Aside0.mk A50
  clear A50
  by_cases c6 : t410 = 0
  ·rw [if_pos c6] at H
   have c6b0 : (t410 == 0) = true := beq_iff_eq.mpr c6
   have c6b1 : (t410 != 0) = false := bne_eq_false_iff_eq.mpr c6
   clear c6
   have HC7 := Aside0.mk H
   clear H
   go_enter Try.func72, Try.ntmps72
   go_upto_region 8 with (first | ((with_reducible refine gate_callee (f := 73) rfl ?_); refine goesL_ (some 9) rfl rfl Try.func73 (by kernel_rfl) rfl #[.pointer (some ⟨g, 0, none⟩)] rfl (by (try simp only [List.map_toArray, List.map_cons, List.map_nil]); first | done | rfl | (simp only [List.length_drop, List.length_take]; rfl) | (go_simp; simp [IntKind.wrap, IntKind.bits, IntKind.signed]; omega)) ?_; (with_reducible refine (tally_Cursor_ok.calls g s0_0 s0_1 true t406 t407 w0 _ ?side1 ?side2 A3.out).mono ?_); (case side1 => repeat (first | (with_reducible first | exact HI0.out | apply IsS88.alloc | apply IsS88.drewN | apply IsS88.drew | apply IsS88.set_0 | apply IsS88.set_1) | exact HI0.out)); (case side2 => repeat (first | (with_reducible first | exact HB.out | apply below_alloc | apply pw_below_drewN | apply below_drew1 | refine below_set ?_ (IsS88.ge HI0.out)) | exact HB.out)); rintro e w8 ⟨rfl, hi, hb, hk⟩; refine ⟨_, rfl, ?_⟩; have n0_ := Aside0.mk (KeepBut.trans z2_ hk (.inl rfl)); have n1_ := Aside0.mk (hb); have n2_ := Aside0.mk (hi); clear HK; clear HB; clear HI0; have HK := n0_; have HB := n1_; have HI0 := n2_; clear n0_ n1_ n2_; (try clear hb); (try clear hb2); (try clear hk); (try clear hi); obtain ⟨HGz9, hgz9⟩ := HI0.out; have hcz9_0 := cellS88_0 HGz9; have hcz9_1 := cellS88_1 HGz9; have hfz9_0 := blk_frozen HGz9 0; have hfz9_1 := blk_frozen HGz9 1; clear HGz9 hgz9) | ((with_reducible refine gate_callee (f := 82) rfl ?_); refine goesL_ (some 16) rfl rfl Try.func82 (by kernel_rfl) rfl #[.string t406] rfl (by (try simp only [List.map_toArray, List.map_cons, List.map_nil]); first | done | rfl | (simp only [List.length_drop, List.length_take]; rfl) | (go_simp; simp [IntKind.wrap, IntKind.bits, IntKind.signed]; omega)) ?_; (with_reducible refine (tally_next.calls t406 t408 t409 t410 _ A5.out).mono ?_); rintro e w10 ⟨rfl, hb⟩; refine ⟨_, rfl, ?_⟩; have n0_ := Aside0.mk (IsS88.below z5_ hb); have n1_ := Aside0.mk (KeepBut.trans z2_ (KeepBut.of_below hb g none) (.inl rfl)); have n2_ := Aside0.mk (below_step z4_ hb); clear HI0; clear HK; clear HB; have HI0 := n0_; have HK := n1_; have HB := n2_; clear n0_ n1_ n2_; (try clear hb); (try clear hb2); (try clear hk); (try clear hi)))
   (try simp only [Act.put, List.setIfInBounds_toArray, List.set_cons_zero, List.set_cons_succ])
   go_cut [36] (fun v36 wc => ∃ (kq : Nat) (x36_6 : Bool), v36 = .bool x36_6 ∧ Aside0 (tally_Cursor_Text.j0 kq t408 t409 x36_6 t406 t407 = some (r1, r2, r3)) ∧ Aside0 (kq ≤ k) ∧ Aside0 (IsS88 w0 wc g t406 t407) ∧ Aside0 (KeepBut w wc g none) ∧ Aside0 (Below w0.heap.size w0 wc))
   case first =>
    have H := HC7.out
    clear HC7
    by_cases c11 : a1 < 0
    ·rw [if_pos c11] at H
     have c11b0 : decide (a1 < 0) = true := decide_eq_true c11
     clear c11
     (first | rw [c11b0] | (simp only [i64_w, i32_w]; rw [c11b0]) | skip)
     have H' := Aside0.mk H
     clear H
     go_wp2
     go_meet
     case rel => exact ⟨_, (true), z8_, H', ⟨by first | omega | exact Nat.le_refl _⟩, ⟨z5_⟩, ⟨z2_⟩, ⟨z4_⟩⟩
    ·rw [if_neg c11] at H
     have c11b0 : decide (a1 < 0) = false := decide_eq_false c11
     clear c11
     (first | rw [c11b0] | (simp only [i64_w, i32_w]; rw [c11b0]) | skip)
     have H' := Aside0.mk H
     clear H
     go_wp2
     go_meet
     case rel => exact ⟨_, (decide (t408 > (IntKind.u64.wrap (a1)))), z8_, H', ⟨by first | omega | exact Nat.le_refl _⟩, ⟨z5_⟩, ⟨z2_⟩, ⟨z4_⟩⟩
   case rest =>
    clear HC7
    try clear c1
    try clear p2
    try clear c4
    try clear c6
    try clear c6b0
    try clear c6b1
    try clear c7
    try clear c8
    try clear c11
    try clear c11b0
    try clear hcz9_0
    try clear hcz9_1
    try clear hfz9_0
    try clear hfz9_1
    obtain ⟨kq, x36_6, rfl, HA, HJ6, HI0, HK, HB⟩ := hcut
    cases kq with
    | zero => exact absurd HA.out (by simp [tally_Cursor_Text.j0])
    | succ kj6 =>
     have H := HA.out
     clear HA
     simp only [tally_Cursor_Text.j0] at H
     by_cases c12 : x36_6 = true
     ·subst c12
      have H1 : (some ((⟨#[]⟩ : ByteArray), t406, 3)) = some (r1, r2, r3) := by rw [if_pos rfl] at H; exact H
      clear H
      have H := H1
      clear H1
      simp only [Option.some.injEq, Prod.mk.injEq] at H
      obtain ⟨rfl, rfl, rfl⟩ := H
      obtain ⟨HGz13, hgz13⟩ := HI0.out
      have hcz13_0 := cellS88_0 HGz13
      have hcz13_1 := cellS88_1 HGz13
      have hfz13_0 := blk_frozen HGz13 0
      have hfz13_1 := blk_frozen HGz13 1
      clear HGz13 hgz13
      go_wp2
      go_ret
      exact ⟨z3_, z5_, z4_, z2_⟩
     ·replace c12 := Bool.eq_false_iff.mpr c12
      subst c12
      have H1 : (if (IntKind.u64.wrap ((t409.size : Int))) < t408 then (some ((⟨#[]⟩ : ByteArray), t406, 2)) else (if 0 ≤ t408 then (if t408 ≤ (t409.size : Int) then (some (t409.extract 0 (t408 : Int).toNat, t409.extract (t408 : Int).toNat t409.size, t407)) else (none)) else (none))) = some (r1, r2, r3) := by rw [if_neg (show ¬ (false = true) by decide)] at H; exact H
      clear H
      have H := H1
      clear H1
      by_cases c14 : (IntKind.u64.wrap ((t409.size : Int))) < t408
      ·rw [if_pos c14] at H
       have c14b0 : decide ((IntKind.u64.wrap ((t409.size : Int))) < t408) = true := decide_eq_true c14
       clear c14
       simp only [Option.some.injEq, Prod.mk.injEq] at H
       obtain ⟨rfl, rfl, rfl⟩ := H
       obtain ⟨HGz15, hgz15⟩ := HI0.out
       have hcz15_0 := cellS88_0 HGz15
       have hcz15_1 := cellS88_1 HGz15
       have hfz15_0 := blk_frozen HGz15 0
       have hfz15_1 := blk_frozen HGz15 1
       clear HGz15 hgz15
       go_wp2
       go_ret
       exact ⟨z3_, z5_, z4_, z2_⟩
      ·rw [if_neg c14] at H
       have c14b0 : decide ((IntKind.u64.wrap ((t409.size : Int))) < t408) = false := decide_eq_false c14
       clear c14
       by_cases c16 : 0 ≤ t408
       ·rw [if_pos c16] at H
        have c16b0 := eq_true c16
        have c16b1 : decide (0 ≤ t408) = true := decide_eq_true c16
        clear c16
        by_cases c17 : t408 ≤ (t409.size : Int)
        ·rw [if_pos c17] at H
         have c17b0 := eq_true c17
         have c17b1 : decide (t408 ≤ (t409.size : Int)) = true := decide_eq_true c17
         clear c17
         have c18b0 := eq_true (of_decide_eq_true z11_ : 0 ≤ t408)
         have c19b0 := eq_true (of_decide_eq_true z11_ : t408 ≤ (t409.size : Int))
         simp only [Option.some.injEq, Prod.mk.injEq] at H
         obtain ⟨rfl, rfl, rfl⟩ := H
         obtain ⟨HGz20, hgz20⟩ := HI0.out
         have hcz20_0 := cellS88_0 HGz20
         have hcz20_1 := cellS88_1 HGz20
         have hfz20_0 := blk_frozen HGz20 0
         have hfz20_1 := blk_frozen HGz20 1
         clear HGz20 hgz20
         go_wp2
         go_ret
         exact ⟨z3_, z5_, z4_, z2_⟩
        ·rw [if_neg c17] at H
         exact absurd H (by simp)
       ·rw [if_neg c16] at H
        exact absurd H (by simp)
  ·rw [if_neg c6] at H
   have c6b0 : (t410 == 0) = false := beq_eq_false_iff_ne.mpr c6
   have c6b1 : (t410 != 0) = true := bne_iff_ne.mpr c6
   simp only [Option.some.injEq, Prod.mk.injEq] at H
   obtain ⟨rfl, rfl, rfl⟩ := H
   go_enter Try.func72, Try.ntmps72
   go_wp2_with (first | ((with_reducible refine gate_callee (f := 73) rfl ?_); refine goesL_ (some 9) rfl rfl Try.func73 (by kernel_rfl) rfl #[.pointer (some ⟨g, 0, none⟩)] rfl (by (try simp only [List.map_toArray, List.map_cons, List.map_nil]); first | done | rfl | (simp only [List.length_drop, List.length_take]; rfl) | (go_simp; simp [IntKind.wrap, IntKind.bits, IntKind.signed]; omega)) ?_; (with_reducible refine (tally_Cursor_ok.calls g s0_0 s0_1 true t406 t407 w0 _ ?side1 ?side2 A3.out).mono ?_); (case side1 => repeat (first | (with_reducible first | exact HI0.out | apply IsS88.alloc | apply IsS88.drewN | apply IsS88.drew | apply IsS88.set_0 | apply IsS88.set_1) | exact HI0.out)); (case side2 => repeat (first | (with_reducible first | exact HB.out | apply below_alloc | apply pw_below_drewN | apply below_drew1 | refine below_set ?_ (IsS88.ge HI0.out)) | exact HB.out)); rintro e w21 ⟨rfl, hi, hb, hk⟩; refine ⟨_, rfl, ?_⟩; have n0_ := Aside0.mk (KeepBut.trans z2_ hk (.inl rfl)); have n1_ := Aside0.mk (hb); have n2_ := Aside0.mk (hi); clear HK; clear HB; clear HI0; have HK := n0_; have HB := n1_; have HI0 := n2_; clear n0_ n1_ n2_; (try clear hb); (try clear hb2); (try clear hk); (try clear hi); obtain ⟨HGz22, hgz22⟩ := HI0.out; have hcz22_0 := cellS88_0 HGz22; have hcz22_1 := cellS88_1 HGz22; have hfz22_0 := blk_frozen HGz22 0; have hfz22_1 := blk_frozen HGz22 1; clear HGz22 hgz22) | ((with_reducible refine gate_callee (f := 82) rfl ?_); refine goesL_ (some 16) rfl rfl Try.func82 (by kernel_rfl) rfl #[.string t406] rfl (by (try simp only [List.map_toArray, List.map_cons, List.map_nil]); first | done | rfl | (simp only [List.length_drop, List.length_take]; rfl) | (go_simp; simp [IntKind.wrap, IntKind.bits, IntKind.signed]; omega)) ?_; (with_reducible refine (tally_next.calls t406 t408 t409 t410 _ A5.out).mono ?_); rintro e w23 ⟨rfl, hb⟩; refine ⟨_, rfl, ?_⟩; have n0_ := Aside0.mk (IsS88.below z5_ hb); have n1_ := Aside0.mk (KeepBut.trans z2_ (KeepBut.of_below hb g none) (.inl rfl)); have n2_ := Aside0.mk (below_step z4_ hb); clear HI0; clear HK; clear HB; have HI0 := n0_; have HK := n1_; have HB := n2_; clear n0_ n1_ n2_; (try clear hb); (try clear hb2); (try clear hk); (try clear hi); obtain ⟨HGz24, hgz24⟩ := HI0.out; have hcz24_0 := cellS88_0 HGz24; have hcz24_1 := cellS88_1 HGz24; have hfz24_0 := blk_frozen HGz24 0; have hfz24_1 := blk_frozen HGz24 1; clear HGz24 hgz24))
   go_ret
   exact ⟨z3_, z5_, z4_, z2_⟩
 ·replace c4 := Bool.eq_false_iff.mpr c4
  subst c4
  have H1 : (some ((⟨#[]⟩ : ByteArray), t406, t407)) = some (r1, r2, r3) := by rw [if_neg (show ¬ (false = true) by decide)] at H; exact H
  clear H
  have H := H1
  clear H1
  simp only [Option.some.injEq, Prod.mk.injEq] at H
  obtain ⟨rfl, rfl, rfl⟩ := H
  go_enter Try.func72, Try.ntmps72
  go_wp2_with (first | ((with_reducible refine gate_callee (f := 73) rfl ?_); refine goesL_ (some 9) rfl rfl Try.func73 (by kernel_rfl) rfl #[.pointer (some ⟨g, 0, none⟩)] rfl (by (try simp only [List.map_toArray, List.map_cons, List.map_nil]); first | done | rfl | (simp only [List.length_drop, List.length_take]; rfl) | (go_simp; simp [IntKind.wrap, IntKind.bits, IntKind.signed]; omega)) ?_; (with_reducible refine (tally_Cursor_ok.calls g s0_0 s0_1 false t406 t407 w0 _ ?side1 ?side2 A3.out).mono ?_); (case side1 => repeat (first | (with_reducible first | exact HI0.out | apply IsS88.alloc | apply IsS88.drewN | apply IsS88.drew | apply IsS88.set_0 | apply IsS88.set_1) | exact HI0.out)); (case side2 => repeat (first | (with_reducible first | exact HB.out | apply below_alloc | apply pw_below_drewN | apply below_drew1 | refine below_set ?_ (IsS88.ge HI0.out)) | exact HB.out)); rintro e w25 ⟨rfl, hi, hb, hk⟩; refine ⟨_, rfl, ?_⟩; have n0_ := Aside0.mk (KeepBut.trans z2_ hk (.inl rfl)); have n1_ := Aside0.mk (hb); have n2_ := Aside0.mk (hi); clear HK; clear HB; clear HI0; have HK := n0_; have HB := n1_; have HI0 := n2_; clear n0_ n1_ n2_; (try clear hb); (try clear hb2); (try clear hk); (try clear hi)))
  go_ret
  exact ⟨z3_, z5_, z4_, z2_⟩
def tally_Cursor_Done.f (s0_0 : ByteArray) (s0_1 : Int) : Option (Int × ByteArray × Int) := (tally_Cursor_ok.f s0_0 s0_1).bind fun bt411 => (if bt411.1 = true then (if bt411.2.1.toList = ([] : List UInt8) then ((tally_Cursor_Err.f bt411.2.1 bt411.2.2).bind fun bt414 => (some (bt414.1, bt414.2.1, bt414.2.2))) else (some (5, bt411.2.1, bt411.2.2))) else ((tally_Cursor_Err.f bt411.2.1 bt411.2.2).bind fun bt417 => (some (bt417.1, bt417.2.1, bt417.2.2))))
set_option maxHeartbeats 8000000 in
set_option maxRecDepth 100000 in
theorem tally_Cursor_Done.calls (g : Nat) (s0_0 : ByteArray) (s0_1 : Int) (r1 : Int) (r2 : ByteArray) (r3 : Int) (w0 w : World) (hI : IsS88 w0 w g s0_0 s0_1) (hB : Below w0.heap.size w0 w) (h : tally_Cursor_Done.f s0_0 s0_1 = some (r1, r2, r3)) :
  Calls Try.prog 54 #[.pointer (some ⟨g, 0, none⟩)] w fun e w' => e = .returned (.int .i64 r1) ∧ IsS88 w0 w' g r2 r3 ∧ Below w0.heap.size w0 w' ∧ KeepBut w w' g none := by
 have HI0 := Aside0.mk hI
 have HK := Aside0.mk (KeepBut.refl w g none)
 have HL := Aside0.mk hB.size
 clear hI
 have HW0 := Aside0.mk hB.size
 have HB := Aside0.mk hB
 clear hB
 have H : ((tally_Cursor_ok.f s0_0 s0_1).bind fun bt411 => (if bt411.1 = true then (if bt411.2.1.toList = ([] : List UInt8) then ((tally_Cursor_Err.f bt411.2.1 bt411.2.2).bind fun bt414 => (some (bt414.1, bt414.2.1, bt414.2.2))) else (some (5, bt411.2.1, bt411.2.2))) else ((tally_Cursor_Err.f bt411.2.1 bt411.2.2).bind fun bt417 => (some (bt417.1, bt417.2.1, bt417.2.2))))) = some (r1, r2, r3) := h
 clear h
 replace H := Option.bind_eq_some_iff.mp H
 obtain ⟨⟨t411, t412, t413⟩, A20, H⟩ := H
 replace H : (if t411 = true then (if t412.toList = ([] : List UInt8) then ((tally_Cursor_Err.f t412 t413).bind fun bt414 => (some (bt414.1, bt414.2.1, bt414.2.2))) else (some (5, t412, t413))) else ((tally_Cursor_Err.f t412 t413).bind fun bt417 => (some (bt417.1, bt417.2.1, bt417.2.2)))) = some (r1, r2, r3) := H
 have A2 := Aside0.mk A20
 clear A20
 by_cases c3 : t411 = true
 ·subst c3
  have H1 : (if t412.toList = ([] : List UInt8) then ((tally_Cursor_Err.f t412 t413).bind fun bt414 => (some (bt414.1, bt414.2.1, bt414.2.2))) else (some (5, t412, t413))) = some (r1, r2, r3) := by rw [if_pos rfl] at H; exact H
  clear H
  have H := H1
  clear H1
  by_cases c4 : t412.toList = ([] : List UInt8)
  ·rw [if_pos c4] at H
   have c4b0 : (t412.toList == ([] : List UInt8)) = true := beq_iff_eq.mpr c4
   have c4b1 : (t412.toList != ([] : List UInt8)) = false := bne_eq_false_iff_eq.mpr c4
   clear c4
   replace H := Option.bind_eq_some_iff.mp H
   obtain ⟨⟨t414, t415, t416⟩, A50, H⟩ := H
   replace H : (some (t414, t415, t416)) = some (r1, r2, r3) := H
   have A5 := Aside0.mk A50
   clear A50
   simp only [Option.some.injEq, Prod.mk.injEq] at H
   obtain ⟨rfl, rfl, rfl⟩ := H
   go_enter Try.func54, Try.ntmps54
   go_wp2_with (first | ((with_reducible refine gate_callee (f := 73) rfl ?_); refine goesL_ (some 4) rfl rfl Try.func73 (by kernel_rfl) rfl #[.pointer (some ⟨g, 0, none⟩)] rfl (by (try simp only [List.map_toArray, List.map_cons, List.map_nil]); first | done | rfl | (simp only [List.length_drop, List.length_take]; rfl) | (go_simp; simp [IntKind.wrap, IntKind.bits, IntKind.signed]; omega)) ?_; (with_reducible refine (tally_Cursor_ok.calls g s0_0 s0_1 true t412 t413 w0 _ ?side1 ?side2 A2.out).mono ?_); (case side1 => repeat (first | (with_reducible first | exact HI0.out | apply IsS88.alloc | apply IsS88.drewN | apply IsS88.drew | apply IsS88.set_0 | apply IsS88.set_1) | exact HI0.out)); (case side2 => repeat (first | (with_reducible first | exact HB.out | apply below_alloc | apply pw_below_drewN | apply below_drew1 | refine below_set ?_ (IsS88.ge HI0.out)) | exact HB.out)); rintro e w6 ⟨rfl, hi, hb, hk⟩; refine ⟨_, rfl, ?_⟩; have n0_ := Aside0.mk (KeepBut.trans z2_ hk (.inl rfl)); have n1_ := Aside0.mk (hb); have n2_ := Aside0.mk (hi); clear HK; clear HB; clear HI0; have HK := n0_; have HB := n1_; have HI0 := n2_; clear n0_ n1_ n2_; (try clear hb); (try clear hb2); (try clear hk); (try clear hi); obtain ⟨HGz7, hgz7⟩ := HI0.out; have hcz7_0 := cellS88_0 HGz7; have hcz7_1 := cellS88_1 HGz7; have hfz7_0 := blk_frozen HGz7 0; have hfz7_1 := blk_frozen HGz7 1; clear HGz7 hgz7) | ((with_reducible refine gate_callee (f := 70) rfl ?_); refine goesL_ (some 13) rfl rfl Try.func70 (by kernel_rfl) rfl #[.pointer (some ⟨g, 0, none⟩)] rfl (by (try simp only [List.map_toArray, List.map_cons, List.map_nil]); first | done | rfl | (simp only [List.length_drop, List.length_take]; rfl) | (go_simp; simp [IntKind.wrap, IntKind.bits, IntKind.signed]; omega)) ?_; (with_reducible refine (tally_Cursor_Err.calls g t412 t413 t414 t415 t416 w0 _ ?side1 ?side2 A5.out).mono ?_); (case side1 => repeat (first | (with_reducible first | exact HI0.out | apply IsS88.alloc | apply IsS88.drewN | apply IsS88.drew | apply IsS88.set_0 | apply IsS88.set_1) | exact HI0.out)); (case side2 => repeat (first | (with_reducible first | exact HB.out | apply below_alloc | apply pw_below_drewN | apply below_drew1 | refine below_set ?_ (IsS88.ge HI0.out)) | exact HB.out)); rintro e w8 ⟨rfl, hi, hb, hk⟩; refine ⟨_, rfl, ?_⟩; have n0_ := Aside0.mk (KeepBut.trans z2_ hk (.inl rfl)); have n1_ := Aside0.mk (hb); have n2_ := Aside0.mk (hi); clear HK; clear HB; clear HI0; have HK := n0_; have HB := n1_; have HI0 := n2_; clear n0_ n1_ n2_; (try clear hb); (try clear hb2); (try clear hk); (try clear hi)))
   go_ret
   exact ⟨z3_, z5_, z4_, z2_⟩
  ·rw [if_neg c4] at H
   have c4b0 : (t412.toList == ([] : List UInt8)) = false := beq_eq_false_iff_ne.mpr c4
   have c4b1 : (t412.toList != ([] : List UInt8)) = true := bne_iff_ne.mpr c4
   simp only [Option.some.injEq, Prod.mk.injEq] at H
   obtain ⟨rfl, rfl, rfl⟩ := H
   go_enter Try.func54, Try.ntmps54
   go_wp2_with (first | ((with_reducible refine gate_callee (f := 73) rfl ?_); refine goesL_ (some 4) rfl rfl Try.func73 (by kernel_rfl) rfl #[.pointer (some ⟨g, 0, none⟩)] rfl (by (try simp only [List.map_toArray, List.map_cons, List.map_nil]); first | done | rfl | (simp only [List.length_drop, List.length_take]; rfl) | (go_simp; simp [IntKind.wrap, IntKind.bits, IntKind.signed]; omega)) ?_; (with_reducible refine (tally_Cursor_ok.calls g s0_0 s0_1 true t412 t413 w0 _ ?side1 ?side2 A2.out).mono ?_); (case side1 => repeat (first | (with_reducible first | exact HI0.out | apply IsS88.alloc | apply IsS88.drewN | apply IsS88.drew | apply IsS88.set_0 | apply IsS88.set_1) | exact HI0.out)); (case side2 => repeat (first | (with_reducible first | exact HB.out | apply below_alloc | apply pw_below_drewN | apply below_drew1 | refine below_set ?_ (IsS88.ge HI0.out)) | exact HB.out)); rintro e w9 ⟨rfl, hi, hb, hk⟩; refine ⟨_, rfl, ?_⟩; have n0_ := Aside0.mk (KeepBut.trans z2_ hk (.inl rfl)); have n1_ := Aside0.mk (hb); have n2_ := Aside0.mk (hi); clear HK; clear HB; clear HI0; have HK := n0_; have HB := n1_; have HI0 := n2_; clear n0_ n1_ n2_; (try clear hb); (try clear hb2); (try clear hk); (try clear hi); obtain ⟨HGz10, hgz10⟩ := HI0.out; have hcz10_0 := cellS88_0 HGz10; have hcz10_1 := cellS88_1 HGz10; have hfz10_0 := blk_frozen HGz10 0; have hfz10_1 := blk_frozen HGz10 1; clear HGz10 hgz10))
   go_ret
   exact ⟨z3_, z5_, z4_, z2_⟩
 ·replace c3 := Bool.eq_false_iff.mpr c3
  subst c3
  have H1 : ((tally_Cursor_Err.f t412 t413).bind fun bt417 => (some (bt417.1, bt417.2.1, bt417.2.2))) = some (r1, r2, r3) := by rw [if_neg (show ¬ (false = true) by decide)] at H; exact H
  clear H
  have H := H1
  clear H1
  replace H := Option.bind_eq_some_iff.mp H
  obtain ⟨⟨t417, t418, t419⟩, A110, H⟩ := H
  replace H : (some (t417, t418, t419)) = some (r1, r2, r3) := H
  have A11 := Aside0.mk A110
  clear A110
  simp only [Option.some.injEq, Prod.mk.injEq] at H
  obtain ⟨rfl, rfl, rfl⟩ := H
  go_enter Try.func54, Try.ntmps54
  go_wp2_with (first | ((with_reducible refine gate_callee (f := 73) rfl ?_); refine goesL_ (some 4) rfl rfl Try.func73 (by kernel_rfl) rfl #[.pointer (some ⟨g, 0, none⟩)] rfl (by (try simp only [List.map_toArray, List.map_cons, List.map_nil]); first | done | rfl | (simp only [List.length_drop, List.length_take]; rfl) | (go_simp; simp [IntKind.wrap, IntKind.bits, IntKind.signed]; omega)) ?_; (with_reducible refine (tally_Cursor_ok.calls g s0_0 s0_1 false t412 t413 w0 _ ?side1 ?side2 A2.out).mono ?_); (case side1 => repeat (first | (with_reducible first | exact HI0.out | apply IsS88.alloc | apply IsS88.drewN | apply IsS88.drew | apply IsS88.set_0 | apply IsS88.set_1) | exact HI0.out)); (case side2 => repeat (first | (with_reducible first | exact HB.out | apply below_alloc | apply pw_below_drewN | apply below_drew1 | refine below_set ?_ (IsS88.ge HI0.out)) | exact HB.out)); rintro e w12 ⟨rfl, hi, hb, hk⟩; refine ⟨_, rfl, ?_⟩; have n0_ := Aside0.mk (KeepBut.trans z2_ hk (.inl rfl)); have n1_ := Aside0.mk (hb); have n2_ := Aside0.mk (hi); clear HK; clear HB; clear HI0; have HK := n0_; have HB := n1_; have HI0 := n2_; clear n0_ n1_ n2_; (try clear hb); (try clear hb2); (try clear hk); (try clear hi)) | ((with_reducible refine gate_callee (f := 70) rfl ?_); refine goesL_ (some 13) rfl rfl Try.func70 (by kernel_rfl) rfl #[.pointer (some ⟨g, 0, none⟩)] rfl (by (try simp only [List.map_toArray, List.map_cons, List.map_nil]); first | done | rfl | (simp only [List.length_drop, List.length_take]; rfl) | (go_simp; simp [IntKind.wrap, IntKind.bits, IntKind.signed]; omega)) ?_; (with_reducible refine (tally_Cursor_Err.calls g t412 t413 t417 t418 t419 w0 _ ?side1 ?side2 A11.out).mono ?_); (case side1 => repeat (first | (with_reducible first | exact HI0.out | apply IsS88.alloc | apply IsS88.drewN | apply IsS88.drew | apply IsS88.set_0 | apply IsS88.set_1) | exact HI0.out)); (case side2 => repeat (first | (with_reducible first | exact HB.out | apply below_alloc | apply pw_below_drewN | apply below_drew1 | refine below_set ?_ (IsS88.ge HI0.out)) | exact HB.out)); rintro e w13 ⟨rfl, hi, hb, hk⟩; refine ⟨_, rfl, ?_⟩; have n0_ := Aside0.mk (KeepBut.trans z2_ hk (.inl rfl)); have n1_ := Aside0.mk (hb); have n2_ := Aside0.mk (hi); clear HK; clear HB; clear HI0; have HK := n0_; have HB := n1_; have HI0 := n2_; clear n0_ n1_ n2_; (try clear hb); (try clear hb2); (try clear hk); (try clear hi)))
  go_ret
  exact ⟨z3_, z5_, z4_, z2_⟩
def frame_get.l0 : Nat → ByteArray → Int → Int → Option (Int)
 | 0, _, _, _ => none
 | k + 1, x0, x3, x4 => if x4 ≥ 0 then (if 0 ≤ x4 then (if x4 < (x0.size : Int) then (frame_get.l0 k x0 (Go.bits .or .u32 ((x3 * 256) % 4294967296) ((bt x0 x4) % 4294967296)) (wrap64 (x4 - 1))) else (none)) else (none)) else (some x3)
def frame_get.f (k : Nat) (a0 : ByteArray) : Option (Int) := frame_get.l0 k a0 0 3
theorem frame_get.mono_l : ∀ k, (∀ y0 y1 y2, LeO (frame_get.l0 k y0 y1 y2) (frame_get.l0 (k + 1) y0 y1 y2))
 | 0 => fun _ _ _ r h => by simp [frame_get.l0] at h
 | k + 1 => by
  have ih0 := frame_get.mono_l k
  ·intro y0 y1 y2
   unfold frame_get.l0
   repeat' first
   | (with_reducible exact ih0 _ _ _)
   | (with_reducible exact LeO.refl _)
   | (with_reducible exact LeO.none _)
   | (with_reducible refine LeO.ite ?_ ?_)
   | (with_reducible refine LeO.bind ?_ (fun _ => ?_))
   | exact ih0 _ _ _
   | exact LeO.none _
   | refine LeO.ite ?_ ?_
   | refine LeO.bind ?_ (fun _ => ?_)
theorem frame_get.mono : ∀ a0 k, LeO (frame_get.f k a0) (frame_get.f (k + 1) a0) := by
 intro a0 k
 have ih0 := frame_get.mono_l k
 unfold frame_get.f
 repeat' first
   | (with_reducible exact ih0 _ _ _)
   | (with_reducible exact LeO.refl _)
   | (with_reducible exact LeO.none _)
   | (with_reducible refine LeO.ite ?_ ?_)
   | (with_reducible refine LeO.bind ?_ (fun _ => ?_))
   | exact ih0 _ _ _
   | exact LeO.none _
   | refine LeO.ite ?_ ?_
   | refine LeO.bind ?_ (fun _ => ?_)
set_option maxHeartbeats 8000000 in
set_option maxRecDepth 100000 in
theorem frame_get.calls (k : Nat) (a0 : ByteArray) (r : Int) (w : World) (h : frame_get.f k a0 = some r) :
  Calls Try.prog 68 #[.string a0] w fun e w' => e = .returned (.int .u32 r) ∧ Drawn0 w w' := by
 have H : (frame_get.l0 k a0 0 3) = some r := h
 clear h
 have H' := Aside0.mk H
 clear H
 go_enter Try.func68, Try.ntmps68
 go_wp2
 go_loopg [3, 4] k (fun kq v3 v4 w' => ∃ (x3_1 : Int) (x4_1 : Int), v3 = .int .u32 x3_1 ∧ v4 = .int .i64 x4_1 ∧ Aside0 (frame_get.l0 kq a0 x3_1 x4_1 = some r) ∧ Aside0 (kq ≤ k) ∧ Drawn0 w w')
 case atStart => exact ⟨(0), (3), z8_, z8_, H', ⟨Nat.le_refl _⟩, z15_⟩
 case round =>
  clear H'
  obtain ⟨x3_1, x4_1, rfl, rfl, HA, HK1, ⟨m1, rfl⟩⟩ := hrel
  cases gk with
  | zero => exact absurd HA.out (by simp [frame_get.l0])
  | succ k1 =>
   have H := HA.out
   clear HA
   simp only [frame_get.l0] at H
   by_cases c2 : x4_1 ≥ 0
   ·rw [if_pos c2] at H
    have c2b0 : decide (0 ≤ x4_1) = true := decide_eq_true c2
    clear c2
    by_cases c3 : 0 ≤ x4_1
    ·rw [if_pos c3] at H
     have c3b0 : decide (0 ≤ x4_1) = true := decide_eq_true c3
     clear c3
     by_cases c4 : x4_1 < (a0.size : Int)
     ·rw [if_pos c4] at H
      have c4b0 : decide (x4_1 < (a0.size : Int)) = true := decide_eq_true c4
      clear c4
      have H' := Aside0.mk H
      clear H
      have p5 : 0 ≤ (x4_1 : Int) := of_decide_eq_true z11_
      have q5 : x4_1 < (a0.size : Int) := of_decide_eq_true z11_
      have hx5 := bt_at a0 x4_1
      replace p5 := eq_true p5
      replace q5 := eq_true q5
      go_wp2
      go_roundg k1
      case measure => have := HK1.out; omega
      case rel => exact ⟨(Go.bits .or .u32 ((x3_1 * 256) % 4294967296) ((bt a0 x4_1) % 4294967296)), (wrap64 (x4_1 - 1)), z8_, z8_, H', ⟨by have := HK1.out; omega⟩, z15_⟩
     ·rw [if_neg c4] at H
      exact absurd H (by simp)
    ·rw [if_neg c3] at H
     exact absurd H (by simp)
   ·rw [if_neg c2] at H
    have c2b0 : decide (0 ≤ x4_1) = false := decide_eq_false c2
    clear c2
    obtain rfl := Option.some.inj H
    go_wp2
    go_ret
    exact ⟨z8_, z15_⟩
theorem frame_next.get_f {k : Nat} (hk : 5 ≤ k) {s : ByteArray} (hs : 4 ≤ s.size) : frame_get.f k s = some (num4 (bytesOf s)) := by
 obtain ⟨k, rfl⟩ : ∃ m, k = m + 5 := ⟨k - 5, by omega⟩
 unfold frame_get.f
 simp only [frame_get.l0]
 have e1 : wrap64 (3 - 1) = 2 := by unfold wrap64; decide
 have e2 : wrap64 (2 - 1) = 1 := by unfold wrap64; decide
 have e3 : wrap64 (1 - 1) = 0 := by unfold wrap64; decide
 have e4 : wrap64 (0 - 1) = -1 := by unfold wrap64; decide
 simp only [e1, e2, e3, e4, bt_rd]
 have hB := Bs.bytesOf s
 have h0 := rd_Bs hB 0; have h1 := rd_Bs hB 1; have h2 := rd_Bs hB 2; have h3 := rd_Bs hB 3
 rw [or_u32 0 (rd (bytesOf s) 3) (by omega) (by omega) h3.1 h3.2, or_u32 _ (rd (bytesOf s) 2) (by omega) (by omega) h2.1 h2.2, or_u32 _ (rd (bytesOf s) 1) (by omega) (by omega) h1.1 h1.2, or_u32 _ (rd (bytesOf s) 0) (by omega) (by omega) h0.1 h0.2]
 rw [if_pos (by omega), if_pos (by omega), if_pos (by omega), if_pos (by omega), if_pos (by omega), if_pos (by omega), if_pos (by omega), if_pos (by omega), if_pos (by omega), if_pos (by omega), if_pos (by omega), if_pos (by omega), if_neg (by omega)]
 unfold num4
 congr 1; omega
theorem frame_next.get_same (s : ByteArray) (w : World) (n : Int) (hs : 4 ≤ s.size) (hn : num4 (bytesOf s) = n) : Calls Try.prog 68 #[.string s] w fun e w' => e = .returned (.int .u32 n) ∧ Below w.heap.size w w' := by
 refine (frame_get.calls 5 s _ w (frame_next.get_f (Nat.le_refl _) hs)).mono ?_
 rintro e w' ⟨rfl, nd, rfl⟩
 exact ⟨by rw [hn], pw_below_drewN (Below.refl _ _) _⟩
set_option maxHeartbeats 400000 in
set_option maxRecDepth 100000 in
theorem frame_next.w1 (s : ByteArray) (w : World) (h : s.size < 4) : Calls Try.prog 50 #[.string s] w fun e w' => e = .returned (.tuple #[.string ⟨#[]⟩, .string s, .bool false, .int .i64 0]) ∧ Below w.heap.size w w' := by
 have d1 : decide ((s.size : Int) < 4) = true := decide_eq_true (by omega)
 have d2 : decide (s.size < 4) = true := decide_eq_true h
 go_enter Try.func50, Try.ntmps50
 go_wp2
 refine bodyPost_ret (results_list (rs := [.tmp 2, .tmp 3, .tmp 4, .tmp 5]) rfl (by simp) (.tmp (.tmp (.tmp (.tmp .nil))))) rfl ?_
 exact ⟨rfl, Below.refl _ _⟩
set_option maxHeartbeats 400000 in
set_option maxRecDepth 100000 in
theorem frame_next.w2 (s : ByteArray) (w : World) (n : Nat) (h : 4 ≤ s.size) (hn : num4 (bytesOf s) = n) (h2 : 1048576 < n) : Calls Try.prog 50 #[.string s] w fun e w' => e = .returned (.tuple #[.string ⟨#[]⟩, .string s, .bool false, .int .i64 8]) ∧ Below w.heap.size w w' := by
 have d1 : decide ((s.size : Int) < 4) = false := decide_eq_false (by omega)
 have d2 : decide (s.size < 4) = false := decide_eq_false (by omega)
 have d3 : decide ((1048576 : Int) < (n : Int)) = true := decide_eq_true (by omega)
 have d4 : decide (1048576 < n) = true := decide_eq_true h2
 have HN := Aside0.mk hn; clear hn
 go_enter Try.func50, Try.ntmps50
 go_wp2_with fail
 refine (frame_next.get_same s w n h HN.out).mono ?_; rintro e w1 ⟨rfl, hb⟩
 go_wp2
 refine bodyPost_ret (results_list (rs := [.tmp 2, .tmp 3, .tmp 4, .tmp 5]) rfl (by simp) (.tmp (.tmp (.tmp (.tmp .nil))))) rfl ?_
 exact ⟨rfl, hb⟩
set_option maxHeartbeats 400000 in
set_option maxRecDepth 100000 in
theorem frame_next.w3 (s : ByteArray) (w : World) (n : Nat) (h : 4 ≤ s.size) (hn : num4 (bytesOf s) = n) (h2 : n ≤ 1048576) (h3 : s.size < 8 + n) : Calls Try.prog 50 #[.string s] w fun e w' => e = .returned (.tuple #[.string ⟨#[]⟩, .string s, .bool false, .int .i64 0]) ∧ Below w.heap.size w w' := by
 have d1 : decide ((s.size : Int) < 4) = false := decide_eq_false (by omega)
 have d2 : decide (s.size < 4) = false := decide_eq_false (by omega)
 have d3 : decide ((1048576 : Int) < (n : Int)) = false := decide_eq_false (by omega)
 have d4 : decide (1048576 < n) = false := decide_eq_false (by omega)
 have d5 : decide ((s.size : Int) < 8 + (n : Int)) = true := decide_eq_true (by omega)
 have d6 : decide (s.size < 8 + n) = true := decide_eq_true h3
 have e1 : wrap64 (n : Int) = (n : Int) := by unfold wrap64; omega
 have e2 : wrap64 (8 + (n : Int)) = 8 + (n : Int) := by unfold wrap64; omega
 have HN := Aside0.mk hn; clear hn
 go_enter Try.func50, Try.ntmps50
 go_wp2_with fail
 refine (frame_next.get_same s w n h HN.out).mono ?_; rintro e w1 ⟨rfl, hb⟩
 go_wp2
 refine bodyPost_ret (results_list (rs := [.tmp 2, .tmp 3, .tmp 4, .tmp 5]) rfl (by simp) (.tmp (.tmp (.tmp (.tmp .nil))))) rfl ?_
 exact ⟨rfl, hb⟩
set_option maxHeartbeats 1000000 in
set_option maxRecDepth 100000 in
theorem frame_next.w4 (s : ByteArray) (w : World) (n m : Nat) (hs : s.size ≤ 4611686018427387904) (h : 4 ≤ s.size) (hn : num4 (bytesOf s) = n) (h2 : n ≤ 1048576) (h3 : 8 + n ≤ s.size) (hm : m = 4 + n) (x : Int) (hx : num4 (bytesOf (s.extract m s.size)) = x) (y : Nat) (hy : crc (bytesOf (s.extract 4 m)) = y) (hxy : (x == (y : Int)) = false) :
  Calls Try.prog 50 #[.string s] w fun e w' => e = .returned (.tuple #[.string ⟨#[]⟩, .string s, .bool false, .int .i64 8]) ∧ Below w.heap.size w w' := by
 have d1 : decide ((s.size : Int) < 4) = false := decide_eq_false (by omega)
 have d2 : decide (s.size < 4) = false := decide_eq_false (by omega)
 have d3 : decide ((1048576 : Int) < (n : Int)) = false := decide_eq_false (by omega)
 have d4 : decide (1048576 < n) = false := decide_eq_false (by omega)
 have d5 : decide ((s.size : Int) < 8 + (n : Int)) = false := decide_eq_false (by omega)
 have d6 : decide (s.size < 8 + n) = false := decide_eq_false (by omega)
 have e1 : wrap64 (n : Int) = (n : Int) := by unfold wrap64; omega
 have e2 : wrap64 (8 + (n : Int)) = 8 + (n : Int) := by unfold wrap64; omega
 have e3 : ((4 : Int) + (n : Int)) % 4294967296 = (m : Int) := by omega
 have e3' : IntKind.u32.wrap ((4 : Int) + (n : Int)) = (m : Int) := by simp [IntKind.wrap, IntKind.bits, IntKind.signed]; omega
 have e4 : ((4 : Int) ≤ (m : Int)) = True := eq_true (by omega)
 have e5 : ((m : Int) ≤ (s.size : Int)) = True := eq_true (by omega)
 have e6 : (4 ≤ m) = True := eq_true (by omega)
 have e7 : (m ≤ s.size) = True := eq_true (by omega)
 have g1 : 4 ≤ (s.extract m s.size).size := by simp; omega
 have g2 : (s.extract 4 m).size ≤ 4611686018427387904 := by simp; omega
 have G1 := Aside0.mk g1; have G2 := Aside0.mk g2; clear g1 g2
 have HN := Aside0.mk hn; have HX := Aside0.mk hx; have HY := Aside0.mk hy; clear hn hx hy hm
 go_enter Try.func50, Try.ntmps50
 go_wp2_with fail
 refine (frame_next.get_same s w n h HN.out).mono ?_; rintro e w1 ⟨rfl, hb⟩
 go_wp2_with fail
 go_quiet (fail)
 go_wp2_with fail
 refine (frame_next.get_same (s.extract m s.size) _ x G1.out HX.out).mono ?_; rintro e w2 ⟨rfl, hb2⟩
 have hb2' := below_then (pw_below_drewN hb _) (pw_below_drewN hb _).size hb2
 go_wp2_with fail
 refine (Sum_calls (s.extract 4 m) _ G2.out).mono ?_; rintro e w3 ⟨rfl, hb3⟩
 have hb3' := below_then hb2' hb2'.size hb3
 rw [HY.out]
 go_wp2
 refine bodyPost_ret (results_list (rs := [.tmp 2, .tmp 3, .tmp 4, .tmp 5]) rfl (by simp) (.tmp (.tmp (.tmp (.tmp .nil))))) rfl ?_
 exact ⟨rfl, hb3'⟩
set_option maxHeartbeats 1000000 in
set_option maxRecDepth 100000 in
theorem frame_next.w5 (s : ByteArray) (w : World) (n m : Nat) (hs : s.size ≤ 4611686018427387904) (h : 4 ≤ s.size) (hn : num4 (bytesOf s) = n) (h2 : n ≤ 1048576) (h3 : 8 + n ≤ s.size) (hm : m = 4 + n) (y : Nat) (hx : num4 (bytesOf (s.extract m s.size)) = y) (hy : crc (bytesOf (s.extract 4 m)) = y) :
  Calls Try.prog 50 #[.string s] w fun e w' => e = .returned (.tuple #[.string (s.extract 4 m), .string ((s.extract m s.size).extract 4 (s.size - m)), .bool true, .int .i64 0]) ∧ Below w.heap.size w w' := by
 have d1 : decide ((s.size : Int) < 4) = false := decide_eq_false (by omega)
 have d2 : decide (s.size < 4) = false := decide_eq_false (by omega)
 have d3 : decide ((1048576 : Int) < (n : Int)) = false := decide_eq_false (by omega)
 have d4 : decide (1048576 < n) = false := decide_eq_false (by omega)
 have d5 : decide ((s.size : Int) < 8 + (n : Int)) = false := decide_eq_false (by omega)
 have d6 : decide (s.size < 8 + n) = false := decide_eq_false (by omega)
 have e1 : wrap64 (n : Int) = (n : Int) := by unfold wrap64; omega
 have e2 : wrap64 (8 + (n : Int)) = 8 + (n : Int) := by unfold wrap64; omega
 have e3 : ((4 : Int) + (n : Int)) % 4294967296 = (m : Int) := by omega
 have e3' : IntKind.u32.wrap ((4 : Int) + (n : Int)) = (m : Int) := by simp [IntKind.wrap, IntKind.bits, IntKind.signed]; omega
 have e4 : ((4 : Int) ≤ (m : Int)) = True := eq_true (by omega)
 have e5 : ((m : Int) ≤ (s.size : Int)) = True := eq_true (by omega)
 have e6 : (4 ≤ m) = True := eq_true (by omega)
 have e7 : (m ≤ s.size) = True := eq_true (by omega)
 have e8 : ((4 : Int) ≤ ((s.size - m : Nat) : Int)) = True := eq_true (by omega)
 have e9 : (4 ≤ s.size - m) = True := eq_true (by omega)
 have e10 : ((4 : Int) ≤ (((s.extract m s.size).size : Nat) : Int)) = True := eq_true (by simp; omega)
 have g1 : 4 ≤ (s.extract m s.size).size := by simp; omega
 have g2 : (s.extract 4 m).size ≤ 4611686018427387904 := by simp; omega
 have G1 := Aside0.mk g1; have G2 := Aside0.mk g2; clear g1 g2
 have HN := Aside0.mk hn; have HX := Aside0.mk hx; have HY := Aside0.mk hy; clear hn hx hy hm
 go_enter Try.func50, Try.ntmps50
 go_wp2_with fail
 refine (frame_next.get_same s w n h HN.out).mono ?_; rintro e w1 ⟨rfl, hb⟩
 go_wp2_with fail
 go_quiet (fail)
 go_wp2_with fail
 refine (frame_next.get_same (s.extract m s.size) _ y G1.out HX.out).mono ?_; rintro e w2 ⟨rfl, hb2⟩
 have hb2' := below_then (pw_below_drewN hb _) (pw_below_drewN hb _).size hb2
 go_wp2_with fail
 refine (Sum_calls (s.extract 4 m) _ G2.out).mono ?_; rintro e w3 ⟨rfl, hb3⟩
 have hb3' := below_then hb2' hb2'.size hb3
 rw [HY.out]
 go_wp2_with fail
 go_quiet (fail)
 go_wp2
 refine bodyPost_ret (results_list (rs := [.tmp 2, .tmp 3, .tmp 4, .tmp 5]) rfl (by simp) (.tmp (.tmp (.tmp (.tmp .nil))))) rfl ?_
 exact ⟨rfl, pw_below_drewN hb3' _⟩
def frame_next.f (a0 : ByteArray) : Option (ByteArray × ByteArray × Bool × Int) := if a0.size ≤ 4611686018427387904 then some (match frI (bytesOf a0) with | .part => (⟨#[]⟩, a0, false, 0) | .bad => (⟨#[]⟩, a0, false, 8) | .whole t r => (strOfNums t, strOfNums r, true, 0)) else none
theorem frame_next.calls (a0 : ByteArray) (r1 r2 : ByteArray) (r3 : Bool) (r4 : Int) (w : World) (h : frame_next.f a0 = some (r1, r2, r3, r4)) :
  Calls Try.prog 50 #[.string a0] w fun e w' => e = .returned (.tuple #[.string r1, .string r2, .bool r3, .int .i64 r4]) ∧ Below w.heap.size w w' := by
 unfold frame_next.f at h
 have hsz := bytesOf_size a0
 have hB := Bs.bytesOf a0
 have hb := num4_bd hB
 split at h
 ·rename_i hs
  unfold frI at h
  split at h
  ·rename_i heq
   split at heq
   ·simp at h; obtain ⟨rfl, rfl, rfl, rfl⟩ := h; exact frame_next.w1 a0 w (by omega)
   ·split at heq
    ·cases heq
    ·split at heq
     ·simp at h; obtain ⟨rfl, rfl, rfl, rfl⟩ := h
      exact frame_next.w3 a0 w (num4 (bytesOf a0)).toNat (by omega) (by omega) (by omega) (by omega)
     ·split at heq <;> cases heq
  ·rename_i heq
   split at heq
   ·cases heq
   ·split at heq
    ·simp at h; obtain ⟨rfl, rfl, rfl, rfl⟩ := h
     exact frame_next.w2 a0 w (num4 (bytesOf a0)).toNat (by omega) (by omega) (by omega)
    ·split at heq
     ·cases heq
     ·split at heq
      ·cases heq
      ·rename_i hne
       simp at h; obtain ⟨rfl, rfl, rfl, rfl⟩ := h
       refine frame_next.w4 a0 w (num4 (bytesOf a0)).toNat _ hs (by omega) (by omega) (by omega) (by omega) rfl _ rfl _ rfl ?_
       rw [beq_eq_false_iff_ne, bytesOf_tail, bytesOf_extract, List.drop_take]
       have e : 4 + (num4 (bytesOf a0)).toNat - 4 = (num4 (bytesOf a0)).toNat := by omega
       rw [e]; exact hne
  ·rename_i t r heq
   split at heq
   ·cases heq
   ·split at heq
    ·cases heq
    ·split at heq
     ·cases heq
     ·split at heq
      ·rename_i heqs
       injection heq with h1 h2
       simp at h; obtain ⟨rfl, rfl, rfl, rfl⟩ := h
       have e : 4 + (num4 (bytesOf a0)).toNat - 4 = (num4 (bytesOf a0)).toNat := by omega
       have E1 : a0.extract 4 (4 + (num4 (bytesOf a0)).toNat) = strOfNums t := by
        apply bytesOf_inj
        rw [← h1, bytesOf_strOfNums ((hB.drop _).take _), bytesOf_extract, List.drop_take, e]
       have E2 : (a0.extract (4 + (num4 (bytesOf a0)).toNat) a0.size).extract 4 (a0.extract (4 + (num4 (bytesOf a0)).toNat) a0.size).size = strOfNums r := by
        apply bytesOf_inj
        rw [← h2, bytesOf_strOfNums (hB.drop _), bytesOf_tail, bytesOf_tail, List.drop_drop]
        congr 1; omega
       have hw := frame_next.w5 a0 w (num4 (bytesOf a0)).toNat (4 + (num4 (bytesOf a0)).toNat) hs (by omega) (by omega) (by omega) (by omega) rfl (crc (bytesOf (a0.extract 4 (4 + (num4 (bytesOf a0)).toNat)))) (by rw [bytesOf_tail, heqs, bytesOf_extract, List.drop_take, e]) rfl
       have E3 : a0.size - (4 + (num4 (bytesOf a0)).toNat) = (a0.extract (4 + (num4 (bytesOf a0)).toNat) a0.size).size := by simp
       rw [E3, E1, E2] at hw
       exact hw
      ·cases heq
 ·exact absurd h (by simp)
def frame_Scan.l0 : Nat → ByteArray → List ByteArray → ByteArray → Option (List ByteArray × Int × Int)
 | 0, _, _, _ => none
 | k + 1, x0, x5, x6 => (frame_next.f x6).bind fun bt420 => (if bt420.2.2.2 = 0 then (if bt420.2.2.1 = true then (if x5.length < 8796093022208 then (frame_Scan.l0 k x0 (x5 ++ [bt420.1]) bt420.2.1) else (none)) else (some (x5, wrap64 ((x0.size : Int) - (x6.size : Int)), 0))) else (some (([] : List ByteArray), 0, bt420.2.2.2)))
def frame_Scan.f (k : Nat) (a0 : ByteArray) : Option (List ByteArray × Int × Int) := frame_Scan.l0 k a0 ([] : List ByteArray) a0
theorem frame_Scan.mono_l : ∀ k, (∀ y0 y1 y2, LeO (frame_Scan.l0 k y0 y1 y2) (frame_Scan.l0 (k + 1) y0 y1 y2))
 | 0 => fun _ _ _ r h => by simp [frame_Scan.l0] at h
 | k + 1 => by
  have ih0 := frame_Scan.mono_l k
  ·intro y0 y1 y2
   unfold frame_Scan.l0
   repeat' first
   | (with_reducible exact ih0 _ _ _)
   | (with_reducible exact LeO.refl _)
   | (with_reducible exact LeO.none _)
   | (with_reducible refine LeO.ite ?_ ?_)
   | (with_reducible refine LeO.bind ?_ (fun _ => ?_))
   | exact ih0 _ _ _
   | exact LeO.none _
   | refine LeO.ite ?_ ?_
   | refine LeO.bind ?_ (fun _ => ?_)
theorem frame_Scan.mono : ∀ a0 k, LeO (frame_Scan.f k a0) (frame_Scan.f (k + 1) a0) := by
 intro a0 k
 have ih0 := frame_Scan.mono_l k
 unfold frame_Scan.f
 repeat' first
   | (with_reducible exact ih0 _ _ _)
   | (with_reducible exact LeO.refl _)
   | (with_reducible exact LeO.none _)
   | (with_reducible refine LeO.ite ?_ ?_)
   | (with_reducible refine LeO.bind ?_ (fun _ => ?_))
   | exact ih0 _ _ _
   | exact LeO.none _
   | refine LeO.ite ?_ ?_
   | refine LeO.bind ?_ (fun _ => ?_)
set_option maxHeartbeats 8000000 in
set_option maxRecDepth 100000 in
theorem frame_Scan.calls (k : Nat) (a0 : ByteArray) (r1 : List ByteArray) (r2 : Int) (r3 : Int) (w : World) (h : frame_Scan.f k a0 = some (r1, r2, r3)) :
  Calls Try.prog 28 #[.string a0] w fun e w' => ∃ v0_ : Value, e = .returned (.tuple #[v0_, .int .i64 r2, .int .i64 r3]) ∧ Kd.R Kd.string 9 w' w.heap.size (fun _ => True) v0_ r1 ∧ Below w.heap.size w w' := by
 have HB := Aside0.mk (Below.refl w.heap.size w)
 have H : (frame_Scan.l0 k a0 ([] : List ByteArray) a0) = some (r1, r2, r3) := h
 clear h
 have H' := Aside0.mk H
 clear H
 go_enter Try.func28, Try.ntmps28
 go_wp2
 go_loopg [5, 6] k (fun kq v5 v6 w' => ∃ (x5_1 : List ByteArray) (x6_1 : ByteArray), v6 = .string x6_1 ∧ Aside0 (frame_Scan.l0 kq a0 x5_1 x6_1 = some (r1, r2, r3)) ∧ Aside0 (kq ≤ k) ∧ Aside0 (Kd.R Kd.string 9 w' w.heap.size (fun _ => True) v5 x5_1) ∧ Aside0 (Below w.heap.size w w'))
 case atStart => exact ⟨(([] : List ByteArray)), (a0), z8_, H', ⟨Nat.le_refl _⟩, ⟨by first | exact Kd.R_nil _ _ _ _ _ | exact Kd.N_nil _ _ _ _ _ | exact Kd.V_nil _ _ _ _ _ | exact Kd.Q_nil _ _ _ _ _ | exact Kd.S_nil _ _ _ _ _⟩, ⟨z0_⟩⟩
 case round =>
  clear H'
  obtain ⟨x5_1, x6_1, rfl, HA, HK1, HO_5, HB⟩ := hrel
  cases gk with
  | zero => exact absurd HA.out (by simp [frame_Scan.l0])
  | succ k1 =>
   have H := HA.out
   clear HA
   simp only [frame_Scan.l0] at H
   replace H := Option.bind_eq_some_iff.mp H
   obtain ⟨⟨t420, t421, t422, t423⟩, A20, H⟩ := H
   replace H : (if t423 = 0 then (if t422 = true then (if x5_1.length < 8796093022208 then (frame_Scan.l0 k1 a0 (x5_1 ++ [t420]) t421) else (none)) else (some (x5_1, wrap64 ((a0.size : Int) - (x6_1.size : Int)), 0))) else (some (([] : List ByteArray), 0, t423))) = some (r1, r2, r3) := H
   have A2 := Aside0.mk A20
   clear A20
   by_cases c3 : t423 = 0
   ·rw [if_pos c3] at H
    have c3b0 : (t423 == 0) = true := beq_iff_eq.mpr c3
    have c3b1 : (t423 != 0) = false := bne_eq_false_iff_eq.mpr c3
    clear c3
    by_cases c4 : t422 = true
    ·subst c4
     have H1 : (if x5_1.length < 8796093022208 then (frame_Scan.l0 k1 a0 (x5_1 ++ [t420]) t421) else (none)) = some (r1, r2, r3) := by rw [if_pos rfl] at H; exact H
     clear H
     have H := H1
     clear H1
     by_cases c5 : x5_1.length < 8796093022208
     ·rw [if_pos c5] at H
      have LMc5 := Aside0.mk c5
      clear c5
      obtain ⟨y424, hy424⟩ : ∃ y_ : List ByteArray, y_ = (x5_1 ++ [t420]) := ⟨_, rfl⟩
      replace H : (frame_Scan.l0 k1 a0 y424 t421) = some (r1, r2, r3) := by first | (rw [hy424]; with_reducible exact H) | (have H2_ := (Option.bind_some _ _).symm.trans H; rw [hy424]; with_reducible exact H2_) | (have H2_ := (Option.bind_some _ _).symm.trans H; with_reducible exact H2_) | with_reducible exact H | (rw [hy424]; exact H) | exact H
      have Ny424 := Aside0.mk hy424
      clear hy424
      have H' := Aside0.mk H
      clear H
      go_wp2_with (first | ((with_reducible refine gate_callee (f := 50) rfl ?_); refine goesL_ (some 14) rfl rfl Try.func50 (by kernel_rfl) rfl #[.string x6_1] rfl (by (try simp only [List.map_toArray, List.map_cons, List.map_nil]); first | done | rfl | (simp only [List.length_drop, List.length_take]; rfl) | (go_simp; simp [IntKind.wrap, IntKind.bits, IntKind.signed]; omega)) ?_; (with_reducible refine (frame_next.calls x6_1 t420 t421 true t423 _ A2.out).mono ?_); rintro e w6 ⟨rfl, hb⟩; refine ⟨_, rfl, ?_⟩; have n0_ := Aside0.mk (Kd.R_below (by (with_reducible repeat (first | apply Kd.R_alloc | apply Kd.R_drewN | apply Kd.R_drew)); exact HO_5.out) hb); have n1_ := Aside0.mk (below_step z0_ hb); clear HO_5; clear HB; have HO_5 := n0_; have HB := n1_; clear n0_ n1_; (try clear hb); (try clear hb2); (try clear hk); (try clear hi)) | ((with_reducible refine gate_builtin (b := .append) (xs := #[.tmp 32, .tmp 34]) rfl ?_); at_builtin; refine Kd.R_append Kd.string (w0 := w) w.heap.size rfl (.tmp 32) (.tmp 34) 58 9 (.string ⟨#[]⟩) 16 rfl Try.underlying58 info9 rfl (by decide) (by omega) u5 x5_1 t420 [.string t420] (fun _ => True) (fun _ => False) rfl rfl ?aP (fun _ hk => hk.elim) ?aF ?aO ?aB ?aS ?aL ?_; (case aP => exact rfl); (case aB => exact z0_); (case aF => exact (fun _ _ => trivial)); (case aO => exact (by (with_reducible repeat (first | apply Kd.R_alloc | apply Kd.R_drewN | apply Kd.R_drew)); exact HO_5.out)); (case aS => exact (below_size z0_)); (case aL => have := LMc5.out; omega); intro v425 w7 ho hb hg hat; rw [← Ny424.out] at ho; have n0_ := Aside0.mk (hb); have n1_ := Aside0.mk (ho); clear HB; clear HO_5; have HB := n0_; have HO426 := n1_; clear n0_ n1_; clear ho hb hg hat))
      go_roundg k1
      case measure => have := HK1.out; omega
      case rel => exact ⟨(y424), (t421), z8_, H', ⟨by have := HK1.out; omega⟩, ⟨by (with_reducible repeat (first | apply Kd.R_alloc | apply Kd.R_drewN | apply Kd.R_drew)); exact HO426.out⟩, ⟨z0_⟩⟩
     ·rw [if_neg c5] at H
      exact absurd H (by simp)
    ·replace c4 := Bool.eq_false_iff.mpr c4
     subst c4
     have H1 : (some (x5_1, wrap64 ((a0.size : Int) - (x6_1.size : Int)), 0)) = some (r1, r2, r3) := by rw [if_neg (show ¬ (false = true) by decide)] at H; exact H
     clear H
     have H := H1
     clear H1
     simp only [Option.some.injEq, Prod.mk.injEq] at H
     obtain ⟨rfl, rfl, rfl⟩ := H
     go_wp2_with (first | ((with_reducible refine gate_callee (f := 50) rfl ?_); refine goesL_ (some 14) rfl rfl Try.func50 (by kernel_rfl) rfl #[.string x6_1] rfl (by (try simp only [List.map_toArray, List.map_cons, List.map_nil]); first | done | rfl | (simp only [List.length_drop, List.length_take]; rfl) | (go_simp; simp [IntKind.wrap, IntKind.bits, IntKind.signed]; omega)) ?_; (with_reducible refine (frame_next.calls x6_1 t420 t421 false t423 _ A2.out).mono ?_); rintro e w8 ⟨rfl, hb⟩; refine ⟨_, rfl, ?_⟩; have n0_ := Aside0.mk (Kd.R_below (by (with_reducible repeat (first | apply Kd.R_alloc | apply Kd.R_drewN | apply Kd.R_drew)); exact HO_5.out) hb); have n1_ := Aside0.mk (below_step z0_ hb); clear HO_5; clear HB; have HO_5 := n0_; have HB := n1_; clear n0_ n1_; (try clear hb); (try clear hb2); (try clear hk); (try clear hi)))
     go_ret3
     exact ⟨_, z3_, by (with_reducible repeat (first | apply Kd.R_alloc | apply Kd.R_drewN | apply Kd.R_drew)); exact HO_5.out, z0_⟩
   ·rw [if_neg c3] at H
    have c3b0 : (t423 == 0) = false := beq_eq_false_iff_ne.mpr c3
    have c3b1 : (t423 != 0) = true := bne_iff_ne.mpr c3
    simp only [Option.some.injEq, Prod.mk.injEq] at H
    obtain ⟨rfl, rfl, rfl⟩ := H
    go_wp2_with (first | ((with_reducible refine gate_callee (f := 50) rfl ?_); refine goesL_ (some 14) rfl rfl Try.func50 (by kernel_rfl) rfl #[.string x6_1] rfl (by (try simp only [List.map_toArray, List.map_cons, List.map_nil]); first | done | rfl | (simp only [List.length_drop, List.length_take]; rfl) | (go_simp; simp [IntKind.wrap, IntKind.bits, IntKind.signed]; omega)) ?_; (with_reducible refine (frame_next.calls x6_1 t420 t421 t422 t423 _ A2.out).mono ?_); rintro e w9 ⟨rfl, hb⟩; refine ⟨_, rfl, ?_⟩; have n0_ := Aside0.mk (Kd.R_below (by (with_reducible repeat (first | apply Kd.R_alloc | apply Kd.R_drewN | apply Kd.R_drew)); exact HO_5.out) hb); have n1_ := Aside0.mk (below_step z0_ hb); clear HO_5; clear HB; have HO_5 := n0_; have HB := n1_; clear n0_ n1_; (try clear hb); (try clear hb2); (try clear hk); (try clear hi)))
    go_ret3
    exact ⟨_, z3_, by first | exact Kd.R_nil _ _ _ _ _ | exact Kd.N_nil _ _ _ _ _ | exact Kd.V_nil _ _ _ _ _ | exact Kd.Q_nil _ _ _ _ _ | exact Kd.S_nil _ _ _ _ _, z0_⟩
def tally_From.f (a0 : ByteArray) : Option (ByteArray × Int) := some (a0, 0)
set_option maxHeartbeats 8000000 in
set_option maxRecDepth 100000 in
theorem tally_From.calls (a0 : ByteArray) (r1 : ByteArray) (r2 : Int) (w0 w : World) (hB : Below w0.heap.size w0 w) (h : tally_From.f a0 = some (r1, r2)) :
  Calls Try.prog 29 #[.string a0] w fun e w' => ∃ g_ : Nat, e = .returned (.pointer (some ⟨g_, 0, none⟩)) ∧ IsS88 w0 w' g_ r1 r2 ∧ Below w0.heap.size w0 w' ∧ Below w.heap.size w w' := by
 have hu88 := Try.underlying88
 have HBW := Aside0.mk (Below.refl w.heap.size w)
 have HW0 := Aside0.mk hB.size
 have HB := Aside0.mk hB
 clear hB
 have H : (some (a0, 0)) = some (r1, r2) := h
 clear h
 simp only [Option.some.injEq, Prod.mk.injEq] at H
 obtain ⟨rfl, rfl⟩ := H
 go_enter Try.func29, Try.ntmps29
 go_wp2_with (first | ((with_reducible refine gate_dst (N := 5) rfl ?_); refine box_event ?hg (N := 5) ?hd (cs := #[.string a0, .int .i64 0]) (t := 88) ?hr ?_; (case hd => rfl); (case hg => rfl); (case hr => first | (go_simp; done) | (go_simp; rfl)); intro gb427 hg w2 hbox hb; have n0_ := Aside0.mk (below_step HBW.out hb); have n1_ := Aside0.mk (below_step z0_ hb); have n2_ := Aside0.mk (hbox); have n3_ := Aside0.mk ((by rw [hg]; exact (below_size (by repeat (first | (with_reducible first | exact HBW.out | apply below_alloc | apply pw_below_drewN | apply below_drew1) | exact HBW.out))) : w.heap.size ≤ gb427)); have n4_ := Aside0.mk ((Nat.le_trans HW0.out (by rw [hg]; exact (below_size (by repeat (first | (with_reducible first | exact HBW.out | apply below_alloc | apply pw_below_drewN | apply below_drew1) | exact HBW.out))) : w.heap.size ≤ gb427) : w0.heap.size ≤ gb427)); clear HBW; clear HB; have HBW := n0_; have HB := n1_; have BK427 := n2_; have GW427 := n3_; have GE427 := n4_; clear n0_ n1_ n2_ n3_ n4_; clear hb hbox hg))
 go_ret
 exact ⟨_, rfl, (show IsS88 w0 _ gb427 a0 0 from ⟨by (with_reducible repeat (first | refine blk_drewN ?_ _ | refine blk_drew ?_ | refine blk_alloc ?_ _)); exact BK427.out, GE427.out⟩), by repeat (first | (with_reducible first | exact HB.out | apply below_alloc | apply pw_below_drewN | apply below_drew1 | refine below_set ?_ GE427.out) | exact HB.out), by repeat (first | (with_reducible first | exact HBW.out | apply below_alloc | apply pw_below_drewN | apply below_drew1 | refine below_set ?_ GW427.out) | exact HBW.out)⟩
end Go.Proofs.Ytagokgijffpdnaa.G
