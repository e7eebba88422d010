import Derived.Test.YtlbcpigjbjolaaaZWWords
import Derived.Test.YtlbcpigjbjolaaaZWMore
import Derived.WalkKit
import Derived.KernelRfl
import Derived.RowKit3
import Derived.Deep.LoopGhost
import Derived.RowKit
import Derived.Test.YtlbcpigjbjolaaaProg
import Derived.Test.YtlbcpigjbjolaaaZWLast
import Derived.Lib.ConvBytes
import Derived.Deep.QuietTactic
import Derived.Deep.CutBlock
import Derived.BigQuiet
import Derived.Laws.BitsAllLaws
import Derived.Laws.Cover1
import Derived.Shelf.SlSortCmp.NoneTotal
import Derived.Test.YtlbcpigjbjolaaaZWQPut
import Derived.Laws.StructEq
import Derived.Below
import Derived.Deep.Draws
import Derived.Deep.AppendLies
import Derived.Maps.AppendAt
import Derived.OwnWalk
import Derived.Laws.BytesArg
import Derived.Laws.MakeOwn
import Derived.Laws.OwnMore
import Derived.Deep.OwnRows
import Derived.Tactics
import Derived.Laws.Slices
import Derived.WideLaws
import Derived.Deep.DeepCutAuto
import Derived.Deep.RegionHeld3
import Derived.Laws.Rows
import Derived.Lib.AppendStr
import Derived.ArgAppend
import Derived.Laws.IdiomCopy
import Derived.OrdersHeld
import Derived.Laws.BitsLemmas
namespace Go.Proofs.YtlbcpigjbjolaaaQ
open Go.RowKit Go.Proofs.YtlbcpigjbjolaaaW.PrintWords
set_option linter.unusedVariables false
set_option linter.unusedSimpArgs false
section
variable {P : Program}
theorem run_append_string_at (w : World) (base : Nat) (t u ty e : TypeId) (i : TypeInfo) (ht : P.underlying t = some (.slice e)) (hu : P.underlying u = some .string) (hi : P.info? e = some i) (hz : i.zero = some (.int .u8 0))
  (hsize : i.size = 1) (hby : i.bytes = 1)
  (v : Value) (n : Nat) (xs : List Value) (hown : w.ownsRow base e 1 v n xs) (s : ByteArray)
  (h63 : n + s.size ≤ maxLen) (hbytes : n + s.size ≤ 140737488355328) (hbase : base ≤ w.heap.size) :
  ∃ v' w', (Builtin.append_ #[t, u] ty #[v, .string s]).run P w = .ok v' w' ∧ w'.ownsRow base e 1 v' (n + s.size) (xs ++ Lib.strCells s) ∧ w.grownBy w' v.ownBlock ∧
   (v'.ownBlock = v.ownBlock ∨ ∃ b, v'.ownBlock = some b ∧ w.heap.size ≤ b) := by
 obtain ⟨v', w', hr, h1, h2, _⟩ := Lib.run_append_own_string (P := P) w base t u ty e i ht hu hi hz hsize hby v n xs hown s h63 hbytes hbase
 refine ⟨v', w', hr, h1, h2, ?_⟩
 have hsmall : n + s.size ≤ 9223372036854775807 := by simp only [maxLen] at h63; omega
 have hxl : xs.length = n := by simpa using hown.1
 rcases hown.2 with ⟨rfl, rfl⟩ | ⟨g, cap, cur, rfl, hbg, hg, hnc, hcm, hcs, htake⟩
 ·have hx : xs = [] := List.eq_nil_of_length_eq_zero hxl
  subst hx
  obtain ⟨v2, w2, hr2, h12, _, _⟩ := Lib.run_append_own_string (P := P) w w.heap.size t u ty e i ht hu hi hz hsize hby (.slice none 0 0) 0 [] (World.ownsRow_nil w w.heap.size e 1) s h63 hbytes (Nat.le_refl _)
  rw [hr] at hr2
  injection hr2 with e1 e2
  subst e1 e2
  cases hv : v'.ownBlock with
  | none => left; rfl
  | some k => right; exact ⟨k, rfl, own_base h12 k hv⟩
 ·by_cases hroom : n + s.size ≤ cap
  ·have hcs' : cur.size = cap := by simpa using hcs
   have hr2 := Lib.run_append_room_string (P := P) w t u ty e i ht hu hi hsize g n cap cur hg s hroom (by omega)
   rw [hr] at hr2
   injection hr2 with e1 e2
   subst e1
   left; rfl
  ·have holds : ∀ j u, xs[j]? = some u → w.cell? ((⟨g, 0, none⟩ : Addr).add j) = some u := hown.cells (g := g) rfl
   have hr2 := Lib.run_append_grow_string (P := P) w t u ty e i (.int .u8 0) ht hu hi hz ⟨g, 0, none⟩ n cap xs (by rw [hsize]; simpa using hxl) holds s (by omega) (by omega) (by rw [hby]; exact growslice_fits (by omega) (by omega))
   rw [hr] at hr2
   injection hr2 with e1 e2
   subst e1
   right; exact ⟨w.heap.size, rfl, Nat.le_refl _⟩
end
section
variable {P : Program} {ops : Array Oper} {rest : List Oper} {o : Oper} {a : Act} {Q : Exit → Act → World → Prop}
theorem R_append_str {w0 W : World} (base : Nat) (hgd : o.guard = none) (s x : Operand) (t u e : TypeId)
  (ho : o.op = .call { callee := .builtin .append, args := #[s, x], argTypes := #[t, u] })
  (ht : P.underlying t = some (.slice e)) (hu : P.underlying u = some .string) (hinfo : (P.info? e).map (fun i => (i.zero, i.size, i.bytes)) = some (some (.int .u8 0), 1, 1))
  (v : Value) (xs : List Int) (y : ByteArray) (ok : Nat → Prop) (hs : a.eval s = v) (hx : a.eval x = .string y) (hfresh : ∀ k, W.heap.size ≤ k → ok k)
  (HO : (Kd.int .u8).R e W base ok v xs) (HB : Below base w0 W) (hbase : base ≤ W.heap.size) (hl : xs.length + y.size ≤ 140737488355328)
  (h : ∀ v1 w1, (Kd.int .u8).R e w1 base ok v1 (xs ++ bytesOf y) → Below base w0 w1 → W.grownBy w1 v.ownBlock → (v1.ownBlock = v.ownBlock ∨ ∃ b, v1.ownBlock = some b ∧ W.heap.size ≤ b) → wpList P ops Q rest (a.put o.dst v1) w1) :
  wpList P ops Q (o :: rest) a W := by
 obtain ⟨i0, hi, hzz⟩ := Option.map_eq_some_iff.1 hinfo
 simp only [Prod.mk.injEq] at hzz
 obtain ⟨hz0, hz1, hz2⟩ := hzz
 have hown := Kd.own_of_R HO
 refine wpList_plain hgd fun K hK => ?_
 obtain ⟨v', w', hr, h2, h3, h5⟩ := run_append_string_at (P := P) W base t u o.type e i0 ht hu hi hz0 hz1 hz2 v xs.length (encs (Value.int .u8) xs) hown y (by simp only [maxLen]; omega) hl hbase
 unfold Oper.wp execOp
 simp only [ho, resolve, invoke, builtin, Sem.run_bind, Sem.run_pure, Result.andThen_ok, List.map_toArray, List.map_cons, List.map_nil, hs, hx, hr]
 have hc : encs (Value.int .u8) xs ++ Lib.strCells y = encs (Value.int .u8) (xs ++ bytesOf y) := by
  simp [encs, bytesOf, Lib.strCells]
 have hl2 : (xs ++ bytesOf y).length = xs.length + y.size := by rw [List.length_append, bytesOf_length]
 rw [hc, ← hl2] at h2
 refine hK _ _ (h v' w' (Kd.R_of_own (h1 := fun _ => rfl) h2 (fun k hk => ?_)) (HB.grown h3 hbase (own_base hown)) h3 h5)
 rcases h5 with h5 | ⟨b, h5, h6⟩
 ·exact HO.1 k (h5 ▸ hk)
 ·rw [h5] at hk
  cases hk
  exact hfresh _ h6
end
end Go.Proofs.YtlbcpigjbjolaaaQ
namespace Go.Proofs.YtlbcpigjbjolaaaQ
open Go.Proofs.YtlbcpigjbjolaaaW.PrintWords
set_option linter.unusedVariables false
set_option linter.unusedSimpArgs false
def cbit (r : Nat) : Nat := if r % 2 = 1 then (r / 2) ^^^ 2197175160 else r / 2
def cbits : Nat → Nat → Nat
 | 0, r => r
 | n + 1, r => cbits n (cbit r)
theorem cbit_xor (a b : Nat) : cbit (a ^^^ b) = cbit a ^^^ cbit b := by
 have h1 : (a ^^^ b) / 2 = (a / 2) ^^^ (b / 2) := Nat.xor_div_two
 have h2 : (a ^^^ b) % 2 = (a % 2) ^^^ (b % 2) := Nat.xor_mod_two_pow (n := 1)
 unfold cbit
 rw [h1, h2]
 rcases Nat.mod_two_eq_zero_or_one a with ha | ha <;> rcases Nat.mod_two_eq_zero_or_one b with hb | hb <;> simp only [ha, hb]
 ·rfl
 ·rw [if_pos (by decide), if_neg (by decide), if_pos trivial, Nat.xor_assoc]
 ·rw [if_pos (by decide), if_pos trivial, if_neg (by decide), Nat.xor_assoc, Nat.xor_assoc, Nat.xor_comm (b / 2)]
 ·rw [if_neg (by decide), if_pos trivial, if_pos trivial]
  have : (a / 2 ^^^ 2197175160) ^^^ (b / 2 ^^^ 2197175160) = (a / 2 ^^^ b / 2) ^^^ (2197175160 ^^^ 2197175160) := by
   rw [Nat.xor_assoc, ← Nat.xor_assoc 2197175160, Nat.xor_comm 2197175160 (b / 2), Nat.xor_assoc (b / 2), ← Nat.xor_assoc]
  rw [this, Nat.xor_self, Nat.xor_zero]
theorem cbit_lt {r : Nat} (h : r < 4294967296) : cbit r < 4294967296 := by
 unfold cbit; split
 ·exact Nat.xor_lt_two_pow (n := 32) (by omega) (by omega)
 ·omega
theorem cbits_xor (n : Nat) : ∀ a b : Nat, cbits n (a ^^^ b) = cbits n a ^^^ cbits n b := by
 induction n with
 | zero => intro a b; rfl
 | succ n ih => intro a b; simp only [cbits]; rw [cbit_xor, ih]
theorem cbits_lt (n : Nat) : ∀ {r : Nat}, r < 4294967296 → cbits n r < 4294967296 := by
 induction n with
 | zero => intro r h; exact h
 | succ n ih => intro r h; exact ih (cbit_lt h)
theorem cbits_add (n m : Nat) : ∀ r, cbits (n + m) r = cbits m (cbits n r) := by
 induction n with
 | zero => intro r; simp [cbits]
 | succ n ih => intro r; rw [Nat.succ_add]; simp only [cbits]; rw [ih]
theorem cbits_shift (n : Nat) : ∀ q, cbits n (q * 2 ^ n) = q := by
 induction n with
 | zero => intro q; simp [cbits]
 | succ n ih =>
  intro q
  simp only [cbits]
  have e : cbit (q * 2 ^ (n + 1)) = q * 2 ^ n := by
   unfold cbit
   rw [Nat.pow_succ, ← Nat.mul_assoc, if_neg (by omega)]; omega
  rw [e, ih]
theorem split_low (n r : Nat) : r = (r / 2 ^ n * 2 ^ n) ^^^ (r % 2 ^ n) := by
 apply Nat.eq_of_testBit_eq
 intro i
 rw [Nat.testBit_xor, Nat.testBit_mul_two_pow, Nat.testBit_div_two_pow, Nat.testBit_mod_two_pow]
 by_cases h : n ≤ i
 ·have : ¬ i < n := by omega
  simp [h, this]
 ·have : i < n := by omega
  simp [h, this]
theorem cbits_split (n r : Nat) : cbits n r = (r / 2 ^ n) ^^^ cbits n (r % 2 ^ n) := by
 have h := split_low n r
 have e : cbits n r = cbits n ((r / 2 ^ n * 2 ^ n) ^^^ (r % 2 ^ n)) := by rw [← h]
 rw [e, cbits_xor, cbits_shift]
def creg (r : Nat) (l : List Nat) : Nat := l.foldl (fun r b => cbits 8 (r ^^^ b)) r
def nats (l : List Int) : List Nat := l.map Int.toNat
def crc (l : List Int) : Nat := 4294967295 - creg 4294967295 (nats l)
theorem creg_lt (l : List Nat) : ∀ {r : Nat}, r < 4294967296 → (∀ b ∈ l, b < 256) → creg r l < 4294967296 := by
 induction l with
 | nil => intro r h _; exact h
 | cons b l ih =>
  intro r h hb
  exact ih (cbits_lt 8 (Nat.xor_lt_two_pow (n := 32) (by omega) (by have := hb b List.mem_cons_self; omega))) (fun c hc => hb c (List.mem_cons_of_mem _ hc))
theorem nats_lt {l : List Int} (h : Bs l) : ∀ b ∈ nats l, b < 256 := by
 intro b hb
 obtain ⟨x, hx, rfl⟩ := List.mem_map.1 hb
 have := h x hx
 omega
theorem creg_snoc (r : Nat) (l : List Nat) (b : Nat) : creg r (l ++ [b]) = cbits 8 (creg r l ^^^ b) := by simp [creg]
def tab4 (i : Nat) : Nat := cbits 4 i
theorem cbits4 (r : Nat) : cbits 4 r = (r / 16) ^^^ tab4 (r % 16) := cbits_split 4 r
theorem x32 (a b : Nat) (ha : a < 4294967296) (hb : b < 4294967296) : Go.bits .xor .u32 (a : Int) (b : Int) = ((a ^^^ b : Nat) : Int) := Go.u32_xor_nat a b ha hb
theorem x32_lt {a b : Nat} (ha : a < 4294967296) (hb : b < 4294967296) : a ^^^ b < 4294967296 := Nat.xor_lt_two_pow (n := 32) (by omega) (by omega)
theorem crc_lt {l : List Int} (h : Bs l) : crc l < 4294967296 := by unfold crc; omega
end Go.Proofs.YtlbcpigjbjolaaaQ
namespace Go.Proofs.Ytlbcpigjbjolaaa.G
open Go.RowKit Go.Proofs.YtlbcpigjbjolaaaQ Go.Proofs.YtlbcpigjbjolaaaW.PrintWords Go.Proofs.YtlbcpigjbjolaaaW.PrintLast Go.Proofs.YtlbcpigjbjolaaaW.PrintMore
set_option linter.unusedVariables false
set_option linter.unusedSimpArgs false
def tabV (n : Nat) : Array Value := ((List.range 16).map fun i => Value.int .u32 (if i < n then (tab4 i : Int) else 0)).toArray
theorem tabV_get {n i : Nat} (hi : i < 16) : (tabV n)[i]? = some (Value.int .u32 (if i < n then (tab4 i : Int) else 0)) := by
 unfold tabV
 rw [List.getElem?_toArray, List.getElem?_map, List.getElem?_range hi]; rfl
theorem tabV_set {i : Nat} (hi : i < 16) : (tabV i).setIfInBounds i (.int .u32 (tab4 i : Int)) = tabV (i + 1) := by
 unfold tabV
 rw [List.setIfInBounds_toArray]
 congr 1
 apply List.ext_getElem?
 intro j
 rw [List.getElem?_set, List.getElem?_map, List.getElem?_map]
 by_cases hj : j < 16
 ·rw [List.getElem?_range hj]
  by_cases e : i = j
  ·subst e
   simp [hi]
  ·have : j < i + 1 ↔ j < i := by omega
   simp [e, this]
 ·have e : ¬ i = j := by omega
  rw [List.getElem?_eq_none (by simp; omega)]
  simp [e]
def HalfW (w wx : World) (i : Nat) : Prop := wx.heap[w.heap.size]? = some (.cells (tabV 0) 85 (0, 0)) ∧ wx.heap[w.heap.size + 1]? = some (.cells (tabV i) 85 (0, 0)) ∧ Below w.heap.size w wx
theorem HalfW.cell {w wx : World} {i : Nat} (h : HalfW w wx i) {j : Nat} (hj : j < 16) : wx.cell? ⟨w.heap.size + 1, j, none⟩ = some (Value.int .u32 (if j < i then (tab4 j : Int) else 0)) := (blk_cell h.2.1 j).trans (tabV_get hj)
theorem HalfW.frozen {w wx : World} {i : Nat} (h : HalfW w wx i) (j : Nat) : wx.frozen? ⟨w.heap.size + 1, j, none⟩ = false := blk_frozen h.2.1 j
theorem HalfW.set {w wx : World} {i : Nat} (h : HalfW w wx i) (hi : i < 16) : HalfW w (wx.setCell ⟨w.heap.size + 1, i, none⟩ (.int .u32 (tab4 i : Int))) (i + 1) := by
 refine ⟨?_, ?_, below_set h.2.2 (by omega)⟩
 ·rw [Below.heap_setCell wx ⟨w.heap.size + 1, i, none⟩ _ _ (show w.heap.size ≠ w.heap.size + 1 by omega)]; exact h.1
 ·have := blk_set h.2.1 i (.int .u32 (tab4 i : Int))
  rw [← tabV_set hi]
  simpa using this
def tabL : List Int := [0, 274646895, 549293790, 820201905, 1098587580, 1361435347, 1640403810, 1905808397, 2197175160, 2460548119, 2722870694, 2987750089, 3280807620, 3553878443, 3811616794, 4084100981]
theorem tabL_is : (List.range 16).map (fun i => (tab4 i : Int)) = tabL := by decide
theorem tabV16 : tabV 16 = (tabL.map (Value.int .u32)).toArray := by
 rw [← tabL_is]; rfl
theorem and1 (r : Nat) (h : r < 4294967296) : Go.bits .and .u32 (r : Int) 1 = (r : Int) % 2 := by
 have := Go.u32_and_nat r 1 h (by omega)
 rw [Nat.and_one_is_mod] at this
 have e : ((1 : Nat) : Int) = 1 := rfl
 rw [← e, this]; omega
set_option maxHeartbeats 1000000 in
set_option maxRecDepth 100000 in
theorem half_calls (w : World) : Calls Try.prog 56 #[] w fun e w' => e = .returned (.agg (tabV 16)) ∧ Below w.heap.size w w' := by
 go_enter Try.func56, Try.ntmps56
 go_wp2
 go_loopg [4] 16 (fun g s4 wx => ∃ i : Nat, i ≤ 16 ∧ g = 16 - i ∧ s4 = .int .i64 i ∧ Aside0 (HalfW w wx i))
 case atStart =>
  refine ⟨0, by omega, by omega, rfl, ⟨?_, ?_, ?_⟩⟩
  ·exact blk_alloc (blk_new w _) _
  ·have h := blk_new (w.alloc (.cells (tabV 0) 85 (0, 0))) (.cells (tabV 0) 85 (0, 0))
   rw [show (w.alloc (.cells (tabV 0) 85 (0, 0))).heap.size = w.heap.size + 1 from Array.size_push _] at h
   exact h
  ·exact below_alloc (below_alloc (Below.refl _ _) _) _
 case round =>
  obtain ⟨i, hi, rfl, rfl, HW⟩ := hrel
  by_cases hlt : i < 16
  ·obtain ⟨g1, hg1⟩ : ∃ g1, 16 - i = g1 + 1 := ⟨16 - i - 1, by omega⟩
   have h1 : decide ((i : Int) < 16) = true := decide_eq_true (by omega)
   have h2 : decide (i < 16) = true := decide_eq_true hlt
   have h3 : IntKind.u32.wrap (i : Int) = (i : Int) := by simp [IntKind.wrap, IntKind.bits, IntKind.signed]; omega
   have h4 : (i : Int) % 4294967296 = (i : Int) := by omega
   have HLT := Aside0.mk hlt; clear hlt
   have hcell := HW.out.cell HLT.out
   rw [if_neg (by omega)] at hcell
   have hfz := HW.out.frozen i
   obtain ⟨wo, hwo⟩ : ∃ wo : World, wo = wr := ⟨_, rfl⟩
   subst hwo
   go_wp2
   go_loopg [9, 3] 4 (fun g s9 s3 wx => wx = wo ∧ ∃ k : Nat, k ≤ 4 ∧ g = 4 - k ∧ s9 = .int .i64 k ∧ s3 = .int .u32 ((cbits k i : Nat) : Int))
   case atStart => exact ⟨rfl, 0, by omega, by omega, rfl, by go_num⟩
   case round =>
    obtain ⟨rfl, k, hk, rfl, rfl, rfl⟩ := hrel
    by_cases klt : k < 4
    ·obtain ⟨g2, hg2⟩ : ∃ g2, 4 - k = g2 + 1 := ⟨4 - k - 1, by omega⟩
     have k1 : decide ((k : Int) < 4) = true := decide_eq_true (by omega)
     have k2 : decide (k < 4) = true := decide_eq_true klt
     have hr := cbits_lt k (r := i) (by have := HLT.out; omega)
     have hs : cbits (k + 1) i = cbit (cbits k i) := by rw [cbits_add]; rfl
     have HS := Aside0.mk hs; clear hs
     generalize cbits k i = r at *
     have a1 := and1 r hr
     by_cases p : r % 2 = 1
     ·have e1 : ((r : Int) % 2 == 1) = true := by rw [beq_iff_eq]; omega
      have x1 : Go.bits .xor .u32 ((r : Int) / 2) 2197175160 = ((cbit r : Nat) : Int) := by
       have h := x32 (r / 2) 2197175160 (by omega) (by omega)
       rw [Int.natCast_ediv] at h
       unfold cbit; rw [if_pos p]; exact h
      clear p
      go_wp2
      go_roundg g2
      case measure => omega
      case rel => exact ⟨rfl, k + 1, by omega, by omega, by go_num, by rw [HS.out]⟩
     ·have e1 : ((r : Int) % 2 == 1) = false := by rw [beq_eq_false_iff_ne]; omega
      have x1 : ((r : Int) / 2) = ((cbit r : Nat) : Int) := by unfold cbit; rw [if_neg p]; omega
      have X1 := Aside0.mk x1; clear x1
      clear p
      go_wp2
      go_roundg g2
      case measure => omega
      case rel => exact ⟨rfl, k + 1, by omega, by omega, by go_num, by rw [HS.out, X1.out]⟩
    ·have k1 : decide ((k : Int) < 4) = false := decide_eq_false (by omega)
     have k2 : decide (k < 4) = false := decide_eq_false klt
     have e : k = 4 := by omega
     subst e
     have i1 : (i : Int) < 16 := by have := HLT.out; omega
     have i2 : (0 : Int) ≤ (i : Int) := by omega
     have i3 := HLT.out
     replace i1 := eq_true i1
     replace i2 := eq_true i2
     replace i3 := eq_true i3
     clear klt
     have hn := HW.out.set HLT.out
     have HN := Aside0.mk hn; clear hn
     have HE := Aside0.mk (show tab4 i = cbits 4 i from rfl)
     go_wp2
     go_roundg g1
     case measure => omega
     case rel => exact ⟨i + 1, by have := HLT.out; omega, by omega, by go_num, HN⟩
  ·have h1 : decide ((i : Int) < 16) = false := decide_eq_false (by omega)
   have h2 : decide (i < 16) = false := decide_eq_false hlt
   have e : i = 16 := by omega
   subst e
   clear hlt hi h1 h2
   have HV := HW.out.2.1
   rw [tabV16] at HV
   have HZ := HW.out.1
   have c0 : wr.cell? ⟨w.heap.size + 1, 0, none⟩ = some (.int .u32 0) := (blk_cell HV 0).trans rfl
   have c1 : wr.cell? ⟨w.heap.size + 1, 1, none⟩ = some (.int .u32 274646895) := (blk_cell HV 1).trans rfl
   have c2 : wr.cell? ⟨w.heap.size + 1, 2, none⟩ = some (.int .u32 549293790) := (blk_cell HV 2).trans rfl
   have c3 : wr.cell? ⟨w.heap.size + 1, 3, none⟩ = some (.int .u32 820201905) := (blk_cell HV 3).trans rfl
   have c4 : wr.cell? ⟨w.heap.size + 1, 4, none⟩ = some (.int .u32 1098587580) := (blk_cell HV 4).trans rfl
   have c5 : wr.cell? ⟨w.heap.size + 1, 5, none⟩ = some (.int .u32 1361435347) := (blk_cell HV 5).trans rfl
   have c6 : wr.cell? ⟨w.heap.size + 1, 6, none⟩ = some (.int .u32 1640403810) := (blk_cell HV 6).trans rfl
   have c7 : wr.cell? ⟨w.heap.size + 1, 7, none⟩ = some (.int .u32 1905808397) := (blk_cell HV 7).trans rfl
   have c8 : wr.cell? ⟨w.heap.size + 1, 8, none⟩ = some (.int .u32 2197175160) := (blk_cell HV 8).trans rfl
   have c9 : wr.cell? ⟨w.heap.size + 1, 9, none⟩ = some (.int .u32 2460548119) := (blk_cell HV 9).trans rfl
   have c10 : wr.cell? ⟨w.heap.size + 1, 10, none⟩ = some (.int .u32 2722870694) := (blk_cell HV 10).trans rfl
   have c11 : wr.cell? ⟨w.heap.size + 1, 11, none⟩ = some (.int .u32 2987750089) := (blk_cell HV 11).trans rfl
   have c12 : wr.cell? ⟨w.heap.size + 1, 12, none⟩ = some (.int .u32 3280807620) := (blk_cell HV 12).trans rfl
   have c13 : wr.cell? ⟨w.heap.size + 1, 13, none⟩ = some (.int .u32 3553878443) := (blk_cell HV 13).trans rfl
   have c14 : wr.cell? ⟨w.heap.size + 1, 14, none⟩ = some (.int .u32 3811616794) := (blk_cell HV 14).trans rfl
   have c15 : wr.cell? ⟨w.heap.size + 1, 15, none⟩ = some (.int .u32 4084100981) := (blk_cell HV 15).trans rfl
   have z0 : wr.cell? ⟨w.heap.size, 0, none⟩ = some (.int .u32 0) := (blk_cell HZ 0).trans rfl
   have f0 := blk_frozen HZ 0
   have z1 : wr.cell? ⟨w.heap.size, 1, none⟩ = some (.int .u32 0) := (blk_cell HZ 1).trans rfl
   have f1 := blk_frozen HZ 1
   have z2 : wr.cell? ⟨w.heap.size, 2, none⟩ = some (.int .u32 0) := (blk_cell HZ 2).trans rfl
   have f2 := blk_frozen HZ 2
   have z3 : wr.cell? ⟨w.heap.size, 3, none⟩ = some (.int .u32 0) := (blk_cell HZ 3).trans rfl
   have f3 := blk_frozen HZ 3
   have z4 : wr.cell? ⟨w.heap.size, 4, none⟩ = some (.int .u32 0) := (blk_cell HZ 4).trans rfl
   have f4 := blk_frozen HZ 4
   have z5 : wr.cell? ⟨w.heap.size, 5, none⟩ = some (.int .u32 0) := (blk_cell HZ 5).trans rfl
   have f5 := blk_frozen HZ 5
   have z6 : wr.cell? ⟨w.heap.size, 6, none⟩ = some (.int .u32 0) := (blk_cell HZ 6).trans rfl
   have f6 := blk_frozen HZ 6
   have z7 : wr.cell? ⟨w.heap.size, 7, none⟩ = some (.int .u32 0) := (blk_cell HZ 7).trans rfl
   have f7 := blk_frozen HZ 7
   have z8 : wr.cell? ⟨w.heap.size, 8, none⟩ = some (.int .u32 0) := (blk_cell HZ 8).trans rfl
   have f8 := blk_frozen HZ 8
   have z9 : wr.cell? ⟨w.heap.size, 9, none⟩ = some (.int .u32 0) := (blk_cell HZ 9).trans rfl
   have f9 := blk_frozen HZ 9
   have z10 : wr.cell? ⟨w.heap.size, 10, none⟩ = some (.int .u32 0) := (blk_cell HZ 10).trans rfl
   have f10 := blk_frozen HZ 10
   have z11 : wr.cell? ⟨w.heap.size, 11, none⟩ = some (.int .u32 0) := (blk_cell HZ 11).trans rfl
   have f11 := blk_frozen HZ 11
   have z12 : wr.cell? ⟨w.heap.size, 12, none⟩ = some (.int .u32 0) := (blk_cell HZ 12).trans rfl
   have f12 := blk_frozen HZ 12
   have z13 : wr.cell? ⟨w.heap.size, 13, none⟩ = some (.int .u32 0) := (blk_cell HZ 13).trans rfl
   have f13 := blk_frozen HZ 13
   have z14 : wr.cell? ⟨w.heap.size, 14, none⟩ = some (.int .u32 0) := (blk_cell HZ 14).trans rfl
   have f14 := blk_frozen HZ 14
   have z15 : wr.cell? ⟨w.heap.size, 15, none⟩ = some (.int .u32 0) := (blk_cell HZ 15).trans rfl
   have f15 := blk_frozen HZ 15
   have HB := Aside0.mk HW.out.2.2
   have HV' := Aside0.mk HV; have HZ' := Aside0.mk HZ; clear HV HZ HW
   go_wp2
   have y := HZ'.out
   replace y := blk_set y 0 (.int .u32 0)
   replace y := blk_set y 1 (.int .u32 274646895)
   replace y := blk_set y 2 (.int .u32 549293790)
   replace y := blk_set y 3 (.int .u32 820201905)
   replace y := blk_set y 4 (.int .u32 1098587580)
   replace y := blk_set y 5 (.int .u32 1361435347)
   replace y := blk_set y 6 (.int .u32 1640403810)
   replace y := blk_set y 7 (.int .u32 1905808397)
   replace y := blk_set y 8 (.int .u32 2197175160)
   replace y := blk_set y 9 (.int .u32 2460548119)
   replace y := blk_set y 10 (.int .u32 2722870694)
   replace y := blk_set y 11 (.int .u32 2987750089)
   replace y := blk_set y 12 (.int .u32 3280807620)
   replace y := blk_set y 13 (.int .u32 3553878443)
   replace y := blk_set y 14 (.int .u32 3811616794)
   replace y := blk_set y 15 (.int .u32 4084100981)
   have hbw := HB.out
   replace hbw := below_set (j := 0) (v := (.int .u32 0)) hbw (Nat.le_refl _)
   replace hbw := below_set (j := 1) (v := (.int .u32 274646895)) hbw (Nat.le_refl _)
   replace hbw := below_set (j := 2) (v := (.int .u32 549293790)) hbw (Nat.le_refl _)
   replace hbw := below_set (j := 3) (v := (.int .u32 820201905)) hbw (Nat.le_refl _)
   replace hbw := below_set (j := 4) (v := (.int .u32 1098587580)) hbw (Nat.le_refl _)
   replace hbw := below_set (j := 5) (v := (.int .u32 1361435347)) hbw (Nat.le_refl _)
   replace hbw := below_set (j := 6) (v := (.int .u32 1640403810)) hbw (Nat.le_refl _)
   replace hbw := below_set (j := 7) (v := (.int .u32 1905808397)) hbw (Nat.le_refl _)
   replace hbw := below_set (j := 8) (v := (.int .u32 2197175160)) hbw (Nat.le_refl _)
   replace hbw := below_set (j := 9) (v := (.int .u32 2460548119)) hbw (Nat.le_refl _)
   replace hbw := below_set (j := 10) (v := (.int .u32 2722870694)) hbw (Nat.le_refl _)
   replace hbw := below_set (j := 11) (v := (.int .u32 2987750089)) hbw (Nat.le_refl _)
   replace hbw := below_set (j := 12) (v := (.int .u32 3280807620)) hbw (Nat.le_refl _)
   replace hbw := below_set (j := 13) (v := (.int .u32 3553878443)) hbw (Nat.le_refl _)
   replace hbw := below_set (j := 14) (v := (.int .u32 3811616794)) hbw (Nat.le_refl _)
   replace hbw := below_set (j := 15) (v := (.int .u32 4084100981)) hbw (Nat.le_refl _)
   have y' := y.trans (congrArg (fun t => some (Obj.cells t 85 (0, 0))) (show _ = tabV 16 by rw [tabV16]; rfl))
   clear y
   have d0 := (blk_cell y' 0).trans (show _ = some (Value.int .u32 0) by rw [tabV16]; rfl)
   have d1 := (blk_cell y' 1).trans (show _ = some (Value.int .u32 274646895) by rw [tabV16]; rfl)
   have d2 := (blk_cell y' 2).trans (show _ = some (Value.int .u32 549293790) by rw [tabV16]; rfl)
   have d3 := (blk_cell y' 3).trans (show _ = some (Value.int .u32 820201905) by rw [tabV16]; rfl)
   have d4 := (blk_cell y' 4).trans (show _ = some (Value.int .u32 1098587580) by rw [tabV16]; rfl)
   have d5 := (blk_cell y' 5).trans (show _ = some (Value.int .u32 1361435347) by rw [tabV16]; rfl)
   have d6 := (blk_cell y' 6).trans (show _ = some (Value.int .u32 1640403810) by rw [tabV16]; rfl)
   have d7 := (blk_cell y' 7).trans (show _ = some (Value.int .u32 1905808397) by rw [tabV16]; rfl)
   have d8 := (blk_cell y' 8).trans (show _ = some (Value.int .u32 2197175160) by rw [tabV16]; rfl)
   have d9 := (blk_cell y' 9).trans (show _ = some (Value.int .u32 2460548119) by rw [tabV16]; rfl)
   have d10 := (blk_cell y' 10).trans (show _ = some (Value.int .u32 2722870694) by rw [tabV16]; rfl)
   have d11 := (blk_cell y' 11).trans (show _ = some (Value.int .u32 2987750089) by rw [tabV16]; rfl)
   have d12 := (blk_cell y' 12).trans (show _ = some (Value.int .u32 3280807620) by rw [tabV16]; rfl)
   have d13 := (blk_cell y' 13).trans (show _ = some (Value.int .u32 3553878443) by rw [tabV16]; rfl)
   have d14 := (blk_cell y' 14).trans (show _ = some (Value.int .u32 3811616794) by rw [tabV16]; rfl)
   have d15 := (blk_cell y' 15).trans (show _ = some (Value.int .u32 4084100981) by rw [tabV16]; rfl)
   clear y'
   clear c0 z0 f0 c1 z1 f1 c2 z2 f2 c3 z3 f3 c4 z4 f4 c5 z5 f5 c6 z6 f6 c7 z7 f7 c8 z8 f8 c9 z9 f9 c10 z10 f10 c11 z11 f11 c12 z12 f12 c13 z13 f13 c14 z14 f14 c15 z15 f15
   generalize World.setCell _ _ _ = W at *
   refine bodyPost_ret (v := .agg (tabV 16)) ?_ rfl ⟨rfl, hbw⟩
   rw [tabV16]
   simp [results, Try.results56, go_sem, *]
   rfl
end Go.Proofs.Ytlbcpigjbjolaaa.G
namespace Go.Proofs.Ytlbcpigjbjolaaa.G
open Go.RowKit Go.Proofs.YtlbcpigjbjolaaaQ Go.Proofs.YtlbcpigjbjolaaaW.PrintWords Go.Proofs.YtlbcpigjbjolaaaW.PrintLast Go.Proofs.YtlbcpigjbjolaaaW.PrintMore
set_option linter.unusedVariables false
set_option linter.unusedSimpArgs false
theorem and15 (r : Nat) (h : r < 4294967296) : Go.bits .and .u32 (r : Int) 15 = ((r % 16 : Nat) : Int) := by
 have := Go.u32_and_nat r 15 h (by omega)
 have e2 : r &&& 15 = r % 16 := Nat.and_two_pow_sub_one_eq_mod r 4
 rw [e2] at this
 exact this
theorem half_one (r : Nat) : (r / 16) ^^^ tab4 (r % 16) = cbits 4 r := (cbits4 r).symm
theorem tab_cell {W : World} {g : Nat} (h : W.heap[g]? = some (.cells (tabV 16) 85 (0, 0))) {m : Nat} (hm : m < 16) : W.cell? ⟨g, m, none⟩ = some (.int .u32 ((tab4 m : Nat) : Int)) := by
 have := (blk_cell h m).trans (tabV_get hm)
 rwa [if_pos hm] at this
theorem not32 (r : Nat) (h : r < 4294967296) : Go.bits .xor .u32 IntKind.u32.max (r : Int) = ((4294967295 - r : Nat) : Int) := by
 have h1 := Go.u32_xor_nat 4294967295 r (by omega) h
 have e : 4294967295 ^^^ r = 4294967295 - r := by
  have hx : r < 2 ^ 32 := by omega
  have : (BitVec.allOnes 32 ^^^ BitVec.ofNat 32 r).toNat = (~~~ BitVec.ofNat 32 r).toNat := by rw [BitVec.xor_comm, BitVec.xor_allOnes]
  rw [BitVec.toNat_xor, BitVec.toNat_not, BitVec.toNat_ofNat, BitVec.toNat_allOnes, Nat.mod_eq_of_lt hx] at this
  simpa using this
 rw [e] at h1
 exact h1
theorem byte_at (s : ByteArray) (k : Nat) (hk : k < s.size) : nats ((bytesOf s).take (k + 1)) = nats ((bytesOf s).take k) ++ [(s.data.toList.getD k 0).toNat] := by
 have hs : k < s.data.toList.length := by simpa using hk
 unfold nats bytesOf
 rw [List.take_add_one, List.map_append, List.getElem?_map, List.getElem?_eq_getElem hs]
 simp [List.getD_eq_getElem?_getD, List.getElem?_eq_getElem hs]
set_option maxHeartbeats 1000000 in
set_option maxRecDepth 100000 in
theorem Sum_calls (s : ByteArray) (w : World) (hs : s.size ≤ 4611686018427387904) : Calls Try.prog 34 #[.string s] w fun e w' => e = .returned (.int .u32 ((crc (bytesOf s) : Nat) : Int)) ∧ Below w.heap.size w w' := by
 have hcv := fun (W : World) (t : ByteArray) => Lib.run_convert_string_bytes (P := Try.prog) W 9 38 5 t Try.underlying9 Try.underlying38 Try.underlying5
 go_enter Try.func34, Try.ntmps34
 go_wp2_with fail
 refine (half_calls w).mono ?_; rintro e w1 ⟨rfl, hb⟩
 have e0 : tabV 16 = #[(Value.int .u32 0), (Value.int .u32 274646895), (Value.int .u32 549293790), (Value.int .u32 820201905), (Value.int .u32 1098587580), (Value.int .u32 1361435347), (Value.int .u32 1640403810), (Value.int .u32 1905808397), (Value.int .u32 2197175160), (Value.int .u32 2460548119), (Value.int .u32 2722870694), (Value.int .u32 2987750089), (Value.int .u32 3280807620), (Value.int .u32 3553878443), (Value.int .u32 3811616794), (Value.int .u32 4084100981)] := by rw [tabV16]; rfl
 rw [e0]
 go_upto_region 2 with fail
 have y := blk_new w1 (.cells (tabV 16) 85 (0, 0))
 have hbw := below_alloc hb (.cells (tabV 16) 85 (0, 0))
 rw [e0] at y hbw
 have y' := y.trans (congrArg (fun t => some (Obj.cells t 85 (0, 0))) e0.symm)
 clear y e0
 generalize World.alloc _ _ = W at *
 generalize w1.heap.size = g at *
 have HT := Aside0.mk y'; clear y'
 have HB := Aside0.mk (bytes_below hbw hbw.size 5 s)
 have HTW := Aside0.mk ((Lib.bytesWorld_at_old W 5 s g (blk_lt HT.out)).trans HT.out)
 have HC := Aside0.mk (fun j hj => Lib.bytesWorld_cell W 5 s j hj)
 have hsg : IntKind.u32.signed = false := rfl
 clear hb hbw
 go_wp2
 go_loop [4, 11] (fun r i => ∃ k : Nat, k ≤ s.size ∧ i = .int .i64 k ∧ r = .int .u32 ((creg 4294967295 (nats ((bytesOf s).take k)) : Nat) : Int)) (fun _ i => s.size - (intOf i).toNat)
 case atStart => exact ⟨0, Nat.zero_le _, rfl, rfl⟩
 case round =>
  obtain ⟨k, hk, rfl, rfl⟩ := hrel
  by_cases hlt : k < s.size
  ·have hc := HC.out k hlt
   have hby := byte_at s k hlt
   have hr0 : creg 4294967295 (nats ((bytesOf s).take k)) < 4294967296 := creg_lt _ (by omega) (nats_lt ((Bs.bytesOf s).take k))
   have hb0 : (s.data.toList.getD k 0).toNat < 256 := UInt8.toNat_lt _
   generalize (s.data.toList.getD k 0).toNat = b at *
   have hnx : creg 4294967295 (nats ((bytesOf s).take (k + 1))) = cbits 8 (creg 4294967295 (nats ((bytesOf s).take k)) ^^^ b) := by rw [hby, creg_snoc]
   clear hby
   generalize creg 4294967295 (nats ((bytesOf s).take k)) = r0 at *
   have v1 : IntKind.u32.wrap (b : Int) = (b : Int) := by simp [IntKind.wrap, IntKind.bits, IntKind.signed]; omega
   have v2 : (b : Int) % 4294967296 = (b : Int) := by omega
   have x1 := x32 r0 b hr0 (by omega)
   have hr1 : r0 ^^^ b < 4294967296 := x32_lt hr0 (by omega)
   generalize r0 ^^^ b = r1 at *
   have m1 := and15 r1 hr1
   have lt1 : r1 % 16 < 16 := by omega
   have c1 := tab_cell HTW.out lt1
   have q1 : ((r1 : Int) / 16) = ((r1 / 16 : Nat) : Int) := by omega
   have x2 := x32 (r1 / 16) (tab4 (r1 % 16)) (by omega) (cbits_lt 4 (by omega))
   rw [half_one] at x2
   have hr2 : cbits 4 r1 < 4294967296 := cbits_lt 4 hr1
   have hnx2 : cbits 8 r1 = cbits 4 (cbits 4 r1) := cbits_add 4 4 r1
   generalize cbits 4 r1 = r2 at *
   have m2 := and15 r2 hr2
   have lt2 : r2 % 16 < 16 := by omega
   have c2 := tab_cell HTW.out lt2
   have q2 : ((r2 : Int) / 16) = ((r2 / 16 : Nat) : Int) := by omega
   have x3 := x32 (r2 / 16) (tab4 (r2 % 16)) (by omega) (cbits_lt 4 (by omega))
   rw [half_one] at x3
   generalize cbits 4 r2 = r3 at *
   have HN := Aside0.mk (hnx.trans hnx2); clear hnx hnx2
   have i1 : ((r1 % 16 : Nat) : Int) < 16 := by omega
   have i2 : ((r2 % 16 : Nat) : Int) < 16 := by omega
   generalize r1 % 16 = n1 at *
   generalize r2 % 16 = n2 at *
   generalize r1 / 16 = p1 at *
   generalize r2 / 16 = p2 at *
   generalize tab4 n1 = t1 at *
   generalize tab4 n2 = t2 at *
   clear hr0 hr1 hr2 hb0
   have d1 : decide ((k : Int) < (s.size : Int)) = true := decide_eq_true (by omega)
   have d2 : decide (k < s.size) = true := decide_eq_true hlt
   go_wp2
   go_round
   case rel => exact ⟨k + 1, by omega, by go_num, by rw [HN.out]⟩
   case measure => simp [intOf]; omega
  ·have d1 : decide ((k : Int) < (s.size : Int)) = false := decide_eq_false (by omega)
   have d2 : decide (k < s.size) = false := decide_eq_false hlt
   have e : k = s.size := by omega
   have ht : (bytesOf s).take k = bytesOf s := List.take_of_length_le (by rw [bytesOf_size]; omega)
   rw [ht]
   have hr0 : creg 4294967295 (nats (bytesOf s)) < 4294967296 := creg_lt _ (by omega) (nats_lt (Bs.bytesOf s))
   have hn := not32 _ hr0
   have hq : crc (bytesOf s) = 4294967295 - creg 4294967295 (nats (bytesOf s)) := rfl
   generalize creg 4294967295 (nats (bytesOf s)) = r at *
   have HQ := Aside0.mk hq; clear hq
   clear hlt hk e ht
   go_wp2
   go_ret
   exact ⟨by rw [HQ.out]; rfl, HB.out⟩
theorem bt_nat (s : ByteArray) (k : Nat) (hk : k < s.size) : ∀ h : k < s.size, (((s[k]'h).toNat : Nat) : Int) = (((s.data.toList.getD k 0).toNat : Nat) : Int) := by
 intro h
 have hs : k < s.data.toList.length := by simpa using hk
 rw [List.getD_eq_getElem?_getD, List.getElem?_eq_getElem hs]
 rfl
theorem cbits_succ (k r : Nat) : cbits (k + 1) r = cbit (cbits k r) := by rw [cbits_add]; rfl
set_option maxHeartbeats 1000000 in
set_option maxRecDepth 100000 in
theorem RSum_calls (s : ByteArray) (w : World) (hs : s.size ≤ 4611686018427387904) : Calls Try.prog 39 #[.string s] w fun e w' => e = .returned (.int .u32 ((crc (bytesOf s) : Nat) : Int)) ∧ w' = w := by
 have hsg : IntKind.u32.signed = false := rfl
 go_enter Try.func39, Try.ntmps39
 go_wp2
 go_loop [3, 4] (fun r i => ∃ k : Nat, k ≤ s.size ∧ i = .int .i64 k ∧ r = .int .u32 ((creg 4294967295 (nats ((bytesOf s).take k)) : Nat) : Int)) (fun _ i => s.size - (intOf i).toNat)
 case atStart => exact ⟨0, Nat.zero_le _, rfl, rfl⟩
 case round =>
  obtain ⟨k, hk, rfl, rfl⟩ := hrel
  by_cases hlt : k < s.size
  ·have hby := byte_at s k hlt
   have hr0 : creg 4294967295 (nats ((bytesOf s).take k)) < 4294967296 := creg_lt _ (by omega) (nats_lt ((Bs.bytesOf s).take k))
   have hb0 : (s.data.toList.getD k 0).toNat < 256 := UInt8.toNat_lt _
   have hat := bt_nat s k hlt
   generalize (s.data.toList.getD k 0).toNat = b at *
   have hnx : creg 4294967295 (nats ((bytesOf s).take (k + 1))) = cbits 8 (creg 4294967295 (nats ((bytesOf s).take k)) ^^^ b) := by rw [hby, creg_snoc]
   clear hby
   generalize creg 4294967295 (nats ((bytesOf s).take k)) = r0 at *
   have v1 : IntKind.u32.wrap (b : Int) = (b : Int) := by simp [IntKind.wrap, IntKind.bits, IntKind.signed]; omega
   have v2 : (b : Int) % 4294967296 = (b : Int) := by omega
   have x1 := x32 r0 b hr0 (by omega)
   have hr1 : r0 ^^^ b < 4294967296 := x32_lt hr0 (by omega)
   generalize r0 ^^^ b = r1 at *
   have HN := Aside0.mk hnx; clear hnx
   have HR := Aside0.mk hr1; clear hr1
   have d1 : decide ((k : Int) < (s.size : Int)) = true := decide_eq_true (by omega)
   have d2 : decide (k < s.size) = true := decide_eq_true hlt
   have d3 : (0 : Int) ≤ (k : Int) := by omega
   have d4 : (k : Int) < (s.size : Int) := by omega
   clear hr0 hb0
   go_wp2
   go_loop [3, 5] (fun r i => ∃ j : Nat, j ≤ 8 ∧ i = .int .i64 j ∧ r = .int .u32 ((cbits j r1 : Nat) : Int)) (fun _ i => 8 - (intOf i).toNat)
   case atStart => exact ⟨0, Nat.zero_le _, rfl, rfl⟩
   case round =>
    obtain ⟨j, hj, rfl, rfl⟩ := hrel
    by_cases jlt : j < 8
    ·have hr := cbits_lt j HR.out
     have hs := cbits_succ j r1
     have HS := Aside0.mk hs; clear hs
     generalize cbits j r1 = r at *
     have j1 : decide ((j : Int) < 8) = true := decide_eq_true (by omega)
     have j2 : decide (j < 8) = true := decide_eq_true jlt
     have y1 : Int.tmod (r : Int) 2 = (r : Int) % 2 := Int.tmod_eq_emod_of_nonneg (by omega)
     have y2 : Int.tdiv (r : Int) 2 = (r : Int) / 2 := Int.tdiv_eq_ediv_of_nonneg (by omega)
     have y3 : ((r : Int) / 2) % 4294967296 = (r : Int) / 2 := by omega
     have y4 : ((r : Int) % 2) % 4294967296 = (r : Int) % 2 := by omega
     by_cases p : r % 2 = 1
     ·have e1 : ((r : Int) % 2 == 1) = true := by rw [beq_iff_eq]; omega
      have x1 : Go.bits .xor .u32 ((r : Int) / 2) 2197175160 = ((cbit r : Nat) : Int) := by
       have h := x32 (r / 2) 2197175160 (by omega) (by omega)
       rw [Int.natCast_ediv] at h
       unfold cbit; rw [if_pos p]; exact h
      clear p
      go_wp2
      go_round
      case rel => exact ⟨j + 1, by omega, by go_num, by rw [HS.out]⟩
      case measure => simp [intOf]; omega
     ·have e1 : ((r : Int) % 2 == 1) = false := by rw [beq_eq_false_iff_ne]; omega
      have x1 : ((r : Int) / 2) = ((cbit r : Nat) : Int) := by unfold cbit; rw [if_neg p]; omega
      have X1 := Aside0.mk x1; clear x1
      clear p
      go_wp2
      go_round
      case rel => exact ⟨j + 1, by omega, by go_num, by rw [HS.out, ← X1.out]⟩
      case measure => simp [intOf]; omega
    ·have j1 : decide ((j : Int) < 8) = false := decide_eq_false (by omega)
     have j2 : decide (j < 8) = false := decide_eq_false jlt
     have e : j = 8 := by omega
     subst e
     clear jlt hj
     go_wp2
     go_round
     case rel => exact ⟨k + 1, by omega, by go_num, by rw [HN.out]⟩
     case measure => simp [intOf]; omega
  ·have d1 : decide ((k : Int) < (s.size : Int)) = false := decide_eq_false (by omega)
   have d2 : decide (k < s.size) = false := decide_eq_false hlt
   have e : k = s.size := by omega
   have ht : (bytesOf s).take k = bytesOf s := List.take_of_length_le (by rw [bytesOf_size]; omega)
   rw [ht]
   have hr0 : creg 4294967295 (nats (bytesOf s)) < 4294967296 := creg_lt _ (by omega) (nats_lt (Bs.bytesOf s))
   have hn := not32 _ hr0
   have hq : crc (bytesOf s) = 4294967295 - creg 4294967295 (nats (bytesOf s)) := rfl
   generalize creg 4294967295 (nats (bytesOf s)) = r at *
   have HQ := Aside0.mk hq; clear hq
   clear hlt hk e ht
   go_wp2
   go_ret
   exact ⟨by rw [HQ.out]; rfl, rfl⟩
end Go.Proofs.Ytlbcpigjbjolaaa.G
namespace Go.Proofs.YtlbcpigjbjolaaaQ
open Go.RowKit Go.Proofs.YtlbcpigjbjolaaaW.PrintWords Go.Proofs.YtlbcpigjbjolaaaW.PrintMore
set_option linter.unusedVariables false
set_option linter.unusedSimpArgs false
theorem w64 {x : Int} (h0 : -9223372036854775808 ≤ x) (h1 : x < 9223372036854775808) : wrap64 x = x := by unfold wrap64; omega
theorem wu64 {x : Int} (h0 : 0 ≤ x) (h1 : x < 18446744073709551616) : IntKind.u64.wrap x = x := by simp [IntKind.wrap, IntKind.bits, IntKind.signed]; omega
theorem wu64_def (x : Int) : IntKind.u64.wrap x = x % 18446744073709551616 := by simp [IntKind.wrap, IntKind.bits, IntKind.signed]
theorem shr_u64_lit (x : Int) (k : Nat) (hk : k ≤ 64) : shr .u64 x (k : Int) = x / 2 ^ k := by
 unfold shr; simp [IntKind.bits]; congr 2; omega
theorem or_join' (x y : Int) (i : Nat) (h0 : 0 ≤ x) (h1 : x < 18446744073709551616) (h2 : 0 ≤ y) (h3 : y < 18446744073709551616) (hx : x % 2 ^ i = 0) (hy : y < 2 ^ i) : Go.bits .or .u64 y x = y + x := by
 obtain ⟨X, rfl⟩ := Int.eq_ofNat_of_zero_le h0
 obtain ⟨Y, rfl⟩ := Int.eq_ofNat_of_zero_le h2
 rw [Go.u64_or_nat Y X (by omega) (by omega), Nat.or_comm, Go.nat_join i X Y (by exact_mod_cast hx) (by exact_mod_cast hy)]
 omega
theorem xor_u64_ones (x : Int) (h0 : 0 ≤ x) (h1 : x < 18446744073709551616) : Go.bits .xor .u64 x 18446744073709551615 = 18446744073709551615 - x := by
 obtain ⟨X, rfl⟩ := Int.eq_ofNat_of_zero_le h0
 have h := Go.u64_xor_nat X 18446744073709551615 (by omega) (by omega)
 have e : X ^^^ 18446744073709551615 = 18446744073709551615 - X := by
  have hx : X < 2 ^ 64 := by omega
  have : (BitVec.ofNat 64 X ^^^ BitVec.allOnes 64).toNat = (~~~ BitVec.ofNat 64 X).toNat := by rw [BitVec.xor_allOnes]
  rw [BitVec.toNat_xor, BitVec.toNat_not, BitVec.toNat_ofNat, BitVec.toNat_allOnes, Nat.mod_eq_of_lt hx] at this
  simpa using this
 rw [e] at h
 have : ((18446744073709551615 : Nat) : Int) = 18446744073709551615 := rfl
 rw [← this, h]
 omega
theorem xor_u64_zero (x : Int) (h0 : 0 ≤ x) (h1 : x < 18446744073709551616) : Go.bits .xor .u64 x 0 = x := by
 obtain ⟨X, rfl⟩ := Int.eq_ofNat_of_zero_le h0
 have h := Go.u64_xor_nat X 0 (by omega) (by omega)
 simpa using h
theorem zig (a : Int) (h : i64 a) : Go.bits .xor .u64 (IntKind.u64.wrap (wrap64 (a * 2))) (IntKind.u64.wrap (a / 9223372036854775808)) = fold a := by
 obtain ⟨h0, h1⟩ := h
 unfold fold
 by_cases c : a < 0
 ·rw [if_pos c]
  have e1 : a / 9223372036854775808 = -1 := by omega
  have e2 : IntKind.u64.wrap (-1) = 18446744073709551615 := by decide
  have e3 : IntKind.u64.wrap (wrap64 (a * 2)) = 18446744073709551616 + a * 2 := by rw [wu64_def]; unfold wrap64; omega
  rw [e1, e2, e3, xor_u64_ones _ (by omega) (by omega)]
  omega
 ·rw [if_neg c]
  have e1 : a / 9223372036854775808 = 0 := by omega
  have e2 : IntKind.u64.wrap 0 = 0 := by decide
  have e3 : IntKind.u64.wrap (wrap64 (a * 2)) = a * 2 := by rw [wu64_def]; unfold wrap64; omega
  rw [e1, e2, e3, xor_u64_zero _ (by omega) (by omega)]
  omega
end Go.Proofs.YtlbcpigjbjolaaaQ
namespace Go.Proofs.YtlbcpigjbjolaaaQ
open Go.Proofs.YtlbcpigjbjolaaaW.PrintWords
set_option linter.unusedVariables false
set_option linter.unusedSimpArgs false
def le4 (n : Int) : List Int := [n % 256, n / 256 % 256, n / 65536 % 256, n / 16777216 % 256]
theorem le4_len (n : Int) : (le4 n).length = 4 := rfl
def num4 (l : List Int) : Int := rd l 0 + 256 * rd l 1 + 65536 * rd l 2 + 16777216 * rd l 3
inductive Fr where
 | part
 | bad
 | whole (t r : List Int)
def frI (l : List Int) : Fr :=
 if l.length < 4 then .part
 else if 1048576 < num4 l then .bad
 else if (l.length : Int) < num4 l + 8 then .part
 else if num4 (l.drop (4 + (num4 l).toNat)) = ((crc ((l.drop 4).take (num4 l).toNat) : Nat) : Int) then .whole ((l.drop 4).take (num4 l).toNat) (l.drop (8 + (num4 l).toNat))
 else .bad
end Go.Proofs.YtlbcpigjbjolaaaQ
namespace Go.Proofs.YtlbcpigjbjolaaaQ
open Go.Proofs.YtlbcpigjbjolaaaW.PrintWords
set_option linter.unusedVariables false
set_option linter.unusedSimpArgs false
theorem frI_nil : frI [] = .part := rfl
end Go.Proofs.YtlbcpigjbjolaaaQ
namespace Go.Proofs.YtlbcpigjbjolaaaQ
set_option linter.unusedVariables false
set_option linter.unusedSimpArgs false
def val (b : Nat) : List Nat → Nat
 | [] => 0
 | x :: l => x + b * val b l
def dig (b : Nat) : Nat → Nat → List Nat
 | 0, _ => []
 | k + 1, n => n % b :: dig b k (n / b)
theorem dig_len (b : Nat) : ∀ k n, (dig b k n).length = k
 | 0, _ => rfl
 | k + 1, n => by simp [dig, dig_len b k]
theorem dig_lt {b : Nat} (hb : 0 < b) : ∀ k n, ∀ x ∈ dig b k n, x < b
 | 0, _, x, h => by simp [dig] at h
 | k + 1, n, x, h => by
  rcases List.mem_cons.1 h with rfl | h
  ·exact Nat.mod_lt _ hb
  ·exact dig_lt hb k _ x h
theorem dig_get (b : Nat) : ∀ k n i, i < k → (dig b k n).getD i 0 = n / b ^ i % b
 | 0, _, _, h => by omega
 | k + 1, n, 0, _ => by simp [dig]
 | k + 1, n, i + 1, h => by
  rw [dig, List.getD_cons_succ, dig_get b k _ i (by omega), Nat.div_div_eq_div_mul, Nat.pow_succ, Nat.mul_comm b]
theorem p2 (w : Nat) : 0 < 2 ^ w := Nat.pow_pos (by omega)
end Go.Proofs.YtlbcpigjbjolaaaQ
namespace Go.Proofs.YtlbcpigjbjolaaaQ
open Go.Proofs.YtlbcpigjbjolaaaW.PrintWords
set_option linter.unusedVariables false
set_option linter.unusedSimpArgs false
def ints (l : List Nat) : List Int := l.map fun x => ((x : Nat) : Int)
theorem u8_nat {x : Nat} (h : x < 256) : IntKind.u8.wrap (x : Int) = (x : Int) := by simp only [IntKind.wrap, IntKind.bits, IntKind.signed]; simp; omega
theorem u64_nat {x : Nat} (h : x < 18446744073709551616) : IntKind.u64.wrap (x : Int) = (x : Int) := by simp only [IntKind.wrap, IntKind.bits, IntKind.signed]; simp; omega
end Go.Proofs.YtlbcpigjbjolaaaQ
namespace Go.Proofs.YtlbcpigjbjolaaaQ
open Go.Proofs.YtlbcpigjbjolaaaW.PrintWords
set_option linter.unusedVariables false
set_option linter.unusedSimpArgs false
def blen (n : Nat) : Nat := if n = 0 then 0 else n.log2 + 1
def wd (l : List Nat) : Nat := blen (l.foldl (· ||| ·) 0)
def U64 (l : List Int) : Prop := ∀ x ∈ l, 0 ≤ x ∧ x < 18446744073709551616
instance (l : List Int) : Decidable (U64 l) := inferInstanceAs (Decidable (∀ x ∈ l, 0 ≤ x ∧ x < 18446744073709551616))
end Go.Proofs.YtlbcpigjbjolaaaQ
namespace Go.Proofs.YtlbcpigjbjolaaaQ
end Go.Proofs.YtlbcpigjbjolaaaQ
namespace Go.Proofs.YtlbcpigjbjolaaaQ
set_option linter.unusedVariables false
set_option linter.unusedSimpArgs false
theorem bm_bit (N j i : Nat) : (N / 256 ^ j % 256).testBit i = (decide (i < 8) && N.testBit (8 * j + i)) := by
 rw [show (256 : Nat) = 2 ^ 8 from rfl, ← Nat.pow_mul, Nat.testBit_mod_two_pow, Nat.testBit_div_two_pow, Nat.add_comm i]
theorem bm_set {N p n : Nat} (hp : p < 8 * n) : dig 256 n (N ||| 2 ^ p) = (dig 256 n N).set (p / 8) ((N / 256 ^ (p / 8) % 256) ||| 2 ^ (p % 8)) := by
 apply List.ext_getElem
 ·rw [List.length_set, dig_len, dig_len]
 ·intro j h1 h2
  rw [dig_len] at h1
  have g1 := dig_get 256 n (N ||| 2 ^ p) j h1
  have g2 := dig_get 256 n N j h1
  rw [List.getD_eq_getElem?_getD, List.getElem?_eq_getElem (by rw [dig_len]; exact h1), Option.getD_some] at g1 g2
  rw [g1, List.getElem_set]
  by_cases e : p / 8 = j
  ·rw [if_pos e]
   subst e
   apply Nat.eq_of_testBit_eq
   intro i
   rw [bm_bit, Nat.testBit_or, Nat.testBit_or, bm_bit, Nat.testBit_two_pow, Nat.testBit_two_pow]
   by_cases h : i < 8
   ·have : (decide (p = 8 * (p / 8) + i)) = decide (p % 8 = i) := by
     apply decide_eq_decide.mpr; omega
    rw [this]; simp [h]
   ·have : ¬ p % 8 = i := by omega
    simp [h, this]
  ·rw [if_neg e, g2]
   apply Nat.eq_of_testBit_eq
   intro i
   rw [bm_bit, bm_bit, Nat.testBit_or, Nat.testBit_two_pow]
   by_cases h : i < 8
   ·have : ¬ p = 8 * j + i := by omega
    simp [h, this]
   ·simp [h]
def mask (ps : List Nat) : Nat := ps.foldl (fun a p => a ||| 2 ^ p) 0
theorem mask_snoc (a : List Nat) (p : Nat) : mask (a ++ [p]) = mask a ||| 2 ^ p := by unfold mask; rw [List.foldl_append]; rfl
theorem mask_from : ∀ (ps : List Nat) (a i : Nat), (ps.foldl (fun a p => a ||| 2 ^ p) a).testBit i = (a.testBit i || decide (i ∈ ps))
 | [], a, i => by simp
 | p :: ps, a, i => by
  rw [List.foldl_cons, mask_from ps, Nat.testBit_or, Nat.testBit_two_pow, Bool.or_assoc]
  congr 1
  by_cases h : p = i
  ·subst h; simp
  ·have : ¬ i = p := fun e => h e.symm
   simp [h, this]
theorem mask_bit (ps : List Nat) (i : Nat) : (mask ps).testBit i = decide (i ∈ ps) := by unfold mask; rw [mask_from]; simp
theorem mask_congr {a b : List Nat} (h : ∀ i, i ∈ a ↔ i ∈ b) : mask a = mask b := by
 apply Nat.eq_of_testBit_eq
 intro i
 rw [mask_bit, mask_bit]
 exact decide_eq_decide.mpr (h i)
def nd {α : Type} [DecidableEq α] : List α → Nat
 | [] => 0
 | x :: t => (if x ∈ t then 0 else 1) + nd t
theorem nd_perm {α : Type} [DecidableEq α] {a b : List α} (h : a.Perm b) : nd a = nd b := by
 induction h with
 | nil => rfl
 | cons x h ih => simp only [nd, ih, h.mem_iff]
 | swap x y l =>
  simp only [nd, List.mem_cons]
  by_cases e : x = y
  ·subst e; rfl
  ·have e2 : ¬ y = x := fun h => e h.symm
   simp only [e, e2, false_or]
   split <;> split <;> omega
 | trans _ _ i1 i2 => exact i1.trans i2
theorem nd_le {α : Type} [DecidableEq α] : ∀ l : List α, nd l ≤ l.length
 | [] => Nat.le_refl _
 | x :: t => by
  have := nd_le t
  simp only [nd, List.length_cons]
  split <;> omega
end Go.Proofs.YtlbcpigjbjolaaaQ
namespace Go.Proofs
open Go.Shelf
def Ytlbcpigjbjolaaa.Srt_ren : Go.Shelf.Ren := ⟨fun | 6 => 13 | 15 => 28 | 14 => 27 | 28 => 52 | 29 => 53 | 20 => 44 | 21 => 45 | 22 => 46 | 23 => 47 | 24 => 48 | 25 => 49 | 26 => 50 | 27 => 51 | 46 => 61 | 47 => 62 | 48 => 63 | 49 => 64 | 50 => 65 | 57 => 67 | n => n, fun | 22 => 22 | 24 => 28 | 25 => 35 | 3 => 3 | 39 => 56 | 0 => 0 | 53 => 62 | 55 => 44 | 4 => 4 | 46 => 74 | 45 => 73 | 50 => 78 | 5 => 5 | 9 => 9 | 66 => 92 | 70 => 95 | 76 => 99 | 77 => 100 | n => n, fun | n => n⟩
theorem Ytlbcpigjbjolaaa.Srt : Go.Proofs.SlLaysF0.n6 Try.prog Ytlbcpigjbjolaaa.Srt_ren := {
 mixed := by kernel_rfl
 f6 := ⟨Try.f13.name, by decide, Try.func13.trans (congrArg some (by kernel_rfl))⟩
 f14 := ⟨Try.f27.name, by decide, Try.func27.trans (congrArg some (by kernel_rfl))⟩
 f15 := Try.func28.trans (congrArg some (by kernel_rfl))
 f20 := ⟨Try.f44.name, by decide, Try.func44.trans (congrArg some (by kernel_rfl))⟩
 f21 := ⟨Try.f45.name, by decide, Try.func45.trans (congrArg some (by kernel_rfl))⟩
 f22 := ⟨Try.f46.name, by decide, Try.func46.trans (congrArg some (by kernel_rfl))⟩
 f23 := ⟨Try.f47.name, by decide, Try.func47.trans (congrArg some (by kernel_rfl))⟩
 f24 := ⟨Try.f48.name, by decide, Try.func48.trans (congrArg some (by kernel_rfl))⟩
 f25 := ⟨Try.f49.name, by decide, Try.func49.trans (congrArg some (by kernel_rfl))⟩
 f26 := ⟨Try.f50.name, by decide, Try.func50.trans (congrArg some (by kernel_rfl))⟩
 f27 := ⟨Try.f51.name, by decide, Try.func51.trans (congrArg some (by kernel_rfl))⟩
 f28 := Try.func52.trans (congrArg some (by kernel_rfl))
 f29 := Try.func53.trans (congrArg some (by kernel_rfl))
 f46 := ⟨Try.f61.name, by decide, Try.func61.trans (congrArg some (by kernel_rfl))⟩
 f47 := Try.func62.trans (congrArg some (by kernel_rfl))
 f48 := Try.func63.trans (congrArg some (by kernel_rfl))
 f49 := ⟨Try.f64.name, by decide, Try.func64.trans (congrArg some (by kernel_rfl))⟩
 f50 := ⟨Try.f65.name, by decide, Try.func65.trans (congrArg some (by kernel_rfl))⟩
 f57 := ⟨Try.f67.name, by decide, Try.func67.trans (congrArg some (by kernel_rfl))⟩
 t0 := Try.underlying0
 a0 := Try.isAgg0
 z0 := Try.sizeOf0
 v0 := Try.zeroValue0
 t3 := Try.underlying3
 a3 := Try.isAgg3
 z3 := Try.sizeOf3
 v3 := Try.zeroValue3
 t4 := Try.underlying4
 a4 := Try.isAgg4
 z4 := Try.sizeOf4
 v4 := Try.zeroValue4
 t5 := Try.underlying5
 a5 := Try.isAgg5
 z5 := Try.sizeOf5
 v5 := Try.zeroValue5
 t9 := Try.underlying9
 a9 := Try.isAgg9
 z9 := Try.sizeOf9
 v9 := Try.zeroValue9
 t22 := Try.underlying22
 a22 := Try.isAgg22
 z22 := Try.sizeOf22
 v22 := Try.zeroValue22
 t25 := Try.underlying35
 a25 := Try.isAgg35
 z25 := Try.sizeOf35
 v25 := Try.zeroValue35
 t39 := Try.underlying56
 a39 := Try.isAgg56
 z39 := Try.sizeOf56
 v39 := Try.zeroValue56
 t45 := Try.underlying73
 a45 := Try.isAgg73
 z45 := Try.sizeOf73
 v45 := Try.zeroValue73
 t46 := Try.underlying74
 a46 := Try.isAgg74
 z46 := Try.sizeOf74
 v46 := Try.zeroValue74
 t50 := Try.underlying78
 a50 := Try.isAgg78
 z50 := Try.sizeOf78
 v50 := Try.zeroValue78
 t53 := Try.underlying62
 a53 := Try.isAgg62
 z53 := Try.sizeOf62
 v53 := Try.zeroValue62
 t55 := Try.underlying44
 a55 := Try.isAgg44
 z55 := Try.sizeOf44
 v55 := Try.zeroValue44
 t66 := Try.underlying92
 a66 := Try.isAgg92
 z66 := Try.sizeOf92
 v66 := Try.zeroValue92
 t70 := Try.underlying95
 a70 := Try.isAgg95
 z70 := Try.sizeOf95
 v70 := Try.zeroValue95
 t76 := Try.underlying99
 a76 := Try.isAgg99
 z76 := Try.sizeOf99
 v76 := Try.zeroValue99
 t77 := Try.underlying100
 a77 := Try.isAgg100
 z77 := Try.sizeOf100
 v77 := Try.zeroValue100 }
end Go.Proofs
namespace Go.Proofs.YtlbcpigjbjolaaaW.PrintLast
open Go.Proofs.YtlbcpigjbjolaaaW.PrintWords (Aside0)
def needsOf (md : Region.Mode) (o : Oper) : List Nat := (o.after.toList.filter (fun e => Region.binds md e)).map (fun e => e.on)
def clashOf (md : Region.Mode) (ops : Array Oper) (i : Nat) (oi : Oper) : List Nat := (List.range ops.size).filter fun j => !(j == i) && match ops[j]? with
 | some oj => !(oj.after.any (fun e => Region.binds md e && e.on == i) || oi.apart ops oj)
 | none => false
def rtab (md : Region.Mode) (ops : Array Oper) : Bool × List (List Nat × List Nat) := (Region.noSelect ops, (List.range ops.size).map fun i => match ops[i]? with
 | some o => (needsOf md o, clashOf md ops i o)
 | none => ([], []))
def readyAt (T : List (List Nat × List Nat)) (l : List Bool) (i : Nat) : Bool := !l.getD i true && match T[i]? with
 | some r => r.1.all (fun j => l.getD j false)
 | none => false
def readyT (T : List (List Nat × List Nat)) (l : List Bool) : List Nat := (List.range T.length).filter (readyAt T l)
def freeT (T : List (List Nat × List Nat)) (l : List Bool) (i : Nat) : Bool := match T[i]? with
 | some r => r.2.all (fun j => l.getD j true)
 | none => false
def closedT (T : List (List Nat × List Nat)) (l : List Bool) : Bool := (List.range T.length).all fun j => !l.getD j false || match T[j]? with
 | some r => r.1.all (fun k => l.getD k false)
 | none => true
def reachT (T : List (List Nat × List Nat)) (i : Nat) : Nat → Nat → Bool
 | 0, _ => false
 | fuel + 1, d => match T[d]? with
  | some r => r.1.any fun j => j == i || reachT T i fuel j
  | none => false
def lastT (T : List (List Nat × List Nat)) (l : List Bool) (ds : List Nat) (i : Nat) : Bool := ds.all fun d => l.getD d true || reachT T i T.length d
section
variable {md : Region.Mode} {ops : Array Oper} {T : Bool × List (List Nat × List Nat)} {l l' li lj lk : Array Bool} {ds : List Nat} {i j k : Nat}
theorem gd (l : Array Bool) (j : Nat) (b : Bool) : l.getD j b = l.toList.getD j b := by simp [Array.getD_eq_getD_getElem?, List.getD_eq_getElem?_getD]
theorem needs_all (o : Oper) (p : Nat → Bool) : o.after.all (fun e => !Region.binds md e || p e.on) = (needsOf md o).all p := by
 unfold needsOf
 rw [← Array.all_toList]
 induction o.after.toList with
 | nil => rfl
 | cons e r ih =>
  rw [List.all_cons, ih, List.filter_cons]
  cases h : Region.binds md e <;> simp
theorem needs_any (o : Oper) (p : Nat → Bool) : o.after.any (fun e => Region.binds md e && p e.on) = (needsOf md o).any p := by
 unfold needsOf
 rw [← Array.any_toList]
 induction o.after.toList with
 | nil => rfl
 | cons e r ih =>
  rw [List.any_cons, ih, List.filter_cons]
  cases h : Region.binds md e <;> simp
theorem rtab_length : (rtab md ops).2.length = ops.size := by simp [rtab]
theorem rtab_some {o : Oper} (h : ops[i]? = some o) : (rtab md ops).2[i]? = some (needsOf md o, clashOf md ops i o) := by
 have hi := (Array.getElem?_eq_some_iff.1 h).1
 unfold rtab
 rw [List.getElem?_map, List.getElem?_range hi, Option.map_some, h]
theorem rtab_none (h : ops[i]? = none) : (rtab md ops).2[i]? = none := by
 have hi : ops.size ≤ i := Array.getElem?_eq_none_iff.1 h
 exact List.getElem?_eq_none (by rw [rtab_length]; exact hi)
theorem readyAt_eq : readyAt (rtab md ops).2 l.toList i = (!l.getD i true && ((ops[i]?).map (·.after.all fun e => !Region.binds md e || l.getD e.on false)).getD false) := by
 unfold readyAt
 rw [gd]
 cases h : ops[i]? with
 | none => rw [rtab_none h]; rfl
 | some o =>
  rw [rtab_some h]
  simp only [Option.map_some, Option.getD_some]
  rw [← needs_all]
  simp only [gd]
theorem ready_eq : Region.ready md ops l = readyT (rtab md ops).2 l.toList := by
 unfold Region.ready readyT
 rw [rtab_length]
 refine List.filter_congr (fun i _ => ?_)
 rw [readyAt_eq]
theorem free_eq : Region.free md ops l i = freeT (rtab md ops).2 l.toList i := by
 unfold Region.free freeT
 cases h : ops[i]? with
 | none => rw [rtab_none h]
 | some oi =>
  rw [rtab_some h]
  simp only [clashOf]
  rw [List.all_filter]
  congr 1
  funext j
  rw [gd]
  cases hj : ops[j]? with
  | none => cases (j == i) <;> cases (l.toList.getD j true) <;> simp
  | some oj =>
   cases (j == i) <;> cases (l.toList.getD j true) <;> cases (oj.after.any (fun e => Region.binds md e && e.on == i) || oi.apart ops oj) <;> simp_all
theorem closed_eq : Region.closedB md ops l = closedT (rtab md ops).2 l.toList := by
 unfold Region.closedB closedT
 rw [rtab_length]
 congr 1
 funext j
 rw [gd]
 cases h : ops[j]? with
 | none => rw [rtab_none h]
 | some o =>
  rw [rtab_some h]
  simp only
  rw [← needs_all]
  simp only [gd]
theorem reach_eq : ∀ (fuel d : Nat), Region.reachB md ops i fuel d = reachT (rtab md ops).2 i fuel d
 | 0, _ => rfl
 | fuel + 1, d => by
  unfold Region.reachB reachT
  cases h : ops[d]? with
  | none => rw [rtab_none h]
  | some o =>
   rw [rtab_some h]
   simp only
   rw [← needs_any]
   congr 1
   funext e
   rw [reach_eq fuel]
theorem last_eq : Region.lastB md ops l ds i = lastT (rtab md ops).2 l.toList ds i := by
 unfold Region.lastB lastT
 rw [rtab_length]
 congr 1
 funext d
 rw [gd, reach_eq]
theorem readyAt_mem (h : readyAt T.2 l.toList i = true) (hT : rtab md ops = T) : (Region.ready md ops l).contains i = true := by
 subst hT
 rw [ready_eq]
 unfold readyT
 rw [List.contains_iff_mem, List.mem_filter, List.mem_range]
 refine ⟨?_, h⟩
 unfold readyAt at h
 rw [Bool.and_eq_true] at h
 cases hq : (rtab md ops).2[i]? with
 | none => rw [hq] at h; simp at h
 | some r => exact (List.getElem?_eq_some_iff.1 hq).1
theorem set_of (h : (l.toList.set i true == l'.toList) = true) : (l.setIfInBounds i true == l') = true := by
 rw [beq_iff_eq] at h ⊢
 apply Array.ext'
 rw [Array.toList_setIfInBounds]
 exact h
def anyT (T : Bool × List (List Nat × List Nat)) (l l' : List Bool) (i : Nat) : Bool := T.1 && freeT T.2 l i && readyAt T.2 l i && (l.set i true == l')
theorem any_of (hT : rtab md ops = T) (h : anyT T l.toList l'.toList i = true) : anyB md ops l l' i = true := by
 simp only [anyT, Bool.and_eq_true] at h
 obtain ⟨⟨⟨h1, h2⟩, h3⟩, h4⟩ := h
 have h5 := readyAt_mem h3 hT
 have h6 := set_of h4
 subst hT
 simp only [anyB, Bool.and_eq_true]
 exact ⟨⟨⟨h1, by rw [free_eq]; exact h2⟩, h5⟩, h6⟩
def takeT (T : Bool × List (List Nat × List Nat)) (ds : List Nat) (l l' : List Bool) (i : Nat) : Bool := T.1 && freeT T.2 l i && readyAt T.2 l i && closedT T.2 l && lastT T.2 l ds i && (l.set i true == l')
theorem take_of (hT : rtab md ops = T) (h : takeT T ds l.toList l'.toList i = true) : takeB md ops ds l l' i = true := by
 simp only [takeT, Bool.and_eq_true] at h
 obtain ⟨⟨⟨⟨⟨h1, h2⟩, h3⟩, h4⟩, h5⟩, h6⟩ := h
 have h7 := readyAt_mem h3 hT
 have h8 := set_of h6
 subst hT
 simp only [takeB, Bool.and_eq_true]
 exact ⟨⟨⟨⟨⟨h1, by rw [free_eq]; exact h2⟩, h7⟩, by rw [closed_eq]; exact h4⟩, by rw [last_eq]; exact h5⟩, h8⟩
theorem one_of (hT : rtab md ops = T) (h : (readyT T.2 l.toList == [i] && l.toList.set i true == l'.toList) = true) : readyB md ops l l' i = true := by
 simp only [Bool.and_eq_true] at h
 obtain ⟨h1, h2⟩ := h
 subst hT
 simp only [readyB, Bool.and_eq_true]
 exact ⟨by rw [ready_eq]; exact h1, set_of h2⟩
theorem done_of (hT : rtab md ops = T) (h : (readyT T.2 l.toList == []) = true) : (Region.ready md ops l == []) = true := by
 subst hT
 rw [ready_eq]
 exact h
def upM (B : List Nat) (d : Nat) : List Nat → Nat
 | [] => 0
 | n :: r => (2 ^ n ||| (if n < d then B.getD n 0 else 0)) ||| upM B d r
def waitsOk (T : List (List Nat × List Nat)) (B : List Nat) : Bool := (List.range T.length).all fun d => match T[d]? with
 | some r => (B.getD d 0 ||| upM B d r.1) == upM B d r.1
 | none => false
theorem upM_bit {B : List Nat} {d i : Nat} : ∀ {ns : List Nat}, (upM B d ns).testBit i = true → ∃ n ∈ ns, n = i ∨ (n < d ∧ (B.getD n 0).testBit i = true)
 | [], h => by simp [upM] at h
 | n :: r, h => by
  unfold upM at h
  rw [Nat.testBit_or, Nat.testBit_or, Bool.or_eq_true, Bool.or_eq_true] at h
  rcases h with (h | h) | h
  ·rw [Nat.testBit_two_pow] at h
   exact ⟨n, List.mem_cons_self, .inl (by simpa using h)⟩
  ·by_cases hn : n < d
   ·rw [if_pos hn] at h
    exact ⟨n, List.mem_cons_self, .inr ⟨hn, h⟩⟩
   ·rw [if_neg hn] at h
    simp at h
  ·obtain ⟨m, hm, h2⟩ := upM_bit h
   exact ⟨m, List.mem_cons_of_mem _ hm, h2⟩
theorem reach_bit {T : List (List Nat × List Nat)} {B : List Nat} (hB : waitsOk T B = true) : ∀ (fuel d : Nat), d < fuel → d < T.length → (B.getD d 0).testBit i = true → reachT T i fuel d = true
 | 0, d, h, _, _ => by omega
 | fuel + 1, d, h, hd, hb => by
  have h1 := List.all_eq_true.1 hB d (List.mem_range.2 hd)
  cases hr : T[d]? with
  | none => rw [hr] at h1; simp at h1
  | some r =>
   rw [hr] at h1
   simp only [beq_iff_eq] at h1
   have h2 : (upM B d r.1).testBit i = true := by rw [← h1, Nat.testBit_or, hb, Bool.true_or]
   obtain ⟨n, hn, h3⟩ := upM_bit h2
   unfold reachT
   rw [hr]
   simp only
   rw [List.any_eq_true]
   refine ⟨n, hn, ?_⟩
   rcases h3 with rfl | ⟨h4, h5⟩
   ·simp
   ·rw [reach_bit hB fuel n (by omega) (by omega) h5, Bool.or_true]
def lastW (T : List (List Nat × List Nat)) (B : List Nat) (l : List Bool) (ds : List Nat) (i : Nat) : Bool := ds.all fun d => l.getD d true || (decide (d < T.length) && (B.getD d 0).testBit i)
def takeW (T : Bool × List (List Nat × List Nat)) (B : List Nat) (ds : List Nat) (l l' : List Bool) (i : Nat) : Bool := T.1 && freeT T.2 l i && readyAt T.2 l i && closedT T.2 l && lastW T.2 B l ds i && (l.set i true == l')
theorem take_ofW {B : List Nat} (hT : rtab md ops = T) (hB : waitsOk T.2 B = true) (h : takeW T B ds l.toList l'.toList i = true) : takeB md ops ds l l' i = true := by
 refine take_of hT ?_
 simp only [takeW, takeT, Bool.and_eq_true] at h ⊢
 obtain ⟨⟨⟨⟨⟨h1, h2⟩, h3⟩, h4⟩, h5⟩, h6⟩ := h
 refine ⟨⟨⟨⟨⟨h1, h2⟩, h3⟩, h4⟩, ?_⟩, h6⟩
 unfold lastW at h5
 unfold lastT
 rw [List.all_eq_true] at h5 ⊢
 intro d hd
 have h7 := h5 d hd
 rw [Bool.or_eq_true, Bool.and_eq_true, decide_eq_true_eq] at h7
 rcases h7 with h7 | ⟨h8, h9⟩
 ·rw [h7, Bool.true_or]
 ·rw [reach_bit hB _ d h8 h8 h9, Bool.or_true]
theorem with_tabW {P : Program} {Q : Exit → Act → World → Prop} {S : World → Prop} {n : Nat} {a : Act} {w : World} {B : List Nat} (hT : rtab md ops = T) (hB : waitsOk T.2 B = true) (h : Aside0 (rtab md ops = T) → Aside0 (waitsOk T.2 B = true) → wpAnyLast P md ops Q S ds n l a w) : wpAnyLast P md ops Q S ds n l a w := h ⟨hT⟩ ⟨hB⟩
end
def opsIn : Code → Nat → Option (Array Oper)
 | .region id ops _, k => if id == k then some ops else none
 | .seq a b, k => match opsIn a k with
  | some o => some o
  | none => opsIn b k
 | .cond _ a b, k => match opsIn a k with
  | some o => some o
  | none => opsIn b k
 | .block _ c, k => opsIn c k
 | .loop c, k => opsIn c k
 | .scope c, k => opsIn c k
 | .rangeFunc _ _ a b, k => match opsIn a k with
  | some o => some o
  | none => opsIn b k
 | _, _ => none
def opsOf (f : Func) (k : Nat) : Array Oper := ((f.body.bind fun c => opsIn c k)).getD #[]
end Go.Proofs.YtlbcpigjbjolaaaW.PrintLast
namespace Go.Proofs.YtlbcpigjbjolaaaW.PrintLast
section
variable {P : Program} {ops : Array Oper} {Q : Exit → Act → World → Prop} {md : Region.Mode} {S : World → Prop} {ds : List Nat} {T : Bool × List (List Nat × List Nat)}
theorem four_of {i j k m : Nat} {l li lj lk lm : Array Bool} (hT : rtab md ops = T) (h : (readyT T.2 l.toList == [i, j, k, m] && l.toList.set i true == li.toList && l.toList.set j true == lj.toList && l.toList.set k true == lk.toList && l.toList.set m true == lm.toList) = true) : (Region.ready md ops l == [i, j, k, m] && l.setIfInBounds i true == li && l.setIfInBounds j true == lj && l.setIfInBounds k true == lk && l.setIfInBounds m true == lm) = true := by
 simp only [Bool.and_eq_true] at h ⊢
 obtain ⟨⟨⟨⟨hr, hsi⟩, hsj⟩, hsk⟩, hsm⟩ := h
 subst hT
 exact ⟨⟨⟨⟨by rw [ready_eq]; exact hr, set_of hsi⟩, set_of hsj⟩, set_of hsk⟩, set_of hsm⟩
end
end Go.Proofs.YtlbcpigjbjolaaaW.PrintLast
namespace Go.Proofs.YtlbcpigjbjolaaaW.PrintWords
open Go.RowKit
namespace Kd
section
variable {α : Type} {d : Kd α} {W : World} {g n : Nat} {S ok : Nat → Prop} {A : Option Addr} {ad : Addr} {xs : List α}
theorem C_not_empty (h : d.C W (some ad) n xs) (hn : 0 < n) (hs : 0 < d.sz) : W.cell? ad ≠ none := by
 obtain ⟨ad', he, hc⟩ := h.2.2 hn
 injection he with he
 subst he
 obtain ⟨c, hcl, _, hcell⟩ := hc 0 _ (List.getElem?_eq_getElem (by rw [h.1]; exact hn))
 have h1 := hcell 0 _ (List.getElem?_eq_getElem (by omega))
 rw [Nat.zero_mul, Nat.zero_add, Addr.add_zero'] at h1
 rw [h1]
 exact Option.some_ne_none _
theorem C_lt (h : d.C W (some ad) n xs) (hn : 0 < n) (hs : 0 < d.sz) : ad.block < W.heap.size := by
 cases hc : W.cell? ad with
 | none => exact absurd hc (C_not_empty h hn hs)
 | some v => exact World.block_lt_of_cell? W ad hc
theorem foot_ltS (h : ∀ W', Kept W W' S → d.C W' (some ad) n xs) (hn : 0 < n) (hs : 0 < d.sz) : ad.block < W.heap.size := C_lt (h W (Kept.refl W S)) hn hs
end
end Kd
end Go.Proofs.YtlbcpigjbjolaaaW.PrintWords
namespace Go.Proofs.YtlbcpigjbjolaaaW.PrintWords
open Go.RowKit
section
variable {w w' u : World} {m B g : Nat} {o : Obj} {row : Option Nat} {S : Nat → Prop} {a : Addr} {v : Value}
end
namespace Kd
section
variable {α : Type} {d : Kd α} {e base n m : Nat} {ok : Nat → Prop} {w w' : World} {v : Value} {A : Option Addr} {xs : List α}
theorem C_at (hq : w.drewN m = w') (h : d.C w A n xs) : d.C w' A n xs := by subst hq; exact C_drewN h m
end
end Kd
end Go.Proofs.YtlbcpigjbjolaaaW.PrintWords
namespace Go.Proofs.YtlbcpigjbjolaaaW.PrintWords
open Go.RowKit
section
variable {P : Program} {d : Nat} {xs ys : Array Value} {f : Field} {fs : List Field} {a b : Value} {r s : Bool} {w : World}
theorem eqf_nil : (Op.eqFields d xs ys []).run P w = .ok true w := by simp [Op.eqFields]
end
end Go.Proofs.YtlbcpigjbjolaaaW.PrintWords
namespace Go.Proofs.YtlbcpigjbjolaaaW.PrintWords
theorem Reps.one {α : Type} {R : α → List Value → Prop} {ps : List α} {cs : List Value} {p : α} {v : Value} (hp : R p [v]) (h : Reps R 1 ps cs) : Reps R 1 (p :: ps) (v :: cs) := by
 refine ⟨by simp [h.1], fun j q hq => ?_⟩
 cases j with
 | zero =>
  simp only [List.getElem?_cons_zero, Option.some.injEq] at hq
  subst hq
  simpa using hp
 | succ j =>
  simp only [List.getElem?_cons_succ] at hq
  have h1 := h.2 j q hq
  simpa [Nat.mul_one] using h1
theorem Reps.front {α : Type} {R : α → List Value → Prop} {size : Nat} {ps : List α} {cs c all : List Value} {p : α} (hp : R p c) (hc : c.length = size) (h : Reps R size ps cs) (ha : c ++ cs = all) : Reps R size (p :: ps) all := by
 subst ha
 refine ⟨by rw [List.length_append, hc, h.1, List.length_cons, Nat.succ_mul, Nat.add_comm], fun j q hq => ?_⟩
 cases j with
 | zero =>
  simp only [List.getElem?_cons_zero, Option.some.injEq] at hq
  subst hq
  rw [Nat.zero_mul, List.drop_zero, List.take_append_of_le_length (by omega), List.take_of_length_le (by omega)]
  exact hp
 | succ j =>
  simp only [List.getElem?_cons_succ] at hq
  have h1 := h.2 j q hq
  rw [Nat.succ_mul, List.drop_append, List.drop_of_length_le (by rw [hc]; exact Nat.le_add_left _ _), List.nil_append, hc, Nat.add_sub_cancel]
  exact h1
theorem Reps.c2 {α : Type} {R : α → List Value → Prop} {ps : List α} {cs : List Value} {p : α} {va vb : Value} (hp : R p [va, vb]) (h : Reps R 2 ps cs) : Reps R 2 (p :: ps) (va :: vb :: cs) := Reps.front hp rfl h rfl
theorem Reps.c3 {α : Type} {R : α → List Value → Prop} {ps : List α} {cs : List Value} {p : α} {va vb vc : Value} (hp : R p [va, vb, vc]) (h : Reps R 3 ps cs) : Reps R 3 (p :: ps) (va :: vb :: vc :: cs) := Reps.front hp rfl h rfl
theorem Reps.c4 {α : Type} {R : α → List Value → Prop} {ps : List α} {cs : List Value} {p : α} {va vb vc vd : Value} (hp : R p [va, vb, vc, vd]) (h : Reps R 4 ps cs) : Reps R 4 (p :: ps) (va :: vb :: vc :: vd :: cs) := Reps.front hp rfl h rfl
theorem Reps.c5 {α : Type} {R : α → List Value → Prop} {ps : List α} {cs : List Value} {p : α} {va vb vc vd ve : Value} (hp : R p [va, vb, vc, vd, ve]) (h : Reps R 5 ps cs) : Reps R 5 (p :: ps) (va :: vb :: vc :: vd :: ve :: cs) := Reps.front hp rfl h rfl
theorem Reps.c6 {α : Type} {R : α → List Value → Prop} {ps : List α} {cs : List Value} {p : α} {va vb vc vd ve vf : Value} (hp : R p [va, vb, vc, vd, ve, vf]) (h : Reps R 6 ps cs) : Reps R 6 (p :: ps) (va :: vb :: vc :: vd :: ve :: vf :: cs) := Reps.front hp rfl h rfl
theorem Reps.c7 {α : Type} {R : α → List Value → Prop} {ps : List α} {cs : List Value} {p : α} {va vb vc vd ve vf vg : Value} (hp : R p [va, vb, vc, vd, ve, vf, vg]) (h : Reps R 7 ps cs) : Reps R 7 (p :: ps) (va :: vb :: vc :: vd :: ve :: vf :: vg :: cs) := Reps.front hp rfl h rfl
theorem Reps.c8 {α : Type} {R : α → List Value → Prop} {ps : List α} {cs : List Value} {p : α} {va vb vc vd ve vf vg vh : Value} (hp : R p [va, vb, vc, vd, ve, vf, vg, vh]) (h : Reps R 8 ps cs) : Reps R 8 (p :: ps) (va :: vb :: vc :: vd :: ve :: vf :: vg :: vh :: cs) := Reps.front hp rfl h rfl
theorem Reps.c9 {α : Type} {R : α → List Value → Prop} {ps : List α} {cs : List Value} {p : α} {va vb vc vd ve vf vg vh vi : Value} (hp : R p [va, vb, vc, vd, ve, vf, vg, vh, vi]) (h : Reps R 9 ps cs) : Reps R 9 (p :: ps) (va :: vb :: vc :: vd :: ve :: vf :: vg :: vh :: vi :: cs) := Reps.front hp rfl h rfl
theorem Reps.c10 {α : Type} {R : α → List Value → Prop} {ps : List α} {cs : List Value} {p : α} {va vb vc vd ve vf vg vh vi vj : Value} (hp : R p [va, vb, vc, vd, ve, vf, vg, vh, vi, vj]) (h : Reps R 10 ps cs) : Reps R 10 (p :: ps) (va :: vb :: vc :: vd :: ve :: vf :: vg :: vh :: vi :: vj :: cs) := Reps.front hp rfl h rfl
end Go.Proofs.YtlbcpigjbjolaaaW.PrintWords
namespace Go.Proofs.YtlbcpigjbjolaaaW.PrintLast
def lof (n : Nat) (O : List Nat) (b : Nat → Bool) : List Bool := (List.range n).map fun j => if O.contains j then b j else true
section
variable {P : Program} {ops : Array Oper} {Q : Exit → Act → World → Prop} {md : Region.Mode} {T : Bool × List (List Nat × List Nat)} {B : List Nat} {O : List Nat} {b : Nat → Bool} {i j n : Nat}
theorem lof_length : (lof n O b).length = n := by simp [lof]
end
end Go.Proofs.YtlbcpigjbjolaaaW.PrintLast
namespace Go.Proofs.YtlbcpigjbjolaaaW.PrintWords
open Go.RowKit
end Go.Proofs.YtlbcpigjbjolaaaW.PrintWords
namespace Go.Proofs.YtlbcpigjbjolaaaW.PrintLast
section
variable {ops : Array Oper} {a : Act} {o og : Oper} {g : Nat} {t : Tmp} {u : Bool}
theorem eval_of {v : Value} (h : a.tmps[t]? = some v) : a.eval (.tmp t) = v := by simp [Act.eval, h]
end
end Go.Proofs.YtlbcpigjbjolaaaW.PrintLast
namespace Go.Proofs.YtlbcpigjbjolaaaW.PrintWords
open Go.RowKit
section
variable {P : Program} {ops : Array Oper} {rest : List Oper} {o : Oper} {a : Act} {Q : Exit → Act → World → Prop} {W : World}
theorem gate_guard (hw : Region.wanted o (yielded ops a.tmps) = true) (h : wpList P ops Q ({ o with guard := none } :: rest) a W) : wpList P ops Q (o :: rest) a W := by
 have h1 : Region.wanted { o with guard := none } (yielded ops a.tmps) = true := rfl
 unfold wpList at h ⊢
 rw [if_pos h1] at h
 rw [if_pos hw]
 exact h
end
end Go.Proofs.YtlbcpigjbjolaaaW.PrintWords
namespace Go.Proofs.Ytlbcpigjbjolaaa.G
open Go.RowKit Go.Proofs.YtlbcpigjbjolaaaQ Go.Proofs.YtlbcpigjbjolaaaW.PrintWords Go.Proofs.YtlbcpigjbjolaaaW.PrintLast Go.Proofs.YtlbcpigjbjolaaaW.PrintMore
attribute [local go_sem] max2_int min2_int max_two min_two max_three min_three max_four min_four   -- for this text's walks alone
set_option linter.unusedVariables false
set_option linter.unusedSimpArgs false
def errW : Option Int → Value
 | none => .nilIface
 | some c => .iface 0 (.int .i64 c)
theorem errW_none : errW none = .nilIface := rfl
theorem errW_some (c : Int) : errW (some c) = .iface 0 (.int .i64 c) := rfl
theorem info4 : (Try.prog.info? 4).map (fun i => (i.zero, i.size, i.bytes)) = some (some (.bool false), 1, 1) := by kernel_rfl
theorem info5 : (Try.prog.info? 5).map (fun i => (i.zero, i.size, i.bytes)) = some (some (.int .u8 0), 1, 1) := by kernel_rfl
theorem info28 : (Try.prog.info? 28).map (fun i => (i.zero, i.size, i.bytes)) = some (some (.agg #[(.bool false), (.int .i64 0), (.string ⟨#[]⟩)]), 3, 32) := by kernel_rfl
structure S28 where
 f0 : Bool
 f1 : Int
 f2 : ByteArray
def z28 : S28 := ⟨false, (0 : Int), (⟨#[]⟩ : ByteArray)⟩
def k28 : Kd S28 := Kd.iso (Kd.pair Kd.bool (Kd.pair (Kd.int .i64) Kd.string)) (fun x : S28 => (x.f0, x.f1, x.f2))
theorem k28_open {w : World} {x : S28} {cs : List Value} (h : k28.K w x cs) : cs = [.bool x.f0, .int .i64 x.f1, .string x.f2] := by
 obtain ⟨_, _, rfl, rfl, ⟨_, _, rfl, rfl, rfl⟩⟩ := h
 exact rfl
theorem k28_openM {w : World} {base : Nat} {ok : Nat → Prop} {x : S28} {cs : List Value} (h : k28.M w base ok x cs) : cs = [.bool x.f0, .int .i64 x.f1, .string x.f2] := by
 obtain ⟨_, _, rfl, rfl, ⟨_, _, rfl, rfl, rfl⟩⟩ := h
 exact rfl
theorem k28_mk (w : World) (x : S28)  : k28.K w x [.bool x.f0, .int .i64 x.f1, .string x.f2] := ⟨[.bool x.f0], [.int .i64 x.f1, .string x.f2], rfl, rfl, ⟨[.int .i64 x.f1], [.string x.f2], rfl, rfl, rfl⟩⟩
theorem k28_mkM (w : World) (base : Nat) (ok : Nat → Prop) (x : S28)  : k28.M w base ok x [.bool x.f0, .int .i64 x.f1, .string x.f2] := ⟨[.bool x.f0], [.int .i64 x.f1, .string x.f2], rfl, rfl, ⟨[.int .i64 x.f1], [.string x.f2], rfl, rfl, rfl⟩⟩
def rd_T28 (xs : List S28) (i : Int) : S28 := xs.getD i.toNat z28
theorem at_T28 {w : World} {A : Option Addr} {n : Nat} {xs : List S28} (h : Kd.C k28 w A n xs) (i : Int) (h0 : 0 ≤ i) (h1 : i < n) : ∃ ad , A = some ad ∧ w.cell? (ad.add (i.toNat * 3)) = some (.bool (rd_T28 xs i).f0) ∧ w.cell? ⟨(ad.add (i.toNat * 3)).block, (ad.add (i.toNat * 3)).off + 1, none⟩ = some (.int .i64 (rd_T28 xs i).f1) ∧ w.cell? ⟨(ad.add (i.toNat * 3)).block, (ad.add (i.toNat * 3)).off + 2, none⟩ = some (.string (rd_T28 xs i).f2) := by
 obtain ⟨ad, c, e, _, hK, hc0⟩ := Kd.C_get h z28 i h0 h1
 have hc : ∀ j u, c[j]? = some u → w.cell? (ad.add (i.toNat * 3 + j)) = some u := hc0
 obtain rfl := k28_open hK
 exact ⟨ad, e, hc 0 _ rfl, by rw [← add_field _ _ 1 (by omega)]; exact hc 1 _ rfl, by rw [← add_field _ _ 2 (by omega)]; exact hc 2 _ rfl⟩
end Go.Proofs.Ytlbcpigjbjolaaa.G
namespace Go.Proofs.Ytlbcpigjbjolaaa.G
open Go.RowKit Go.Proofs.YtlbcpigjbjolaaaQ Go.Proofs.YtlbcpigjbjolaaaW.PrintWords Go.Proofs.YtlbcpigjbjolaaaW.PrintLast Go.Proofs.YtlbcpigjbjolaaaW.PrintMore
attribute [local go_sem] max2_int min2_int max_two min_two max_three min_three max_four min_four   -- for this text's walks alone
set_option linter.unusedVariables false
set_option linter.unusedSimpArgs false
def cmp_Or_int.l0 : Nat → Int → List Int → Int → Int → Option (Int)
 | 0, _, _, _, _ => none
 | k + 1, x3, x6, x7, x8 => if x8 < x7 then (if 0 ≤ x8 then (if x8 < (x6.length : Int) then (if (rd x6 x8) = x3 then (cmp_Or_int.l0 k x3 x6 x7 (wrap64 (x8 + 1))) else (some (rd x6 x8))) else (none)) else (none)) else (some x3)
def cmp_Or_int.f (k : Nat) (l0 : List Int) : Option (Int) := cmp_Or_int.l0 k 0 l0 (l0.length : Int) 0
theorem cmp_Or_int.mono_l : ∀ k, (∀ y0 y1 y2 y3, LeO (cmp_Or_int.l0 k y0 y1 y2 y3) (cmp_Or_int.l0 (k + 1) y0 y1 y2 y3))
 | 0 => fun _ _ _ _ r h => by simp [cmp_Or_int.l0] at h
 | k + 1 => by
  have ih0 := cmp_Or_int.mono_l k
  ·intro y0 y1 y2 y3
   unfold cmp_Or_int.l0
   repeat' first
   | (with_reducible exact ih0 _ _ _ _)
   | (with_reducible exact LeO.refl _)
   | (with_reducible exact LeO.none _)
   | (with_reducible refine LeO.ite ?_ ?_)
   | (with_reducible refine LeO.bind ?_ (fun _ => ?_))
   | exact ih0 _ _ _ _
   | exact LeO.none _
   | refine LeO.ite ?_ ?_
   | refine LeO.bind ?_ (fun _ => ?_)
theorem cmp_Or_int.mono : ∀ a0 k, LeO (cmp_Or_int.f k a0) (cmp_Or_int.f (k + 1) a0) := by
 intro a0 k
 have ih0 := cmp_Or_int.mono_l k
 unfold cmp_Or_int.f
 repeat' first
   | (with_reducible exact ih0 _ _ _ _)
   | (with_reducible exact LeO.refl _)
   | (with_reducible exact LeO.none _)
   | (with_reducible refine LeO.ite ?_ ?_)
   | (with_reducible refine LeO.bind ?_ (fun _ => ?_))
   | exact ih0 _ _ _ _
   | exact LeO.none _
   | refine LeO.ite ?_ ?_
   | refine LeO.bind ?_ (fun _ => ?_)
set_option maxHeartbeats 8000000 in
set_option maxRecDepth 100000 in
theorem cmp_Or_int.calls (k : Nat) (A0 : Option Addr) (c0 : Nat) (l0 : List Int) (r : Int) (w : World) (hr0 : Kd.C (Kd.int .i64) w A0 l0.length l0) (hc0 : l0.length ≤ c0) (h : cmp_Or_int.f k l0 = some r) :
  Calls Try.prog 29 #[.slice A0 l0.length c0] w fun e w' => e = .returned (.int .i64 r) ∧ Drawn0 w w' := by
 have HR0 := Aside0.mk hr0
 have HC0 := Aside0.mk hc0
 clear hr0 hc0
 have H : (cmp_Or_int.l0 k 0 l0 (l0.length : Int) 0) = some r := h
 clear h
 have H' := Aside0.mk H
 clear H
 go_enter Try.func29, Try.ntmps29
 go_wp2
 go_loopg [8] k (fun kq v8 w' => ∃ (x8_1 : Int), v8 = .int .i64 x8_1 ∧ Aside0 (cmp_Or_int.l0 kq 0 l0 (l0.length : Int) x8_1 = some r) ∧ Aside0 (kq ≤ k) ∧ Drawn0 w w')
 case atStart => exact ⟨(0), (by first | rfl | (simp; done) | (simp [*]; done)), H', ⟨Nat.le_refl _⟩, by repeat (first | exact Drawn0.refl _ | apply Drawn0.step)⟩
 case round =>
  clear H'
  obtain ⟨x8_1, rfl, HA, HK1, ⟨m1, rfl⟩⟩ := hrel
  cases gk with
  | zero => exact absurd HA.out (by simp [cmp_Or_int.l0])
  | succ k1 =>
   have H := HA.out
   clear HA
   simp only [cmp_Or_int.l0] at H
   by_cases c2 : x8_1 < (l0.length : Int)
   ·rw [if_pos c2] at H
    have c2b0 : decide (x8_1 < (l0.length : Int)) = true := decide_eq_true c2
    clear c2
    by_cases c3 : 0 ≤ x8_1
    ·rw [if_pos c3] at H
     have c3b0 : decide (0 ≤ x8_1) = true := decide_eq_true c3
     clear c3
     by_cases c4 : x8_1 < (l0.length : Int)
     ·rw [if_pos c4] at H
      have c4b0 : decide (x8_1 < (l0.length : Int)) = true := decide_eq_true c4
      clear c4
      by_cases c5 : (rd l0 x8_1) = 0
      ·rw [if_pos c5] at H
       have c5b0 : ((rd l0 x8_1) == 0) = true := beq_iff_eq.mpr c5
       have c5b1 : ((rd l0 x8_1) != 0) = false := bne_eq_false_iff_eq.mpr c5
       clear c5
       have H' := Aside0.mk H
       clear H
       have p101 : 0 ≤ (x8_1 : Int) := of_decide_eq_true (by first | (with_reducible assumption) | assumption)
       have q101 : x8_1 < (l0.length : Int) := of_decide_eq_true (by first | (with_reducible assumption) | assumption)
       obtain ⟨ad101, e101, hx101_0⟩ := Kd.at_int HR0.out x8_1 p101 q101
       cases e101
       replace p101 := eq_true p101
       replace q101 := eq_true q101
       go_wp2
       go_roundg k1
       case measure => have := HK1.out; omega
       case rel => exact ⟨(wrap64 (x8_1 + 1)), (by first | rfl | (simp; done) | (simp [*]; done)), H', ⟨by have := HK1.out; omega⟩, by repeat (first | exact Drawn0.refl _ | apply Drawn0.step)⟩
      ·rw [if_neg c5] at H
       have c5b0 : ((rd l0 x8_1) == 0) = false := beq_eq_false_iff_ne.mpr c5
       have c5b1 : ((rd l0 x8_1) != 0) = true := bne_iff_ne.mpr c5
       obtain rfl := Option.some.inj H
       have p101 : 0 ≤ (x8_1 : Int) := of_decide_eq_true (by first | (with_reducible assumption) | assumption)
       have q101 : x8_1 < (l0.length : Int) := of_decide_eq_true (by first | (with_reducible assumption) | assumption)
       obtain ⟨ad101, e101, hx101_0⟩ := Kd.at_int HR0.out x8_1 p101 q101
       cases e101
       replace p101 := eq_true p101
       replace q101 := eq_true q101
       go_wp2
       go_ret
       exact ⟨by first | rfl | (simp; done) | (simp [*]; done), by repeat (first | exact Drawn0.refl _ | apply Drawn0.step)⟩
     ·rw [if_neg c4] at H
      exact absurd H (by simp)
    ·rw [if_neg c3] at H
     exact absurd H (by simp)
   ·rw [if_neg c2] at H
    have c2b0 : decide (x8_1 < (l0.length : Int)) = false := decide_eq_false c2
    clear c2
    obtain rfl := Option.some.inj H
    go_wp2
    go_ret
    exact ⟨by first | rfl | (simp; done) | (simp [*]; done), by repeat (first | exact Drawn0.refl _ | apply Drawn0.step)⟩
def cmp_isNaN_int64.f (a0 : Int) : Option (Bool) := some (a0 != a0)
set_option maxHeartbeats 8000000 in
set_option maxRecDepth 100000 in
theorem cmp_isNaN_int64.calls (a0 : Int) (r : Bool) (w : World) (h : cmp_isNaN_int64.f a0 = some r) :
  Calls Try.prog 54 #[.int .i64 a0] w fun e w' => e = .returned (.bool r) ∧ Drawn0 w w' := by
 have H : (some (a0 != a0)) = some r := h
 clear h
 obtain rfl := Option.some.inj H
 go_enter Try.func54, Try.ntmps54
 go_wp2
 go_ret
 exact ⟨by first | rfl | (simp; done) | (simp [*]; done), by repeat (first | exact Drawn0.refl _ | apply Drawn0.step)⟩
def cmp_Compare_int64.f (a0 : Int) (a1 : Int) : Option (Int) := (cmp_isNaN_int64.f a0).bind fun t102 => ((cmp_isNaN_int64.f a1).bind fun t103 => (if t102 = true then (if t103 = true then (some 0) else (some (-1))) else (if t103 = true then (some 1) else (if a0 < a1 then (some (-1)) else (if a0 > a1 then (some 1) else (some 0))))))
set_option maxHeartbeats 8000000 in
set_option maxRecDepth 100000 in
theorem cmp_Compare_int64.calls (a0 : Int) (a1 : Int) (r : Int) (w : World) (h : cmp_Compare_int64.f a0 a1 = some r) :
  Calls Try.prog 30 #[.int .i64 a0, .int .i64 a1] w fun e w' => e = .returned (.int .i64 r) ∧ Drawn0 w w' := by
 have H : ((cmp_isNaN_int64.f a0).bind fun t102 => ((cmp_isNaN_int64.f a1).bind fun t103 => (if t102 = true then (if t103 = true then (some 0) else (some (-1))) else (if t103 = true then (some 1) else (if a0 < a1 then (some (-1)) else (if a0 > a1 then (some 1) else (some 0))))))) = some r := h
 clear h
 replace H := Option.bind_eq_some_iff.mp H
 obtain ⟨t102, A30, H⟩ := H
 replace H : ((cmp_isNaN_int64.f a1).bind fun t103 => (if t102 = true then (if t103 = true then (some 0) else (some (-1))) else (if t103 = true then (some 1) else (if a0 < a1 then (some (-1)) else (if a0 > a1 then (some 1) else (some 0)))))) = some r := H
 have A3 := Aside0.mk A30
 clear A30
 replace H := Option.bind_eq_some_iff.mp H
 obtain ⟨t103, A40, H⟩ := H
 replace H : (if t102 = true then (if t103 = true then (some 0) else (some (-1))) else (if t103 = true then (some 1) else (if a0 < a1 then (some (-1)) else (if a0 > a1 then (some 1) else (some 0))))) = some r := H
 have A4 := Aside0.mk A40
 clear A40
 by_cases c5 : t102 = true
 ·subst c5
  have H1 : (if t103 = true then (some 0) else (some (-1))) = some r := by rw [if_pos rfl] at H; exact H
  clear H
  have H := H1
  clear H1
  by_cases c6 : t103 = true
  ·subst c6
   have H1 : (some 0) = some r := by rw [if_pos rfl] at H; exact H
   clear H
   have H := H1
   clear H1
   obtain rfl := Option.some.inj H
   go_enter Try.func30, Try.ntmps30
   go_wp2_with (first | ((with_reducible refine gate_callee (f := 54) rfl ?_); refine goesL_ (some 8) rfl rfl Try.func54 (by kernel_rfl) rfl #[.int .i64 a0] rfl (by (try simp only [List.map_toArray, List.map_cons, List.map_nil]); first | done | rfl | (simp only [List.length_drop, List.length_take]; rfl) | (go_simp; simp [IntKind.wrap, IntKind.bits, IntKind.signed]; omega)) ?_; (with_reducible refine (cmp_isNaN_int64.calls a0 true _ A3.out).mono ?_); rintro e w' ⟨rfl, ⟨nd, rfl⟩⟩; refine ⟨_, rfl, ?_⟩) | ((with_reducible refine gate_callee (f := 54) rfl ?_); refine goesL_ (some 10) rfl rfl Try.func54 (by kernel_rfl) rfl #[.int .i64 a1] rfl (by (try simp only [List.map_toArray, List.map_cons, List.map_nil]); first | done | rfl | (simp only [List.length_drop, List.length_take]; rfl) | (go_simp; simp [IntKind.wrap, IntKind.bits, IntKind.signed]; omega)) ?_; (with_reducible refine (cmp_isNaN_int64.calls a1 true _ A4.out).mono ?_); rintro e w' ⟨rfl, ⟨nd, rfl⟩⟩; refine ⟨_, rfl, ?_⟩))
   go_ret
   exact ⟨by first | rfl | (simp; done) | (simp [*]; done), by repeat (first | exact Drawn0.refl _ | apply Drawn0.step)⟩
  ·replace c6 := Bool.eq_false_iff.mpr c6
   subst c6
   have H1 : (some (-1)) = some r := by rw [if_neg (show ¬ (false = true) by decide)] at H; exact H
   clear H
   have H := H1
   clear H1
   obtain rfl := Option.some.inj H
   go_enter Try.func30, Try.ntmps30
   go_wp2_with (first | ((with_reducible refine gate_callee (f := 54) rfl ?_); refine goesL_ (some 8) rfl rfl Try.func54 (by kernel_rfl) rfl #[.int .i64 a0] rfl (by (try simp only [List.map_toArray, List.map_cons, List.map_nil]); first | done | rfl | (simp only [List.length_drop, List.length_take]; rfl) | (go_simp; simp [IntKind.wrap, IntKind.bits, IntKind.signed]; omega)) ?_; (with_reducible refine (cmp_isNaN_int64.calls a0 true _ A3.out).mono ?_); rintro e w' ⟨rfl, ⟨nd, rfl⟩⟩; refine ⟨_, rfl, ?_⟩) | ((with_reducible refine gate_callee (f := 54) rfl ?_); refine goesL_ (some 10) rfl rfl Try.func54 (by kernel_rfl) rfl #[.int .i64 a1] rfl (by (try simp only [List.map_toArray, List.map_cons, List.map_nil]); first | done | rfl | (simp only [List.length_drop, List.length_take]; rfl) | (go_simp; simp [IntKind.wrap, IntKind.bits, IntKind.signed]; omega)) ?_; (with_reducible refine (cmp_isNaN_int64.calls a1 false _ A4.out).mono ?_); rintro e w' ⟨rfl, ⟨nd, rfl⟩⟩; refine ⟨_, rfl, ?_⟩))
   go_ret
   exact ⟨by first | rfl | (simp; done) | (simp [*]; done), by repeat (first | exact Drawn0.refl _ | apply Drawn0.step)⟩
 ·replace c5 := Bool.eq_false_iff.mpr c5
  subst c5
  have H1 : (if t103 = true then (some 1) else (if a0 < a1 then (some (-1)) else (if a0 > a1 then (some 1) else (some 0)))) = some r := by rw [if_neg (show ¬ (false = true) by decide)] at H; exact H
  clear H
  have H := H1
  clear H1
  by_cases c7 : t103 = true
  ·subst c7
   have H1 : (some 1) = some r := by rw [if_pos rfl] at H; exact H
   clear H
   have H := H1
   clear H1
   obtain rfl := Option.some.inj H
   go_enter Try.func30, Try.ntmps30
   go_wp2_with (first | ((with_reducible refine gate_callee (f := 54) rfl ?_); refine goesL_ (some 8) rfl rfl Try.func54 (by kernel_rfl) rfl #[.int .i64 a0] rfl (by (try simp only [List.map_toArray, List.map_cons, List.map_nil]); first | done | rfl | (simp only [List.length_drop, List.length_take]; rfl) | (go_simp; simp [IntKind.wrap, IntKind.bits, IntKind.signed]; omega)) ?_; (with_reducible refine (cmp_isNaN_int64.calls a0 false _ A3.out).mono ?_); rintro e w' ⟨rfl, ⟨nd, rfl⟩⟩; refine ⟨_, rfl, ?_⟩) | ((with_reducible refine gate_callee (f := 54) rfl ?_); refine goesL_ (some 10) rfl rfl Try.func54 (by kernel_rfl) rfl #[.int .i64 a1] rfl (by (try simp only [List.map_toArray, List.map_cons, List.map_nil]); first | done | rfl | (simp only [List.length_drop, List.length_take]; rfl) | (go_simp; simp [IntKind.wrap, IntKind.bits, IntKind.signed]; omega)) ?_; (with_reducible refine (cmp_isNaN_int64.calls a1 true _ A4.out).mono ?_); rintro e w' ⟨rfl, ⟨nd, rfl⟩⟩; refine ⟨_, rfl, ?_⟩))
   go_ret
   exact ⟨by first | rfl | (simp; done) | (simp [*]; done), by repeat (first | exact Drawn0.refl _ | apply Drawn0.step)⟩
  ·replace c7 := Bool.eq_false_iff.mpr c7
   subst c7
   have H1 : (if a0 < a1 then (some (-1)) else (if a0 > a1 then (some 1) else (some 0))) = some r := by rw [if_neg (show ¬ (false = true) by decide)] at H; exact H
   clear H
   have H := H1
   clear H1
   by_cases c8 : a0 < a1
   ·rw [if_pos c8] at H
    have c8b0 : decide (a0 < a1) = true := decide_eq_true c8
    clear c8
    obtain rfl := Option.some.inj H
    go_enter Try.func30, Try.ntmps30
    go_wp2_with (first | ((with_reducible refine gate_callee (f := 54) rfl ?_); refine goesL_ (some 8) rfl rfl Try.func54 (by kernel_rfl) rfl #[.int .i64 a0] rfl (by (try simp only [List.map_toArray, List.map_cons, List.map_nil]); first | done | rfl | (simp only [List.length_drop, List.length_take]; rfl) | (go_simp; simp [IntKind.wrap, IntKind.bits, IntKind.signed]; omega)) ?_; (with_reducible refine (cmp_isNaN_int64.calls a0 false _ A3.out).mono ?_); rintro e w' ⟨rfl, ⟨nd, rfl⟩⟩; refine ⟨_, rfl, ?_⟩) | ((with_reducible refine gate_callee (f := 54) rfl ?_); refine goesL_ (some 10) rfl rfl Try.func54 (by kernel_rfl) rfl #[.int .i64 a1] rfl (by (try simp only [List.map_toArray, List.map_cons, List.map_nil]); first | done | rfl | (simp only [List.length_drop, List.length_take]; rfl) | (go_simp; simp [IntKind.wrap, IntKind.bits, IntKind.signed]; omega)) ?_; (with_reducible refine (cmp_isNaN_int64.calls a1 false _ A4.out).mono ?_); rintro e w' ⟨rfl, ⟨nd, rfl⟩⟩; refine ⟨_, rfl, ?_⟩))
    go_ret
    exact ⟨by first | rfl | (simp; done) | (simp [*]; done), by repeat (first | exact Drawn0.refl _ | apply Drawn0.step)⟩
   ·rw [if_neg c8] at H
    have c8b0 : decide (a0 < a1) = false := decide_eq_false c8
    clear c8
    by_cases c9 : a0 > a1
    ·rw [if_pos c9] at H
     have c9b0 : decide (a1 < a0) = true := decide_eq_true c9
     clear c9
     obtain rfl := Option.some.inj H
     go_enter Try.func30, Try.ntmps30
     go_wp2_with (first | ((with_reducible refine gate_callee (f := 54) rfl ?_); refine goesL_ (some 8) rfl rfl Try.func54 (by kernel_rfl) rfl #[.int .i64 a0] rfl (by (try simp only [List.map_toArray, List.map_cons, List.map_nil]); first | done | rfl | (simp only [List.length_drop, List.length_take]; rfl) | (go_simp; simp [IntKind.wrap, IntKind.bits, IntKind.signed]; omega)) ?_; (with_reducible refine (cmp_isNaN_int64.calls a0 false _ A3.out).mono ?_); rintro e w' ⟨rfl, ⟨nd, rfl⟩⟩; refine ⟨_, rfl, ?_⟩) | ((with_reducible refine gate_callee (f := 54) rfl ?_); refine goesL_ (some 10) rfl rfl Try.func54 (by kernel_rfl) rfl #[.int .i64 a1] rfl (by (try simp only [List.map_toArray, List.map_cons, List.map_nil]); first | done | rfl | (simp only [List.length_drop, List.length_take]; rfl) | (go_simp; simp [IntKind.wrap, IntKind.bits, IntKind.signed]; omega)) ?_; (with_reducible refine (cmp_isNaN_int64.calls a1 false _ A4.out).mono ?_); rintro e w' ⟨rfl, ⟨nd, rfl⟩⟩; refine ⟨_, rfl, ?_⟩))
     go_ret
     exact ⟨by first | rfl | (simp; done) | (simp [*]; done), by repeat (first | exact Drawn0.refl _ | apply Drawn0.step)⟩
    ·rw [if_neg c9] at H
     have c9b0 : decide (a1 < a0) = false := decide_eq_false c9
     clear c9
     obtain rfl := Option.some.inj H
     go_enter Try.func30, Try.ntmps30
     go_wp2_with (first | ((with_reducible refine gate_callee (f := 54) rfl ?_); refine goesL_ (some 8) rfl rfl Try.func54 (by kernel_rfl) rfl #[.int .i64 a0] rfl (by (try simp only [List.map_toArray, List.map_cons, List.map_nil]); first | done | rfl | (simp only [List.length_drop, List.length_take]; rfl) | (go_simp; simp [IntKind.wrap, IntKind.bits, IntKind.signed]; omega)) ?_; (with_reducible refine (cmp_isNaN_int64.calls a0 false _ A3.out).mono ?_); rintro e w' ⟨rfl, ⟨nd, rfl⟩⟩; refine ⟨_, rfl, ?_⟩) | ((with_reducible refine gate_callee (f := 54) rfl ?_); refine goesL_ (some 10) rfl rfl Try.func54 (by kernel_rfl) rfl #[.int .i64 a1] rfl (by (try simp only [List.map_toArray, List.map_cons, List.map_nil]); first | done | rfl | (simp only [List.length_drop, List.length_take]; rfl) | (go_simp; simp [IntKind.wrap, IntKind.bits, IntKind.signed]; omega)) ?_; (with_reducible refine (cmp_isNaN_int64.calls a1 false _ A4.out).mono ?_); rintro e w' ⟨rfl, ⟨nd, rfl⟩⟩; refine ⟨_, rfl, ?_⟩))
     go_ret
     exact ⟨by first | rfl | (simp; done) | (simp [*]; done), by repeat (first | exact Drawn0.refl _ | apply Drawn0.step)⟩
def cmp_isNaN_string.f (a0 : ByteArray) : Option (Bool) := some (a0.toList != a0.toList)
set_option maxHeartbeats 8000000 in
set_option maxRecDepth 100000 in
theorem cmp_isNaN_string.calls (a0 : ByteArray) (r : Bool) (w : World) (h : cmp_isNaN_string.f a0 = some r) :
  Calls Try.prog 55 #[.string a0] w fun e w' => e = .returned (.bool r) ∧ Drawn0 w w' := by
 have H : (some (a0.toList != a0.toList)) = some r := h
 clear h
 obtain rfl := Option.some.inj H
 go_enter Try.func55, Try.ntmps55
 go_wp2
 go_ret
 exact ⟨by first | rfl | (simp; done) | (simp [*]; done), by repeat (first | exact Drawn0.refl _ | apply Drawn0.step)⟩
def cmpStr (a b : ByteArray) : Int := if Op.bytesLess a.toList b.toList = true then -1 else if (a.toList == b.toList) = true then 0 else 1
def cmp_Compare_string.f (a0 : ByteArray) (a1 : ByteArray) : Option (Int) := some (cmpStr a0 a1)
theorem cmp_Compare_string.nan (a : ByteArray) : cmp_isNaN_string.f a = some false := by unfold cmp_isNaN_string.f; simp
set_option maxHeartbeats 1000000 in
set_option maxRecDepth 100000 in
theorem cmp_Compare_string.way (a0 : ByteArray) (a1 : ByteArray) (b1 b2 : Bool) (w : World) (h1 : Op.bytesLess a0.toList a1.toList = b1) (h2 : (a0.toList == a1.toList) = b2) :
  Calls Try.prog 31 #[.string a0, .string a1] w fun e w' => e = .returned (.int .i64 (if b1 = true then -1 else if b2 = true then 0 else 1)) ∧ Drawn0 w w' := by
 have HN0 := Aside0.mk (cmp_Compare_string.nan a0); have HN1 := Aside0.mk (cmp_Compare_string.nan a1)
 cases b1 <;> cases b2
 all_goals
  go_enter Try.func31, Try.ntmps31
  go_wp2_with fail
  refine (cmp_isNaN_string.calls a0 false _ HN0.out).mono ?_; rintro e w1 ⟨rfl, hd1⟩
  have HD1 := Aside0.mk hd1; clear hd1
  go_wp2_with fail
  refine (cmp_isNaN_string.calls a1 false _ HN1.out).mono ?_; rintro e w2 ⟨rfl, hd2⟩
  have HD2 := Aside0.mk hd2; clear hd2
  go_wp2
  go_ret
  exact ⟨rfl, by obtain ⟨⟨m1, e1⟩⟩ := HD1.out; obtain ⟨⟨m2, e2⟩⟩ := HD2.out; subst e1; subst e2; exact (Drawn0.refl _).step _ |>.step _⟩
theorem cmp_Compare_string.calls (a0 : ByteArray) (a1 : ByteArray) (r : Int) (w : World) (h : cmp_Compare_string.f a0 a1 = some r) :
  Calls Try.prog 31 #[.string a0, .string a1] w fun e w' => e = .returned (.int .i64 r) ∧ Drawn0 w w' := by
 unfold cmp_Compare_string.f at h
 obtain rfl := Option.some.inj h
 exact cmp_Compare_string.way a0 a1 _ _ w rfl rfl
def kinds_Compare.j0 : Nat → Bool → Bool → Int → ByteArray → Bool → Int → ByteArray → Option (Int)
 | 0, _, _, _, _, _, _, _ => none
 | k + 1, x5, x105000, x105001, x105002, x106000, x106001, x106002 => if x5 = true then (some 0) else (if x105000 = true then (some (-1)) else (if x106000 = true then (some 1) else ((cmp_Compare_int64.f x105001 x106001).bind fun t106 => ((cmp_Compare_string.f x105002 x106002).bind fun t107 => ((cmp_Or_int.f k (([t106, t107] : List Int))).bind fun t111 => (some t111))))))
def kinds_Compare.f (k : Nat) (a0_0 : Bool) (a0_1 : Int) (a0_2 : ByteArray) (a1_0 : Bool) (a1_1 : Int) (a1_2 : ByteArray) : Option (Int) := if a0_0 = true then (kinds_Compare.j0 k a1_0 a0_0 a0_1 a0_2 a1_0 a1_1 a1_2) else (kinds_Compare.j0 k false a0_0 a0_1 a0_2 a1_0 a1_1 a1_2)
theorem kinds_Compare.mono_l : ∀ k, (∀ y0 y1 y2 y3 y4 y5 y6, LeO (kinds_Compare.j0 k y0 y1 y2 y3 y4 y5 y6) (kinds_Compare.j0 (k + 1) y0 y1 y2 y3 y4 y5 y6))
 | 0 => fun _ _ _ _ _ _ _ r h => by simp [kinds_Compare.j0] at h
 | k + 1 => by
  have ih0 := kinds_Compare.mono_l k
  ·intro y0 y1 y2 y3 y4 y5 y6
   unfold kinds_Compare.j0
   repeat' first
   | (with_reducible exact ih0 _ _ _ _ _ _ _)
   | (with_reducible exact cmp_Or_int.mono _ _)
   | (with_reducible exact LeO.refl _)
   | (with_reducible exact LeO.none _)
   | (with_reducible refine LeO.ite ?_ ?_)
   | (with_reducible refine LeO.bind ?_ (fun _ => ?_))
   | exact ih0 _ _ _ _ _ _ _
   | exact cmp_Or_int.mono _ _
   | exact LeO.none _
   | refine LeO.ite ?_ ?_
   | refine LeO.bind ?_ (fun _ => ?_)
theorem kinds_Compare.mono : ∀ a0 a1 a2 a3 a4 a5 k, LeO (kinds_Compare.f k a0 a1 a2 a3 a4 a5) (kinds_Compare.f (k + 1) a0 a1 a2 a3 a4 a5) := by
 intro a0 a1 a2 a3 a4 a5 k
 have ih0 := kinds_Compare.mono_l k
 unfold kinds_Compare.f
 repeat' first
   | (with_reducible exact ih0 _ _ _ _ _ _ _)
   | (with_reducible exact cmp_Or_int.mono _ _)
   | (with_reducible exact LeO.refl _)
   | (with_reducible exact LeO.none _)
   | (with_reducible refine LeO.ite ?_ ?_)
   | (with_reducible refine LeO.bind ?_ (fun _ => ?_))
   | exact ih0 _ _ _ _ _ _ _
   | exact cmp_Or_int.mono _ _
   | exact LeO.none _
   | refine LeO.ite ?_ ?_
   | refine LeO.bind ?_ (fun _ => ?_)
def kinds_Compare.T7 : Bool × List (List Nat × List Nat) := (true, [([], []), ([0], [0]), ([], []), ([2], [2]), ([1, 3], [1, 3]), ([], []), ([5], [5]), ([], []), ([7], [7]), ([6, 8, 4], [6, 8]), ([4, 9], [4, 9]), ([10, 9], [10]), ([11, 11, 0, 1, 2, 3, 4, 5, 6, 7, 8, 9, 10, 11], [11])])
def kinds_Compare.B7 : List Nat := [0, 1, 0, 4, 15, 0, 32, 0, 128, 511, 1023, 2047, 4095]
theorem kinds_Compare.tab7 : rtab .any (opsOf Try.f14 7) = kinds_Compare.T7 := by kernel_rfl
theorem kinds_Compare.bits7 : waitsOk kinds_Compare.T7.2 kinds_Compare.B7 = true := by kernel_rfl
set_option maxHeartbeats 8000000 in
set_option maxRecDepth 100000 in
theorem kinds_Compare.calls (k : Nat) (a0_0 : Bool) (a0_1 : Int) (a0_2 : ByteArray) (a1_0 : Bool) (a1_1 : Int) (a1_2 : ByteArray) (r : Int) (w : World) (h : kinds_Compare.f k a0_0 a0_1 a0_2 a1_0 a1_1 a1_2 = some r) :
  Calls Try.prog 14 #[.agg #[.bool a0_0, .int .i64 a0_1, .string a0_2], .agg #[.bool a1_0, .int .i64 a1_1, .string a1_2]] w fun e w' => e = .returned (.int .i64 r) ∧ Below w.heap.size w w' := by
 have hu28 := Try.underlying28
 have HB := Aside0.mk (Below.refl w.heap.size w)
 have H : (if a0_0 = true then (kinds_Compare.j0 k a1_0 a0_0 a0_1 a0_2 a1_0 a1_1 a1_2) else (kinds_Compare.j0 k false a0_0 a0_1 a0_2 a1_0 a1_1 a1_2)) = some r := h
 clear h
 have HC3 := Aside0.mk H
 clear H
 go_enter Try.func14, Try.ntmps14
 go_upto_region 1 with (first | ((with_reducible refine gate_dst (N := 2) rfl ?_); refine box_event ?hg (N := 2) ?hd (cs := #[.bool a0_0, .int .i64 a0_1, .string a0_2]) (t := 28) ?hr ?_; (case hd => rfl); (case hg => rfl); (case hr => first | (go_simp; done) | (go_simp; rfl)); intro gb104 hg w4 hbox hb; have n0_ := Aside0.mk (below_step (by repeat (first | (with_reducible first | exact HB.out | apply below_alloc | apply pw_below_drewN | apply below_drew1) | exact HB.out)) hb); have n1_ := Aside0.mk (hbox); have n2_ := Aside0.mk ((by rw [hg]; exact (below_size (by repeat (first | (with_reducible first | exact HB.out | apply below_alloc | apply pw_below_drewN | apply below_drew1) | exact HB.out))) : w.heap.size ≤ gb104)); have n3_ := Aside0.mk ((by rw [hg]; exact (below_size (by repeat (first | (with_reducible first | exact HB.out | apply below_alloc | apply pw_below_drewN | apply below_drew1) | exact HB.out))) : w.heap.size ≤ gb104)); clear HB; have HB := n0_; have BK104 := n1_; have GW104 := n2_; have GE104 := n3_; clear n0_ n1_ n2_ n3_; clear hb hbox hg) | ((with_reducible refine gate_dst (N := 3) rfl ?_); refine box_event ?hg (N := 3) ?hd (cs := #[.bool a1_0, .int .i64 a1_1, .string a1_2]) (t := 28) ?hr ?_; (case hd => rfl); (case hg => rfl); (case hr => first | (go_simp; done) | (go_simp; rfl)); intro gb105 hg w5 hbox hb; have n0_ := Aside0.mk (blk_below (g := gb104) (o := .cells #[.bool a0_0, .int .i64 a0_1, .string a0_2] 28 (0, 0)) (by (with_reducible repeat (first | refine blk_drewN ?_ _ | refine blk_drew ?_ | refine blk_alloc ?_ _)); exact BK104.out) hb); have n1_ := Aside0.mk (below_step (by repeat (first | (with_reducible first | exact HB.out | apply below_alloc | apply pw_below_drewN | apply below_drew1 | refine below_set ?_ GE104.out) | exact HB.out)) hb); have n2_ := Aside0.mk (hbox); have n3_ := Aside0.mk ((by rw [hg]; exact (below_size (by repeat (first | (with_reducible first | exact HB.out | apply below_alloc | apply pw_below_drewN | apply below_drew1 | refine below_set ?_ GE104.out) | exact HB.out))) : w.heap.size ≤ gb105)); have n4_ := Aside0.mk ((by rw [hg]; exact (below_size (by repeat (first | (with_reducible first | exact HB.out | apply below_alloc | apply pw_below_drewN | apply below_drew1 | refine below_set ?_ GE104.out) | exact HB.out))) : w.heap.size ≤ gb105)); have n5_ := Aside0.mk ((by rw [hg]; exact Nat.ne_of_lt (blk_lt (g := gb104) (o := .cells #[.bool a0_0, .int .i64 a0_1, .string a0_2] 28 (0, 0)) (by (with_reducible repeat (first | refine blk_drewN ?_ _ | refine blk_drew ?_ | refine blk_alloc ?_ _)); exact BK104.out)) : gb104 ≠ gb105)); have n6_ := Aside0.mk ((by rw [hg]; exact Nat.ne_of_gt (blk_lt (g := gb104) (o := .cells #[.bool a0_0, .int .i64 a0_1, .string a0_2] 28 (0, 0)) (by (with_reducible repeat (first | refine blk_drewN ?_ _ | refine blk_drew ?_ | refine blk_alloc ?_ _)); exact BK104.out)) : gb105 ≠ gb104)); clear BK104; clear HB; have BK104 := n0_; have HB := n1_; have BK105 := n2_; have GW105 := n3_; have GE105 := n4_; have NB104_105 := n5_; have NB105_104 := n6_; clear n0_ n1_ n2_ n3_ n4_ n5_ n6_; clear hb hbox hg))
 (try simp only [Act.put, List.setIfInBounds_toArray, List.set_cons_zero, List.set_cons_succ])
 go_cut [5] (fun v5 wc => ∃ (kq : Nat) (x5_2 : Bool), v5 = .bool x5_2 ∧ Aside0 (kinds_Compare.j0 kq x5_2 a0_0 a0_1 a0_2 a1_0 a1_1 a1_2 = some r) ∧ Aside0 (kq ≤ k) ∧ Aside0 (wc.heap[gb104]? = some (.cells #[.bool a0_0, .int .i64 a0_1, .string a0_2] 28 (0, 0))) ∧ Aside0 (wc.heap[gb105]? = some (.cells #[.bool a1_0, .int .i64 a1_1, .string a1_2] 28 (0, 0))) ∧ Aside0 (Below w.heap.size w wc))
 case first =>
  have H := HC3.out
  clear HC3
  by_cases c6 : a0_0 = true
  ·subst c6
   have H1 : (kinds_Compare.j0 k a1_0 true a0_1 a0_2 a1_0 a1_1 a1_2) = some r := by rw [if_pos rfl] at H; exact H
   clear H
   have H := H1
   clear H1
   have H' := Aside0.mk H
   clear H
   have hnb7 := NB104_105.out
   have hnc7 := NB105_104.out
   have hcz8_0 : w5.cell? ⟨gb104, 0, none⟩ = some (.bool true) := (blk_cell BK104.out 0).trans rfl
   have hcz8_1 : w5.cell? ⟨gb104, 1, none⟩ = some (.int .i64 a0_1) := (blk_cell BK104.out 1).trans rfl
   have hcz8_2 : w5.cell? ⟨gb104, 2, none⟩ = some (.string a0_2) := (blk_cell BK104.out 2).trans rfl
   have hfz8_0 := blk_frozen BK104.out 0
   have hfz8_1 := blk_frozen BK104.out 1
   have hfz8_2 := blk_frozen BK104.out 2
   have hcz9_0 : w5.cell? ⟨gb105, 0, none⟩ = some (.bool a1_0) := (blk_cell BK105.out 0).trans rfl
   have hcz9_1 : w5.cell? ⟨gb105, 1, none⟩ = some (.int .i64 a1_1) := (blk_cell BK105.out 1).trans rfl
   have hcz9_2 : w5.cell? ⟨gb105, 2, none⟩ = some (.string a1_2) := (blk_cell BK105.out 2).trans rfl
   have hfz9_0 := blk_frozen BK105.out 0
   have hfz9_1 := blk_frozen BK105.out 1
   have hfz9_2 := blk_frozen BK105.out 2
   go_wp2
   go_meet
   case rel => exact ⟨_, (a1_0), (by first | rfl | (simp; done) | (simp [*]; done)), H', ⟨by first | omega | exact Nat.le_refl _⟩, ⟨by (with_reducible repeat (first | refine blk_drewN ?_ _ | refine blk_drew ?_ | refine blk_alloc ?_ _)); exact BK104.out⟩, ⟨by (with_reducible repeat (first | refine blk_drewN ?_ _ | refine blk_drew ?_ | refine blk_alloc ?_ _)); exact BK105.out⟩, ⟨by repeat (first | (with_reducible first | exact HB.out | apply below_alloc | apply pw_below_drewN | apply below_drew1 | refine below_set ?_ GE104.out | refine below_set ?_ GE105.out) | exact HB.out)⟩⟩
  ·replace c6 := Bool.eq_false_iff.mpr c6
   subst c6
   have H1 : (kinds_Compare.j0 k false false a0_1 a0_2 a1_0 a1_1 a1_2) = some r := by rw [if_neg (show ¬ (false = true) by decide)] at H; exact H
   clear H
   have H := H1
   clear H1
   have H' := Aside0.mk H
   clear H
   have hnb10 := NB104_105.out
   have hnc10 := NB105_104.out
   have hcz11_0 : w5.cell? ⟨gb104, 0, none⟩ = some (.bool false) := (blk_cell BK104.out 0).trans rfl
   have hcz11_1 : w5.cell? ⟨gb104, 1, none⟩ = some (.int .i64 a0_1) := (blk_cell BK104.out 1).trans rfl
   have hcz11_2 : w5.cell? ⟨gb104, 2, none⟩ = some (.string a0_2) := (blk_cell BK104.out 2).trans rfl
   have hfz11_0 := blk_frozen BK104.out 0
   have hfz11_1 := blk_frozen BK104.out 1
   have hfz11_2 := blk_frozen BK104.out 2
   go_wp2
   go_meet
   case rel => exact ⟨_, (false), (by first | rfl | (simp; done) | (simp [*]; done)), H', ⟨by first | omega | exact Nat.le_refl _⟩, ⟨by (with_reducible repeat (first | refine blk_drewN ?_ _ | refine blk_drew ?_ | refine blk_alloc ?_ _)); exact BK104.out⟩, ⟨by (with_reducible repeat (first | refine blk_drewN ?_ _ | refine blk_drew ?_ | refine blk_alloc ?_ _)); exact BK105.out⟩, ⟨by repeat (first | (with_reducible first | exact HB.out | apply below_alloc | apply pw_below_drewN | apply below_drew1 | refine below_set ?_ GE104.out | refine below_set ?_ GE105.out) | exact HB.out)⟩⟩
 case rest =>
  clear HC3
  try clear c1
  try clear p2
  try clear c6
  try clear c7
  try clear c10
  try clear hcz11_0
  try clear hcz11_1
  try clear hcz11_2
  try clear hcz8_0
  try clear hcz8_1
  try clear hcz8_2
  try clear hcz9_0
  try clear hcz9_1
  try clear hcz9_2
  try clear hfz11_0
  try clear hfz11_1
  try clear hfz11_2
  try clear hfz8_0
  try clear hfz8_1
  try clear hfz8_2
  try clear hfz9_0
  try clear hfz9_1
  try clear hfz9_2
  obtain ⟨kq, x5_2, rfl, HA, HJ2, BK104, BK105, HB⟩ := hcut
  cases kq with
  | zero => exact absurd HA.out (by simp [kinds_Compare.j0])
  | succ kj2 =>
   have H := HA.out
   clear HA
   simp only [kinds_Compare.j0] at H
   by_cases c12 : x5_2 = true
   ·subst c12
    have H1 : (some 0) = some r := by rw [if_pos rfl] at H; exact H
    clear H
    have H := H1
    clear H1
    obtain rfl := Option.some.inj H
    go_wp2
    go_ret
    exact ⟨by first | rfl | (simp [errW_none, errW_some] <;> rfl) | (simp [*, errW_none, errW_some] <;> rfl), by repeat (first | (with_reducible first | exact HB.out | apply below_alloc | apply pw_below_drewN | apply below_drew1 | refine below_set ?_ GE104.out | refine below_set ?_ GE105.out) | exact HB.out)⟩
   ·replace c12 := Bool.eq_false_iff.mpr c12
    subst c12
    have H1 : (if a0_0 = true then (some (-1)) else (if a1_0 = true then (some 1) else ((cmp_Compare_int64.f a0_1 a1_1).bind fun t106 => ((cmp_Compare_string.f a0_2 a1_2).bind fun t107 => ((cmp_Or_int.f kj2 (([t106, t107] : List Int))).bind fun t111 => (some t111)))))) = some r := by rw [if_neg (show ¬ (false = true) by decide)] at H; exact H
    clear H
    have H := H1
    clear H1
    by_cases c13 : a0_0 = true
    ·subst c13
     have H1 : (some (-1)) = some r := by rw [if_pos rfl] at H; exact H
     clear H
     have H := H1
     clear H1
     obtain rfl := Option.some.inj H
     have hnb14 := NB104_105.out
     have hnc14 := NB105_104.out
     have hcz15_0 : wc.cell? ⟨gb104, 0, none⟩ = some (.bool true) := (blk_cell BK104.out 0).trans rfl
     have hcz15_1 : wc.cell? ⟨gb104, 1, none⟩ = some (.int .i64 a0_1) := (blk_cell BK104.out 1).trans rfl
     have hcz15_2 : wc.cell? ⟨gb104, 2, none⟩ = some (.string a0_2) := (blk_cell BK104.out 2).trans rfl
     have hfz15_0 := blk_frozen BK104.out 0
     have hfz15_1 := blk_frozen BK104.out 1
     have hfz15_2 := blk_frozen BK104.out 2
     go_wp2
     go_ret
     exact ⟨by first | rfl | (simp [errW_none, errW_some] <;> rfl) | (simp [*, errW_none, errW_some] <;> rfl), by repeat (first | (with_reducible first | exact HB.out | apply below_alloc | apply pw_below_drewN | apply below_drew1 | refine below_set ?_ GE104.out | refine below_set ?_ GE105.out) | exact HB.out)⟩
    ·replace c13 := Bool.eq_false_iff.mpr c13
     subst c13
     have H1 : (if a1_0 = true then (some 1) else ((cmp_Compare_int64.f a0_1 a1_1).bind fun t106 => ((cmp_Compare_string.f a0_2 a1_2).bind fun t107 => ((cmp_Or_int.f kj2 (([t106, t107] : List Int))).bind fun t111 => (some t111))))) = some r := by rw [if_neg (show ¬ (false = true) by decide)] at H; exact H
     clear H
     have H := H1
     clear H1
     by_cases c16 : a1_0 = true
     ·subst c16
      have H1 : (some 1) = some r := by rw [if_pos rfl] at H; exact H
      clear H
      have H := H1
      clear H1
      obtain rfl := Option.some.inj H
      have hnb17 := NB104_105.out
      have hnc17 := NB105_104.out
      have hcz18_0 : wc.cell? ⟨gb104, 0, none⟩ = some (.bool false) := (blk_cell BK104.out 0).trans rfl
      have hcz18_1 : wc.cell? ⟨gb104, 1, none⟩ = some (.int .i64 a0_1) := (blk_cell BK104.out 1).trans rfl
      have hcz18_2 : wc.cell? ⟨gb104, 2, none⟩ = some (.string a0_2) := (blk_cell BK104.out 2).trans rfl
      have hfz18_0 := blk_frozen BK104.out 0
      have hfz18_1 := blk_frozen BK104.out 1
      have hfz18_2 := blk_frozen BK104.out 2
      have hcz19_0 : wc.cell? ⟨gb105, 0, none⟩ = some (.bool true) := (blk_cell BK105.out 0).trans rfl
      have hcz19_1 : wc.cell? ⟨gb105, 1, none⟩ = some (.int .i64 a1_1) := (blk_cell BK105.out 1).trans rfl
      have hcz19_2 : wc.cell? ⟨gb105, 2, none⟩ = some (.string a1_2) := (blk_cell BK105.out 2).trans rfl
      have hfz19_0 := blk_frozen BK105.out 0
      have hfz19_1 := blk_frozen BK105.out 1
      have hfz19_2 := blk_frozen BK105.out 2
      go_wp2
      go_ret
      exact ⟨by first | rfl | (simp [errW_none, errW_some] <;> rfl) | (simp [*, errW_none, errW_some] <;> rfl), by repeat (first | (with_reducible first | exact HB.out | apply below_alloc | apply pw_below_drewN | apply below_drew1 | refine below_set ?_ GE104.out | refine below_set ?_ GE105.out) | exact HB.out)⟩
     ·replace c16 := Bool.eq_false_iff.mpr c16
      subst c16
      have H1 : ((cmp_Compare_int64.f a0_1 a1_1).bind fun t106 => ((cmp_Compare_string.f a0_2 a1_2).bind fun t107 => ((cmp_Or_int.f kj2 (([t106, t107] : List Int))).bind fun t111 => (some t111)))) = some r := by rw [if_neg (show ¬ (false = true) by decide)] at H; exact H
      clear H
      have H := H1
      clear H1
      replace H := Option.bind_eq_some_iff.mp H
      obtain ⟨t106, A200, H⟩ := H
      replace H : ((cmp_Compare_string.f a0_2 a1_2).bind fun t107 => ((cmp_Or_int.f kj2 (([t106, t107] : List Int))).bind fun t111 => (some t111))) = some r := H
      have A20 := Aside0.mk A200
      clear A200
      replace H := Option.bind_eq_some_iff.mp H
      obtain ⟨t107, A210, H⟩ := H
      replace H : ((cmp_Or_int.f kj2 (([t106, t107] : List Int))).bind fun t111 => (some t111)) = some r := H
      have A21 := Aside0.mk A210
      clear A210
      obtain ⟨y108, hy108⟩ : ∃ y_ : List Int, y_ = (([t106, t107] : List Int)) := ⟨_, rfl⟩
      replace H : ((cmp_Or_int.f kj2 y108).bind fun t111 => (some t111)) = some r := by first | (rw [hy108]; with_reducible exact H) | (have H2_ := (Option.bind_some _ _).symm.trans H; rw [hy108]; with_reducible exact H2_) | (have H2_ := (Option.bind_some _ _).symm.trans H; with_reducible exact H2_) | with_reducible exact H | (rw [hy108]; exact H) | exact H
      have Ny108 := Aside0.mk hy108
      clear hy108
      replace H := Option.bind_eq_some_iff.mp H
      obtain ⟨t111, A220, H⟩ := H
      replace H : (some t111) = some r := H
      have A22 := Aside0.mk A220
      clear A220
      obtain rfl := Option.some.inj H
      have hnb23 := NB104_105.out
      have hnc23 := NB105_104.out
      have hcz24_0 : wc.cell? ⟨gb104, 0, none⟩ = some (.bool false) := (blk_cell BK104.out 0).trans rfl
      have hcz24_1 : wc.cell? ⟨gb104, 1, none⟩ = some (.int .i64 a0_1) := (blk_cell BK104.out 1).trans rfl
      have hcz24_2 : wc.cell? ⟨gb104, 2, none⟩ = some (.string a0_2) := (blk_cell BK104.out 2).trans rfl
      have hfz24_0 := blk_frozen BK104.out 0
      have hfz24_1 := blk_frozen BK104.out 1
      have hfz24_2 := blk_frozen BK104.out 2
      have hcz25_0 : wc.cell? ⟨gb105, 0, none⟩ = some (.bool false) := (blk_cell BK105.out 0).trans rfl
      have hcz25_1 : wc.cell? ⟨gb105, 1, none⟩ = some (.int .i64 a1_1) := (blk_cell BK105.out 1).trans rfl
      have hcz25_2 : wc.cell? ⟨gb105, 2, none⟩ = some (.string a1_2) := (blk_cell BK105.out 2).trans rfl
      have hfz25_0 := blk_frozen BK105.out 0
      have hfz25_1 := blk_frozen BK105.out 1
      have hfz25_2 := blk_frozen BK105.out 2
      try go_wp2
      have n0_ := Aside0.mk (blk_drew BK104.out)
      have n1_ := Aside0.mk (blk_drew BK105.out)
      have n2_ := Aside0.mk (below_drew1 HB.out)
      clear BK104
      clear BK105
      clear HB
      have BK104 := n0_
      have BK105 := n1_
      have HB := n2_
      clear n0_ n1_ n2_
      refine start_ (n := 13) (S := fun w' => w'.cell? ⟨gb104, 0, none⟩ = some (.bool false) ∧ w'.cell? ⟨gb104, 1, none⟩ = some (.int .i64 a0_1) ∧ w'.cell? ⟨gb104, 2, none⟩ = some (.string a0_2) ∧ w'.cell? ⟨gb105, 0, none⟩ = some (.bool false) ∧ w'.cell? ⟨gb105, 1, none⟩ = some (.int .i64 a1_1) ∧ w'.cell? ⟨gb105, 2, none⟩ = some (.string a1_2)) (ds := []) #[false, false, false, false, false, false, false, false, false, false, false, false, false] (by kernel_rfl) rfl rfl ⟨(blk_cell BK104.out 0).trans rfl, (blk_cell BK104.out 1).trans rfl, (blk_cell BK104.out 2).trans rfl, (blk_cell BK105.out 0).trans rfl, (blk_cell BK105.out 1).trans rfl, (blk_cell BK105.out 2).trans rfl⟩ (fun hHeld => ?_); refine with_tabW kinds_Compare.tab7 kinds_Compare.bits7 (fun HT_ HW_ => ?_)
      generalize wc.drew = w26 at BK104 BK105 HB hHeld ⊢
      refine pure_ (i := 0) (N := some 18) (v := ?_) (a' := ?_) #[true, false, false, false, false, false, false, false, false, false, false, false, false] rfl rfl (any_of HT_.out (by kernel_rfl)) (fun _ _ _ h => h) (Or.inl ⟨by rfl, ?_⟩) ?_ ?_
      rotate_left
      ·intro w'
       go_simp
       with_reducible rfl
      rotate_left
      ·simp only [Act.put, List.setIfInBounds_toArray, List.set_cons_zero, List.set_cons_succ, i64_w, i32_w]
       rfl
      refine pure_ (i := 2) (N := some 20) (v := ?_) (a' := ?_) #[true, false, true, false, false, false, false, false, false, false, false, false, false] rfl rfl (any_of HT_.out (by kernel_rfl)) (fun _ _ _ h => h) (Or.inl ⟨by rfl, ?_⟩) ?_ ?_
      rotate_left
      ·intro w'
       go_simp
       with_reducible rfl
      rotate_left
      ·simp only [Act.put, List.setIfInBounds_toArray, List.set_cons_zero, List.set_cons_succ, i64_w, i32_w]
       rfl
      refine pure_ (i := 5) (N := some 23) (v := ?_) (a' := ?_) #[true, false, true, false, false, true, false, false, false, false, false, false, false] rfl rfl (any_of HT_.out (by kernel_rfl)) (fun _ _ _ h => h) (Or.inl ⟨by rfl, ?_⟩) ?_ ?_
      rotate_left
      ·intro w'
       go_simp
       with_reducible rfl
      rotate_left
      ·simp only [Act.put, List.setIfInBounds_toArray, List.set_cons_zero, List.set_cons_succ, i64_w, i32_w]
       rfl
      refine pure_ (i := 7) (N := some 25) (v := ?_) (a' := ?_) #[true, false, true, false, false, true, false, true, false, false, false, false, false] rfl rfl (any_of HT_.out (by kernel_rfl)) (fun _ _ _ h => h) (Or.inl ⟨by rfl, ?_⟩) ?_ ?_
      rotate_left
      ·intro w'
       go_simp
       with_reducible rfl
      rotate_left
      ·simp only [Act.put, List.setIfInBounds_toArray, List.set_cons_zero, List.set_cons_succ, i64_w, i32_w]
       rfl
      refine take_ (i := 1) (N := some 19) (v := ?_) (a' := ?_) #[true, true, true, false, false, true, false, true, false, false, false, false, false] rfl rfl (take_ofW HT_.out HW_.out (by kernel_rfl)) (fun _ _ _ h => h) (Or.inl ⟨by rfl, ?_⟩) hHeld ?_ ?_
      rotate_left
      ·rintro w' ⟨s0, s1, s2, s3, s4, s5⟩
       go_simp
       with_reducible rfl
      rotate_left
      ·simp only [Act.put, List.setIfInBounds_toArray, List.set_cons_zero, List.set_cons_succ, i64_w, i32_w]
       rfl
      refine take_ (i := 3) (N := some 21) (v := ?_) (a' := ?_) #[true, true, true, true, false, true, false, true, false, false, false, false, false] rfl rfl (take_ofW HT_.out HW_.out (by kernel_rfl)) (fun _ _ _ h => h) (Or.inl ⟨by rfl, ?_⟩) hHeld ?_ ?_
      rotate_left
      ·rintro w' ⟨s0, s1, s2, s3, s4, s5⟩
       go_simp
       with_reducible rfl
      rotate_left
      ·simp only [Act.put, List.setIfInBounds_toArray, List.set_cons_zero, List.set_cons_succ, i64_w, i32_w]
       rfl
      refine take_ (i := 6) (N := some 24) (v := ?_) (a' := ?_) #[true, true, true, true, false, true, true, true, false, false, false, false, false] rfl rfl (take_ofW HT_.out HW_.out (by kernel_rfl)) (fun _ _ _ h => h) (Or.inl ⟨by rfl, ?_⟩) hHeld ?_ ?_
      rotate_left
      ·rintro w' ⟨s0, s1, s2, s3, s4, s5⟩
       go_simp
       with_reducible rfl
      rotate_left
      ·simp only [Act.put, List.setIfInBounds_toArray, List.set_cons_zero, List.set_cons_succ, i64_w, i32_w]
       rfl
      refine take_ (i := 8) (N := some 26) (v := ?_) (a' := ?_) #[true, true, true, true, false, true, true, true, true, false, false, false, false] rfl rfl (take_ofW HT_.out HW_.out (by kernel_rfl)) (fun _ _ _ h => h) (Or.inl ⟨by rfl, ?_⟩) hHeld ?_ ?_
      rotate_left
      ·rintro w' ⟨s0, s1, s2, s3, s4, s5⟩
       go_simp
       with_reducible rfl
      rotate_left
      ·simp only [Act.put, List.setIfInBounds_toArray, List.set_cons_zero, List.set_cons_succ, i64_w, i32_w]
       rfl
      refine one_ (i := 4) (N := some 22) #[true, true, true, true, true, true, true, true, true, false, false, false, false] rfl rfl (one_of HT_.out (by kernel_rfl)) (by decide) (fun K hK => ?_)
      refine goes_ Try.func30 (by kernel_rfl) rfl #[.int .i64 a0_1, .int .i64 a1_1] (by rfl) rfl rfl (by (try simp only [List.map_toArray, List.map_cons, List.map_nil]); first | done | rfl | (simp only [List.length_drop, List.length_take]; rfl)) ?_
      with_reducible refine (cmp_Compare_int64.calls a0_1 a1_1 t106 _ A20.out).mono ?_
      rintro e w' ⟨rfl, ⟨nd, rfl⟩⟩
      refine ⟨_, rfl, ?_⟩
      refine hK.out _ _ ⟨(blk_cell BK104.out 0).trans rfl, (blk_cell BK104.out 1).trans rfl, (blk_cell BK104.out 2).trans rfl, (blk_cell BK105.out 0).trans rfl, (blk_cell BK105.out 1).trans rfl, (blk_cell BK105.out 2).trans rfl⟩ (fun hHeld => ?_)
      clear hK K
      refine norm_ (a' := ?_) ?_ ?_
      rotate_left
      ·show Act.put _ (some 22) _ = _
       simp only [Act.put, List.setIfInBounds_toArray, List.set_cons_zero, List.set_cons_succ, i64_w, i32_w]
       rfl
      refine one_ (i := 9) (N := some 27) #[true, true, true, true, true, true, true, true, true, true, false, false, false] rfl rfl (one_of HT_.out (by kernel_rfl)) (by decide) (fun K hK => ?_)
      refine goes_ Try.func31 (by kernel_rfl) rfl #[.string a0_2, .string a1_2] (by rfl) rfl rfl (by (try simp only [List.map_toArray, List.map_cons, List.map_nil]); first | done | rfl | (simp only [List.length_drop, List.length_take]; rfl)) ?_
      with_reducible refine (cmp_Compare_string.calls a0_2 a1_2 t107 _ A21.out).mono ?_
      rintro e w' ⟨rfl, ⟨nd, rfl⟩⟩
      refine ⟨_, rfl, ?_⟩
      refine hK.out _ _ ⟨(blk_cell BK104.out 0).trans rfl, (blk_cell BK104.out 1).trans rfl, (blk_cell BK104.out 2).trans rfl, (blk_cell BK105.out 0).trans rfl, (blk_cell BK105.out 1).trans rfl, (blk_cell BK105.out 2).trans rfl⟩ (fun hHeld => ?_)
      clear hK K
      refine norm_ (a' := ?_) ?_ ?_
      rotate_left
      ·show Act.put _ (some 27) _ = _
       simp only [Act.put, List.setIfInBounds_toArray, List.set_cons_zero, List.set_cons_succ, i64_w, i32_w]
       rfl
      refine one_ (i := 10) (N := some 28) #[true, true, true, true, true, true, true, true, true, true, true, false, false] rfl rfl (one_of HT_.out (by kernel_rfl)) (by decide) (fun K hK => ?_)
      refine Kd.R_lit_step (Kd.int .i64) _ 3 ?hg (N := 28) ?hd (xs := ([t106, t107] : List Int)) (inner := [.int .i64 t106, .int .i64 t107]) (ok := fun _ => True) (okp := fun _ => True) ?hr ?hp (fun _ hk => hk) trivial (Below.refl _ _) (Nat.le_refl _) (by simp) ?_; (case hd => rfl); (case hg => rfl); (case hr => first | (go_simp; done) | (go_simp; rfl)); (case hp => exact (Reps.one (show Kd.M (Kd.int .i64) _ _ _ t106 [.int .i64 t106] from rfl) (Reps.one (show Kd.M (Kd.int .i64) _ _ _ t107 [.int .i64 t107] from rfl) (Reps.none _ _))))
      intro v109 w27 ho28 hb hg_ hnew_
      clear hg_ hnew_
      (first | rw [← Ny108.out] at ho28 | (simp only [Int.reduceToNat] at ho28; rw [← Ny108.out] at ho28))
      have n0_ := Aside0.mk (Kd.R_lower ho28 (below_size (by repeat (first | (with_reducible first | exact HB.out | apply below_alloc | apply pw_below_drewN | apply below_drew1 | refine below_set ?_ GE104.out | refine below_set ?_ GE105.out) | exact HB.out))))
      have n1_ := Aside0.mk (blk_below (g := gb104) (o := .cells #[.bool false, .int .i64 a0_1, .string a0_2] 28 (0, 0)) (by (with_reducible repeat (first | refine blk_drewN ?_ _ | refine blk_drew ?_ | refine blk_alloc ?_ _)); exact BK104.out) hb)
      have n2_ := Aside0.mk (blk_below (g := gb105) (o := .cells #[.bool false, .int .i64 a1_1, .string a1_2] 28 (0, 0)) (by (with_reducible repeat (first | refine blk_drewN ?_ _ | refine blk_drew ?_ | refine blk_alloc ?_ _)); exact BK105.out) hb)
      have n3_ := Aside0.mk (below_step (by repeat (first | (with_reducible first | exact HB.out | apply below_alloc | apply pw_below_drewN | apply below_drew1 | refine below_set ?_ GE104.out | refine below_set ?_ GE105.out) | exact HB.out)) hb)
      clear BK104
      clear BK105
      clear HB
      have HO110 := n0_
      have BK104 := n1_
      have BK105 := n2_
      have HB := n3_
      clear n0_ n1_ n2_ n3_
      clear hb ho28
      obtain ⟨Ao29, co29, eo29⟩ := Kd.R_slice HO110.out
      (first | subst eo29 | (injection eo29 with f1_ f2_ f3_; have f4_ := f1_.symm; have f5_ := f3_.symm; clear f1_ f2_ f3_; subst f4_; subst f5_))
      refine hK.out _ _ ⟨(blk_cell BK104.out 0).trans rfl, (blk_cell BK104.out 1).trans rfl, (blk_cell BK104.out 2).trans rfl, (blk_cell BK105.out 0).trans rfl, (blk_cell BK105.out 1).trans rfl, (blk_cell BK105.out 2).trans rfl⟩ (fun hHeld => ?_)
      clear hK K
      refine norm_ (a' := ?_) ?_ ?_
      rotate_left
      ·show Act.put _ (some 28) _ = _
       simp only [Act.put, List.setIfInBounds_toArray, List.set_cons_zero, List.set_cons_succ, i64_w, i32_w]
       rfl
      refine one_ (i := 11) (N := some 29) #[true, true, true, true, true, true, true, true, true, true, true, true, false] rfl rfl (one_of HT_.out (by kernel_rfl)) (by decide) (fun K hK => ?_)
      refine goes_ Try.func29 (by kernel_rfl) rfl #[.slice Ao29 y108.length co29] (by rfl) rfl rfl (by (try simp only [List.map_toArray, List.map_cons, List.map_nil]); first | done | rfl | (simp only [List.length_drop, List.length_take]; rfl)) ?_
      with_reducible refine (cmp_Or_int.calls kj2 _ _ y108 t111 _ ?side1 ?side2 A22.out).mono ?_
      (case side1 => repeat (first | exact (Kd.R_reads' HO110.out).2.2 | (with_reducible refine Kd.C_alloc ?_ _) | (with_reducible refine Kd.C_drewN ?_ _) | (with_reducible refine Kd.C_drew ?_)))
      (case side2 => exact (Kd.R_reads' HO110.out).2.1)
      rintro e w' ⟨rfl, ⟨nd, rfl⟩⟩
      refine ⟨_, rfl, ?_⟩
      refine hK.out _ _ ⟨(blk_cell BK104.out 0).trans rfl, (blk_cell BK104.out 1).trans rfl, (blk_cell BK104.out 2).trans rfl, (blk_cell BK105.out 0).trans rfl, (blk_cell BK105.out 1).trans rfl, (blk_cell BK105.out 2).trans rfl⟩ (fun hHeld => ?_)
      clear hK K
      refine norm_ (a' := ?_) ?_ ?_
      rotate_left
      ·show Act.put _ (some 29) _ = _
       simp only [Act.put, List.setIfInBounds_toArray, List.set_cons_zero, List.set_cons_succ, i64_w, i32_w]
       rfl
      refine pure_ (i := 12) (N := some 4) (v := ?_) (a' := ?_) #[true, true, true, true, true, true, true, true, true, true, true, true, true] rfl rfl (any_of HT_.out (by kernel_rfl)) (fun _ _ _ h => h) (Or.inl ⟨by rfl, ?_⟩) ?_ ?_
      rotate_left
      ·intro w'
       go_simp
       with_reducible rfl
      rotate_left
      ·simp only [Act.put, List.setIfInBounds_toArray, List.set_cons_zero, List.set_cons_succ, i64_w, i32_w]
       rfl
      refine done_ (done_of HT_.out (by kernel_rfl)) ?_
      try go_wp2
      go_ret
      exact ⟨by first | rfl | (simp [errW_none, errW_some] <;> rfl) | (simp [*, errW_none, errW_some] <;> rfl), by repeat (first | (with_reducible first | exact HB.out | apply below_alloc | apply pw_below_drewN | apply below_drew1 | refine below_set ?_ GE104.out | refine below_set ?_ GE105.out) | exact HB.out)⟩
def tally_big.l0 : Nat → List Int → Int → Int → Option (List Int)
 | 0, _, _, _ => none
 | k + 1, x0, x1, x2 => if x2 ≥ 0 then (if 0 ≤ (wrap64 (8 * x2)) then (if x0.length < 140737488355328 then (tally_big.l0 k (x0 ++ [(shr .u64 x1 (wrap64 (8 * x2))) % 256]) x1 (wrap64 (x2 - 1))) else (none)) else (none)) else (some x0)
def tally_big.f (k : Nat) (l0 : List Int) (a1 : Int) (a2 : Int) : Option (List Int) := tally_big.l0 k l0 a1 (wrap64 (a2 - 1))
theorem tally_big.mono_l : ∀ k, (∀ y0 y1 y2, LeO (tally_big.l0 k y0 y1 y2) (tally_big.l0 (k + 1) y0 y1 y2))
 | 0 => fun _ _ _ r h => by simp [tally_big.l0] at h
 | k + 1 => by
  have ih0 := tally_big.mono_l k
  ·intro y0 y1 y2
   unfold tally_big.l0
   repeat' first
   | (with_reducible exact ih0 _ _ _)
   | (with_reducible exact LeO.refl _)
   | (with_reducible exact LeO.none _)
   | (with_reducible refine LeO.ite ?_ ?_)
   | (with_reducible refine LeO.bind ?_ (fun _ => ?_))
   | exact ih0 _ _ _
   | exact LeO.none _
   | refine LeO.ite ?_ ?_
   | refine LeO.bind ?_ (fun _ => ?_)
theorem tally_big.mono : ∀ a0 a1 a2 k, LeO (tally_big.f k a0 a1 a2) (tally_big.f (k + 1) a0 a1 a2) := by
 intro a0 a1 a2 k
 have ih0 := tally_big.mono_l k
 unfold tally_big.f
 repeat' first
   | (with_reducible exact ih0 _ _ _)
   | (with_reducible exact LeO.refl _)
   | (with_reducible exact LeO.none _)
   | (with_reducible refine LeO.ite ?_ ?_)
   | (with_reducible refine LeO.bind ?_ (fun _ => ?_))
   | exact ih0 _ _ _
   | exact LeO.none _
   | refine LeO.ite ?_ ?_
   | refine LeO.bind ?_ (fun _ => ?_)
set_option maxHeartbeats 8000000 in
set_option maxRecDepth 100000 in
theorem tally_big.calls (k : Nat) (P0_ : Nat → Prop) (u9000_ : Value) (l0 : List Int) (a1 : Int) (a2 : Int) (r : List Int) (w0 w : World) (hB : Below w0.heap.size w0 w) (ho0 : Kd.R (Kd.int .u8) 5 w w0.heap.size P0_ u9000_ l0) (h : tally_big.f k l0 a1 a2 = some r) :
  Calls Try.prog 35 #[u9000_, .int .u64 a1, .int .i64 a2] w fun e w' => ∃ v0_ : Value, e = .returned (v0_) ∧ Kd.R (Kd.int .u8) 5 w' w0.heap.size (fun k_ => (P0_ k_ ∨ w.heap.size ≤ k_)) v0_ r ∧ Below w0.heap.size w0 w' ∧ Kept w w' (fun k_ => P0_ k_) := by
 have HO0 := Aside0.mk (show Kd.R (Kd.int .u8) 5 w w0.heap.size (fun k_ => (P0_ k_ ∨ w.heap.size ≤ k_)) u9000_ l0 from Kd.R_mono ho0 (fun k_ hk => (.inl hk)))
 have HK := Aside0.mk (Kept.refl w (fun k_ => P0_ k_))
 have HW0 := Aside0.mk hB.size
 have HB := Aside0.mk hB
 clear hB
 have H : (tally_big.l0 k l0 a1 (wrap64 (a2 - 1))) = some r := h
 clear h
 have H' := Aside0.mk H
 clear H
 go_enter Try.func35, Try.ntmps35
 go_wp2
 go_loopg [0, 2] k (fun kq v0 v2 w' => ∃ (x0_1 : List Int) (x2_1 : Int), v2 = .int .i64 x2_1 ∧ Aside0 (tally_big.l0 kq x0_1 a1 x2_1 = some r) ∧ Aside0 (kq ≤ k) ∧ Aside0 (Kd.R (Kd.int .u8) 5 w' w0.heap.size (fun k_ => (P0_ k_ ∨ w.heap.size ≤ k_)) v0 x0_1) ∧ Aside0 (Kept w w' (fun k_ => P0_ k_)) ∧ Aside0 (Below w0.heap.size w0 w'))
 case atStart => exact ⟨(l0), (wrap64 (a2 - 1)), (by first | rfl | (simp; done) | (simp [*]; done)), H', ⟨Nat.le_refl _⟩, ⟨by (with_reducible repeat (first | apply Kd.R_alloc | apply Kd.R_drewN | apply Kd.R_drew)); exact HO0.out⟩, ⟨by repeat (first | (with_reducible first | exact HK.out | apply Kept.alloc | apply Kept.drewN | apply Kept.drew) | exact HK.out)⟩, ⟨by repeat (first | (with_reducible first | exact HB.out | apply below_alloc | apply pw_below_drewN | apply below_drew1) | exact HB.out)⟩⟩
 case round =>
  clear H'
  try clear p2
  try clear c3
  obtain ⟨x0_1, x2_1, rfl, HA, HK1, HO_0, HK, HB⟩ := hrel
  cases gk with
  | zero => exact absurd HA.out (by simp [tally_big.l0])
  | succ k1 =>
   have H := HA.out
   clear HA
   simp only [tally_big.l0] at H
   by_cases c4 : x2_1 ≥ 0
   ·rw [if_pos c4] at H
    have c4b0 : decide (0 ≤ x2_1) = true := decide_eq_true c4
    clear c4
    obtain ⟨ji5, hji5⟩ : ∃ j_ : Int, (wrap64 (8 * x2_1)) = j_ := ⟨_, rfl⟩
    replace H : (if 0 ≤ (ji5) then (if x0_1.length < 140737488355328 then (tally_big.l0 k1 (x0_1 ++ [(shr .u64 a1 (ji5)) % 256]) a1 (wrap64 (x2_1 - 1))) else (none)) else (none)) = some r := by first | (rw [hji5] at H; exact H) | (simp only [hji5] at H ⊢; exact H)
    have hji5w : (IntKind.i64.wrap (8 * x2_1)) = ji5 := (i64_w _).trans hji5
    by_cases c6 : 0 ≤ (ji5)
    ·rw [if_pos c6] at H
     have c6b0 := eq_true c6
     have c6b1 : decide (0 ≤ (ji5)) = true := decide_eq_true c6
     clear c6
     obtain ⟨ji7, hji7⟩ : ∃ j_ : Int, (shr .u64 a1 (ji5)) = j_ := ⟨_, rfl⟩
     replace H : (if x0_1.length < 140737488355328 then (tally_big.l0 k1 (x0_1 ++ [(ji7) % 256]) a1 (wrap64 (x2_1 - 1))) else (none)) = some r := by first | (rw [hji7] at H; exact H) | (simp only [hji7] at H ⊢; exact H)
     have hji7_ : (a1 / 2 ^ min (ji5).toNat 64) = ji7 := hji7
     have hji7z : (ji5) ≤ 64 → (a1 / 2 ^ (ji5).toNat) = ji7 := shr_small hji7
     by_cases c8 : x0_1.length < 140737488355328
     ·rw [if_pos c8] at H
      have LMc8 := Aside0.mk c8
      clear c8
      obtain ⟨y112, hy112⟩ : ∃ y_ : List Int, y_ = (x0_1 ++ [(ji7) % 256]) := ⟨_, rfl⟩
      replace H : (tally_big.l0 k1 y112 a1 (wrap64 (x2_1 - 1))) = some r := by first | (rw [hy112]; with_reducible exact H) | (have H2_ := (Option.bind_some _ _).symm.trans H; rw [hy112]; with_reducible exact H2_) | (have H2_ := (Option.bind_some _ _).symm.trans H; with_reducible exact H2_) | with_reducible exact H | (rw [hy112]; exact H) | exact H
      have Ny112 := Aside0.mk hy112
      clear hy112
      have H' := Aside0.mk H
      clear H
      go_wp2_with (first | ((with_reducible refine gate_builtin (b := .append) (xs := #[.tmp 13, .tmp 19]) rfl ?_); at_builtin; refine Kd.R_append (Kd.int .u8) (w0 := w0) w0.heap.size rfl (.tmp 13) (.tmp 19) 38 5 (.int .u8 0) 1 rfl Try.underlying38 info5 rfl (by decide) (by omega) u0 x0_1 ((ji7) % 256) [.int .u8 ((ji7) % 256)] (fun k_ => (P0_ k_ ∨ w.heap.size ≤ k_)) (fun _ => False) rfl rfl ?aP (fun _ hk => hk.elim) ?aF ?aO ?aB ?aS ?aL ?_; (case aP => exact rfl); (case aB => exact (by repeat (first | (with_reducible first | exact HB.out | apply below_alloc | apply pw_below_drewN | apply below_drew1) | exact HB.out))); (case aF => exact (fun k_ hk => (.inr (Nat.le_trans (by first | exact HK.out.1 | exact (show Kept w _ (fun k_ => P0_ k_) from by repeat (first | (with_reducible first | exact HK.out | apply Kept.alloc | apply Kept.drewN | apply Kept.drew) | exact HK.out)).1) hk)))); (case aO => exact (by (with_reducible repeat (first | apply Kd.R_alloc | apply Kd.R_drewN | apply Kd.R_drew)); exact HO_0.out)); (case aS => exact (below_size (by repeat (first | (with_reducible first | exact HB.out | apply below_alloc | apply pw_below_drewN | apply below_drew1) | exact HB.out)))); (case aL => have := LMc8.out; omega); intro v113 w9 ho hb hg hat; rw [← Ny112.out] at ho; have n0_ := Aside0.mk (hb); have n1_ := Aside0.mk (Kept.of_grown (S := (fun k_ => P0_ k_)) hg (by repeat (first | (with_reducible first | exact HK.out | apply Kept.alloc | apply Kept.drewN | apply Kept.drew) | exact HK.out)) (fun k_ e_ => (HO_0.out.1 k_ e_))); have n2_ := Aside0.mk (ho); clear HB; clear HK; clear HO_0; have HB := n0_; have HK := n1_; have HO114 := n2_; clear n0_ n1_ n2_; clear ho hb hg hat))
      go_roundg k1
      case measure => have := HK1.out; omega
      case rel => exact ⟨(y112), (wrap64 (x2_1 - 1)), (by first | rfl | (simp; done) | (simp [*]; done)), H', ⟨by have := HK1.out; omega⟩, ⟨by (with_reducible repeat (first | apply Kd.R_alloc | apply Kd.R_drewN | apply Kd.R_drew)); exact HO114.out⟩, ⟨by repeat (first | (with_reducible first | exact HK.out | apply Kept.alloc | apply Kept.drewN | apply Kept.drew) | exact HK.out)⟩, ⟨by repeat (first | (with_reducible first | exact HB.out | apply below_alloc | apply pw_below_drewN | apply below_drew1) | exact HB.out)⟩⟩
     ·rw [if_neg c8] at H
      exact absurd H (by simp)
    ·rw [if_neg c6] at H
     exact absurd H (by simp)
   ·rw [if_neg c4] at H
    have c4b0 : decide (0 ≤ x2_1) = false := decide_eq_false c4
    clear c4
    obtain rfl := Option.some.inj H
    go_wp2
    go_ret
    exact ⟨_, by first | rfl | (simp [errW_none, errW_some] <;> rfl) | (simp [*, errW_none, errW_some] <;> rfl), by (with_reducible repeat (first | apply Kd.R_alloc | apply Kd.R_drewN | apply Kd.R_drew)); exact HO_0.out, by repeat (first | (with_reducible first | exact HB.out | apply below_alloc | apply pw_below_drewN | apply below_drew1) | exact HB.out), by repeat (first | (with_reducible first | exact HK.out | apply Kept.alloc | apply Kept.drewN | apply Kept.drew) | exact HK.out)⟩
def tally_Uint.f (k : Nat) (l0 : List Int) (a1 : Int) : Option (List Int) := if (a1 / 64) = 0 then (if l0.length < 140737488355328 then (some (l0 ++ [(a1) % 256])) else (none)) else (if (a1 / 16384) = 0 then ((tally_big.f k l0 (Go.bits .or .u64 a1 16384) 2).bind fun t118 => (some t118)) else (if (a1 / 1073741824) = 0 then ((tally_big.f k l0 (Go.bits .or .u64 a1 2147483648) 4).bind fun t121 => (some t121)) else (if l0.length < 140737488355328 then ((tally_big.f k (l0 ++ [192]) a1 8).bind fun t127 => (some t127)) else (none))))
theorem tally_Uint.mono : ∀ a0 a1 k, LeO (tally_Uint.f k a0 a1) (tally_Uint.f (k + 1) a0 a1) := by
 intro a0 a1 k
 unfold tally_Uint.f
 repeat' first
   | (with_reducible exact tally_big.mono _ _ _ _)
   | (with_reducible exact LeO.refl _)
   | (with_reducible exact LeO.none _)
   | (with_reducible refine LeO.ite ?_ ?_)
   | (with_reducible refine LeO.bind ?_ (fun _ => ?_))
   | exact tally_big.mono _ _ _ _
   | exact LeO.none _
   | refine LeO.ite ?_ ?_
   | refine LeO.bind ?_ (fun _ => ?_)
set_option maxHeartbeats 8000000 in
set_option maxRecDepth 100000 in
theorem tally_Uint.calls (k : Nat) (P0_ : Nat → Prop) (u9000_ : Value) (l0 : List Int) (a1 : Int) (r : List Int) (w0 w : World) (hB : Below w0.heap.size w0 w) (ho0 : Kd.R (Kd.int .u8) 5 w w0.heap.size P0_ u9000_ l0) (h : tally_Uint.f k l0 a1 = some r) :
  Calls Try.prog 19 #[u9000_, .int .u64 a1] w fun e w' => ∃ v0_ : Value, e = .returned (v0_) ∧ Kd.R (Kd.int .u8) 5 w' w0.heap.size (fun k_ => (P0_ k_ ∨ w.heap.size ≤ k_)) v0_ r ∧ Below w0.heap.size w0 w' ∧ Kept w w' (fun k_ => P0_ k_) := by
 have HO0 := Aside0.mk (show Kd.R (Kd.int .u8) 5 w w0.heap.size (fun k_ => (P0_ k_ ∨ w.heap.size ≤ k_)) u9000_ l0 from Kd.R_mono ho0 (fun k_ hk => (.inl hk)))
 have HK := Aside0.mk (Kept.refl w (fun k_ => P0_ k_))
 have HW0 := Aside0.mk hB.size
 have HB := Aside0.mk hB
 clear hB
 have H : (if (a1 / 64) = 0 then (if l0.length < 140737488355328 then (some (l0 ++ [(a1) % 256])) else (none)) else (if (a1 / 16384) = 0 then ((tally_big.f k l0 (Go.bits .or .u64 a1 16384) 2).bind fun t118 => (some t118)) else (if (a1 / 1073741824) = 0 then ((tally_big.f k l0 (Go.bits .or .u64 a1 2147483648) 4).bind fun t121 => (some t121)) else (if l0.length < 140737488355328 then ((tally_big.f k (l0 ++ [192]) a1 8).bind fun t127 => (some t127)) else (none))))) = some r := h
 clear h
 by_cases c3 : (a1 / 64) = 0
 ·rw [if_pos c3] at H
  have c3b0 : ((a1 / 64) == 0) = true := beq_iff_eq.mpr c3
  have c3b1 : ((a1 / 64) != 0) = false := bne_eq_false_iff_eq.mpr c3
  clear c3
  by_cases c4 : l0.length < 140737488355328
  ·rw [if_pos c4] at H
   have LMc4 := Aside0.mk c4
   clear c4
   obtain ⟨y115, hy115⟩ : ∃ y_ : List Int, y_ = (l0 ++ [(a1) % 256]) := ⟨_, rfl⟩
   replace H : (some y115) = some r := by first | (rw [hy115]; with_reducible exact H) | (have H2_ := (Option.bind_some _ _).symm.trans H; rw [hy115]; with_reducible exact H2_) | (have H2_ := (Option.bind_some _ _).symm.trans H; with_reducible exact H2_) | with_reducible exact H | (rw [hy115]; exact H) | exact H
   have Ny115 := Aside0.mk hy115
   clear hy115
   obtain rfl := Option.some.inj H
   go_enter Try.func19, Try.ntmps19
   go_wp2_with (first | ((with_reducible refine gate_builtin (b := .append) (xs := #[.tmp 9, .tmp 12]) rfl ?_); at_builtin; refine Kd.R_append (Kd.int .u8) (w0 := w0) w0.heap.size rfl (.tmp 9) (.tmp 12) 38 5 (.int .u8 0) 1 rfl Try.underlying38 info5 rfl (by decide) (by omega) u9000_ l0 ((a1) % 256) [.int .u8 ((a1) % 256)] (fun k_ => (P0_ k_ ∨ w.heap.size ≤ k_)) (fun _ => False) rfl rfl ?aP (fun _ hk => hk.elim) ?aF ?aO ?aB ?aS ?aL ?_; (case aP => exact rfl); (case aB => exact (by repeat (first | (with_reducible first | exact HB.out | apply below_alloc | apply pw_below_drewN | apply below_drew1) | exact HB.out))); (case aF => exact (fun k_ hk => (.inr (Nat.le_trans (by first | exact HK.out.1 | exact (show Kept w _ (fun k_ => P0_ k_) from by repeat (first | (with_reducible first | exact HK.out | apply Kept.alloc | apply Kept.drewN | apply Kept.drew) | exact HK.out)).1) hk)))); (case aO => exact (by (with_reducible repeat (first | apply Kd.R_alloc | apply Kd.R_drewN | apply Kd.R_drew)); exact HO0.out)); (case aS => exact (below_size (by repeat (first | (with_reducible first | exact HB.out | apply below_alloc | apply pw_below_drewN | apply below_drew1) | exact HB.out)))); (case aL => have := LMc4.out; omega); intro v116 w5 ho hb hg hat; rw [← Ny115.out] at ho; have n0_ := Aside0.mk (hb); have n1_ := Aside0.mk (Kept.of_grown (S := (fun k_ => P0_ k_)) hg (by repeat (first | (with_reducible first | exact HK.out | apply Kept.alloc | apply Kept.drewN | apply Kept.drew) | exact HK.out)) (fun k_ e_ => (HO0.out.1 k_ e_))); have n2_ := Aside0.mk (ho); clear HB; clear HK; clear HO0; have HB := n0_; have HK := n1_; have HO117 := n2_; clear n0_ n1_ n2_; clear ho hb hg hat))
   go_ret
   exact ⟨_, by first | rfl | (simp [errW_none, errW_some] <;> rfl) | (simp [*, errW_none, errW_some] <;> rfl), by (with_reducible repeat (first | apply Kd.R_alloc | apply Kd.R_drewN | apply Kd.R_drew)); exact HO117.out, by repeat (first | (with_reducible first | exact HB.out | apply below_alloc | apply pw_below_drewN | apply below_drew1) | exact HB.out), by repeat (first | (with_reducible first | exact HK.out | apply Kept.alloc | apply Kept.drewN | apply Kept.drew) | exact HK.out)⟩
  ·rw [if_neg c4] at H
   exact absurd H (by simp)
 ·rw [if_neg c3] at H
  have c3b0 : ((a1 / 64) == 0) = false := beq_eq_false_iff_ne.mpr c3
  have c3b1 : ((a1 / 64) != 0) = true := bne_iff_ne.mpr c3
  by_cases c6 : (a1 / 16384) = 0
  ·rw [if_pos c6] at H
   have c6b0 : ((a1 / 16384) == 0) = true := beq_iff_eq.mpr c6
   have c6b1 : ((a1 / 16384) != 0) = false := bne_eq_false_iff_eq.mpr c6
   clear c6
   replace H := Option.bind_eq_some_iff.mp H
   obtain ⟨t118, A70, H⟩ := H
   replace H : (some t118) = some r := H
   have A7 := Aside0.mk A70
   clear A70
   obtain rfl := Option.some.inj H
   obtain ⟨Ao8, co8, eo8⟩ := Kd.R_slice HO0.out
   subst eo8
   go_enter Try.func19, Try.ntmps19
   go_wp2_with (first | ((with_reducible refine gate_callee (f := 35) rfl ?_); refine goesL_ (some 21) rfl rfl Try.func35 (by kernel_rfl) rfl #[.slice Ao8 l0.length co8, .int .u64 (Go.bits .or .u64 a1 16384), .int .i64 2] rfl (by (try simp only [List.map_toArray, List.map_cons, List.map_nil]); first | done | rfl | (simp only [List.length_drop, List.length_take]; rfl) | (go_simp; simp [IntKind.wrap, IntKind.bits, IntKind.signed]; omega)) ?_; (with_reducible refine (tally_big.calls k (fun k_ => some k_ = (.slice Ao8 l0.length co8 : Value).ownBlock) (.slice Ao8 l0.length co8) l0 (Go.bits .or .u64 a1 16384) 2 t118 w0 _ ?side1 ?side2 A7.out).mono ?_); (case side1 => repeat (first | (with_reducible first | exact HB.out | apply below_alloc | apply pw_below_drewN | apply below_drew1) | exact HB.out)); (case side2 => exact Kd.R_tight rfl HO0.out); rintro e w9 ⟨v119, rfl, ho0, hb, hkp⟩; refine ⟨_, rfl, ?_⟩; have n0_ := Aside0.mk (Kd.R_mono (ok' := fun k_ => (P0_ k_ ∨ w.heap.size ≤ k_)) ho0 (fun k_ hk_ => Or.elim hk_ (fun hs_ => (HO0.out.1 k_ (hs_).symm)) (fun hn_ => (.inr (Nat.le_trans (by first | exact HK.out.1 | exact (show Kept w _ (fun k_ => P0_ k_) from by repeat (first | (with_reducible first | exact HK.out | apply Kept.alloc | apply Kept.drewN | apply Kept.drew) | exact HK.out)).1) hn_))))); have n1_ := Aside0.mk (Kept.then_ (S := (fun k_ => P0_ k_)) (by repeat (first | (with_reducible first | exact HK.out | apply Kept.alloc | apply Kept.drewN | apply Kept.drew) | exact HK.out)) hkp (fun k_ hs_ => (fun e_ => (HO0.out.1 k_ e_.symm)) hs_)); have n2_ := Aside0.mk (hb); clear HK; clear HB; clear HO0; have HO120 := n0_; have HK := n1_; have HB := n2_; clear n0_ n1_ n2_; (try clear hb); (try clear hkp); (try clear ho0)))
   go_ret
   exact ⟨_, by first | rfl | (simp [errW_none, errW_some] <;> rfl) | (simp [*, errW_none, errW_some] <;> rfl), by (with_reducible repeat (first | apply Kd.R_alloc | apply Kd.R_drewN | apply Kd.R_drew)); exact HO120.out, by repeat (first | (with_reducible first | exact HB.out | apply below_alloc | apply pw_below_drewN | apply below_drew1) | exact HB.out), by repeat (first | (with_reducible first | exact HK.out | apply Kept.alloc | apply Kept.drewN | apply Kept.drew) | exact HK.out)⟩
  ·rw [if_neg c6] at H
   have c6b0 : ((a1 / 16384) == 0) = false := beq_eq_false_iff_ne.mpr c6
   have c6b1 : ((a1 / 16384) != 0) = true := bne_iff_ne.mpr c6
   by_cases c10 : (a1 / 1073741824) = 0
   ·rw [if_pos c10] at H
    have c10b0 : ((a1 / 1073741824) == 0) = true := beq_iff_eq.mpr c10
    have c10b1 : ((a1 / 1073741824) != 0) = false := bne_eq_false_iff_eq.mpr c10
    clear c10
    replace H := Option.bind_eq_some_iff.mp H
    obtain ⟨t121, A110, H⟩ := H
    replace H : (some t121) = some r := H
    have A11 := Aside0.mk A110
    clear A110
    obtain rfl := Option.some.inj H
    obtain ⟨Ao12, co12, eo12⟩ := Kd.R_slice HO0.out
    subst eo12
    go_enter Try.func19, Try.ntmps19
    go_wp2_with (first | ((with_reducible refine gate_callee (f := 35) rfl ?_); refine goesL_ (some 29) rfl rfl Try.func35 (by kernel_rfl) rfl #[.slice Ao12 l0.length co12, .int .u64 (Go.bits .or .u64 a1 2147483648), .int .i64 4] rfl (by (try simp only [List.map_toArray, List.map_cons, List.map_nil]); first | done | rfl | (simp only [List.length_drop, List.length_take]; rfl) | (go_simp; simp [IntKind.wrap, IntKind.bits, IntKind.signed]; omega)) ?_; (with_reducible refine (tally_big.calls k (fun k_ => some k_ = (.slice Ao12 l0.length co12 : Value).ownBlock) (.slice Ao12 l0.length co12) l0 (Go.bits .or .u64 a1 2147483648) 4 t121 w0 _ ?side1 ?side2 A11.out).mono ?_); (case side1 => repeat (first | (with_reducible first | exact HB.out | apply below_alloc | apply pw_below_drewN | apply below_drew1) | exact HB.out)); (case side2 => exact Kd.R_tight rfl HO0.out); rintro e w13 ⟨v122, rfl, ho0, hb, hkp⟩; refine ⟨_, rfl, ?_⟩; have n0_ := Aside0.mk (Kd.R_mono (ok' := fun k_ => (P0_ k_ ∨ w.heap.size ≤ k_)) ho0 (fun k_ hk_ => Or.elim hk_ (fun hs_ => (HO0.out.1 k_ (hs_).symm)) (fun hn_ => (.inr (Nat.le_trans (by first | exact HK.out.1 | exact (show Kept w _ (fun k_ => P0_ k_) from by repeat (first | (with_reducible first | exact HK.out | apply Kept.alloc | apply Kept.drewN | apply Kept.drew) | exact HK.out)).1) hn_))))); have n1_ := Aside0.mk (Kept.then_ (S := (fun k_ => P0_ k_)) (by repeat (first | (with_reducible first | exact HK.out | apply Kept.alloc | apply Kept.drewN | apply Kept.drew) | exact HK.out)) hkp (fun k_ hs_ => (fun e_ => (HO0.out.1 k_ e_.symm)) hs_)); have n2_ := Aside0.mk (hb); clear HK; clear HB; clear HO0; have HO123 := n0_; have HK := n1_; have HB := n2_; clear n0_ n1_ n2_; (try clear hb); (try clear hkp); (try clear ho0)))
    go_ret
    exact ⟨_, by first | rfl | (simp [errW_none, errW_some] <;> rfl) | (simp [*, errW_none, errW_some] <;> rfl), by (with_reducible repeat (first | apply Kd.R_alloc | apply Kd.R_drewN | apply Kd.R_drew)); exact HO123.out, by repeat (first | (with_reducible first | exact HB.out | apply below_alloc | apply pw_below_drewN | apply below_drew1) | exact HB.out), by repeat (first | (with_reducible first | exact HK.out | apply Kept.alloc | apply Kept.drewN | apply Kept.drew) | exact HK.out)⟩
   ·rw [if_neg c10] at H
    have c10b0 : ((a1 / 1073741824) == 0) = false := beq_eq_false_iff_ne.mpr c10
    have c10b1 : ((a1 / 1073741824) != 0) = true := bne_iff_ne.mpr c10
    by_cases c14 : l0.length < 140737488355328
    ·rw [if_pos c14] at H
     have LMc14 := Aside0.mk c14
     clear c14
     obtain ⟨y124, hy124⟩ : ∃ y_ : List Int, y_ = (l0 ++ [192]) := ⟨_, rfl⟩
     replace H : ((tally_big.f k y124 a1 8).bind fun t127 => (some t127)) = some r := by first | (rw [hy124]; with_reducible exact H) | (have H2_ := (Option.bind_some _ _).symm.trans H; rw [hy124]; with_reducible exact H2_) | (have H2_ := (Option.bind_some _ _).symm.trans H; with_reducible exact H2_) | with_reducible exact H | (rw [hy124]; exact H) | exact H
     have Ny124 := Aside0.mk hy124
     clear hy124
     replace H := Option.bind_eq_some_iff.mp H
     obtain ⟨t127, A150, H⟩ := H
     replace H : (some t127) = some r := H
     have A15 := Aside0.mk A150
     clear A150
     obtain rfl := Option.some.inj H
     go_enter Try.func19, Try.ntmps19
     go_wp2_with (first | ((with_reducible refine gate_builtin (b := .append) (xs := #[.tmp 30, .tmp 31]) rfl ?_); at_builtin; refine Kd.R_append (Kd.int .u8) (w0 := w0) w0.heap.size rfl (.tmp 30) (.tmp 31) 38 5 (.int .u8 0) 1 rfl Try.underlying38 info5 rfl (by decide) (by omega) u9000_ l0 192 [.int .u8 192] (fun k_ => (P0_ k_ ∨ w.heap.size ≤ k_)) (fun _ => False) rfl rfl ?aP (fun _ hk => hk.elim) ?aF ?aO ?aB ?aS ?aL ?_; (case aP => exact rfl); (case aB => exact (by repeat (first | (with_reducible first | exact HB.out | apply below_alloc | apply pw_below_drewN | apply below_drew1) | exact HB.out))); (case aF => exact (fun k_ hk => (.inr (Nat.le_trans (by first | exact HK.out.1 | exact (show Kept w _ (fun k_ => P0_ k_) from by repeat (first | (with_reducible first | exact HK.out | apply Kept.alloc | apply Kept.drewN | apply Kept.drew) | exact HK.out)).1) hk)))); (case aO => exact (by (with_reducible repeat (first | apply Kd.R_alloc | apply Kd.R_drewN | apply Kd.R_drew)); exact HO0.out)); (case aS => exact (below_size (by repeat (first | (with_reducible first | exact HB.out | apply below_alloc | apply pw_below_drewN | apply below_drew1) | exact HB.out)))); (case aL => have := LMc14.out; omega); intro v125 w16 ho hb hg hat; rw [← Ny124.out] at ho; have n0_ := Aside0.mk (hb); have n1_ := Aside0.mk (Kept.of_grown (S := (fun k_ => P0_ k_)) hg (by repeat (first | (with_reducible first | exact HK.out | apply Kept.alloc | apply Kept.drewN | apply Kept.drew) | exact HK.out)) (fun k_ e_ => (HO0.out.1 k_ e_))); have n2_ := Aside0.mk (ho); clear HB; clear HK; clear HO0; have HB := n0_; have HK := n1_; have HO126 := n2_; clear n0_ n1_ n2_; clear ho hb hg hat; obtain ⟨Ao17, co17, eo17⟩ := Kd.R_slice HO126.out; subst eo17) | ((with_reducible refine gate_callee (f := 35) rfl ?_); refine goesL_ (some 34) rfl rfl Try.func35 (by kernel_rfl) rfl #[.slice Ao17 y124.length co17, .int .u64 a1, .int .i64 8] rfl (by (try simp only [List.map_toArray, List.map_cons, List.map_nil]); first | done | rfl | (simp only [List.length_drop, List.length_take]; rfl) | (go_simp; simp [IntKind.wrap, IntKind.bits, IntKind.signed]; omega)) ?_; (with_reducible refine (tally_big.calls k (fun k_ => some k_ = (.slice Ao17 y124.length co17 : Value).ownBlock) (.slice Ao17 y124.length co17) y124 a1 8 t127 w0 _ ?side1 ?side2 A15.out).mono ?_); (case side1 => repeat (first | (with_reducible first | exact HB.out | apply below_alloc | apply pw_below_drewN | apply below_drew1) | exact HB.out)); (case side2 => exact Kd.R_tight rfl HO126.out); rintro e w18 ⟨v128, rfl, ho0, hb, hkp⟩; refine ⟨_, rfl, ?_⟩; have n0_ := Aside0.mk (Kd.R_mono (ok' := fun k_ => (P0_ k_ ∨ w.heap.size ≤ k_)) ho0 (fun k_ hk_ => Or.elim hk_ (fun hs_ => (HO126.out.1 k_ (hs_).symm)) (fun hn_ => (.inr (Nat.le_trans (by first | exact HK.out.1 | exact (show Kept w _ (fun k_ => P0_ k_) from by repeat (first | (with_reducible first | exact HK.out | apply Kept.alloc | apply Kept.drewN | apply Kept.drew) | exact HK.out)).1) hn_))))); have n1_ := Aside0.mk (Kept.then_ (S := (fun k_ => P0_ k_)) (by repeat (first | (with_reducible first | exact HK.out | apply Kept.alloc | apply Kept.drewN | apply Kept.drew) | exact HK.out)) hkp (fun k_ hs_ => (fun e_ => (HO126.out.1 k_ e_.symm)) hs_)); have n2_ := Aside0.mk (hb); clear HK; clear HB; clear HO126; have HO129 := n0_; have HK := n1_; have HB := n2_; clear n0_ n1_ n2_; (try clear hb); (try clear hkp); (try clear ho0)))
     go_ret
     exact ⟨_, by first | rfl | (simp [errW_none, errW_some] <;> rfl) | (simp [*, errW_none, errW_some] <;> rfl), by (with_reducible repeat (first | apply Kd.R_alloc | apply Kd.R_drewN | apply Kd.R_drew)); exact HO129.out, by repeat (first | (with_reducible first | exact HB.out | apply below_alloc | apply pw_below_drewN | apply below_drew1) | exact HB.out), by repeat (first | (with_reducible first | exact HK.out | apply Kept.alloc | apply Kept.drewN | apply Kept.drew) | exact HK.out)⟩
    ·rw [if_neg c14] at H
     exact absurd H (by simp)
end Go.Proofs.Ytlbcpigjbjolaaa.G
namespace Go.Proofs.Ytlbcpigjbjolaaa.G
open Go.RowKit Go.Proofs.YtlbcpigjbjolaaaQ Go.Proofs.YtlbcpigjbjolaaaW.PrintWords Go.Proofs.YtlbcpigjbjolaaaW.PrintLast Go.Proofs.YtlbcpigjbjolaaaW.PrintMore
attribute [local go_sem] max2_int min2_int max_two min_two max_three min_three max_four min_four   -- for this text's walks alone
set_option linter.unusedVariables false
set_option linter.unusedSimpArgs false
def tally_Text.f (k : Nat) (l0 : List Int) (a1 : ByteArray) : Option (List Int) := (tally_Uint.f k l0 (IntKind.u64.wrap ((a1.size : Int)))).bind fun t130 => (if t130.length + a1.size < 140737488355328 then (some (t130 ++ bytesOf a1)) else (none))
theorem tally_Text.mono : ∀ a0 a1 k, LeO (tally_Text.f k a0 a1) (tally_Text.f (k + 1) a0 a1) := by
 intro a0 a1 k
 unfold tally_Text.f
 repeat' first
   | (with_reducible exact tally_Uint.mono _ _ _)
   | (with_reducible exact LeO.refl _)
   | (with_reducible exact LeO.none _)
   | (with_reducible refine LeO.ite ?_ ?_)
   | (with_reducible refine LeO.bind ?_ (fun _ => ?_))
   | exact tally_Uint.mono _ _ _
   | exact LeO.none _
   | refine LeO.ite ?_ ?_
   | refine LeO.bind ?_ (fun _ => ?_)
set_option maxHeartbeats 8000000 in
set_option maxRecDepth 100000 in
theorem tally_Text.calls (k : Nat) (P0_ : Nat → Prop) (u9000_ : Value) (l0 : List Int) (a1 : ByteArray) (r : List Int) (w0 w : World) (hB : Below w0.heap.size w0 w) (ho0 : Kd.R (Kd.int .u8) 5 w w0.heap.size P0_ u9000_ l0) (h : tally_Text.f k l0 a1 = some r) :
  Calls Try.prog 32 #[u9000_, .string a1] w fun e w' => ∃ v0_ : Value, e = .returned (v0_) ∧ Kd.R (Kd.int .u8) 5 w' w0.heap.size (fun k_ => (P0_ k_ ∨ w.heap.size ≤ k_)) v0_ r ∧ Below w0.heap.size w0 w' ∧ Kept w w' (fun k_ => P0_ k_) := by
 have HO0 := Aside0.mk (show Kd.R (Kd.int .u8) 5 w w0.heap.size (fun k_ => (P0_ k_ ∨ w.heap.size ≤ k_)) u9000_ l0 from Kd.R_mono ho0 (fun k_ hk => (.inl hk)))
 have HK := Aside0.mk (Kept.refl w (fun k_ => P0_ k_))
 have HW0 := Aside0.mk hB.size
 have HB := Aside0.mk hB
 clear hB
 have H : ((tally_Uint.f k l0 (IntKind.u64.wrap ((a1.size : Int)))).bind fun t130 => (if t130.length + a1.size < 140737488355328 then (some (t130 ++ bytesOf a1)) else (none))) = some r := h
 clear h
 replace H := Option.bind_eq_some_iff.mp H
 obtain ⟨t130, A30, H⟩ := H
 replace H : (if t130.length + a1.size < 140737488355328 then (some (t130 ++ bytesOf a1)) else (none)) = some r := H
 have A3 := Aside0.mk A30
 clear A30
 by_cases c4 : t130.length + a1.size < 140737488355328
 ·rw [if_pos c4] at H
  have LMc4 := Aside0.mk c4
  clear c4
  obtain ⟨y133, hy133⟩ : ∃ y_ : List Int, y_ = (t130 ++ bytesOf a1) := ⟨_, rfl⟩
  replace H : (some y133) = some r := by first | (rw [hy133]; with_reducible exact H) | (have H2_ := (Option.bind_some _ _).symm.trans H; rw [hy133]; with_reducible exact H2_) | (have H2_ := (Option.bind_some _ _).symm.trans H; with_reducible exact H2_) | with_reducible exact H | (rw [hy133]; exact H) | exact H
  have Ny133 := Aside0.mk hy133
  clear hy133
  obtain rfl := Option.some.inj H
  obtain ⟨Ao5, co5, eo5⟩ := Kd.R_slice HO0.out
  subst eo5
  go_enter Try.func32, Try.ntmps32
  go_wp2_with (first | ((with_reducible refine gate_callee (f := 19) rfl ?_); refine goesL_ (some 9) rfl rfl Try.func19 (by kernel_rfl) rfl #[.slice Ao5 l0.length co5, .int .u64 (IntKind.u64.wrap ((a1.size : Int)))] rfl (by (try simp only [List.map_toArray, List.map_cons, List.map_nil]); first | done | rfl | (simp only [List.length_drop, List.length_take]; rfl) | (go_simp; simp [IntKind.wrap, IntKind.bits, IntKind.signed]; omega)) ?_; (with_reducible refine (tally_Uint.calls k (fun k_ => some k_ = (.slice Ao5 l0.length co5 : Value).ownBlock) (.slice Ao5 l0.length co5) l0 (IntKind.u64.wrap ((a1.size : Int))) t130 w0 _ ?side1 ?side2 A3.out).mono ?_); (case side1 => repeat (first | (with_reducible first | exact HB.out | apply below_alloc | apply pw_below_drewN | apply below_drew1) | exact HB.out)); (case side2 => exact Kd.R_tight rfl HO0.out); rintro e w6 ⟨v131, rfl, ho0, hb, hkp⟩; refine ⟨_, rfl, ?_⟩; have n0_ := Aside0.mk (Kd.R_mono (ok' := fun k_ => (P0_ k_ ∨ w.heap.size ≤ k_)) ho0 (fun k_ hk_ => Or.elim hk_ (fun hs_ => (HO0.out.1 k_ (hs_).symm)) (fun hn_ => (.inr (Nat.le_trans (by first | exact HK.out.1 | exact (show Kept w _ (fun k_ => P0_ k_) from by repeat (first | (with_reducible first | exact HK.out | apply Kept.alloc | apply Kept.drewN | apply Kept.drew) | exact HK.out)).1) hn_))))); have n1_ := Aside0.mk (Kept.then_ (S := (fun k_ => P0_ k_)) (by repeat (first | (with_reducible first | exact HK.out | apply Kept.alloc | apply Kept.drewN | apply Kept.drew) | exact HK.out)) hkp (fun k_ hs_ => (fun e_ => (HO0.out.1 k_ e_.symm)) hs_)); have n2_ := Aside0.mk (hb); clear HK; clear HB; clear HO0; have HO132 := n0_; have HK := n1_; have HB := n2_; clear n0_ n1_ n2_; (try clear hb); (try clear hkp); (try clear ho0)) | (at_builtin; refine R_append_str (w0 := w0) w0.heap.size rfl (.tmp 9) _ 38 9 5 rfl Try.underlying38 Try.underlying9 info5 v131 t130 a1 (fun k_ => (P0_ k_ ∨ w.heap.size ≤ k_)) rfl rfl ?aF ?aO ?aB ?aS ?aL ?_; (case aB => exact (by repeat (first | (with_reducible first | exact HB.out | apply below_alloc | apply pw_below_drewN | apply below_drew1) | exact HB.out))); (case aF => exact (fun k_ hk => (.inr (Nat.le_trans (by first | exact HK.out.1 | exact (show Kept w _ (fun k_ => P0_ k_) from by repeat (first | (with_reducible first | exact HK.out | apply Kept.alloc | apply Kept.drewN | apply Kept.drew) | exact HK.out)).1) hk)))); (case aO => exact (by (with_reducible repeat (first | apply Kd.R_alloc | apply Kd.R_drewN | apply Kd.R_drew)); exact HO132.out)); (case aS => exact (below_size (by repeat (first | (with_reducible first | exact HB.out | apply below_alloc | apply pw_below_drewN | apply below_drew1) | exact HB.out)))); (case aL => have := LMc4.out; omega); intro v134 w7 ho hb hg hat; rw [← Ny133.out] at ho; have n0_ := Aside0.mk (hb); have n1_ := Aside0.mk (Kept.of_grown (S := (fun k_ => P0_ k_)) hg (by repeat (first | (with_reducible first | exact HK.out | apply Kept.alloc | apply Kept.drewN | apply Kept.drew) | exact HK.out)) (fun k_ e_ => (HO132.out.1 k_ e_))); have n2_ := Aside0.mk (ho); clear HB; clear HK; clear HO132; have HB := n0_; have HK := n1_; have HO135 := n2_; clear n0_ n1_ n2_; clear ho hb hg hat))
  go_ret
  exact ⟨_, by first | rfl | (simp [errW_none, errW_some] <;> rfl) | (simp [*, errW_none, errW_some] <;> rfl), by (with_reducible repeat (first | apply Kd.R_alloc | apply Kd.R_drewN | apply Kd.R_drew)); exact HO135.out, by repeat (first | (with_reducible first | exact HB.out | apply below_alloc | apply pw_below_drewN | apply below_drew1) | exact HB.out), by repeat (first | (with_reducible first | exact HK.out | apply Kept.alloc | apply Kept.drewN | apply Kept.drew) | exact HK.out)⟩
 ·rw [if_neg c4] at H
  exact absurd H (by simp)
def tally_Int.f (k : Nat) (l0 : List Int) (a1 : Int) : Option (List Int) := (tally_Uint.f k l0 (Go.bits .xor .u64 (IntKind.u64.wrap (wrap64 (a1 * 2))) (IntKind.u64.wrap (a1 / 9223372036854775808)))).bind fun t136 => (some t136)
theorem tally_Int.mono : ∀ a0 a1 k, LeO (tally_Int.f k a0 a1) (tally_Int.f (k + 1) a0 a1) := by
 intro a0 a1 k
 unfold tally_Int.f
 repeat' first
   | (with_reducible exact tally_Uint.mono _ _ _)
   | (with_reducible exact LeO.refl _)
   | (with_reducible exact LeO.none _)
   | (with_reducible refine LeO.ite ?_ ?_)
   | (with_reducible refine LeO.bind ?_ (fun _ => ?_))
   | exact tally_Uint.mono _ _ _
   | exact LeO.none _
   | refine LeO.ite ?_ ?_
   | refine LeO.bind ?_ (fun _ => ?_)
set_option maxHeartbeats 8000000 in
set_option maxRecDepth 100000 in
theorem tally_Int.calls (k : Nat) (P0_ : Nat → Prop) (u9000_ : Value) (l0 : List Int) (a1 : Int) (r : List Int) (w0 w : World) (hB : Below w0.heap.size w0 w) (ho0 : Kd.R (Kd.int .u8) 5 w w0.heap.size P0_ u9000_ l0) (h : tally_Int.f k l0 a1 = some r) :
  Calls Try.prog 33 #[u9000_, .int .i64 a1] w fun e w' => ∃ v0_ : Value, e = .returned (v0_) ∧ Kd.R (Kd.int .u8) 5 w' w0.heap.size (fun k_ => (P0_ k_ ∨ w.heap.size ≤ k_)) v0_ r ∧ Below w0.heap.size w0 w' ∧ Kept w w' (fun k_ => P0_ k_) := by
 have HO0 := Aside0.mk (show Kd.R (Kd.int .u8) 5 w w0.heap.size (fun k_ => (P0_ k_ ∨ w.heap.size ≤ k_)) u9000_ l0 from Kd.R_mono ho0 (fun k_ hk => (.inl hk)))
 have HK := Aside0.mk (Kept.refl w (fun k_ => P0_ k_))
 have HW0 := Aside0.mk hB.size
 have HB := Aside0.mk hB
 clear hB
 have H : ((tally_Uint.f k l0 (Go.bits .xor .u64 (IntKind.u64.wrap (wrap64 (a1 * 2))) (IntKind.u64.wrap (a1 / 9223372036854775808)))).bind fun t136 => (some t136)) = some r := h
 clear h
 replace H := Option.bind_eq_some_iff.mp H
 obtain ⟨t136, A30, H⟩ := H
 replace H : (some t136) = some r := H
 have A3 := Aside0.mk A30
 clear A30
 obtain rfl := Option.some.inj H
 obtain ⟨Ao4, co4, eo4⟩ := Kd.R_slice HO0.out
 subst eo4
 go_enter Try.func33, Try.ntmps33
 go_wp2_with (first | ((with_reducible refine gate_callee (f := 19) rfl ?_); refine goesL_ (some 13) rfl rfl Try.func19 (by kernel_rfl) rfl #[.slice Ao4 l0.length co4, .int .u64 (Go.bits .xor .u64 (IntKind.u64.wrap (wrap64 (a1 * 2))) (IntKind.u64.wrap (a1 / 9223372036854775808)))] rfl (by (try simp only [List.map_toArray, List.map_cons, List.map_nil]); first | done | rfl | (simp only [List.length_drop, List.length_take]; rfl) | (go_simp; simp [IntKind.wrap, IntKind.bits, IntKind.signed]; omega)) ?_; (with_reducible refine (tally_Uint.calls k (fun k_ => some k_ = (.slice Ao4 l0.length co4 : Value).ownBlock) (.slice Ao4 l0.length co4) l0 (Go.bits .xor .u64 (IntKind.u64.wrap (wrap64 (a1 * 2))) (IntKind.u64.wrap (a1 / 9223372036854775808))) t136 w0 _ ?side1 ?side2 A3.out).mono ?_); (case side1 => repeat (first | (with_reducible first | exact HB.out | apply below_alloc | apply pw_below_drewN | apply below_drew1) | exact HB.out)); (case side2 => exact Kd.R_tight rfl HO0.out); rintro e w5 ⟨v137, rfl, ho0, hb, hkp⟩; refine ⟨_, rfl, ?_⟩; have n0_ := Aside0.mk (Kd.R_mono (ok' := fun k_ => (P0_ k_ ∨ w.heap.size ≤ k_)) ho0 (fun k_ hk_ => Or.elim hk_ (fun hs_ => (HO0.out.1 k_ (hs_).symm)) (fun hn_ => (.inr (Nat.le_trans (by first | exact HK.out.1 | exact (show Kept w _ (fun k_ => P0_ k_) from by repeat (first | (with_reducible first | exact HK.out | apply Kept.alloc | apply Kept.drewN | apply Kept.drew) | exact HK.out)).1) hn_))))); have n1_ := Aside0.mk (Kept.then_ (S := (fun k_ => P0_ k_)) (by repeat (first | (with_reducible first | exact HK.out | apply Kept.alloc | apply Kept.drewN | apply Kept.drew) | exact HK.out)) hkp (fun k_ hs_ => (fun e_ => (HO0.out.1 k_ e_.symm)) hs_)); have n2_ := Aside0.mk (hb); clear HK; clear HB; clear HO0; have HO138 := n0_; have HK := n1_; have HB := n2_; clear n0_ n1_ n2_; (try clear hb); (try clear hkp); (try clear ho0)))
 go_ret
 exact ⟨_, by first | rfl | (simp [errW_none, errW_some] <;> rfl) | (simp [*, errW_none, errW_some] <;> rfl), by (with_reducible repeat (first | apply Kd.R_alloc | apply Kd.R_drewN | apply Kd.R_drew)); exact HO138.out, by repeat (first | (with_reducible first | exact HB.out | apply below_alloc | apply pw_below_drewN | apply below_drew1) | exact HB.out), by repeat (first | (with_reducible first | exact HK.out | apply Kept.alloc | apply Kept.drewN | apply Kept.drew) | exact HK.out)⟩
def frame_Sum.f (a0 : ByteArray) : Option Int := if a0.size ≤ 4611686018427387904 then some ((crc (bytesOf a0) : Nat) : Int) else none
theorem frame_Sum.calls (a0 : ByteArray) (r : Int) (w : World) (h : frame_Sum.f a0 = some r) :
  Calls Try.prog 34 #[.string a0] w fun e w' => e = .returned (.int .u32 r) ∧ Below w.heap.size w w' := by
 unfold frame_Sum.f at h
 split at h
 ·rename_i hs
  obtain rfl := Option.some.inj h
  exact Sum_calls a0 w hs
 ·exact absurd h (by simp)
def filter_bitmap_set.f (l0 : List Int) (a1 : Int) : Option (List Int) := if 0 ≤ (wrap64 (Int.tdiv a1 8)) then (if (wrap64 (Int.tdiv a1 8)) < (l0.length : Int) then (if 0 ≤ (Int.tmod a1 8) then (some (l0.set ((wrap64 (Int.tdiv a1 8)) : Int).toNat (Go.bits .or .u8 (rd l0 (wrap64 (Int.tdiv a1 8))) (shl .u8 1 (Int.tmod a1 8))))) else (none)) else (none)) else (none)
def filter_bitmap_set.T0 : Bool × List (List Nat × List Nat) := (true, [([], []), ([], []), ([1], [1]), ([0, 2], [0, 2]), ([3], [3]), ([], []), ([5], [5]), ([6], [6]), ([4, 7], [4, 7]), ([0, 2, 0, 1, 2, 3, 4, 5, 6, 7, 8], [0, 2]), ([9, 8, 0, 1, 2, 3, 4, 5, 6, 7, 8], [8, 9])])
def filter_bitmap_set.B0 : List Nat := [0, 0, 2, 7, 15, 0, 32, 96, 255, 511, 1023]
theorem filter_bitmap_set.tab0 : rtab .any (opsOf Try.f18 0) = filter_bitmap_set.T0 := by kernel_rfl
theorem filter_bitmap_set.bits0 : waitsOk filter_bitmap_set.T0.2 filter_bitmap_set.B0 = true := by kernel_rfl
set_option maxHeartbeats 8000000 in
set_option maxRecDepth 100000 in
theorem filter_bitmap_set.calls (P0_ : Nat → Prop) (u9000_ : Value) (l0 : List Int) (a1 : Int) (r : List Int) (w0 w : World) (hB : Below w0.heap.size w0 w) (ho0 : Kd.R (Kd.int .u8) 5 w w0.heap.size P0_ u9000_ l0) (h : filter_bitmap_set.f l0 a1 = some r) :
  Calls Try.prog 18 #[u9000_, .int .i64 a1] w fun e w' => e = .returned (.tuple #[]) ∧ Kd.R (Kd.int .u8) 5 w' w0.heap.size (fun k_ => (P0_ k_ ∨ w.heap.size ≤ k_)) u9000_ r ∧ Below w0.heap.size w0 w' ∧ Kept w w' (fun k_ => P0_ k_) := by
 have HO0 := Aside0.mk (show Kd.R (Kd.int .u8) 5 w w0.heap.size (fun k_ => (P0_ k_ ∨ w.heap.size ≤ k_)) u9000_ l0 from Kd.R_mono ho0 (fun k_ hk => (.inl hk)))
 have HK := Aside0.mk (Kept.refl w (fun k_ => P0_ k_))
 have HW0 := Aside0.mk hB.size
 have HB := Aside0.mk hB
 clear hB
 have H : (if 0 ≤ (wrap64 (Int.tdiv a1 8)) then (if (wrap64 (Int.tdiv a1 8)) < (l0.length : Int) then (if 0 ≤ (Int.tmod a1 8) then (some (l0.set ((wrap64 (Int.tdiv a1 8)) : Int).toNat (Go.bits .or .u8 (rd l0 (wrap64 (Int.tdiv a1 8))) (shl .u8 1 (Int.tmod a1 8))))) else (none)) else (none)) else (none)) = some r := h
 clear h
 obtain ⟨ji3, hji3⟩ : ∃ j_ : Int, (wrap64 (Int.tdiv a1 8)) = j_ := ⟨_, rfl⟩
 replace H : (if 0 ≤ (ji3) then (if (ji3) < (l0.length : Int) then (if 0 ≤ (Int.tmod a1 8) then (some (l0.set ((ji3) : Int).toNat (Go.bits .or .u8 (rd l0 (ji3)) (shl .u8 1 (Int.tmod a1 8))))) else (none)) else (none)) else (none)) = some r := by first | (rw [hji3] at H; exact H) | (simp only [hji3] at H ⊢; exact H)
 have hji3w : (IntKind.i64.wrap (Int.tdiv a1 8)) = ji3 := (i64_w _).trans hji3
 by_cases c4 : 0 ≤ (ji3)
 ·rw [if_pos c4] at H
  have c4b0 : decide (0 ≤ (ji3)) = true := decide_eq_true c4
  clear c4
  by_cases c5 : (ji3) < (l0.length : Int)
  ·rw [if_pos c5] at H
   have c5b0 : decide ((ji3) < (l0.length : Int)) = true := decide_eq_true c5
   clear c5
   obtain ⟨ji6, hji6⟩ : ∃ j_ : Int, (Int.tmod a1 8) = j_ := ⟨_, rfl⟩
   replace H : (if 0 ≤ (ji6) then (some (l0.set ((ji3) : Int).toNat (Go.bits .or .u8 (rd l0 (ji3)) (shl .u8 1 (ji6))))) else (none)) = some r := by first | (rw [hji6] at H; exact H) | (simp only [hji6] at H ⊢; exact H)
   by_cases c7 : 0 ≤ (ji6)
   ·rw [if_pos c7] at H
    have c7b0 := eq_true c7
    have c7b1 : decide (0 ≤ (ji6)) = true := decide_eq_true c7
    clear c7
    obtain ⟨ji8, hji8⟩ : ∃ j_ : Int, (shl .u8 1 (ji6)) = j_ := ⟨_, rfl⟩
    replace H : (some (l0.set ((ji3) : Int).toNat (Go.bits .or .u8 (rd l0 (ji3)) (ji8)))) = some r := by first | (rw [hji8] at H; exact H) | (simp only [hji8] at H ⊢; exact H)
    have hji8_ : (IntKind.u8.wrap (1 * 2 ^ min (ji6).toNat 8)) = ji8 := hji8
    have hji8z : (ji6) ≤ 8 → (IntKind.u8.wrap (1 * 2 ^ (ji6).toNat)) = ji8 := shl_small hji8
    have hji8u : (IntKind.u8.wrap (2 ^ min (ji6).toNat 8)) = ji8 := by have h_ := hji8_; rw [Int.one_mul] at h_; exact h_
    have hji8v : (ji6) ≤ 8 → (IntKind.u8.wrap (2 ^ (ji6).toNat)) = ji8 := fun hle_ => by have h_ := hji8z hle_; rw [Int.one_mul] at h_; exact h_
    obtain ⟨y140, hy140⟩ : ∃ y_ : List Int, y_ = (l0.set ((ji3) : Int).toNat (Go.bits .or .u8 (rd l0 (ji3)) (ji8))) := ⟨_, rfl⟩
    replace H : (some y140) = some r := by first | (rw [hy140]; with_reducible exact H) | (have H2_ := (Option.bind_some _ _).symm.trans H; rw [hy140]; with_reducible exact H2_) | (have H2_ := (Option.bind_some _ _).symm.trans H; with_reducible exact H2_) | with_reducible exact H | (rw [hy140]; exact H) | exact H
    have Ny140 := Aside0.mk hy140
    clear hy140
    obtain rfl := Option.some.inj H
    go_enter Try.func18, Try.ntmps18
    try go_wp2
    have n0_ := Aside0.mk (Kd.R_drew HO0.out)
    have n1_ := Aside0.mk (Kept.drew HK.out)
    have n2_ := Aside0.mk (below_drew1 HB.out)
    clear HO0
    clear HK
    clear HB
    have HO0 := n0_
    have HK := n1_
    have HB := n2_
    clear n0_ n1_ n2_
    obtain ⟨Ao11, co11, eo11⟩ := Kd.R_slice HO0.out
    (first | subst eo11 | (injection eo11 with f1_ f2_ f3_; have f4_ := f1_.symm; have f5_ := f3_.symm; clear f1_ f2_ f3_; subst f4_; subst f5_))
    have p139 : 0 ≤ ((ji3) : Int) := of_decide_eq_true (by first | (with_reducible assumption) | assumption)
    have q139 : (ji3) < (l0.length : Int) := of_decide_eq_true (by first | (with_reducible assumption) | assumption)
    obtain ⟨ad139, e139, hx139_0⟩ := Kd.at_int (Kd.R_reads' HO0.out).2.2 (ji3) p139 q139
    cases e139
    replace p139 := eq_true p139
    replace q139 := eq_true q139
    have p9 : 0 ≤ ((ji3) : Int) := of_decide_eq_true (by first | (with_reducible assumption) | assumption)
    have q9 : ((ji3) : Int) < ((l0.length : Int) : Int) := of_decide_eq_true (by first | (with_reducible assumption) | assumption)
    obtain ⟨go9, co9, eo9, gb9, gl9, cl9, HG9⟩ := Kd.R_form HO0.out (by omega)
    (first | cases eo9 | (injection eo9 with ea_ en_ ec_; (first | subst ea_ | (injection ea_ with ea_; subst ea_)); subst ec_; clear en_))
    have GB9 := Aside0.mk gb9
    have GG9 := Aside0.mk HG9
    clear gb9 gl9 HG9
    have HMgo9 := Aside0.mk (show (P0_ go9 ∨ w.heap.size ≤ go9) from (HO0.out.1 _ rfl))
    (first | simp only [add_plain] at hx139_0 | skip)
    obtain ⟨hx9_0, hf9_0⟩ := Kd.R_celln 0 HO0.out ((ji3) : Int) p9 q9
    replace p9 := eq_true p9
    replace q9 := eq_true q9
    have HP12 := Kd.R_putn HO0.out ((ji3) : Int) (Go.bits .or .u8 (rd l0 (ji3)) (ji8))
    rw [← Ny140.out] at HP12
    have HQ12 := Aside0.mk HP12
    clear HP12
    refine start_ (n := 11) (S := fun w' => w'.cell? ⟨go9, ((ji3)).toNat, none⟩ = some (.int .u8 (rd l0 (ji3)))) (ds := [10]) #[false, false, false, false, false, false, false, false, false, false, false] (by kernel_rfl) rfl rfl (hx139_0) (fun hHeld => ?_); refine with_tabW filter_bitmap_set.tab0 filter_bitmap_set.bits0 (fun HT_ HW_ => ?_)
    generalize w.drew = w10 at HO0 HK HB GG9 HQ12 hf9_0 hx139_0 hx9_0 hHeld ⊢
    refine pure_ (i := 0) (N := some 4) (v := ?_) (a' := ?_) #[true, false, false, false, false, false, false, false, false, false, false] rfl rfl (any_of HT_.out (by kernel_rfl)) (fun _ _ _ h => h) (Or.inl ⟨by rfl, ?_⟩) ?_ ?_
    rotate_left
    ·intro w'
     go_simp
     with_reducible rfl
    rotate_left
    ·simp only [Act.put, List.setIfInBounds_toArray, List.set_cons_zero, List.set_cons_succ, i64_w, i32_w]
     rfl
    refine pure_ (i := 1) (N := some 5) (v := ?_) (a' := ?_) #[true, true, false, false, false, false, false, false, false, false, false] rfl rfl (any_of HT_.out (by kernel_rfl)) (fun _ _ _ h => h) (Or.inl ⟨by rfl, ?_⟩) ?_ ?_
    rotate_left
    ·intro w'
     go_simp
     with_reducible rfl
    rotate_left
    ·simp only [Act.put, List.setIfInBounds_toArray, List.set_cons_zero, List.set_cons_succ, i64_w, i32_w]
     rfl
    refine pure_ (i := 2) (N := some 6) (v := ?_) (a' := ?_) #[true, true, true, false, false, false, false, false, false, false, false] rfl rfl (any_of HT_.out (by kernel_rfl)) (fun _ _ _ h => h) (Or.inl ⟨by rfl, ?_⟩) ?_ ?_
    rotate_left
    ·intro w'
     go_simp
     with_reducible rfl
    rotate_left
    ·simp only [Act.put, List.setIfInBounds_toArray, List.set_cons_zero, List.set_cons_succ, i64_w, i32_w]
     rfl
    refine pure_ (i := 3) (N := some 7) (v := ?_) (a' := ?_) #[true, true, true, true, false, false, false, false, false, false, false] rfl rfl (any_of HT_.out (by kernel_rfl)) (fun _ _ _ h => h) (Or.inl ⟨by rfl, ?_⟩) ?_ ?_
    rotate_left
    ·intro w'
     go_simp
     with_reducible rfl
    rotate_left
    ·simp only [Act.put, List.setIfInBounds_toArray, List.set_cons_zero, List.set_cons_succ, i64_w, i32_w]
     rfl
    refine pure_ (i := 5) (N := some 9) (v := ?_) (a' := ?_) #[true, true, true, true, false, true, false, false, false, false, false] rfl rfl (any_of HT_.out (by kernel_rfl)) (fun _ _ _ h => h) (Or.inl ⟨by rfl, ?_⟩) ?_ ?_
    rotate_left
    ·intro w'
     go_simp
     with_reducible rfl
    rotate_left
    ·simp only [Act.put, List.setIfInBounds_toArray, List.set_cons_zero, List.set_cons_succ, i64_w, i32_w]
     rfl
    refine pure_ (i := 6) (N := some 10) (v := ?_) (a' := ?_) #[true, true, true, true, false, true, true, false, false, false, false] rfl rfl (any_of HT_.out (by kernel_rfl)) (fun _ _ _ h => h) (Or.inl ⟨by rfl, ?_⟩) ?_ ?_
    rotate_left
    ·intro w'
     go_simp
     with_reducible rfl
    rotate_left
    ·simp only [Act.put, List.setIfInBounds_toArray, List.set_cons_zero, List.set_cons_succ, i64_w, i32_w]
     rfl
    refine pure_ (i := 7) (N := some 11) (v := ?_) (a' := ?_) #[true, true, true, true, false, true, true, true, false, false, false] rfl rfl (any_of HT_.out (by kernel_rfl)) (fun _ _ _ h => h) (Or.inl ⟨by rfl, ?_⟩) ?_ ?_
    rotate_left
    ·intro w'
     go_simp
     with_reducible rfl
    rotate_left
    ·simp only [Act.put, List.setIfInBounds_toArray, List.set_cons_zero, List.set_cons_succ, i64_w, i32_w]
     rfl
    refine take_ (i := 4) (N := some 8) (v := ?_) (a' := ?_) #[true, true, true, true, true, true, true, true, false, false, false] rfl rfl (take_ofW HT_.out HW_.out (by kernel_rfl)) (fun _ _ _ h => h) (Or.inl ⟨by rfl, ?_⟩) hHeld ?_ ?_
    rotate_left
    ·intro w' s0
     go_simp
     with_reducible rfl
    rotate_left
    ·simp only [Act.put, List.setIfInBounds_toArray, List.set_cons_zero, List.set_cons_succ, i64_w, i32_w]
     rfl
    refine pure_ (i := 8) (N := some 12) (v := ?_) (a' := ?_) #[true, true, true, true, true, true, true, true, true, false, false] rfl rfl (any_of HT_.out (by kernel_rfl)) (fun _ _ _ h => h) (Or.inl ⟨by rfl, ?_⟩) ?_ ?_
    rotate_left
    ·intro w'
     go_simp
     with_reducible rfl
    rotate_left
    ·simp only [Act.put, List.setIfInBounds_toArray, List.set_cons_zero, List.set_cons_succ, i64_w, i32_w]
     rfl
    refine pure_ (i := 9) (N := some 13) (v := ?_) (a' := ?_) #[true, true, true, true, true, true, true, true, true, true, false] rfl rfl (any_of HT_.out (by kernel_rfl)) (fun _ _ _ h => h) (Or.inl ⟨by rfl, ?_⟩) ?_ ?_
    rotate_left
    ·intro w'
     go_simp
     with_reducible rfl
    rotate_left
    ·simp only [Act.put, List.setIfInBounds_toArray, List.set_cons_zero, List.set_cons_succ, i64_w, i32_w]
     rfl
    refine last_ (i := 10) (N := none) #[true, true, true, true, true, true, true, true, true, true, true] rfl rfl (one_of HT_.out (by kernel_rfl)) (by decide) (fun K hK => ?_)
    refine skip_ (w1 := ?_) (by rfl) rfl ?_ ?_
    rotate_left
    ·go_simp
     rfl
    refine hK.out _ _ ?_
    clear hK K
    refine done_ (done_of HT_.out (by kernel_rfl)) ?_
    try go_wp2
    first | go_end0 | ((try simp only [Exit.inBlock, Exit.then]); refine bodyPost_ret (results_none rfl _ _ _) rfl ?_)
    exact ⟨by first | rfl | (simp [errW_none, errW_some] <;> rfl) | (simp only [← hji3, ← hji6, ← hji8]; first | rfl | (simp [errW_none, errW_some] <;> rfl)) | (simp [*, errW_none, errW_some] <;> rfl), by (with_reducible repeat (first | apply Kd.R_alloc | apply Kd.R_drewN | apply Kd.R_drew)); exact HQ12.out, by repeat (first | (with_reducible first | exact HB.out | apply below_alloc | apply pw_below_drewN | apply below_drew1 | refine below_set ?_ GB9.out) | exact HB.out), by repeat (first | (with_reducible first | exact HK.out | apply Kept.alloc | apply Kept.drewN | apply Kept.drew | refine Kept.setCell ?_ HMgo9.out _) | exact HK.out)⟩
   ·rw [if_neg c7] at H
    exact absurd H (by simp)
  ·rw [if_neg c5] at H
   exact absurd H (by simp)
 ·rw [if_neg c4] at H
  exact absurd H (by simp)
end Go.Proofs.Ytlbcpigjbjolaaa.G
