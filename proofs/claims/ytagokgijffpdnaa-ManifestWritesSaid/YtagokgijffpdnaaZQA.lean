import Derived.Test.YtagokgijffpdnaaZWWords
import Derived.Test.YtagokgijffpdnaaZWMore
import Derived.WalkKit
import Derived.KernelRfl
import Derived.RowKit3
import Derived.Deep.LoopGhost
import Derived.RowKit
import Derived.Test.YtagokgijffpdnaaProg
import Derived.Test.YtagokgijffpdnaaZWLast
import Derived.Lib.ConvBytes
import Derived.Deep.QuietTactic
import Derived.Deep.CutBlock
import Derived.BigQuiet
import Derived.Maps.Own
import Derived.Maps.OwnOps
import Derived.Maps.RangeWalk
import Derived.Maps.Views
import Derived.Maps.Ext
import Derived.Laws.Cover1
import Derived.Deep.DeepAppendWide
import Derived.Test.YtagokgijffpdnaaZWQPut
import Derived.Laws.StructEq
import Derived.Below
import Derived.Deep.Draws
import Derived.Deep.AppendLies
import Derived.Maps.AppendAt
import Derived.OwnWalk
import Derived.Laws.BytesArg
import Derived.Laws.MakeOwn
import Derived.Laws.OwnMore
import Derived.Deep.OwnRows
import Derived.Tactics
import Derived.Laws.Slices
import Derived.WideLaws
import Derived.Deep.DeepCutAuto
import Derived.Deep.RegionHeld3
import Derived.Laws.Rows
import Derived.Lib.AppendStr
import Derived.ArgAppend
import Derived.Laws.IdiomCopy
import Derived.OrdersHeld
import Derived.Laws.BitsLemmas
namespace Go.Proofs.YtagokgijffpdnaaQ
open Go.RowKit Go.Proofs.YtagokgijffpdnaaW.PrintWords
set_option linter.unusedVariables false
set_option linter.unusedSimpArgs false
section
variable {P : Program}
theorem run_append_string_at (w : World) (base : Nat) (t u ty e : TypeId) (i : TypeInfo) (ht : P.underlying t = some (.slice e)) (hu : P.underlying u = some .string) (hi : P.info? e = some i) (hz : i.zero = some (.int .u8 0))
  (hsize : i.size = 1) (hby : i.bytes = 1)
  (v : Value) (n : Nat) (xs : List Value) (hown : w.ownsRow base e 1 v n xs) (s : ByteArray)
  (h63 : n + s.size ≤ maxLen) (hbytes : n + s.size ≤ 140737488355328) (hbase : base ≤ w.heap.size) :
  ∃ v' w', (Builtin.append_ #[t, u] ty #[v, .string s]).run P w = .ok v' w' ∧ w'.ownsRow base e 1 v' (n + s.size) (xs ++ Lib.strCells s) ∧ w.grownBy w' v.ownBlock ∧
   (v'.ownBlock = v.ownBlock ∨ ∃ b, v'.ownBlock = some b ∧ w.heap.size ≤ b) := by
 obtain ⟨v', w', hr, h1, h2, _⟩ := Lib.run_append_own_string (P := P) w base t u ty e i ht hu hi hz hsize hby v n xs hown s h63 hbytes hbase
 refine ⟨v', w', hr, h1, h2, ?_⟩
 have hsmall : n + s.size ≤ 9223372036854775807 := by simp only [maxLen] at h63; omega
 have hxl : xs.length = n := by simpa using hown.1
 rcases hown.2 with ⟨rfl, rfl⟩ | ⟨g, cap, cur, rfl, hbg, hg, hnc, hcm, hcs, htake⟩
 ·have hx : xs = [] := List.eq_nil_of_length_eq_zero hxl
  subst hx
  obtain ⟨v2, w2, hr2, h12, _, _⟩ := Lib.run_append_own_string (P := P) w w.heap.size t u ty e i ht hu hi hz hsize hby (.slice none 0 0) 0 [] (World.ownsRow_nil w w.heap.size e 1) s h63 hbytes (Nat.le_refl _)
  rw [hr] at hr2
  injection hr2 with e1 e2
  subst e1 e2
  cases hv : v'.ownBlock with
  | none => left; rfl
  | some k => right; exact ⟨k, rfl, own_base h12 k hv⟩
 ·by_cases hroom : n + s.size ≤ cap
  ·have hcs' : cur.size = cap := by simpa using hcs
   have hr2 := Lib.run_append_room_string (P := P) w t u ty e i ht hu hi hsize g n cap cur hg s hroom (by omega)
   rw [hr] at hr2
   injection hr2 with e1 e2
   subst e1
   left; rfl
  ·have holds : ∀ j u, xs[j]? = some u → w.cell? ((⟨g, 0, none⟩ : Addr).add j) = some u := hown.cells (g := g) rfl
   have hr2 := Lib.run_append_grow_string (P := P) w t u ty e i (.int .u8 0) ht hu hi hz ⟨g, 0, none⟩ n cap xs (by rw [hsize]; simpa using hxl) holds s (by omega) (by omega) (by rw [hby]; exact growslice_fits (by omega) (by omega))
   rw [hr] at hr2
   injection hr2 with e1 e2
   subst e1
   right; exact ⟨w.heap.size, rfl, Nat.le_refl _⟩
end
section
variable {P : Program} {ops : Array Oper} {rest : List Oper} {o : Oper} {a : Act} {Q : Exit → Act → World → Prop}
theorem R_append_str {w0 W : World} (base : Nat) (hgd : o.guard = none) (s x : Operand) (t u e : TypeId)
  (ho : o.op = .call { callee := .builtin .append, args := #[s, x], argTypes := #[t, u] })
  (ht : P.underlying t = some (.slice e)) (hu : P.underlying u = some .string) (hinfo : (P.info? e).map (fun i => (i.zero, i.size, i.bytes)) = some (some (.int .u8 0), 1, 1))
  (v : Value) (xs : List Int) (y : ByteArray) (ok : Nat → Prop) (hs : a.eval s = v) (hx : a.eval x = .string y) (hfresh : ∀ k, W.heap.size ≤ k → ok k)
  (HO : (Kd.int .u8).R e W base ok v xs) (HB : Below base w0 W) (hbase : base ≤ W.heap.size) (hl : xs.length + y.size ≤ 140737488355328)
  (h : ∀ v1 w1, (Kd.int .u8).R e w1 base ok v1 (xs ++ bytesOf y) → Below base w0 w1 → W.grownBy w1 v.ownBlock → (v1.ownBlock = v.ownBlock ∨ ∃ b, v1.ownBlock = some b ∧ W.heap.size ≤ b) → wpList P ops Q rest (a.put o.dst v1) w1) :
  wpList P ops Q (o :: rest) a W := by
 obtain ⟨i0, hi, hzz⟩ := Option.map_eq_some_iff.1 hinfo
 simp only [Prod.mk.injEq] at hzz
 obtain ⟨hz0, hz1, hz2⟩ := hzz
 have hown := Kd.own_of_R HO
 refine wpList_plain hgd fun K hK => ?_
 obtain ⟨v', w', hr, h2, h3, h5⟩ := run_append_string_at (P := P) W base t u o.type e i0 ht hu hi hz0 hz1 hz2 v xs.length (encs (Value.int .u8) xs) hown y (by simp only [maxLen]; omega) hl hbase
 unfold Oper.wp execOp
 simp only [ho, resolve, invoke, builtin, Sem.run_bind, Sem.run_pure, Result.andThen_ok, List.map_toArray, List.map_cons, List.map_nil, hs, hx, hr]
 have hc : encs (Value.int .u8) xs ++ Lib.strCells y = encs (Value.int .u8) (xs ++ bytesOf y) := by
  simp [encs, bytesOf, Lib.strCells]
 have hl2 : (xs ++ bytesOf y).length = xs.length + y.size := by rw [List.length_append, bytesOf_length]
 rw [hc, ← hl2] at h2
 refine hK _ _ (h v' w' (Kd.R_of_own (h1 := fun _ => rfl) h2 (fun k hk => ?_)) (HB.grown h3 hbase (own_base hown)) h3 h5)
 rcases h5 with h5 | ⟨b, h5, h6⟩
 ·exact HO.1 k (h5 ▸ hk)
 ·rw [h5] at hk
  cases hk
  exact hfresh _ h6
end
end Go.Proofs.YtagokgijffpdnaaQ
namespace Go.Proofs.YtagokgijffpdnaaQ
open Go.Proofs.YtagokgijffpdnaaW.PrintWords
set_option linter.unusedVariables false
set_option linter.unusedSimpArgs false
def cbit (r : Nat) : Nat := if r % 2 = 1 then (r / 2) ^^^ 2197175160 else r / 2
def cbits : Nat → Nat → Nat
 | 0, r => r
 | n + 1, r => cbits n (cbit r)
theorem cbit_xor (a b : Nat) : cbit (a ^^^ b) = cbit a ^^^ cbit b := by
 have h1 : (a ^^^ b) / 2 = (a / 2) ^^^ (b / 2) := Nat.xor_div_two
 have h2 : (a ^^^ b) % 2 = (a % 2) ^^^ (b % 2) := Nat.xor_mod_two_pow (n := 1)
 unfold cbit
 rw [h1, h2]
 rcases Nat.mod_two_eq_zero_or_one a with ha | ha <;> rcases Nat.mod_two_eq_zero_or_one b with hb | hb <;> simp only [ha, hb]
 ·rfl
 ·rw [if_pos (by decide), if_neg (by decide), if_pos trivial, Nat.xor_assoc]
 ·rw [if_pos (by decide), if_pos trivial, if_neg (by decide), Nat.xor_assoc, Nat.xor_assoc, Nat.xor_comm (b / 2)]
 ·rw [if_neg (by decide), if_pos trivial, if_pos trivial]
  have : (a / 2 ^^^ 2197175160) ^^^ (b / 2 ^^^ 2197175160) = (a / 2 ^^^ b / 2) ^^^ (2197175160 ^^^ 2197175160) := by
   rw [Nat.xor_assoc, ← Nat.xor_assoc 2197175160, Nat.xor_comm 2197175160 (b / 2), Nat.xor_assoc (b / 2), ← Nat.xor_assoc]
  rw [this, Nat.xor_self, Nat.xor_zero]
theorem cbit_lt {r : Nat} (h : r < 4294967296) : cbit r < 4294967296 := by
 unfold cbit; split
 ·exact Nat.xor_lt_two_pow (n := 32) (by omega) (by omega)
 ·omega
theorem cbits_xor (n : Nat) : ∀ a b : Nat, cbits n (a ^^^ b) = cbits n a ^^^ cbits n b := by
 induction n with
 | zero => intro a b; rfl
 | succ n ih => intro a b; simp only [cbits]; rw [cbit_xor, ih]
theorem cbits_lt (n : Nat) : ∀ {r : Nat}, r < 4294967296 → cbits n r < 4294967296 := by
 induction n with
 | zero => intro r h; exact h
 | succ n ih => intro r h; exact ih (cbit_lt h)
theorem cbits_add (n m : Nat) : ∀ r, cbits (n + m) r = cbits m (cbits n r) := by
 induction n with
 | zero => intro r; simp [cbits]
 | succ n ih => intro r; rw [Nat.succ_add]; simp only [cbits]; rw [ih]
theorem cbits_shift (n : Nat) : ∀ q, cbits n (q * 2 ^ n) = q := by
 induction n with
 | zero => intro q; simp [cbits]
 | succ n ih =>
  intro q
  simp only [cbits]
  have e : cbit (q * 2 ^ (n + 1)) = q * 2 ^ n := by
   unfold cbit
   rw [Nat.pow_succ, ← Nat.mul_assoc, if_neg (by omega)]; omega
  rw [e, ih]
theorem split_low (n r : Nat) : r = (r / 2 ^ n * 2 ^ n) ^^^ (r % 2 ^ n) := by
 apply Nat.eq_of_testBit_eq
 intro i
 rw [Nat.testBit_xor, Nat.testBit_mul_two_pow, Nat.testBit_div_two_pow, Nat.testBit_mod_two_pow]
 by_cases h : n ≤ i
 ·have : ¬ i < n := by omega
  simp [h, this]
 ·have : i < n := by omega
  simp [h, this]
theorem cbits_split (n r : Nat) : cbits n r = (r / 2 ^ n) ^^^ cbits n (r % 2 ^ n) := by
 have h := split_low n r
 have e : cbits n r = cbits n ((r / 2 ^ n * 2 ^ n) ^^^ (r % 2 ^ n)) := by rw [← h]
 rw [e, cbits_xor, cbits_shift]
def creg (r : Nat) (l : List Nat) : Nat := l.foldl (fun r b => cbits 8 (r ^^^ b)) r
def nats (l : List Int) : List Nat := l.map Int.toNat
def crc (l : List Int) : Nat := 4294967295 - creg 4294967295 (nats l)
theorem creg_lt (l : List Nat) : ∀ {r : Nat}, r < 4294967296 → (∀ b ∈ l, b < 256) → creg r l < 4294967296 := by
 induction l with
 | nil => intro r h _; exact h
 | cons b l ih =>
  intro r h hb
  exact ih (cbits_lt 8 (Nat.xor_lt_two_pow (n := 32) (by omega) (by have := hb b List.mem_cons_self; omega))) (fun c hc => hb c (List.mem_cons_of_mem _ hc))
theorem nats_lt {l : List Int} (h : Bs l) : ∀ b ∈ nats l, b < 256 := by
 intro b hb
 obtain ⟨x, hx, rfl⟩ := List.mem_map.1 hb
 have := h x hx
 omega
theorem creg_snoc (r : Nat) (l : List Nat) (b : Nat) : creg r (l ++ [b]) = cbits 8 (creg r l ^^^ b) := by simp [creg]
def tab4 (i : Nat) : Nat := cbits 4 i
theorem cbits4 (r : Nat) : cbits 4 r = (r / 16) ^^^ tab4 (r % 16) := cbits_split 4 r
theorem x32 (a b : Nat) (ha : a < 4294967296) (hb : b < 4294967296) : Go.bits .xor .u32 (a : Int) (b : Int) = ((a ^^^ b : Nat) : Int) := Go.u32_xor_nat a b ha hb
theorem x32_lt {a b : Nat} (ha : a < 4294967296) (hb : b < 4294967296) : a ^^^ b < 4294967296 := Nat.xor_lt_two_pow (n := 32) (by omega) (by omega)
end Go.Proofs.YtagokgijffpdnaaQ
namespace Go.Proofs.Ytagokgijffpdnaa.G
open Go.RowKit Go.Proofs.YtagokgijffpdnaaQ Go.Proofs.YtagokgijffpdnaaW.PrintWords Go.Proofs.YtagokgijffpdnaaW.PrintLast Go.Proofs.YtagokgijffpdnaaW.PrintMore
set_option linter.unusedVariables false
set_option linter.unusedSimpArgs false
def tabV (n : Nat) : Array Value := ((List.range 16).map fun i => Value.int .u32 (if i < n then (tab4 i : Int) else 0)).toArray
theorem tabV_get {n i : Nat} (hi : i < 16) : (tabV n)[i]? = some (Value.int .u32 (if i < n then (tab4 i : Int) else 0)) := by
 unfold tabV
 rw [List.getElem?_toArray, List.getElem?_map, List.getElem?_range hi]; rfl
theorem tabV_set {i : Nat} (hi : i < 16) : (tabV i).setIfInBounds i (.int .u32 (tab4 i : Int)) = tabV (i + 1) := by
 unfold tabV
 rw [List.setIfInBounds_toArray]
 congr 1
 apply List.ext_getElem?
 intro j
 rw [List.getElem?_set, List.getElem?_map, List.getElem?_map]
 by_cases hj : j < 16
 ·rw [List.getElem?_range hj]
  by_cases e : i = j
  ·subst e
   simp [hi]
  ·have : j < i + 1 ↔ j < i := by omega
   simp [e, this]
 ·have e : ¬ i = j := by omega
  rw [List.getElem?_eq_none (by simp; omega)]
  simp [e]
def HalfW (w wx : World) (i : Nat) : Prop := wx.heap[w.heap.size]? = some (.cells (tabV 0) 102 (0, 0)) ∧ wx.heap[w.heap.size + 1]? = some (.cells (tabV i) 102 (0, 0)) ∧ Below w.heap.size w wx
theorem HalfW.cell {w wx : World} {i : Nat} (h : HalfW w wx i) {j : Nat} (hj : j < 16) : wx.cell? ⟨w.heap.size + 1, j, none⟩ = some (Value.int .u32 (if j < i then (tab4 j : Int) else 0)) := (blk_cell h.2.1 j).trans (tabV_get hj)
theorem HalfW.frozen {w wx : World} {i : Nat} (h : HalfW w wx i) (j : Nat) : wx.frozen? ⟨w.heap.size + 1, j, none⟩ = false := blk_frozen h.2.1 j
theorem HalfW.set {w wx : World} {i : Nat} (h : HalfW w wx i) (hi : i < 16) : HalfW w (wx.setCell ⟨w.heap.size + 1, i, none⟩ (.int .u32 (tab4 i : Int))) (i + 1) := by
 refine ⟨?_, ?_, below_set h.2.2 (by omega)⟩
 ·rw [Below.heap_setCell wx ⟨w.heap.size + 1, i, none⟩ _ _ (show w.heap.size ≠ w.heap.size + 1 by omega)]; exact h.1
 ·have := blk_set h.2.1 i (.int .u32 (tab4 i : Int))
  rw [← tabV_set hi]
  simpa using this
def tabL : List Int := [0, 274646895, 549293790, 820201905, 1098587580, 1361435347, 1640403810, 1905808397, 2197175160, 2460548119, 2722870694, 2987750089, 3280807620, 3553878443, 3811616794, 4084100981]
theorem tabL_is : (List.range 16).map (fun i => (tab4 i : Int)) = tabL := by decide
theorem tabV16 : tabV 16 = (tabL.map (Value.int .u32)).toArray := by
 rw [← tabL_is]; rfl
theorem and1 (r : Nat) (h : r < 4294967296) : Go.bits .and .u32 (r : Int) 1 = (r : Int) % 2 := by
 have := Go.u32_and_nat r 1 h (by omega)
 rw [Nat.and_one_is_mod] at this
 have e : ((1 : Nat) : Int) = 1 := rfl
 rw [← e, this]; omega
set_option maxHeartbeats 1000000 in
set_option maxRecDepth 100000 in
theorem half_calls (w : World) : Calls Try.prog 64 #[] w fun e w' => e = .returned (.agg (tabV 16)) ∧ Below w.heap.size w w' := by
 go_enter Try.func64, Try.ntmps64
 go_wp2
 go_loopg [4] 16 (fun g s4 wx => ∃ i : Nat, i ≤ 16 ∧ g = 16 - i ∧ s4 = .int .i64 i ∧ Aside0 (HalfW w wx i))
 case atStart =>
  refine ⟨0, by omega, by omega, rfl, ⟨?_, ?_, ?_⟩⟩
  ·exact blk_alloc (blk_new w _) _
  ·have h := blk_new (w.alloc (.cells (tabV 0) 102 (0, 0))) (.cells (tabV 0) 102 (0, 0))
   rw [show (w.alloc (.cells (tabV 0) 102 (0, 0))).heap.size = w.heap.size + 1 from Array.size_push _] at h
   exact h
  ·exact below_alloc (below_alloc (Below.refl _ _) _) _
 case round =>
  obtain ⟨i, hi, rfl, rfl, HW⟩ := hrel
  by_cases hlt : i < 16
  ·obtain ⟨g1, hg1⟩ : ∃ g1, 16 - i = g1 + 1 := ⟨16 - i - 1, by omega⟩
   have h1 : decide ((i : Int) < 16) = true := decide_eq_true (by omega)
   have h2 : decide (i < 16) = true := decide_eq_true hlt
   have h3 : IntKind.u32.wrap (i : Int) = (i : Int) := by simp [IntKind.wrap, IntKind.bits, IntKind.signed]; omega
   have h4 : (i : Int) % 4294967296 = (i : Int) := by omega
   have HLT := Aside0.mk hlt; clear hlt
   have hcell := HW.out.cell HLT.out
   rw [if_neg (by omega)] at hcell
   have hfz := HW.out.frozen i
   obtain ⟨wo, hwo⟩ : ∃ wo : World, wo = wr := ⟨_, rfl⟩
   subst hwo
   go_wp2
   go_loopg [9, 3] 4 (fun g s9 s3 wx => wx = wo ∧ ∃ k : Nat, k ≤ 4 ∧ g = 4 - k ∧ s9 = .int .i64 k ∧ s3 = .int .u32 ((cbits k i : Nat) : Int))
   case atStart => exact ⟨rfl, 0, by omega, by omega, rfl, by go_num⟩
   case round =>
    obtain ⟨rfl, k, hk, rfl, rfl, rfl⟩ := hrel
    by_cases klt : k < 4
    ·obtain ⟨g2, hg2⟩ : ∃ g2, 4 - k = g2 + 1 := ⟨4 - k - 1, by omega⟩
     have k1 : decide ((k : Int) < 4) = true := decide_eq_true (by omega)
     have k2 : decide (k < 4) = true := decide_eq_true klt
     have hr := cbits_lt k (r := i) (by have := HLT.out; omega)
     have hs : cbits (k + 1) i = cbit (cbits k i) := by rw [cbits_add]; rfl
     have HS := Aside0.mk hs; clear hs
     generalize cbits k i = r at *
     have a1 := and1 r hr
     by_cases p : r % 2 = 1
     ·have e1 : ((r : Int) % 2 == 1) = true := by rw [beq_iff_eq]; omega
      have x1 : Go.bits .xor .u32 ((r : Int) / 2) 2197175160 = ((cbit r : Nat) : Int) := by
       have h := x32 (r / 2) 2197175160 (by omega) (by omega)
       rw [Int.natCast_ediv] at h
       unfold cbit; rw [if_pos p]; exact h
      clear p
      go_wp2
      go_roundg g2
      case measure => omega
      case rel => exact ⟨rfl, k + 1, by omega, by omega, by go_num, by rw [HS.out]⟩
     ·have e1 : ((r : Int) % 2 == 1) = false := by rw [beq_eq_false_iff_ne]; omega
      have x1 : ((r : Int) / 2) = ((cbit r : Nat) : Int) := by unfold cbit; rw [if_neg p]; omega
      have X1 := Aside0.mk x1; clear x1
      clear p
      go_wp2
      go_roundg g2
      case measure => omega
      case rel => exact ⟨rfl, k + 1, by omega, by omega, by go_num, by rw [HS.out, X1.out]⟩
    ·have k1 : decide ((k : Int) < 4) = false := decide_eq_false (by omega)
     have k2 : decide (k < 4) = false := decide_eq_false klt
     have e : k = 4 := by omega
     subst e
     have i1 : (i : Int) < 16 := by have := HLT.out; omega
     have i2 : (0 : Int) ≤ (i : Int) := by omega
     have i3 := HLT.out
     replace i1 := eq_true i1
     replace i2 := eq_true i2
     replace i3 := eq_true i3
     clear klt
     have hn := HW.out.set HLT.out
     have HN := Aside0.mk hn; clear hn
     have HE := Aside0.mk (show tab4 i = cbits 4 i from rfl)
     go_wp2
     go_roundg g1
     case measure => omega
     case rel => exact ⟨i + 1, by have := HLT.out; omega, by omega, by go_num, HN⟩
  ·have h1 : decide ((i : Int) < 16) = false := decide_eq_false (by omega)
   have h2 : decide (i < 16) = false := decide_eq_false hlt
   have e : i = 16 := by omega
   subst e
   clear hlt hi h1 h2
   have HV := HW.out.2.1
   rw [tabV16] at HV
   have HZ := HW.out.1
   have c0 : wr.cell? ⟨w.heap.size + 1, 0, none⟩ = some (.int .u32 0) := (blk_cell HV 0).trans rfl
   have c1 : wr.cell? ⟨w.heap.size + 1, 1, none⟩ = some (.int .u32 274646895) := (blk_cell HV 1).trans rfl
   have c2 : wr.cell? ⟨w.heap.size + 1, 2, none⟩ = some (.int .u32 549293790) := (blk_cell HV 2).trans rfl
   have c3 : wr.cell? ⟨w.heap.size + 1, 3, none⟩ = some (.int .u32 820201905) := (blk_cell HV 3).trans rfl
   have c4 : wr.cell? ⟨w.heap.size + 1, 4, none⟩ = some (.int .u32 1098587580) := (blk_cell HV 4).trans rfl
   have c5 : wr.cell? ⟨w.heap.size + 1, 5, none⟩ = some (.int .u32 1361435347) := (blk_cell HV 5).trans rfl
   have c6 : wr.cell? ⟨w.heap.size + 1, 6, none⟩ = some (.int .u32 1640403810) := (blk_cell HV 6).trans rfl
   have c7 : wr.cell? ⟨w.heap.size + 1, 7, none⟩ = some (.int .u32 1905808397) := (blk_cell HV 7).trans rfl
   have c8 : wr.cell? ⟨w.heap.size + 1, 8, none⟩ = some (.int .u32 2197175160) := (blk_cell HV 8).trans rfl
   have c9 : wr.cell? ⟨w.heap.size + 1, 9, none⟩ = some (.int .u32 2460548119) := (blk_cell HV 9).trans rfl
   have c10 : wr.cell? ⟨w.heap.size + 1, 10, none⟩ = some (.int .u32 2722870694) := (blk_cell HV 10).trans rfl
   have c11 : wr.cell? ⟨w.heap.size + 1, 11, none⟩ = some (.int .u32 2987750089) := (blk_cell HV 11).trans rfl
   have c12 : wr.cell? ⟨w.heap.size + 1, 12, none⟩ = some (.int .u32 3280807620) := (blk_cell HV 12).trans rfl
   have c13 : wr.cell? ⟨w.heap.size + 1, 13, none⟩ = some (.int .u32 3553878443) := (blk_cell HV 13).trans rfl
   have c14 : wr.cell? ⟨w.heap.size + 1, 14, none⟩ = some (.int .u32 3811616794) := (blk_cell HV 14).trans rfl
   have c15 : wr.cell? ⟨w.heap.size + 1, 15, none⟩ = some (.int .u32 4084100981) := (blk_cell HV 15).trans rfl
   have z0 : wr.cell? ⟨w.heap.size, 0, none⟩ = some (.int .u32 0) := (blk_cell HZ 0).trans rfl
   have f0 := blk_frozen HZ 0
   have z1 : wr.cell? ⟨w.heap.size, 1, none⟩ = some (.int .u32 0) := (blk_cell HZ 1).trans rfl
   have f1 := blk_frozen HZ 1
   have z2 : wr.cell? ⟨w.heap.size, 2, none⟩ = some (.int .u32 0) := (blk_cell HZ 2).trans rfl
   have f2 := blk_frozen HZ 2
   have z3 : wr.cell? ⟨w.heap.size, 3, none⟩ = some (.int .u32 0) := (blk_cell HZ 3).trans rfl
   have f3 := blk_frozen HZ 3
   have z4 : wr.cell? ⟨w.heap.size, 4, none⟩ = some (.int .u32 0) := (blk_cell HZ 4).trans rfl
   have f4 := blk_frozen HZ 4
   have z5 : wr.cell? ⟨w.heap.size, 5, none⟩ = some (.int .u32 0) := (blk_cell HZ 5).trans rfl
   have f5 := blk_frozen HZ 5
   have z6 : wr.cell? ⟨w.heap.size, 6, none⟩ = some (.int .u32 0) := (blk_cell HZ 6).trans rfl
   have f6 := blk_frozen HZ 6
   have z7 : wr.cell? ⟨w.heap.size, 7, none⟩ = some (.int .u32 0) := (blk_cell HZ 7).trans rfl
   have f7 := blk_frozen HZ 7
   have z8 : wr.cell? ⟨w.heap.size, 8, none⟩ = some (.int .u32 0) := (blk_cell HZ 8).trans rfl
   have f8 := blk_frozen HZ 8
   have z9 : wr.cell? ⟨w.heap.size, 9, none⟩ = some (.int .u32 0) := (blk_cell HZ 9).trans rfl
   have f9 := blk_frozen HZ 9
   have z10 : wr.cell? ⟨w.heap.size, 10, none⟩ = some (.int .u32 0) := (blk_cell HZ 10).trans rfl
   have f10 := blk_frozen HZ 10
   have z11 : wr.cell? ⟨w.heap.size, 11, none⟩ = some (.int .u32 0) := (blk_cell HZ 11).trans rfl
   have f11 := blk_frozen HZ 11
   have z12 : wr.cell? ⟨w.heap.size, 12, none⟩ = some (.int .u32 0) := (blk_cell HZ 12).trans rfl
   have f12 := blk_frozen HZ 12
   have z13 : wr.cell? ⟨w.heap.size, 13, none⟩ = some (.int .u32 0) := (blk_cell HZ 13).trans rfl
   have f13 := blk_frozen HZ 13
   have z14 : wr.cell? ⟨w.heap.size, 14, none⟩ = some (.int .u32 0) := (blk_cell HZ 14).trans rfl
   have f14 := blk_frozen HZ 14
   have z15 : wr.cell? ⟨w.heap.size, 15, none⟩ = some (.int .u32 0) := (blk_cell HZ 15).trans rfl
   have f15 := blk_frozen HZ 15
   have HB := Aside0.mk HW.out.2.2
   have HV' := Aside0.mk HV; have HZ' := Aside0.mk HZ; clear HV HZ HW
   go_wp2
   have y := HZ'.out
   replace y := blk_set y 0 (.int .u32 0)
   replace y := blk_set y 1 (.int .u32 274646895)
   replace y := blk_set y 2 (.int .u32 549293790)
   replace y := blk_set y 3 (.int .u32 820201905)
   replace y := blk_set y 4 (.int .u32 1098587580)
   replace y := blk_set y 5 (.int .u32 1361435347)
   replace y := blk_set y 6 (.int .u32 1640403810)
   replace y := blk_set y 7 (.int .u32 1905808397)
   replace y := blk_set y 8 (.int .u32 2197175160)
   replace y := blk_set y 9 (.int .u32 2460548119)
   replace y := blk_set y 10 (.int .u32 2722870694)
   replace y := blk_set y 11 (.int .u32 2987750089)
   replace y := blk_set y 12 (.int .u32 3280807620)
   replace y := blk_set y 13 (.int .u32 3553878443)
   replace y := blk_set y 14 (.int .u32 3811616794)
   replace y := blk_set y 15 (.int .u32 4084100981)
   have hbw := HB.out
   replace hbw := below_set (j := 0) (v := (.int .u32 0)) hbw (Nat.le_refl _)
   replace hbw := below_set (j := 1) (v := (.int .u32 274646895)) hbw (Nat.le_refl _)
   replace hbw := below_set (j := 2) (v := (.int .u32 549293790)) hbw (Nat.le_refl _)
   replace hbw := below_set (j := 3) (v := (.int .u32 820201905)) hbw (Nat.le_refl _)
   replace hbw := below_set (j := 4) (v := (.int .u32 1098587580)) hbw (Nat.le_refl _)
   replace hbw := below_set (j := 5) (v := (.int .u32 1361435347)) hbw (Nat.le_refl _)
   replace hbw := below_set (j := 6) (v := (.int .u32 1640403810)) hbw (Nat.le_refl _)
   replace hbw := below_set (j := 7) (v := (.int .u32 1905808397)) hbw (Nat.le_refl _)
   replace hbw := below_set (j := 8) (v := (.int .u32 2197175160)) hbw (Nat.le_refl _)
   replace hbw := below_set (j := 9) (v := (.int .u32 2460548119)) hbw (Nat.le_refl _)
   replace hbw := below_set (j := 10) (v := (.int .u32 2722870694)) hbw (Nat.le_refl _)
   replace hbw := below_set (j := 11) (v := (.int .u32 2987750089)) hbw (Nat.le_refl _)
   replace hbw := below_set (j := 12) (v := (.int .u32 3280807620)) hbw (Nat.le_refl _)
   replace hbw := below_set (j := 13) (v := (.int .u32 3553878443)) hbw (Nat.le_refl _)
   replace hbw := below_set (j := 14) (v := (.int .u32 3811616794)) hbw (Nat.le_refl _)
   replace hbw := below_set (j := 15) (v := (.int .u32 4084100981)) hbw (Nat.le_refl _)
   have y' := y.trans (congrArg (fun t => some (Obj.cells t 102 (0, 0))) (show _ = tabV 16 by rw [tabV16]; rfl))
   clear y
   have d0 := (blk_cell y' 0).trans (show _ = some (Value.int .u32 0) by rw [tabV16]; rfl)
   have d1 := (blk_cell y' 1).trans (show _ = some (Value.int .u32 274646895) by rw [tabV16]; rfl)
   have d2 := (blk_cell y' 2).trans (show _ = some (Value.int .u32 549293790) by rw [tabV16]; rfl)
   have d3 := (blk_cell y' 3).trans (show _ = some (Value.int .u32 820201905) by rw [tabV16]; rfl)
   have d4 := (blk_cell y' 4).trans (show _ = some (Value.int .u32 1098587580) by rw [tabV16]; rfl)
   have d5 := (blk_cell y' 5).trans (show _ = some (Value.int .u32 1361435347) by rw [tabV16]; rfl)
   have d6 := (blk_cell y' 6).trans (show _ = some (Value.int .u32 1640403810) by rw [tabV16]; rfl)
   have d7 := (blk_cell y' 7).trans (show _ = some (Value.int .u32 1905808397) by rw [tabV16]; rfl)
   have d8 := (blk_cell y' 8).trans (show _ = some (Value.int .u32 2197175160) by rw [tabV16]; rfl)
   have d9 := (blk_cell y' 9).trans (show _ = some (Value.int .u32 2460548119) by rw [tabV16]; rfl)
   have d10 := (blk_cell y' 10).trans (show _ = some (Value.int .u32 2722870694) by rw [tabV16]; rfl)
   have d11 := (blk_cell y' 11).trans (show _ = some (Value.int .u32 2987750089) by rw [tabV16]; rfl)
   have d12 := (blk_cell y' 12).trans (show _ = some (Value.int .u32 3280807620) by rw [tabV16]; rfl)
   have d13 := (blk_cell y' 13).trans (show _ = some (Value.int .u32 3553878443) by rw [tabV16]; rfl)
   have d14 := (blk_cell y' 14).trans (show _ = some (Value.int .u32 3811616794) by rw [tabV16]; rfl)
   have d15 := (blk_cell y' 15).trans (show _ = some (Value.int .u32 4084100981) by rw [tabV16]; rfl)
   clear y'
   clear c0 z0 f0 c1 z1 f1 c2 z2 f2 c3 z3 f3 c4 z4 f4 c5 z5 f5 c6 z6 f6 c7 z7 f7 c8 z8 f8 c9 z9 f9 c10 z10 f10 c11 z11 f11 c12 z12 f12 c13 z13 f13 c14 z14 f14 c15 z15 f15
   generalize World.setCell _ _ _ = W at *
   refine bodyPost_ret (v := .agg (tabV 16)) ?_ rfl ⟨rfl, hbw⟩
   rw [tabV16]
   simp [results, Try.results64, go_sem, *]
   rfl
end Go.Proofs.Ytagokgijffpdnaa.G
namespace Go.Proofs.Ytagokgijffpdnaa.G
open Go.RowKit Go.Proofs.YtagokgijffpdnaaQ Go.Proofs.YtagokgijffpdnaaW.PrintWords Go.Proofs.YtagokgijffpdnaaW.PrintLast Go.Proofs.YtagokgijffpdnaaW.PrintMore
set_option linter.unusedVariables false
set_option linter.unusedSimpArgs false
theorem and15 (r : Nat) (h : r < 4294967296) : Go.bits .and .u32 (r : Int) 15 = ((r % 16 : Nat) : Int) := by
 have := Go.u32_and_nat r 15 h (by omega)
 have e2 : r &&& 15 = r % 16 := Nat.and_two_pow_sub_one_eq_mod r 4
 rw [e2] at this
 exact this
theorem half_one (r : Nat) : (r / 16) ^^^ tab4 (r % 16) = cbits 4 r := (cbits4 r).symm
theorem tab_cell {W : World} {g : Nat} (h : W.heap[g]? = some (.cells (tabV 16) 102 (0, 0))) {m : Nat} (hm : m < 16) : W.cell? ⟨g, m, none⟩ = some (.int .u32 ((tab4 m : Nat) : Int)) := by
 have := (blk_cell h m).trans (tabV_get hm)
 rwa [if_pos hm] at this
theorem not32 (r : Nat) (h : r < 4294967296) : Go.bits .xor .u32 IntKind.u32.max (r : Int) = ((4294967295 - r : Nat) : Int) := by
 have h1 := Go.u32_xor_nat 4294967295 r (by omega) h
 have e : 4294967295 ^^^ r = 4294967295 - r := by
  have hx : r < 2 ^ 32 := by omega
  have : (BitVec.allOnes 32 ^^^ BitVec.ofNat 32 r).toNat = (~~~ BitVec.ofNat 32 r).toNat := by rw [BitVec.xor_comm, BitVec.xor_allOnes]
  rw [BitVec.toNat_xor, BitVec.toNat_not, BitVec.toNat_ofNat, BitVec.toNat_allOnes, Nat.mod_eq_of_lt hx] at this
  simpa using this
 rw [e] at h1
 exact h1
theorem byte_at (s : ByteArray) (k : Nat) (hk : k < s.size) : nats ((bytesOf s).take (k + 1)) = nats ((bytesOf s).take k) ++ [(s.data.toList.getD k 0).toNat] := by
 have hs : k < s.data.toList.length := by simpa using hk
 unfold nats bytesOf
 rw [List.take_add_one, List.map_append, List.getElem?_map, List.getElem?_eq_getElem hs]
 simp [List.getD_eq_getElem?_getD, List.getElem?_eq_getElem hs]
set_option maxHeartbeats 1000000 in
set_option maxRecDepth 100000 in
theorem Sum_calls (s : ByteArray) (w : World) (hs : s.size ≤ 4611686018427387904) : Calls Try.prog 42 #[.string s] w fun e w' => e = .returned (.int .u32 ((crc (bytesOf s) : Nat) : Int)) ∧ Below w.heap.size w w' := by
 have hcv := fun (W : World) (t : ByteArray) => Lib.run_convert_string_bytes (P := Try.prog) W 9 51 5 t Try.underlying9 Try.underlying51 Try.underlying5
 go_enter Try.func42, Try.ntmps42
 go_wp2_with fail
 refine (half_calls w).mono ?_; rintro e w1 ⟨rfl, hb⟩
 have e0 : tabV 16 = #[(Value.int .u32 0), (Value.int .u32 274646895), (Value.int .u32 549293790), (Value.int .u32 820201905), (Value.int .u32 1098587580), (Value.int .u32 1361435347), (Value.int .u32 1640403810), (Value.int .u32 1905808397), (Value.int .u32 2197175160), (Value.int .u32 2460548119), (Value.int .u32 2722870694), (Value.int .u32 2987750089), (Value.int .u32 3280807620), (Value.int .u32 3553878443), (Value.int .u32 3811616794), (Value.int .u32 4084100981)] := by rw [tabV16]; rfl
 rw [e0]
 go_upto_region 2 with fail
 have y := blk_new w1 (.cells (tabV 16) 102 (0, 0))
 have hbw := below_alloc hb (.cells (tabV 16) 102 (0, 0))
 rw [e0] at y hbw
 have y' := y.trans (congrArg (fun t => some (Obj.cells t 102 (0, 0))) e0.symm)
 clear y e0
 generalize World.alloc _ _ = W at *
 generalize w1.heap.size = g at *
 have HT := Aside0.mk y'; clear y'
 have HB := Aside0.mk (bytes_below hbw hbw.size 5 s)
 have HTW := Aside0.mk ((Lib.bytesWorld_at_old W 5 s g (blk_lt HT.out)).trans HT.out)
 have HC := Aside0.mk (fun j hj => Lib.bytesWorld_cell W 5 s j hj)
 have hsg : IntKind.u32.signed = false := rfl
 clear hb hbw
 go_wp2
 go_loop [4, 11] (fun r i => ∃ k : Nat, k ≤ s.size ∧ i = .int .i64 k ∧ r = .int .u32 ((creg 4294967295 (nats ((bytesOf s).take k)) : Nat) : Int)) (fun _ i => s.size - (intOf i).toNat)
 case atStart => exact ⟨0, Nat.zero_le _, rfl, rfl⟩
 case round =>
  obtain ⟨k, hk, rfl, rfl⟩ := hrel
  by_cases hlt : k < s.size
  ·have hc := HC.out k hlt
   have hby := byte_at s k hlt
   have hr0 : creg 4294967295 (nats ((bytesOf s).take k)) < 4294967296 := creg_lt _ (by omega) (nats_lt ((Bs.bytesOf s).take k))
   have hb0 : (s.data.toList.getD k 0).toNat < 256 := UInt8.toNat_lt _
   generalize (s.data.toList.getD k 0).toNat = b at *
   have hnx : creg 4294967295 (nats ((bytesOf s).take (k + 1))) = cbits 8 (creg 4294967295 (nats ((bytesOf s).take k)) ^^^ b) := by rw [hby, creg_snoc]
   clear hby
   generalize creg 4294967295 (nats ((bytesOf s).take k)) = r0 at *
   have v1 : IntKind.u32.wrap (b : Int) = (b : Int) := by simp [IntKind.wrap, IntKind.bits, IntKind.signed]; omega
   have v2 : (b : Int) % 4294967296 = (b : Int) := by omega
   have x1 := x32 r0 b hr0 (by omega)
   have hr1 : r0 ^^^ b < 4294967296 := x32_lt hr0 (by omega)
   generalize r0 ^^^ b = r1 at *
   have m1 := and15 r1 hr1
   have lt1 : r1 % 16 < 16 := by omega
   have c1 := tab_cell HTW.out lt1
   have q1 : ((r1 : Int) / 16) = ((r1 / 16 : Nat) : Int) := by omega
   have x2 := x32 (r1 / 16) (tab4 (r1 % 16)) (by omega) (cbits_lt 4 (by omega))
   rw [half_one] at x2
   have hr2 : cbits 4 r1 < 4294967296 := cbits_lt 4 hr1
   have hnx2 : cbits 8 r1 = cbits 4 (cbits 4 r1) := cbits_add 4 4 r1
   generalize cbits 4 r1 = r2 at *
   have m2 := and15 r2 hr2
   have lt2 : r2 % 16 < 16 := by omega
   have c2 := tab_cell HTW.out lt2
   have q2 : ((r2 : Int) / 16) = ((r2 / 16 : Nat) : Int) := by omega
   have x3 := x32 (r2 / 16) (tab4 (r2 % 16)) (by omega) (cbits_lt 4 (by omega))
   rw [half_one] at x3
   generalize cbits 4 r2 = r3 at *
   have HN := Aside0.mk (hnx.trans hnx2); clear hnx hnx2
   have i1 : ((r1 % 16 : Nat) : Int) < 16 := by omega
   have i2 : ((r2 % 16 : Nat) : Int) < 16 := by omega
   generalize r1 % 16 = n1 at *
   generalize r2 % 16 = n2 at *
   generalize r1 / 16 = p1 at *
   generalize r2 / 16 = p2 at *
   generalize tab4 n1 = t1 at *
   generalize tab4 n2 = t2 at *
   clear hr0 hr1 hr2 hb0
   have d1 : decide ((k : Int) < (s.size : Int)) = true := decide_eq_true (by omega)
   have d2 : decide (k < s.size) = true := decide_eq_true hlt
   go_wp2
   go_round
   case rel => exact ⟨k + 1, by omega, by go_num, by rw [HN.out]⟩
   case measure => simp [intOf]; omega
  ·have d1 : decide ((k : Int) < (s.size : Int)) = false := decide_eq_false (by omega)
   have d2 : decide (k < s.size) = false := decide_eq_false hlt
   have e : k = s.size := by omega
   have ht : (bytesOf s).take k = bytesOf s := List.take_of_length_le (by rw [bytesOf_size]; omega)
   rw [ht]
   have hr0 : creg 4294967295 (nats (bytesOf s)) < 4294967296 := creg_lt _ (by omega) (nats_lt (Bs.bytesOf s))
   have hn := not32 _ hr0
   have hq : crc (bytesOf s) = 4294967295 - creg 4294967295 (nats (bytesOf s)) := rfl
   generalize creg 4294967295 (nats (bytesOf s)) = r at *
   have HQ := Aside0.mk hq; clear hq
   clear hlt hk e ht
   go_wp2
   go_ret
   exact ⟨by rw [HQ.out]; rfl, HB.out⟩
theorem bt_nat (s : ByteArray) (k : Nat) (hk : k < s.size) : ∀ h : k < s.size, (((s[k]'h).toNat : Nat) : Int) = (((s.data.toList.getD k 0).toNat : Nat) : Int) := by
 intro h
 have hs : k < s.data.toList.length := by simpa using hk
 rw [List.getD_eq_getElem?_getD, List.getElem?_eq_getElem hs]
 rfl
theorem cbits_succ (k r : Nat) : cbits (k + 1) r = cbit (cbits k r) := by rw [cbits_add]; rfl
set_option maxHeartbeats 1000000 in
set_option maxRecDepth 100000 in
theorem RSum_calls (s : ByteArray) (w : World) (hs : s.size ≤ 4611686018427387904) : Calls Try.prog 49 #[.string s] w fun e w' => e = .returned (.int .u32 ((crc (bytesOf s) : Nat) : Int)) ∧ w' = w := by
 have hsg : IntKind.u32.signed = false := rfl
 go_enter Try.func49, Try.ntmps49
 go_wp2
 go_loop [3, 4] (fun r i => ∃ k : Nat, k ≤ s.size ∧ i = .int .i64 k ∧ r = .int .u32 ((creg 4294967295 (nats ((bytesOf s).take k)) : Nat) : Int)) (fun _ i => s.size - (intOf i).toNat)
 case atStart => exact ⟨0, Nat.zero_le _, rfl, rfl⟩
 case round =>
  obtain ⟨k, hk, rfl, rfl⟩ := hrel
  by_cases hlt : k < s.size
  ·have hby := byte_at s k hlt
   have hr0 : creg 4294967295 (nats ((bytesOf s).take k)) < 4294967296 := creg_lt _ (by omega) (nats_lt ((Bs.bytesOf s).take k))
   have hb0 : (s.data.toList.getD k 0).toNat < 256 := UInt8.toNat_lt _
   have hat := bt_nat s k hlt
   generalize (s.data.toList.getD k 0).toNat = b at *
   have hnx : creg 4294967295 (nats ((bytesOf s).take (k + 1))) = cbits 8 (creg 4294967295 (nats ((bytesOf s).take k)) ^^^ b) := by rw [hby, creg_snoc]
   clear hby
   generalize creg 4294967295 (nats ((bytesOf s).take k)) = r0 at *
   have v1 : IntKind.u32.wrap (b : Int) = (b : Int) := by simp [IntKind.wrap, IntKind.bits, IntKind.signed]; omega
   have v2 : (b : Int) % 4294967296 = (b : Int) := by omega
   have x1 := x32 r0 b hr0 (by omega)
   have hr1 : r0 ^^^ b < 4294967296 := x32_lt hr0 (by omega)
   generalize r0 ^^^ b = r1 at *
   have HN := Aside0.mk hnx; clear hnx
   have HR := Aside0.mk hr1; clear hr1
   have d1 : decide ((k : Int) < (s.size : Int)) = true := decide_eq_true (by omega)
   have d2 : decide (k < s.size) = true := decide_eq_true hlt
   have d3 : (0 : Int) ≤ (k : Int) := by omega
   have d4 : (k : Int) < (s.size : Int) := by omega
   clear hr0 hb0
   go_wp2
   go_loop [3, 5] (fun r i => ∃ j : Nat, j ≤ 8 ∧ i = .int .i64 j ∧ r = .int .u32 ((cbits j r1 : Nat) : Int)) (fun _ i => 8 - (intOf i).toNat)
   case atStart => exact ⟨0, Nat.zero_le _, rfl, rfl⟩
   case round =>
    obtain ⟨j, hj, rfl, rfl⟩ := hrel
    by_cases jlt : j < 8
    ·have hr := cbits_lt j HR.out
     have hs := cbits_succ j r1
     have HS := Aside0.mk hs; clear hs
     generalize cbits j r1 = r at *
     have j1 : decide ((j : Int) < 8) = true := decide_eq_true (by omega)
     have j2 : decide (j < 8) = true := decide_eq_true jlt
     have y1 : Int.tmod (r : Int) 2 = (r : Int) % 2 := Int.tmod_eq_emod_of_nonneg (by omega)
     have y2 : Int.tdiv (r : Int) 2 = (r : Int) / 2 := Int.tdiv_eq_ediv_of_nonneg (by omega)
     have y3 : ((r : Int) / 2) % 4294967296 = (r : Int) / 2 := by omega
     have y4 : ((r : Int) % 2) % 4294967296 = (r : Int) % 2 := by omega
     by_cases p : r % 2 = 1
     ·have e1 : ((r : Int) % 2 == 1) = true := by rw [beq_iff_eq]; omega
      have x1 : Go.bits .xor .u32 ((r : Int) / 2) 2197175160 = ((cbit r : Nat) : Int) := by
       have h := x32 (r / 2) 2197175160 (by omega) (by omega)
       rw [Int.natCast_ediv] at h
       unfold cbit; rw [if_pos p]; exact h
      clear p
      go_wp2
      go_round
      case rel => exact ⟨j + 1, by omega, by go_num, by rw [HS.out]⟩
      case measure => simp [intOf]; omega
     ·have e1 : ((r : Int) % 2 == 1) = false := by rw [beq_eq_false_iff_ne]; omega
      have x1 : ((r : Int) / 2) = ((cbit r : Nat) : Int) := by unfold cbit; rw [if_neg p]; omega
      have X1 := Aside0.mk x1; clear x1
      clear p
      go_wp2
      go_round
      case rel => exact ⟨j + 1, by omega, by go_num, by rw [HS.out, ← X1.out]⟩
      case measure => simp [intOf]; omega
    ·have j1 : decide ((j : Int) < 8) = false := decide_eq_false (by omega)
     have j2 : decide (j < 8) = false := decide_eq_false jlt
     have e : j = 8 := by omega
     subst e
     clear jlt hj
     go_wp2
     go_round
     case rel => exact ⟨k + 1, by omega, by go_num, by rw [HN.out]⟩
     case measure => simp [intOf]; omega
  ·have d1 : decide ((k : Int) < (s.size : Int)) = false := decide_eq_false (by omega)
   have d2 : decide (k < s.size) = false := decide_eq_false hlt
   have e : k = s.size := by omega
   have ht : (bytesOf s).take k = bytesOf s := List.take_of_length_le (by rw [bytesOf_size]; omega)
   rw [ht]
   have hr0 : creg 4294967295 (nats (bytesOf s)) < 4294967296 := creg_lt _ (by omega) (nats_lt (Bs.bytesOf s))
   have hn := not32 _ hr0
   have hq : crc (bytesOf s) = 4294967295 - creg 4294967295 (nats (bytesOf s)) := rfl
   generalize creg 4294967295 (nats (bytesOf s)) = r at *
   have HQ := Aside0.mk hq; clear hq
   clear hlt hk e ht
   go_wp2
   go_ret
   exact ⟨by rw [HQ.out]; rfl, rfl⟩
end Go.Proofs.Ytagokgijffpdnaa.G
namespace Go.Proofs.YtagokgijffpdnaaQ
open Go.RowKit Go.Proofs.YtagokgijffpdnaaW.PrintWords Go.Proofs.YtagokgijffpdnaaW.PrintMore
set_option linter.unusedVariables false
set_option linter.unusedSimpArgs false
theorem w64 {x : Int} (h0 : -9223372036854775808 ≤ x) (h1 : x < 9223372036854775808) : wrap64 x = x := by unfold wrap64; omega
theorem wu64 {x : Int} (h0 : 0 ≤ x) (h1 : x < 18446744073709551616) : IntKind.u64.wrap x = x := by simp [IntKind.wrap, IntKind.bits, IntKind.signed]; omega
theorem wu64_def (x : Int) : IntKind.u64.wrap x = x % 18446744073709551616 := by simp [IntKind.wrap, IntKind.bits, IntKind.signed]
theorem shr_u64_lit (x : Int) (k : Nat) (hk : k ≤ 64) : shr .u64 x (k : Int) = x / 2 ^ k := by
 unfold shr; simp [IntKind.bits]; congr 2; omega
theorem or_join' (x y : Int) (i : Nat) (h0 : 0 ≤ x) (h1 : x < 18446744073709551616) (h2 : 0 ≤ y) (h3 : y < 18446744073709551616) (hx : x % 2 ^ i = 0) (hy : y < 2 ^ i) : Go.bits .or .u64 y x = y + x := by
 obtain ⟨X, rfl⟩ := Int.eq_ofNat_of_zero_le h0
 obtain ⟨Y, rfl⟩ := Int.eq_ofNat_of_zero_le h2
 rw [Go.u64_or_nat Y X (by omega) (by omega), Nat.or_comm, Go.nat_join i X Y (by exact_mod_cast hx) (by exact_mod_cast hy)]
 omega
theorem xor_u64_ones (x : Int) (h0 : 0 ≤ x) (h1 : x < 18446744073709551616) : Go.bits .xor .u64 x 18446744073709551615 = 18446744073709551615 - x := by
 obtain ⟨X, rfl⟩ := Int.eq_ofNat_of_zero_le h0
 have h := Go.u64_xor_nat X 18446744073709551615 (by omega) (by omega)
 have e : X ^^^ 18446744073709551615 = 18446744073709551615 - X := by
  have hx : X < 2 ^ 64 := by omega
  have : (BitVec.ofNat 64 X ^^^ BitVec.allOnes 64).toNat = (~~~ BitVec.ofNat 64 X).toNat := by rw [BitVec.xor_allOnes]
  rw [BitVec.toNat_xor, BitVec.toNat_not, BitVec.toNat_ofNat, BitVec.toNat_allOnes, Nat.mod_eq_of_lt hx] at this
  simpa using this
 rw [e] at h
 have : ((18446744073709551615 : Nat) : Int) = 18446744073709551615 := rfl
 rw [← this, h]
 omega
theorem xor_u64_zero (x : Int) (h0 : 0 ≤ x) (h1 : x < 18446744073709551616) : Go.bits .xor .u64 x 0 = x := by
 obtain ⟨X, rfl⟩ := Int.eq_ofNat_of_zero_le h0
 have h := Go.u64_xor_nat X 0 (by omega) (by omega)
 simpa using h
theorem zig (a : Int) (h : i64 a) : Go.bits .xor .u64 (IntKind.u64.wrap (wrap64 (a * 2))) (IntKind.u64.wrap (a / 9223372036854775808)) = fold a := by
 obtain ⟨h0, h1⟩ := h
 unfold fold
 by_cases c : a < 0
 ·rw [if_pos c]
  have e1 : a / 9223372036854775808 = -1 := by omega
  have e2 : IntKind.u64.wrap (-1) = 18446744073709551615 := by decide
  have e3 : IntKind.u64.wrap (wrap64 (a * 2)) = 18446744073709551616 + a * 2 := by rw [wu64_def]; unfold wrap64; omega
  rw [e1, e2, e3, xor_u64_ones _ (by omega) (by omega)]
  omega
 ·rw [if_neg c]
  have e1 : a / 9223372036854775808 = 0 := by omega
  have e2 : IntKind.u64.wrap 0 = 0 := by decide
  have e3 : IntKind.u64.wrap (wrap64 (a * 2)) = a * 2 := by rw [wu64_def]; unfold wrap64; omega
  rw [e1, e2, e3, xor_u64_zero _ (by omega) (by omega)]
  omega
end Go.Proofs.YtagokgijffpdnaaQ
namespace Go.Proofs.YtagokgijffpdnaaQ
open Go.Proofs.YtagokgijffpdnaaW.PrintWords
set_option linter.unusedVariables false
set_option linter.unusedSimpArgs false
def le4 (n : Int) : List Int := [n % 256, n / 256 % 256, n / 65536 % 256, n / 16777216 % 256]
theorem le4_len (n : Int) : (le4 n).length = 4 := rfl
def num4 (l : List Int) : Int := rd l 0 + 256 * rd l 1 + 65536 * rd l 2 + 16777216 * rd l 3
def frm (t : List Int) : List Int := le4 ((t.length : Int) % 4294967296) ++ t ++ le4 ((crc t : Nat) : Int)
inductive Fr where
 | part
 | bad
 | whole (t r : List Int)
def frI (l : List Int) : Fr :=
 if l.length < 4 then .part
 else if 1048576 < num4 l then .bad
 else if (l.length : Int) < num4 l + 8 then .part
 else if num4 (l.drop (4 + (num4 l).toNat)) = ((crc ((l.drop 4).take (num4 l).toNat) : Nat) : Int) then .whole ((l.drop 4).take (num4 l).toNat) (l.drop (8 + (num4 l).toNat))
 else .bad
end Go.Proofs.YtagokgijffpdnaaQ
namespace Go.Proofs.YtagokgijffpdnaaQ
open Go.Proofs.YtagokgijffpdnaaW.PrintWords
set_option linter.unusedVariables false
set_option linter.unusedSimpArgs false
theorem frI_nil : frI [] = .part := rfl
end Go.Proofs.YtagokgijffpdnaaQ
namespace Go.Proofs.YtagokgijffpdnaaQ
open Go.RowKit Go.Maps Go.Proofs.YtagokgijffpdnaaW.PrintWords
set_option linter.unusedVariables false
theorem lawK : Keyed Try.prog 3 := int_keyed Try.underlying3
theorem zeroE (w : World) : (zeroValue 3).run Try.prog w = .ok (.int .i64 0) w := by kernel_rfl
theorem wf_of {x : Int} (h0 : -9223372036854775808 ≤ x) (h1 : x ≤ 9223372036854775807) : (Lit.int .i64 x).wf = true := WalkArith.wf_i64 (by omega)
def kI (x : Int) : Lit := .int .i64 x
def ME (w : World) (B n : Nat) (D : DataW Unit) : Prop := w.ownsMap Try.prog 3 (plainElem Try.prog 3) B n D
def MF (D : DataW Unit) (f : Int → Int) (g : Int → Bool) : Prop := ∀ x : Int, (Lit.int .i64 x).wf = true → D.atKey (kI x) (.lit (.int .i64 0)) = .lit (.int .i64 (f x)) ∧ Maps.has D (kI x) = g x
def MI (w : World) (B n : Nat) (f : Int → Int) (g : Int → Bool) : Prop := ∃ D, ME w B n D ∧ MF D f g
section
variable {w w' : World} {B n : Nat} {f : Int → Int} {g : Int → Bool}
theorem MI.made (w : World) : MI (w.alloc (.map #[] 0)) w.heap.size 0 (fun _ => 0) (fun _ => false) := ⟨_, World.ownsMap_made w _ _ _, fun _ _ => ⟨rfl, rfl⟩⟩
theorem MI.mono (h : MI w B n f g) {m : Nat} (hm : n ≤ m) : MI w B m f g := by obtain ⟨D, h1, h2⟩ := h; exact ⟨D, World.ownsMap.mono h1 hm, h2⟩
theorem MI.lt (h : MI w B n f g) : B < w.heap.size := by obtain ⟨D, h1, _⟩ := h; exact World.ownsMap.lt h1
theorem MI.kept {row : Option Nat} (h : MI w B n f g) (hg : w.grownBy w' row) (hne : some B ≠ row) : MI w' B n f g := by obtain ⟨D, h1, h2⟩ := h; exact ⟨D, World.ownsMap.kept h1 hg hne, h2⟩
theorem MI.alloc (h : MI w B n f g) (o : Obj) : MI (w.alloc o) B n f g := h.kept (World.grownBy_alloc w o none) (by simp)
theorem MI.below (h : MI w B n f g) (hb : Below w.heap.size w w') : MI w' B n f g := h.kept (grown_of_below hb none) (by simp)
theorem MI.congr {f' : Int → Int} {g' : Int → Bool} (h : MI w B n f g) (hf : ∀ x, (Lit.int .i64 x).wf = true → f x = f' x) (hg : ∀ x, (Lit.int .i64 x).wf = true → g x = g' x) : MI w B n f' g' := by
 obtain ⟨D, h1, h2⟩ := h
 exact ⟨D, h1, fun x hx => by rw [← hf x hx, ← hg x hx]; exact h2 x hx⟩
theorem MI.map (h : MI w B n f g) : ∃ es clock, w.heap[B]? = some (.map es clock) := by obtain ⟨D, ⟨es, c, h1, _⟩, _⟩ := h; exact ⟨es, c, h1⟩
theorem MI.ne_blk (h : MI w B n f g) {b : Nat} {cs : Array Value} {t : TypeId} {fr : Nat × Nat} (hb : w.heap[b]? = some (.cells cs t fr)) : B ≠ b := by
 obtain ⟨es, c, h1⟩ := h.map
 rintro rfl
 rw [h1] at hb; cases hb
theorem MI.ne_own (h : MI w B n f g) {α : Type} {d : Kd α} {e base : Nat} {ok : Nat → Prop} {v : Value} {xs : List α} (ho : d.R e w base ok v xs) : some B ≠ v.ownBlock := fun he => by
 obtain ⟨es, c, h1⟩ := h.map
 obtain ⟨inner, hw⟩ := Kd.R_own ho
 obtain ⟨cells, h2⟩ := own_typed hw B he.symm
 rw [h1] at h2; cases h2
theorem MI.look (h : MI w B n f g) {x : Int} (hx : (Lit.int .i64 x).wf = true) : (Instr.lookup 49 (.map (some B)) (.int .i64 x) false).run Try.prog w = .ok (.int .i64 (f x)) w := by
 obtain ⟨D, h1, h2⟩ := h
 obtain ⟨c, hrun, hat, _⟩ := World.ownsMap.lookup_int (t := 49) h1 lawK Try.underlying49 Try.underlying3 (zeroE _) (keyOf_int_mk Try.underlying3 hx)
 have := ((h2 x hx).1).symm.trans hat
 simp only [DataW.lit.injEq, Lit.int.injEq, true_and] at this
 rw [hrun, this]
theorem kI_ne {x y : Int} (h : x ≠ y) : kI x ≠ kI y := fun e => h (by unfold kI at e; injection e)
theorem kI_key (x : Int) : WideAt.IsKeyLit (kI x) := trivial
theorem MF.put {D : DataW Unit} (hm : IsMap D) (h : MF D f g) (key c : Int) : MF (D.put (kI key) (.lit (.int .i64 c))) (fun y => if y = key then c else f y) (fun y => decide (y = key) || g y) := by
 intro x hx
 by_cases e : x = key
 ·subst e
  refine ⟨?_, ?_⟩
  ·rw [atKey_put_same hm (kI_key x)]; simp
  ·rw [has_put_same hm (kI_key x)]; simp
 ·refine ⟨?_, ?_⟩
  ·rw [atKey_put_other (kI_ne e)]; simp only [if_neg e]; exact (h x hx).1
  ·rw [has_put_other (kI_ne e)]; simp only [e, decide_false, Bool.false_or]; exact (h x hx).2
end
section
variable {w : World} {ops : Array Oper} {rest : List Oper} {o : Oper} {a : Act} {Q : Exit → Act → World → Prop}
theorem mi_put (hg0 : o.guard = none) (m x v : Operand) (hop : o.op = Op.mapUpdate 49 m x v) {B n : Nat} {f : Int → Int} {g : Int → Bool} (hm : a.eval m = .map (some B)) (h : MI w B n f g) (hn : n < maxLen) {key c : Int} (hx : a.eval x = .int .i64 key) (hv : a.eval v = .int .i64 c)
  (hk : (Lit.int .i64 key).wf = true) (hc : (Lit.int .i64 c).wf = true) (hK : ∀ w', MI w' B (n + 1) (fun y => if y = key then c else f y) (fun y => decide (y = key) || g y) → w.grownBy w' (some B) → wpList Try.prog ops Q rest (a.put o.dst undef) w') :
  wpList Try.prog ops Q (o :: rest) a w := by
 obtain ⟨D, h1, h2⟩ := h
 have hm0 : IsMap D := World.ownsMap.isMap h1
 refine wpList_mapUpdate_own w hg0 m x v 49 hop 3 3 lawK Try.underlying49 _ B n D hm h1 hn _ _ (kI key) hx hv (keyOf_int_mk Try.underlying3 hk) (.lit (.int .i64 c)) [] (plainElem_int Try.underlying3 hc) ?_
 intro w' hown hgr
 exact hK w' ⟨_, hown, h2.put hm0 key c⟩ hgr
def MR (w : World) (B r n : Nat) (D : DataW Unit) (left : Lit → Bool) (cnt : Nat) : Prop := w.ranges Try.prog 3 (plainElem Try.prog 3) B r n D left cnt
theorem mi_range (hg0 : o.guard = none) (m : Operand) (hop : o.op = Op.range 49 m) {B n : Nat} {D : DataW Unit} (hm : a.eval m = .map (some B)) (h : ME w B n D)
  (hK : ∀ w', MR w' B w.heap.size n D (Maps.has D) (Maps.size D) → w.grownBy w' none → w'.heap.size = w.heap.size + 1 → wpList Try.prog ops Q rest (a.put o.dst (.pointer (some ⟨w.heap.size, 0, none⟩))) w') : wpList Try.prog ops Q (o :: rest) a w :=
 wpList_range_own w hg0 m 49 hop 3 3 lawK Try.underlying49 _ B n D hm h hK
theorem mi_next (hg0 : o.guard = none) (it : Operand) (hop : o.op = Op.next it false) {B r n : Nat} {D : DataW Unit} {f : Int → Int} {g : Int → Bool} (hD : MF D f g) {left : Lit → Bool} {cnt : Nat} (hit : a.eval it = .pointer (some ⟨r, 0, none⟩)) (h : MR w B r n D left cnt)
  (hDone : (∀ x : Int, left (kI x) = false) → wpList Try.prog ops Q rest (a.put o.dst (.tuple #[.bool false])) w)
  (hMore : ∀ (x : Int) (w' : World) (cnt' : Nat), (Lit.int .i64 x).wf = true → left (kI x) = true → MR w' B r n D (fun z => left z && !z.sameKey (kI x)) cnt' → cnt' < cnt →
   w.grownBy w' (some r) → w'.heap.size = w.heap.size → (Instr.entry (.pointer (some ⟨r, 0, none⟩))).run Try.prog w' = .ok (.tuple #[.int .i64 x, .int .i64 (f x)]) w' → wpList Try.prog ops Q rest (a.put o.dst (.tuple #[.bool true, .int .i64 x, .int .i64 (f x)])) w') : wpList Try.prog ops Q (o :: rest) a w := by
 refine wpList_next_ranges_ii w hg0 it hop 3 3 .i64 .i64 lawK Try.underlying3 Try.underlying3 B r n D left cnt hit h (fun _ hl => hDone (fun x => hl _)) ?_
 intro x c w' cnt' hx hc hl hat hr hlt hg hs he
 have := ((hD x hx).1).symm.trans (hat _)
 simp only [DataW.lit.injEq, Lit.int.injEq, true_and] at this
 subst this
 exact hMore x w' cnt' hx hl hr hlt hg hs he
theorem strike (left : Lit → Bool) (x y : Int) : (left (kI y) && !(kI y).sameKey (kI x)) = (left (kI y) && !decide (y = x)) := by
 by_cases e : y = x
 ·subst e; rw [WideAt.sameKey_self (kI_key y)]; simp
 ·rw [sameKey_ne (kI_ne e)]; simp [e]
end
end Go.Proofs.YtagokgijffpdnaaQ
namespace Go.Proofs.YtagokgijffpdnaaQ
open Go Go.RowKit Go.Proofs.YtagokgijffpdnaaW.PrintWords Go.Proofs.YtagokgijffpdnaaW.PrintLast Go.Proofs.YtagokgijffpdnaaW.PrintMore
set_option linter.unusedVariables false
set_option linter.unusedSimpArgs false
section
variable {P : Program}
theorem run_wide (w : World) (base : Nat) (t ty e : TypeId) (i : TypeInfo) (z : Value) (ht : P.underlying t = some (.slice e)) (hi : P.info? e = some i) (hz : i.zero = some z)
  (hzs : z.cells.size = i.size) (hsz : 0 < i.size) (v : Value) (n : Nat) (xs : List Value) (hown : w.ownsRow base e i.size v n xs)
  (a : Addr) (m c : Nat) (news : List Value) (hl : news.length = m * i.size) (hnews : ∀ j u, news[j]? = some u → w.cell? (a.add j) = some u) (h1 : ∀ u ∈ news, u.oneCell' = true) (hm : 0 < m)
  (h63 : n + m ≤ maxLen) (hbytes : ((n + m) + (n + m) / 4 + 192) * i.bytes ≤ 281474976710656) (hbase : base ≤ w.heap.size) :
  ∃ v' w', (Builtin.append_ #[t, t] ty #[v, .slice (some a) m c]).run P w = .ok v' w' ∧ w'.ownsRow base e i.size v' (n + m) (xs ++ news) ∧ w.grownBy w' v.ownBlock ∧ (v'.ownBlock = v.ownBlock ∨ v'.ownBlock = some w.heap.size) := by
 obtain ⟨v', w', hr, h2, h3, _⟩ := run_append_own_wide (P := P) w base t ty e i z i.size i.bytes ht hi hz rfl rfl hzs hsz v n xs hown a m c news hl hnews h1 h63 hbytes hbase
 refine ⟨v', w', hr, h2, h3, ?_⟩
 have h63' : ((n + m : Nat) : Int) ≤ 9223372036854775807 := by simp only [maxLen] at h63; omega
 rcases hown.2 with ⟨rfl, rfl⟩ | ⟨g, cap, cur, rfl, hbg, hg, hnc, hcm, hcs, htake⟩
 ·have hb : m * i.bytes ≤ 281474976710656 := Nat.le_trans (Nat.mul_le_mul_right _ (by omega)) hbytes
  have hr2 := run_append_nil (P := P) w t ty e i z ht hi hz a m c news hl hnews hm (by omega) hb
  rw [hr] at hr2
  injection hr2 with e1 e2
  subst e1
  exact Or.inr rfl
 ·by_cases hroom : n + m ≤ cap
  ·have hr2 := run_append_room (P := P) w t ty e i ht hi g n cap cur hg a m c news hl hnews h1 hroom (by rw [hl, hcs, ← Nat.add_mul]; exact Nat.mul_le_mul_right _ hroom)
   rw [hr] at hr2
   injection hr2 with e1 e2
   subst e1
   exact Or.inl rfl
  ·have hr2 := run_append_grow (P := P) w t ty e i z ht hi hz ⟨g, 0, none⟩ n cap xs hown.1 (hown.cells (g := g) rfl) a m c news hl hnews (by omega) h63' (growslice_fits_wide (by omega) hbytes)
   rw [hr] at hr2
   injection hr2 with e1 e2
   subst e1
   exact Or.inr rfl
end
section
variable {P : Program} {ops : Array Oper} {rest : List Oper} {o : Oper} {a : Act} {Q : Exit → Act → World → Prop} {α : Type}
theorem R_append_wide (d : Kd α) {w0 W : World} (base : Nat) (hgd : o.guard = none) (s x : Operand) (t e : TypeId) (z : Value) (bytes : Nat)
  (ho : o.op = .call { callee := .builtin .append, args := #[s, x], argTypes := #[t, t] })
  (ht : P.underlying t = some (.slice e)) (hinfo : (P.info? e).map (fun i => (i.zero, i.size, i.bytes)) = some (some z, d.sz, bytes)) (hz : z.cells.size = d.sz) (hs0 : 0 < d.sz) (hb0 : 0 < bytes)
  (v : Value) (xs : List α) (p : α) (cs : List Value) (ok okp : Nat → Prop) (hs : a.eval s = v) (hx : a.eval x = .slice (some ⟨W.heap.size, 0, none⟩) 1 1) (hp : d.M W base okp p cs) (hokp : ∀ k, okp k → ok k ∧ some k ≠ v.ownBlock) (hfresh : ∀ k, W.heap.size ≤ k → ok k)
  (HO : d.R e W base ok v xs) (HB : Below base w0 W) (hbase : base ≤ W.heap.size) (hl : ((xs.length + 1) + (xs.length + 1) / 4 + 192) * bytes ≤ 281474976710656)
  (h : ∀ v1 w1, d.R e w1 base ok v1 (xs ++ [p]) → Below base w0 w1 → W.grownBy w1 v.ownBlock → (v1.ownBlock = v.ownBlock ∨ ∃ b, v1.ownBlock = some b ∧ W.heap.size ≤ b) → wpList P ops Q rest (a.put o.dst v1) w1) :
  wpList P ops Q (o :: rest) a (W.alloc (.cells cs.toArray e)) := by
 obtain ⟨h0, inner, hown, hr⟩ := HO
 obtain ⟨i0, hi, hzz⟩ := Option.map_eq_some_iff.1 hinfo
 simp only [Prod.mk.injEq] at hzz
 obtain ⟨hz0, hz1, hz2⟩ := hzz
 have hsmall : xs.length + 1 ≤ 281474976710656 := Nat.le_trans (by omega) (Nat.le_trans (Nat.le_mul_of_pos_right ((xs.length + 1) + (xs.length + 1) / 4 + 192) hb0) hl)
 have hcl : cs.length = i0.size := by rw [hz1]; exact d.K_len (d.K_of_M hp)
 rw [← hz1] at hown hz hs0
 rw [← hz2] at hl
 refine wpList_plain hgd fun K hK => ?_
 obtain ⟨v1, w1, hrun, hown1, hg, hat⟩ := run_wide (P := P) (W.alloc (.cells cs.toArray e)) base t o.type e i0 z ht hi hz0 hz hs0 v xs.length inner (hown.alloc _) ⟨W.heap.size, 0, none⟩ 1 1 cs (by rw [hcl, Nat.one_mul])
  (by simpa using World.news_of_block (cs := cs.toArray) (t := e) (fr := (0, 0)) (heap_alloc_new W (.cells cs.toArray e))) (d.K_one (d.K_of_M hp)) (by omega) (by simp only [maxLen]; omega) hl (by simp; omega)
 unfold Oper.wp execOp
 simp only [ho, resolve, invoke, builtin, Sem.run_bind, Sem.run_pure, Result.andThen_ok, List.map_toArray, List.map_cons, List.map_nil, hs, hx, hrun]
 have hg2 := World.grownBy.trans (World.grownBy_alloc W _ _) hg
 have hat2 : v1.ownBlock = v.ownBlock ∨ ∃ b, v1.ownBlock = some b ∧ W.heap.size ≤ b := by
  rcases hat with hat | hat
  ·exact .inl hat
  ·exact .inr ⟨_, hat, by simp⟩
 have hb := (HB.alloc hbase (Obj.cells cs.toArray e)).grown hg (by simp; omega) (own_base hown)
 rw [hz1] at hown1
 exact hK _ _ (h v1 w1 (Kd.R_appended h0 hr hp hokp hfresh hown1 hg2 hat2) hb hg2 hat2)
end
end Go.Proofs.YtagokgijffpdnaaQ
namespace Go.Proofs.YtagokgijffpdnaaW.PrintLast
open Go.Proofs.YtagokgijffpdnaaW.PrintWords (Aside0)
def needsOf (md : Region.Mode) (o : Oper) : List Nat := (o.after.toList.filter (fun e => Region.binds md e)).map (fun e => e.on)
def clashOf (md : Region.Mode) (ops : Array Oper) (i : Nat) (oi : Oper) : List Nat := (List.range ops.size).filter fun j => !(j == i) && match ops[j]? with
 | some oj => !(oj.after.any (fun e => Region.binds md e && e.on == i) || oi.apart ops oj)
 | none => false
def rtab (md : Region.Mode) (ops : Array Oper) : Bool × List (List Nat × List Nat) := (Region.noSelect ops, (List.range ops.size).map fun i => match ops[i]? with
 | some o => (needsOf md o, clashOf md ops i o)
 | none => ([], []))
def readyAt (T : List (List Nat × List Nat)) (l : List Bool) (i : Nat) : Bool := !l.getD i true && match T[i]? with
 | some r => r.1.all (fun j => l.getD j false)
 | none => false
def readyT (T : List (List Nat × List Nat)) (l : List Bool) : List Nat := (List.range T.length).filter (readyAt T l)
def freeT (T : List (List Nat × List Nat)) (l : List Bool) (i : Nat) : Bool := match T[i]? with
 | some r => r.2.all (fun j => l.getD j true)
 | none => false
def closedT (T : List (List Nat × List Nat)) (l : List Bool) : Bool := (List.range T.length).all fun j => !l.getD j false || match T[j]? with
 | some r => r.1.all (fun k => l.getD k false)
 | none => true
def reachT (T : List (List Nat × List Nat)) (i : Nat) : Nat → Nat → Bool
 | 0, _ => false
 | fuel + 1, d => match T[d]? with
  | some r => r.1.any fun j => j == i || reachT T i fuel j
  | none => false
def lastT (T : List (List Nat × List Nat)) (l : List Bool) (ds : List Nat) (i : Nat) : Bool := ds.all fun d => l.getD d true || reachT T i T.length d
section
variable {md : Region.Mode} {ops : Array Oper} {T : Bool × List (List Nat × List Nat)} {l l' li lj lk : Array Bool} {ds : List Nat} {i j k : Nat}
theorem gd (l : Array Bool) (j : Nat) (b : Bool) : l.getD j b = l.toList.getD j b := by simp [Array.getD_eq_getD_getElem?, List.getD_eq_getElem?_getD]
theorem needs_all (o : Oper) (p : Nat → Bool) : o.after.all (fun e => !Region.binds md e || p e.on) = (needsOf md o).all p := by
 unfold needsOf
 rw [← Array.all_toList]
 induction o.after.toList with
 | nil => rfl
 | cons e r ih =>
  rw [List.all_cons, ih, List.filter_cons]
  cases h : Region.binds md e <;> simp
theorem needs_any (o : Oper) (p : Nat → Bool) : o.after.any (fun e => Region.binds md e && p e.on) = (needsOf md o).any p := by
 unfold needsOf
 rw [← Array.any_toList]
 induction o.after.toList with
 | nil => rfl
 | cons e r ih =>
  rw [List.any_cons, ih, List.filter_cons]
  cases h : Region.binds md e <;> simp
theorem rtab_length : (rtab md ops).2.length = ops.size := by simp [rtab]
theorem rtab_some {o : Oper} (h : ops[i]? = some o) : (rtab md ops).2[i]? = some (needsOf md o, clashOf md ops i o) := by
 have hi := (Array.getElem?_eq_some_iff.1 h).1
 unfold rtab
 rw [List.getElem?_map, List.getElem?_range hi, Option.map_some, h]
theorem rtab_none (h : ops[i]? = none) : (rtab md ops).2[i]? = none := by
 have hi : ops.size ≤ i := Array.getElem?_eq_none_iff.1 h
 exact List.getElem?_eq_none (by rw [rtab_length]; exact hi)
theorem readyAt_eq : readyAt (rtab md ops).2 l.toList i = (!l.getD i true && ((ops[i]?).map (·.after.all fun e => !Region.binds md e || l.getD e.on false)).getD false) := by
 unfold readyAt
 rw [gd]
 cases h : ops[i]? with
 | none => rw [rtab_none h]; rfl
 | some o =>
  rw [rtab_some h]
  simp only [Option.map_some, Option.getD_some]
  rw [← needs_all]
  simp only [gd]
theorem ready_eq : Region.ready md ops l = readyT (rtab md ops).2 l.toList := by
 unfold Region.ready readyT
 rw [rtab_length]
 refine List.filter_congr (fun i _ => ?_)
 rw [readyAt_eq]
theorem free_eq : Region.free md ops l i = freeT (rtab md ops).2 l.toList i := by
 unfold Region.free freeT
 cases h : ops[i]? with
 | none => rw [rtab_none h]
 | some oi =>
  rw [rtab_some h]
  simp only [clashOf]
  rw [List.all_filter]
  congr 1
  funext j
  rw [gd]
  cases hj : ops[j]? with
  | none => cases (j == i) <;> cases (l.toList.getD j true) <;> simp
  | some oj =>
   cases (j == i) <;> cases (l.toList.getD j true) <;> cases (oj.after.any (fun e => Region.binds md e && e.on == i) || oi.apart ops oj) <;> simp_all
theorem closed_eq : Region.closedB md ops l = closedT (rtab md ops).2 l.toList := by
 unfold Region.closedB closedT
 rw [rtab_length]
 congr 1
 funext j
 rw [gd]
 cases h : ops[j]? with
 | none => rw [rtab_none h]
 | some o =>
  rw [rtab_some h]
  simp only
  rw [← needs_all]
  simp only [gd]
theorem reach_eq : ∀ (fuel d : Nat), Region.reachB md ops i fuel d = reachT (rtab md ops).2 i fuel d
 | 0, _ => rfl
 | fuel + 1, d => by
  unfold Region.reachB reachT
  cases h : ops[d]? with
  | none => rw [rtab_none h]
  | some o =>
   rw [rtab_some h]
   simp only
   rw [← needs_any]
   congr 1
   funext e
   rw [reach_eq fuel]
theorem last_eq : Region.lastB md ops l ds i = lastT (rtab md ops).2 l.toList ds i := by
 unfold Region.lastB lastT
 rw [rtab_length]
 congr 1
 funext d
 rw [gd, reach_eq]
theorem readyAt_mem (h : readyAt T.2 l.toList i = true) (hT : rtab md ops = T) : (Region.ready md ops l).contains i = true := by
 subst hT
 rw [ready_eq]
 unfold readyT
 rw [List.contains_iff_mem, List.mem_filter, List.mem_range]
 refine ⟨?_, h⟩
 unfold readyAt at h
 rw [Bool.and_eq_true] at h
 cases hq : (rtab md ops).2[i]? with
 | none => rw [hq] at h; simp at h
 | some r => exact (List.getElem?_eq_some_iff.1 hq).1
theorem set_of (h : (l.toList.set i true == l'.toList) = true) : (l.setIfInBounds i true == l') = true := by
 rw [beq_iff_eq] at h ⊢
 apply Array.ext'
 rw [Array.toList_setIfInBounds]
 exact h
def anyT (T : Bool × List (List Nat × List Nat)) (l l' : List Bool) (i : Nat) : Bool := T.1 && freeT T.2 l i && readyAt T.2 l i && (l.set i true == l')
theorem any_of (hT : rtab md ops = T) (h : anyT T l.toList l'.toList i = true) : anyB md ops l l' i = true := by
 simp only [anyT, Bool.and_eq_true] at h
 obtain ⟨⟨⟨h1, h2⟩, h3⟩, h4⟩ := h
 have h5 := readyAt_mem h3 hT
 have h6 := set_of h4
 subst hT
 simp only [anyB, Bool.and_eq_true]
 exact ⟨⟨⟨h1, by rw [free_eq]; exact h2⟩, h5⟩, h6⟩
def takeT (T : Bool × List (List Nat × List Nat)) (ds : List Nat) (l l' : List Bool) (i : Nat) : Bool := T.1 && freeT T.2 l i && readyAt T.2 l i && closedT T.2 l && lastT T.2 l ds i && (l.set i true == l')
theorem take_of (hT : rtab md ops = T) (h : takeT T ds l.toList l'.toList i = true) : takeB md ops ds l l' i = true := by
 simp only [takeT, Bool.and_eq_true] at h
 obtain ⟨⟨⟨⟨⟨h1, h2⟩, h3⟩, h4⟩, h5⟩, h6⟩ := h
 have h7 := readyAt_mem h3 hT
 have h8 := set_of h6
 subst hT
 simp only [takeB, Bool.and_eq_true]
 exact ⟨⟨⟨⟨⟨h1, by rw [free_eq]; exact h2⟩, h7⟩, by rw [closed_eq]; exact h4⟩, by rw [last_eq]; exact h5⟩, h8⟩
theorem one_of (hT : rtab md ops = T) (h : (readyT T.2 l.toList == [i] && l.toList.set i true == l'.toList) = true) : readyB md ops l l' i = true := by
 simp only [Bool.and_eq_true] at h
 obtain ⟨h1, h2⟩ := h
 subst hT
 simp only [readyB, Bool.and_eq_true]
 exact ⟨by rw [ready_eq]; exact h1, set_of h2⟩
theorem two_of (hT : rtab md ops = T) (h : (readyT T.2 l.toList == [i, j] && l.toList.set i true == li.toList && l.toList.set j true == lj.toList) = true) : (Region.ready md ops l == [i, j] && l.setIfInBounds i true == li && l.setIfInBounds j true == lj) = true := by
 simp only [Bool.and_eq_true] at h ⊢
 obtain ⟨⟨h1, h2⟩, h3⟩ := h
 subst hT
 exact ⟨⟨by rw [ready_eq]; exact h1, set_of h2⟩, set_of h3⟩
theorem done_of (hT : rtab md ops = T) (h : (readyT T.2 l.toList == []) = true) : (Region.ready md ops l == []) = true := by
 subst hT
 rw [ready_eq]
 exact h
def upM (B : List Nat) (d : Nat) : List Nat → Nat
 | [] => 0
 | n :: r => (2 ^ n ||| (if n < d then B.getD n 0 else 0)) ||| upM B d r
def waitsOk (T : List (List Nat × List Nat)) (B : List Nat) : Bool := (List.range T.length).all fun d => match T[d]? with
 | some r => (B.getD d 0 ||| upM B d r.1) == upM B d r.1
 | none => false
theorem upM_bit {B : List Nat} {d i : Nat} : ∀ {ns : List Nat}, (upM B d ns).testBit i = true → ∃ n ∈ ns, n = i ∨ (n < d ∧ (B.getD n 0).testBit i = true)
 | [], h => by simp [upM] at h
 | n :: r, h => by
  unfold upM at h
  rw [Nat.testBit_or, Nat.testBit_or, Bool.or_eq_true, Bool.or_eq_true] at h
  rcases h with (h | h) | h
  ·rw [Nat.testBit_two_pow] at h
   exact ⟨n, List.mem_cons_self, .inl (by simpa using h)⟩
  ·by_cases hn : n < d
   ·rw [if_pos hn] at h
    exact ⟨n, List.mem_cons_self, .inr ⟨hn, h⟩⟩
   ·rw [if_neg hn] at h
    simp at h
  ·obtain ⟨m, hm, h2⟩ := upM_bit h
   exact ⟨m, List.mem_cons_of_mem _ hm, h2⟩
theorem reach_bit {T : List (List Nat × List Nat)} {B : List Nat} (hB : waitsOk T B = true) : ∀ (fuel d : Nat), d < fuel → d < T.length → (B.getD d 0).testBit i = true → reachT T i fuel d = true
 | 0, d, h, _, _ => by omega
 | fuel + 1, d, h, hd, hb => by
  have h1 := List.all_eq_true.1 hB d (List.mem_range.2 hd)
  cases hr : T[d]? with
  | none => rw [hr] at h1; simp at h1
  | some r =>
   rw [hr] at h1
   simp only [beq_iff_eq] at h1
   have h2 : (upM B d r.1).testBit i = true := by rw [← h1, Nat.testBit_or, hb, Bool.true_or]
   obtain ⟨n, hn, h3⟩ := upM_bit h2
   unfold reachT
   rw [hr]
   simp only
   rw [List.any_eq_true]
   refine ⟨n, hn, ?_⟩
   rcases h3 with rfl | ⟨h4, h5⟩
   ·simp
   ·rw [reach_bit hB fuel n (by omega) (by omega) h5, Bool.or_true]
def lastW (T : List (List Nat × List Nat)) (B : List Nat) (l : List Bool) (ds : List Nat) (i : Nat) : Bool := ds.all fun d => l.getD d true || (decide (d < T.length) && (B.getD d 0).testBit i)
def takeW (T : Bool × List (List Nat × List Nat)) (B : List Nat) (ds : List Nat) (l l' : List Bool) (i : Nat) : Bool := T.1 && freeT T.2 l i && readyAt T.2 l i && closedT T.2 l && lastW T.2 B l ds i && (l.set i true == l')
theorem take_ofW {B : List Nat} (hT : rtab md ops = T) (hB : waitsOk T.2 B = true) (h : takeW T B ds l.toList l'.toList i = true) : takeB md ops ds l l' i = true := by
 refine take_of hT ?_
 simp only [takeW, takeT, Bool.and_eq_true] at h ⊢
 obtain ⟨⟨⟨⟨⟨h1, h2⟩, h3⟩, h4⟩, h5⟩, h6⟩ := h
 refine ⟨⟨⟨⟨⟨h1, h2⟩, h3⟩, h4⟩, ?_⟩, h6⟩
 unfold lastW at h5
 unfold lastT
 rw [List.all_eq_true] at h5 ⊢
 intro d hd
 have h7 := h5 d hd
 rw [Bool.or_eq_true, Bool.and_eq_true, decide_eq_true_eq] at h7
 rcases h7 with h7 | ⟨h8, h9⟩
 ·rw [h7, Bool.true_or]
 ·rw [reach_bit hB _ d h8 h8 h9, Bool.or_true]
theorem with_tabW {P : Program} {Q : Exit → Act → World → Prop} {S : World → Prop} {n : Nat} {a : Act} {w : World} {B : List Nat} (hT : rtab md ops = T) (hB : waitsOk T.2 B = true) (h : Aside0 (rtab md ops = T) → Aside0 (waitsOk T.2 B = true) → wpAnyLast P md ops Q S ds n l a w) : wpAnyLast P md ops Q S ds n l a w := h ⟨hT⟩ ⟨hB⟩
end
def opsIn : Code → Nat → Option (Array Oper)
 | .region id ops _, k => if id == k then some ops else none
 | .seq a b, k => match opsIn a k with
  | some o => some o
  | none => opsIn b k
 | .cond _ a b, k => match opsIn a k with
  | some o => some o
  | none => opsIn b k
 | .block _ c, k => opsIn c k
 | .loop c, k => opsIn c k
 | .scope c, k => opsIn c k
 | .rangeFunc _ _ a b, k => match opsIn a k with
  | some o => some o
  | none => opsIn b k
 | _, _ => none
def opsOf (f : Func) (k : Nat) : Array Oper := ((f.body.bind fun c => opsIn c k)).getD #[]
end Go.Proofs.YtagokgijffpdnaaW.PrintLast
namespace Go.Proofs.YtagokgijffpdnaaW.PrintLast
section
variable {P : Program} {ops : Array Oper} {Q : Exit → Act → World → Prop} {md : Region.Mode} {S : World → Prop} {ds : List Nat} {T : Bool × List (List Nat × List Nat)}
theorem four_of {i j k m : Nat} {l li lj lk lm : Array Bool} (hT : rtab md ops = T) (h : (readyT T.2 l.toList == [i, j, k, m] && l.toList.set i true == li.toList && l.toList.set j true == lj.toList && l.toList.set k true == lk.toList && l.toList.set m true == lm.toList) = true) : (Region.ready md ops l == [i, j, k, m] && l.setIfInBounds i true == li && l.setIfInBounds j true == lj && l.setIfInBounds k true == lk && l.setIfInBounds m true == lm) = true := by
 simp only [Bool.and_eq_true] at h ⊢
 obtain ⟨⟨⟨⟨hr, hsi⟩, hsj⟩, hsk⟩, hsm⟩ := h
 subst hT
 exact ⟨⟨⟨⟨by rw [ready_eq]; exact hr, set_of hsi⟩, set_of hsj⟩, set_of hsk⟩, set_of hsm⟩
end
end Go.Proofs.YtagokgijffpdnaaW.PrintLast
namespace Go.Proofs.YtagokgijffpdnaaW.PrintWords
open Go.RowKit
namespace Kd
section
variable {α : Type} {d : Kd α} {W : World} {g n : Nat} {S ok : Nat → Prop} {A : Option Addr} {ad : Addr} {xs : List α}
theorem C_not_empty (h : d.C W (some ad) n xs) (hn : 0 < n) (hs : 0 < d.sz) : W.cell? ad ≠ none := by
 obtain ⟨ad', he, hc⟩ := h.2.2 hn
 injection he with he
 subst he
 obtain ⟨c, hcl, _, hcell⟩ := hc 0 _ (List.getElem?_eq_getElem (by rw [h.1]; exact hn))
 have h1 := hcell 0 _ (List.getElem?_eq_getElem (by omega))
 rw [Nat.zero_mul, Nat.zero_add, Addr.add_zero'] at h1
 rw [h1]
 exact Option.some_ne_none _
theorem C_lt (h : d.C W (some ad) n xs) (hn : 0 < n) (hs : 0 < d.sz) : ad.block < W.heap.size := by
 cases hc : W.cell? ad with
 | none => exact absurd hc (C_not_empty h hn hs)
 | some v => exact World.block_lt_of_cell? W ad hc
theorem foot_ltS (h : ∀ W', Kept W W' S → d.C W' (some ad) n xs) (hn : 0 < n) (hs : 0 < d.sz) : ad.block < W.heap.size := C_lt (h W (Kept.refl W S)) hn hs
end
end Kd
end Go.Proofs.YtagokgijffpdnaaW.PrintWords
namespace Go.Proofs.YtagokgijffpdnaaW.PrintWords
open Go.RowKit
section
variable {w w' u : World} {m B g : Nat} {o : Obj} {row : Option Nat} {S : Nat → Prop} {a : Addr} {v : Value}
end
namespace Kd
section
variable {α : Type} {d : Kd α} {e base n m : Nat} {ok : Nat → Prop} {w w' : World} {v : Value} {A : Option Addr} {xs : List α}
theorem C_at (hq : w.drewN m = w') (h : d.C w A n xs) : d.C w' A n xs := by subst hq; exact C_drewN h m
end
end Kd
end Go.Proofs.YtagokgijffpdnaaW.PrintWords
namespace Go.Proofs.YtagokgijffpdnaaW.PrintWords
open Go.RowKit
section
variable {P : Program} {d : Nat} {xs ys : Array Value} {f : Field} {fs : List Field} {a b : Value} {r s : Bool} {w : World}
theorem eqf_last (hn : (f.name == "_") = false) (ha : (part f.type xs f.offset).run P w = .ok a w) (hb : (part f.type ys f.offset).run P w = .ok b w) (he : (Op.equalIn d f.type a b).run P w = .ok r w) : (Op.eqFields d xs ys [f]).run P w = .ok r w := by
 have hn' : f.name ≠ "_" := by simpa using hn
 simp only [Op.eqFields, if_pos hn', Sem.run_bind, ha, hb, he, Result.andThen_ok]
 cases r <;> simp
theorem eqf_cons (hn : (f.name == "_") = false) (ha : (part f.type xs f.offset).run P w = .ok a w) (hb : (part f.type ys f.offset).run P w = .ok b w) (he : (Op.equalIn d f.type a b).run P w = .ok r w) (hr : (Op.eqFields d xs ys fs).run P w = .ok s w) : (Op.eqFields d xs ys (f :: fs)).run P w = .ok (r && s) w := by
 have hn' : f.name ≠ "_" := by simpa using hn
 rw [Op.eqFields]
 simp only [if_pos hn', Sem.run_bind, ha, hb, he, Result.andThen_ok]
 cases r
 ·simp
 ·simpa using hr
theorem eqA_of {t : TypeId} {fs : Array Field} (hu : P.underlying t = some (.struct fs)) (hp : P.stoodInHeld t = false) (h : (Op.eqFields d xs ys fs.toList).run P w = .ok r w) : (Op.equalIn (d + 1) t (.agg xs) (.agg ys)).run P w = .ok r w := by
 have hf : P.fieldsOf t = fs := by simp [Program.fieldsOf, hu]
 rw [run_equalIn_struct (P := P) w d t xs ys (by rw [hf]; exact hu) hp, hf]
 exact h
end
end Go.Proofs.YtagokgijffpdnaaW.PrintWords
namespace Go.Proofs.YtagokgijffpdnaaW.PrintWords
theorem Reps.one {α : Type} {R : α → List Value → Prop} {ps : List α} {cs : List Value} {p : α} {v : Value} (hp : R p [v]) (h : Reps R 1 ps cs) : Reps R 1 (p :: ps) (v :: cs) := by
 refine ⟨by simp [h.1], fun j q hq => ?_⟩
 cases j with
 | zero =>
  simp only [List.getElem?_cons_zero, Option.some.injEq] at hq
  subst hq
  simpa using hp
 | succ j =>
  simp only [List.getElem?_cons_succ] at hq
  have h1 := h.2 j q hq
  simpa [Nat.mul_one] using h1
theorem Reps.front {α : Type} {R : α → List Value → Prop} {size : Nat} {ps : List α} {cs c all : List Value} {p : α} (hp : R p c) (hc : c.length = size) (h : Reps R size ps cs) (ha : c ++ cs = all) : Reps R size (p :: ps) all := by
 subst ha
 refine ⟨by rw [List.length_append, hc, h.1, List.length_cons, Nat.succ_mul, Nat.add_comm], fun j q hq => ?_⟩
 cases j with
 | zero =>
  simp only [List.getElem?_cons_zero, Option.some.injEq] at hq
  subst hq
  rw [Nat.zero_mul, List.drop_zero, List.take_append_of_le_length (by omega), List.take_of_length_le (by omega)]
  exact hp
 | succ j =>
  simp only [List.getElem?_cons_succ] at hq
  have h1 := h.2 j q hq
  rw [Nat.succ_mul, List.drop_append, List.drop_of_length_le (by rw [hc]; exact Nat.le_add_left _ _), List.nil_append, hc, Nat.add_sub_cancel]
  exact h1
theorem Reps.c2 {α : Type} {R : α → List Value → Prop} {ps : List α} {cs : List Value} {p : α} {va vb : Value} (hp : R p [va, vb]) (h : Reps R 2 ps cs) : Reps R 2 (p :: ps) (va :: vb :: cs) := Reps.front hp rfl h rfl
theorem Reps.c3 {α : Type} {R : α → List Value → Prop} {ps : List α} {cs : List Value} {p : α} {va vb vc : Value} (hp : R p [va, vb, vc]) (h : Reps R 3 ps cs) : Reps R 3 (p :: ps) (va :: vb :: vc :: cs) := Reps.front hp rfl h rfl
theorem Reps.c4 {α : Type} {R : α → List Value → Prop} {ps : List α} {cs : List Value} {p : α} {va vb vc vd : Value} (hp : R p [va, vb, vc, vd]) (h : Reps R 4 ps cs) : Reps R 4 (p :: ps) (va :: vb :: vc :: vd :: cs) := Reps.front hp rfl h rfl
theorem Reps.c5 {α : Type} {R : α → List Value → Prop} {ps : List α} {cs : List Value} {p : α} {va vb vc vd ve : Value} (hp : R p [va, vb, vc, vd, ve]) (h : Reps R 5 ps cs) : Reps R 5 (p :: ps) (va :: vb :: vc :: vd :: ve :: cs) := Reps.front hp rfl h rfl
theorem Reps.c6 {α : Type} {R : α → List Value → Prop} {ps : List α} {cs : List Value} {p : α} {va vb vc vd ve vf : Value} (hp : R p [va, vb, vc, vd, ve, vf]) (h : Reps R 6 ps cs) : Reps R 6 (p :: ps) (va :: vb :: vc :: vd :: ve :: vf :: cs) := Reps.front hp rfl h rfl
theorem Reps.c7 {α : Type} {R : α → List Value → Prop} {ps : List α} {cs : List Value} {p : α} {va vb vc vd ve vf vg : Value} (hp : R p [va, vb, vc, vd, ve, vf, vg]) (h : Reps R 7 ps cs) : Reps R 7 (p :: ps) (va :: vb :: vc :: vd :: ve :: vf :: vg :: cs) := Reps.front hp rfl h rfl
theorem Reps.c8 {α : Type} {R : α → List Value → Prop} {ps : List α} {cs : List Value} {p : α} {va vb vc vd ve vf vg vh : Value} (hp : R p [va, vb, vc, vd, ve, vf, vg, vh]) (h : Reps R 8 ps cs) : Reps R 8 (p :: ps) (va :: vb :: vc :: vd :: ve :: vf :: vg :: vh :: cs) := Reps.front hp rfl h rfl
theorem Reps.c9 {α : Type} {R : α → List Value → Prop} {ps : List α} {cs : List Value} {p : α} {va vb vc vd ve vf vg vh vi : Value} (hp : R p [va, vb, vc, vd, ve, vf, vg, vh, vi]) (h : Reps R 9 ps cs) : Reps R 9 (p :: ps) (va :: vb :: vc :: vd :: ve :: vf :: vg :: vh :: vi :: cs) := Reps.front hp rfl h rfl
theorem Reps.c10 {α : Type} {R : α → List Value → Prop} {ps : List α} {cs : List Value} {p : α} {va vb vc vd ve vf vg vh vi vj : Value} (hp : R p [va, vb, vc, vd, ve, vf, vg, vh, vi, vj]) (h : Reps R 10 ps cs) : Reps R 10 (p :: ps) (va :: vb :: vc :: vd :: ve :: vf :: vg :: vh :: vi :: vj :: cs) := Reps.front hp rfl h rfl
end Go.Proofs.YtagokgijffpdnaaW.PrintWords
namespace Go.Proofs.YtagokgijffpdnaaW.PrintLast
def lof (n : Nat) (O : List Nat) (b : Nat → Bool) : List Bool := (List.range n).map fun j => if O.contains j then b j else true
section
variable {P : Program} {ops : Array Oper} {Q : Exit → Act → World → Prop} {md : Region.Mode} {T : Bool × List (List Nat × List Nat)} {B : List Nat} {O : List Nat} {b : Nat → Bool} {i j n : Nat}
theorem lof_length : (lof n O b).length = n := by simp [lof]
end
end Go.Proofs.YtagokgijffpdnaaW.PrintLast
namespace Go.Proofs.YtagokgijffpdnaaW.PrintWords
open Go.RowKit
end Go.Proofs.YtagokgijffpdnaaW.PrintWords
namespace Go.Proofs.YtagokgijffpdnaaW.PrintLast
section
variable {ops : Array Oper} {a : Act} {o og : Oper} {g : Nat} {t : Tmp} {u : Bool}
theorem eval_of {v : Value} (h : a.tmps[t]? = some v) : a.eval (.tmp t) = v := by simp [Act.eval, h]
end
end Go.Proofs.YtagokgijffpdnaaW.PrintLast
namespace Go.Proofs.YtagokgijffpdnaaW.PrintWords
open Go.RowKit
section
variable {P : Program} {ops : Array Oper} {rest : List Oper} {o : Oper} {a : Act} {Q : Exit → Act → World → Prop} {W : World}
theorem gate_guard (hw : Region.wanted o (yielded ops a.tmps) = true) (h : wpList P ops Q ({ o with guard := none } :: rest) a W) : wpList P ops Q (o :: rest) a W := by
 have h1 : Region.wanted { o with guard := none } (yielded ops a.tmps) = true := rfl
 unfold wpList at h ⊢
 rw [if_pos h1] at h
 rw [if_pos hw]
 exact h
end
end Go.Proofs.YtagokgijffpdnaaW.PrintWords
namespace Go.Proofs.Ytagokgijffpdnaa.G
open Go.RowKit Go.Proofs.YtagokgijffpdnaaQ Go.Proofs.YtagokgijffpdnaaW.PrintWords Go.Proofs.YtagokgijffpdnaaW.PrintLast Go.Proofs.YtagokgijffpdnaaW.PrintMore
attribute [local go_sem] max2_int min2_int max_two min_two max_three min_three max_four min_four   -- for this text's walks alone
set_option linter.unusedVariables false
set_option linter.unusedSimpArgs false
def errW : Option Int → Value
 | none => .nilIface
 | some c => .iface 0 (.int .i64 c)
theorem errW_none : errW none = .nilIface := rfl
theorem errW_some (c : Int) : errW (some c) = .iface 0 (.int .i64 c) := rfl
theorem info5 : (Try.prog.info? 5).map (fun i => (i.zero, i.size, i.bytes)) = some (some (.int .u8 0), 1, 1) := by kernel_rfl
theorem info36 : (Try.prog.info? 36).map (fun i => (i.zero, i.size, i.bytes)) = some (some (.agg #[(.int .i64 0), (.int .i64 0), (.bool false), (.int .i64 0), (.string ⟨#[]⟩), (.bool false), (.int .i64 0), (.string ⟨#[]⟩)]), 8, 80) := by kernel_rfl
structure S34 where
 f0 : Bool
 f1 : Int
 f2 : ByteArray
def z34 : S34 := ⟨false, (0 : Int), (⟨#[]⟩ : ByteArray)⟩
def k34 : Kd S34 := Kd.iso (Kd.pair Kd.bool (Kd.pair (Kd.int .i64) Kd.string)) (fun x : S34 => (x.f0, x.f1, x.f2))
theorem k34_open {w : World} {x : S34} {cs : List Value} (h : k34.K w x cs) : cs = [.bool x.f0, .int .i64 x.f1, .string x.f2] := by
 obtain ⟨_, _, rfl, rfl, ⟨_, _, rfl, rfl, rfl⟩⟩ := h
 exact rfl
theorem k34_mkM (w : World) (base : Nat) (ok : Nat → Prop) (x : S34)  : k34.M w base ok x [.bool x.f0, .int .i64 x.f1, .string x.f2] := ⟨[.bool x.f0], [.int .i64 x.f1, .string x.f2], rfl, rfl, ⟨[.int .i64 x.f1], [.string x.f2], rfl, rfl, rfl⟩⟩
def rd_T34 (xs : List S34) (i : Int) : S34 := xs.getD i.toNat z34
theorem at_T34 {w : World} {A : Option Addr} {n : Nat} {xs : List S34} (h : Kd.C k34 w A n xs) (i : Int) (h0 : 0 ≤ i) (h1 : i < n) : ∃ ad , A = some ad ∧ w.cell? (ad.add (i.toNat * 3)) = some (.bool (rd_T34 xs i).f0) ∧ w.cell? ⟨(ad.add (i.toNat * 3)).block, (ad.add (i.toNat * 3)).off + 1, none⟩ = some (.int .i64 (rd_T34 xs i).f1) ∧ w.cell? ⟨(ad.add (i.toNat * 3)).block, (ad.add (i.toNat * 3)).off + 2, none⟩ = some (.string (rd_T34 xs i).f2) := by
 obtain ⟨ad, c, e, _, hK, hc0⟩ := Kd.C_get h z34 i h0 h1
 have hc : ∀ j u, c[j]? = some u → w.cell? (ad.add (i.toNat * 3 + j)) = some u := hc0
 obtain rfl := k34_open hK
 exact ⟨ad, e, hc 0 _ rfl, by rw [← add_field _ _ 1 (by omega)]; exact hc 1 _ rfl, by rw [← add_field _ _ 2 (by omega)]; exact hc 2 _ rfl⟩
structure S36 where
 f0 : Int
 f1 : Int
 f2 : S34
 f3 : S34
def z36 : S36 := ⟨(0 : Int), (0 : Int), z34, z34⟩
def k36 : Kd S36 := Kd.iso (Kd.pair (Kd.int .i64) (Kd.pair (Kd.int .i64) (Kd.pair k34 k34))) (fun x : S36 => (x.f0, x.f1, x.f2, x.f3))
theorem k36_open {w : World} {x : S36} {cs : List Value} (h : k36.K w x cs) : cs = [.int .i64 x.f0, .int .i64 x.f1, .bool x.f2.f0, .int .i64 x.f2.f1, .string x.f2.f2, .bool x.f3.f0, .int .i64 x.f3.f1, .string x.f3.f2] := by
 obtain ⟨_, _, rfl, rfl, ⟨_, _, rfl, rfl, ⟨_, _, rfl, s2, s5⟩⟩⟩ := h
 obtain rfl := k34_open s2
 obtain rfl := k34_open s5
 exact rfl
theorem k36_mkM (w : World) (base : Nat) (ok : Nat → Prop) (x : S36)  : k36.M w base ok x [.int .i64 x.f0, .int .i64 x.f1, .bool x.f2.f0, .int .i64 x.f2.f1, .string x.f2.f2, .bool x.f3.f0, .int .i64 x.f3.f1, .string x.f3.f2] := ⟨[.int .i64 x.f0], [.int .i64 x.f1, .bool x.f2.f0, .int .i64 x.f2.f1, .string x.f2.f2, .bool x.f3.f0, .int .i64 x.f3.f1, .string x.f3.f2], rfl, rfl, ⟨[.int .i64 x.f1], [.bool x.f2.f0, .int .i64 x.f2.f1, .string x.f2.f2, .bool x.f3.f0, .int .i64 x.f3.f1, .string x.f3.f2], rfl, rfl, ⟨[.bool x.f2.f0, .int .i64 x.f2.f1, .string x.f2.f2], [.bool x.f3.f0, .int .i64 x.f3.f1, .string x.f3.f2], rfl, (k34_mkM w base ok x.f2 ), (k34_mkM w base ok x.f3 )⟩⟩⟩
def rd_T36 (xs : List S36) (i : Int) : S36 := xs.getD i.toNat z36
theorem at_T36 {w : World} {A : Option Addr} {n : Nat} {xs : List S36} (h : Kd.C k36 w A n xs) (i : Int) (h0 : 0 ≤ i) (h1 : i < n) : ∃ ad , A = some ad ∧ w.cell? (ad.add (i.toNat * 8)) = some (.int .i64 (rd_T36 xs i).f0) ∧ w.cell? ⟨(ad.add (i.toNat * 8)).block, (ad.add (i.toNat * 8)).off + 1, none⟩ = some (.int .i64 (rd_T36 xs i).f1) ∧ w.cell? ⟨(ad.add (i.toNat * 8)).block, (ad.add (i.toNat * 8)).off + 2, none⟩ = some (.bool (rd_T36 xs i).f2.f0) ∧ w.cell? ⟨(ad.add (i.toNat * 8)).block, (ad.add (i.toNat * 8)).off + 3, none⟩ = some (.int .i64 (rd_T36 xs i).f2.f1) ∧ w.cell? ⟨(ad.add (i.toNat * 8)).block, (ad.add (i.toNat * 8)).off + 4, none⟩ = some (.string (rd_T36 xs i).f2.f2) ∧ w.cell? ⟨(ad.add (i.toNat * 8)).block, (ad.add (i.toNat * 8)).off + 5, none⟩ = some (.bool (rd_T36 xs i).f3.f0) ∧ w.cell? ⟨(ad.add (i.toNat * 8)).block, (ad.add (i.toNat * 8)).off + 6, none⟩ = some (.int .i64 (rd_T36 xs i).f3.f1) ∧ w.cell? ⟨(ad.add (i.toNat * 8)).block, (ad.add (i.toNat * 8)).off + 7, none⟩ = some (.string (rd_T36 xs i).f3.f2) := by
 obtain ⟨ad, c, e, _, hK, hc0⟩ := Kd.C_get h z36 i h0 h1
 have hc : ∀ j u, c[j]? = some u → w.cell? (ad.add (i.toNat * 8 + j)) = some u := hc0
 obtain rfl := k36_open hK
 exact ⟨ad, e, hc 0 _ rfl, by rw [← add_field _ _ 1 (by omega)]; exact hc 1 _ rfl, by rw [← add_field _ _ 2 (by omega)]; exact hc 2 _ rfl, by rw [← add_field _ _ 3 (by omega)]; exact hc 3 _ rfl, by rw [← add_field _ _ 4 (by omega)]; exact hc 4 _ rfl, by rw [← add_field _ _ 5 (by omega)]; exact hc 5 _ rfl, by rw [← add_field _ _ 6 (by omega)]; exact hc 6 _ rfl, by rw [← add_field _ _ 7 (by omega)]; exact hc 7 _ rfl⟩
structure S32 where
 f0 : (List Int)
 f1 : (List S36)
 f2 : Int
 f3 : Int
def k32 : Kd S32 := Kd.iso (Kd.pair (Kd.slice 3 (Kd.int .i64)) (Kd.pair (Kd.slice 36 k36) (Kd.pair (Kd.int .i64) (Kd.int .i64)))) (fun x : S32 => (x.f0, x.f1, x.f2, x.f3))
theorem k32_open {w : World} {x : S32} {cs : List Value} (h : k32.K w x cs) : ∃ A0 c0 A1 c1, cs = [.slice A0 x.f0.length c0, .slice A1 x.f1.length c1, .int .i64 x.f2, .int .i64 x.f3] ∧ x.f0.length ≤ c0 ∧ (Kd.int .i64).C w A0 x.f0.length x.f0 ∧ x.f1.length ≤ c1 ∧ k36.C w A1 x.f1.length x.f1 := by
 obtain ⟨_, _, rfl, ⟨A0, c0, rfl, l0, g0⟩, ⟨_, _, rfl, ⟨A1, c1, rfl, l1, g1⟩, ⟨_, _, rfl, rfl, rfl⟩⟩⟩ := h
 exact ⟨A0, c0, A1, c1, rfl, l0, g0, l1, g1⟩
structure S26 where
 f0 : (List S36)
 f1 : Int
 f2 : Int
def k26 : Kd S26 := Kd.iso (Kd.pair (Kd.slice 36 k36) (Kd.pair (Kd.int .i64) (Kd.int .i64))) (fun x : S26 => (x.f0, x.f1, x.f2))
theorem k26_open {w : World} {x : S26} {cs : List Value} (h : k26.K w x cs) : ∃ A0 c0, cs = [.slice A0 x.f0.length c0, .int .i64 x.f1, .int .i64 x.f2] ∧ x.f0.length ≤ c0 ∧ k36.C w A0 x.f0.length x.f0 := by
 obtain ⟨_, _, rfl, ⟨A0, c0, rfl, l0, g0⟩, ⟨_, _, rfl, rfl, rfl⟩⟩ := h
 exact ⟨A0, c0, rfl, l0, g0⟩
end Go.Proofs.Ytagokgijffpdnaa.G
namespace Go.Proofs.Ytagokgijffpdnaa.G
open Go.RowKit Go.Proofs.YtagokgijffpdnaaQ Go.Proofs.YtagokgijffpdnaaW.PrintWords Go.Proofs.YtagokgijffpdnaaW.PrintLast Go.Proofs.YtagokgijffpdnaaW.PrintMore
def bsL_ : Nat → Nat → List Bool
  | 0, _ => []
  | n + 1, m => (m % 2 == 1) :: bsL_ n (m / 2)
def bs_ (n m : Nat) : Array Bool := ⟨bsL_ n m⟩
theorem PT_ : (∀ (a : Act) (d : Tmp) (v : Value), a.put (some d) v = { a with tmps := a.tmps.setIfInBounds d v }) ∧ (∀ (a : Act) (v : Value), a.put none v = a) ∧ (∀ (l : List Value) (i : Nat) (x : Value), l.toArray.setIfInBounds i x = (l.set i x).toArray) ∧ (∀ (x y : Value) (l : List Value), (x :: l).set 0 y = y :: l) ∧ (∀ (x y : Value) (l : List Value) (i : Nat), (x :: l).set (i + 1) y = x :: l.set i y) ∧ (∀ n, IntKind.i64.wrap n = Go.RowKit.wrap64 n) ∧ (∀ n, IntKind.i32.wrap n = Go.RowKit.wrap32 n) :=
  ⟨fun _ _ _ => rfl, fun _ _ => rfl, fun l i x => by simp, fun _ _ _ => rfl, fun _ _ _ _ => rfl, i64_w, i32_w⟩
section
variable {P : Program} {ops : Array Oper} {Q : Exit → Act → World → Prop} {md : Region.Mode} {S : World → Prop} {ds : List Nat} {T : Bool × List (List Nat × List Nat)} {oi : Oper} {fuel : Nat} {l : Array Bool} {a : Act} {w : World}
theorem pA_ (i : Nat) (N : Option Tmp) (l' : Array Bool) (HT : Aside0 (rtab md ops = T)) (v : Value) (hy : ∀ w, (execOp a.eval oi).run P w = .ok (.value v) w) (a' : Act) (ha : a.put N v = a') (h : wpAnyLast P md ops Q S ds fuel l' a' w)
    (hi : ops[i]? = some oi := by exact rfl) (hN : oi.dst = N := by exact rfl) (hc : anyT T l.toList l'.toList i = true := by kernel_rfl) (hQ : ∀ c a w, Q (.panic c) (a.put oi.dst v) w → Q (.panic c) a w := by exact fun _ _ _ h => h) (hw : Region.wanted oi (yielded ops a.tmps) = true := by rfl) :
    wpAnyLast P md ops Q S ds (fuel + 1) l a w := pure_ l' hi hN (any_of HT.out hc) hQ (Or.inl ⟨hw, hy⟩) ha h
theorem pB_ (i : Nat) (N : Option Tmp) (l' : Array Bool) (HT : Aside0 (rtab md ops = T)) (a' : Act) (ha : a.put N undef = a') (h : wpAnyLast P md ops Q S ds fuel l' a' w)
    (hi : ops[i]? = some oi := by exact rfl) (hN : oi.dst = N := by exact rfl) (hc : anyT T l.toList l'.toList i = true := by kernel_rfl) (hQ : ∀ c a w, Q (.panic c) (a.put oi.dst undef) w → Q (.panic c) a w := by exact fun _ _ _ h => h) (hw : Region.wanted oi (yielded ops a.tmps) = false := by rfl) :
    wpAnyLast P md ops Q S ds (fuel + 1) l a w := pure_ l' hi hN (any_of HT.out hc) hQ (Or.inr ⟨hw, rfl⟩) ha h
theorem oA_ (i : Nat) (N : Option Tmp) (l' : Array Bool) (HT : Aside0 (rtab md ops = T)) (h : ∀ K : Act → World → Prop, Shut (∀ a' w', S w' → (S w' → wpAnyLast P md ops Q S ds fuel l' a' w') → K a' w') → if Region.wanted oi (yielded ops a.tmps) = true then Oper.wp P oi a w K Q else K (a.put N undef) w)
    (hi : ops[i]? = some oi := by exact rfl) (hN : oi.dst = N := by exact rfl) (hc : (readyT T.2 l.toList == [i] && l.toList.set i true == l'.toList) = true := by kernel_rfl) (hd : i ∉ ds := by decide) :
    wpAnyLast P md ops Q S ds (fuel + 1) l a w := one_ l' hi hN (one_of HT.out hc) hd h
end
theorem z0_ {p : Prop} (h : p := by repeat (first | (with_reducible first | exact HB.out | apply below_alloc | apply pw_below_drewN | apply below_drew1) | exact HB.out)) : p := h
theorem z1_ {p : Prop} (h : p := by repeat (first | (with_reducible first | exact HB.out | apply below_alloc | apply pw_below_drewN | apply below_drew1 | refine below_set ?_ GE340.out | refine below_set ?_ GE341.out | refine below_set ?_ GE342.out) | exact HB.out)) : p := h
theorem z2_ {p : Prop} (h : p := by first | rfl | (simp [errW_none, errW_some] <;> rfl) | (simp [*, errW_none, errW_some] <;> rfl)) : p := h
theorem z3_ {p : Prop} (h : p := by repeat (first | (with_reducible first | exact HK.out | apply Kept.alloc | apply Kept.drewN | apply Kept.drew) | exact HK.out)) : p := h
theorem z4_ {p : Prop} (h : p := by first | rfl | (simp; done) | (simp [*]; done)) : p := h
theorem z5_ {p : Prop} (h : p := by first | (with_reducible assumption) | assumption) : p := h
theorem z6_ {p : Prop} (h : p := by repeat (first | (with_reducible first | exact HB.out | apply below_alloc | apply pw_below_drewN | apply below_drew1 | refine below_set ?_ GE245.out | refine below_set ?_ GE263.out) | exact HB.out)) : p := h
theorem z7_ {p : Prop} (h : p := by repeat (first | (with_reducible first | exact HB.out | apply below_alloc | apply pw_below_drewN | apply below_drew1 | refine below_set ?_ GE245.out) | exact HB.out)) : p := h
theorem z8_ {p : Prop} (h : p := by repeat (first | (with_reducible first | exact HB.out | apply below_alloc | apply pw_below_drewN | apply below_drew1 | refine below_set ?_ GE324.out) | exact HB.out)) : p := h
theorem z9_ {p : Prop} (h : p := by repeat (first | (with_reducible first | exact HB.out | apply below_alloc | apply pw_below_drewN | apply below_drew1 | refine below_set ?_ GE292.out) | exact HB.out)) : p := h
theorem z10_ {p : Prop} (h : p := by repeat (first | (with_reducible first | exact HB.out | apply below_alloc | apply pw_below_drewN | apply below_drew1 | refine below_set ?_ GE287.out) | exact HB.out)) : p := h
theorem z11_ {p : Prop} (h : p := by repeat (first | exact Drawn0.refl _ | apply Drawn0.step)) : p := h
theorem z12_ {p : Prop} (h : p := by repeat (first | (with_reducible first | exact HB.out | apply below_alloc | apply pw_below_drewN | apply below_drew1 | refine below_set ?_ GE374.out | refine below_set ?_ GE375.out | refine below_set ?_ GE387.out) | exact HB.out)) : p := h
theorem z13_ {p : Prop} (h : p := by repeat (first | (with_reducible first | exact HB.out | apply below_alloc | apply pw_below_drewN | apply below_drew1 | refine below_set ?_ GE104.out | refine below_set ?_ GE105.out) | exact HB.out)) : p := h
theorem z14_ {p : Prop} (h : p := by repeat (first | (with_reducible first | exact HB.out | apply below_alloc | apply pw_below_drewN | apply below_drew1 | refine below_set ?_ GE162.out | refine below_set ?_ GE163.out) | exact HB.out)) : p := h
theorem z15_ {p : Prop} (h : p := by repeat (first | (with_reducible first | exact HB.out | apply below_alloc | apply pw_below_drewN | apply below_drew1 | refine below_set ?_ GE374.out | refine below_set ?_ GE375.out) | exact HB.out)) : p := h
theorem z16_ {p : Prop} (h : p := by repeat (first | (with_reducible first | exact HB.out | apply below_alloc | apply pw_below_drewN | apply below_drew1 | refine below_set ?_ GE115.out) | exact HB.out)) : p := h
theorem z17_ {p : Prop} (h : p := by repeat (first | (with_reducible first | exact HB.out | apply below_alloc | apply pw_below_drewN | apply below_drew1 | refine below_set ?_ GE127.out) | exact HB.out)) : p := h
theorem z18_ {p : Prop} (h : p := by repeat (first | (with_reducible first | exact HB.out | apply below_alloc | apply pw_below_drewN | apply below_drew1 | refine below_set ?_ GE162.out) | exact HB.out)) : p := h
theorem z19_ {p : Prop} (h : p := by repeat (first | (with_reducible first | exact HB.out | apply below_alloc | apply pw_below_drewN | apply below_drew1 | refine below_set ?_ GE284.out | refine below_set ?_ GE285.out) | exact HB.out)) : p := h
theorem z20_ {p : Prop} (h : p := by repeat (first | (with_reducible first | exact HB.out | apply below_alloc | apply pw_below_drewN | apply below_drew1 | refine below_set ?_ GE324.out | refine below_set ?_ GE334.out) | exact HB.out)) : p := h
theorem z21_ {p : Prop} (h : p := by repeat (first | (with_reducible first | exact HK.out | apply Kept.alloc | apply Kept.drewN | apply Kept.drew | refine Kept.setCell ?_ (.inr GW225.out) _) | exact HK.out)) : p := h
theorem z22_ {p : Prop} (h : p := by first | exact Kd.R_nil _ _ _ _ _ | exact Kd.N_nil _ _ _ _ _ | exact Kd.V_nil _ _ _ _ _ | exact Kd.Q_nil _ _ _ _ _ | exact Kd.S_nil _ _ _ _ _) : p := h
theorem z23_ {p : Prop} (h : p := by repeat (first | (with_reducible first | exact HB.out | apply below_alloc | apply pw_below_drewN | apply below_drew1 | refine below_set ?_ GE115.out | refine below_set ?_ GE116.out) | exact HB.out)) : p := h
theorem z24_ {p : Prop} (h : p := by repeat (first | (with_reducible first | exact HB.out | apply below_alloc | apply pw_below_drewN | apply below_drew1 | refine below_set ?_ GE127.out | refine below_set ?_ GE140.out) | exact HB.out)) : p := h
theorem z25_ {p : Prop} (h : p := by repeat (first | (with_reducible first | exact HB.out | apply below_alloc | apply pw_below_drewN | apply below_drew1 | refine below_set ?_ GE340.out | refine below_set ?_ GE341.out) | exact HB.out)) : p := h
theorem z26_ {p : Prop} (h : p := by repeat (first | (with_reducible first | exact HB.out | apply below_alloc | apply pw_below_drewN | apply below_drew1 | refine below_set ?_ GE104.out) | exact HB.out)) : p := h
theorem z27_ {p : Prop} (h : p := by repeat (first | (with_reducible first | exact HB.out | apply below_alloc | apply pw_below_drewN | apply below_drew1 | refine below_set ?_ GE284.out) | exact HB.out)) : p := h
theorem z28_ {p : Prop} (h : p := by repeat (first | (with_reducible first | exact HB.out | apply below_alloc | apply pw_below_drewN | apply below_drew1 | refine below_set ?_ GE315.out) | exact HB.out)) : p := h
theorem z29_ {p : Prop} (h : p := by repeat (first | (with_reducible first | exact HB.out | apply below_alloc | apply pw_below_drewN | apply below_drew1 | refine below_set ?_ GE340.out) | exact HB.out)) : p := h
theorem z30_ {p : Prop} (h : p := by repeat (first | (with_reducible first | exact HB.out | apply below_alloc | apply pw_below_drewN | apply below_drew1 | refine below_set ?_ GE374.out) | exact HB.out)) : p := h
end Go.Proofs.Ytagokgijffpdnaa.G
namespace Go.Proofs.Ytagokgijffpdnaa.G
open Go.RowKit Go.Proofs.YtagokgijffpdnaaQ Go.Proofs.YtagokgijffpdnaaW.PrintWords Go.Proofs.YtagokgijffpdnaaW.PrintLast Go.Proofs.YtagokgijffpdnaaW.PrintMore
attribute [local go_sem] max2_int min2_int max_two min_two max_three min_three max_four min_four   -- for this text's walks alone
set_option linter.unusedVariables false
set_option linter.unusedSimpArgs false
theorem eqA34 (d : Nat) (w : World) (x0 y0 : Bool) (x1 y1 : Int) (x2 y2 : ByteArray) :
  (Op.equalIn (d + 2) 34 (.agg #[.bool x0, .int .i64 x1, .string x2]) (.agg #[.bool y0, .int .i64 y1, .string y2])).run Try.prog w = .ok (x0 == y0 && (x1 == y1 && (x2.toList == y2.toList))) w := by
 refine eqA_of Try.underlying34 (by kernel_rfl) ?_
 refine eqf_cons (by rfl) (by go_simp; rfl) (by go_simp; rfl) (by go_simp) ?_
 refine eqf_cons (by rfl) (by go_simp; rfl) (by go_simp; rfl) (by go_simp) ?_
 exact eqf_last (by rfl) (by go_simp; rfl) (by go_simp; rfl) (by go_simp)
theorem eqA36 (d : Nat) (w : World) (x0 y0 : Int) (x1 y1 : Int) (x2 y2 : Bool) (x3 y3 : Int) (x4 y4 : ByteArray) (x5 y5 : Bool) (x6 y6 : Int) (x7 y7 : ByteArray) :
  (Op.equalIn (d + 3) 36 (.agg #[.int .i64 x0, .int .i64 x1, .bool x2, .int .i64 x3, .string x4, .bool x5, .int .i64 x6, .string x7]) (.agg #[.int .i64 y0, .int .i64 y1, .bool y2, .int .i64 y3, .string y4, .bool y5, .int .i64 y6, .string y7])).run Try.prog w = .ok (x0 == y0 && (x1 == y1 && ((x2 == y2 && (x3 == y3 && (x4.toList == y4.toList))) && ((x5 == y5 && (x6 == y6 && (x7.toList == y7.toList))))))) w := by
 refine eqA_of Try.underlying36 (by kernel_rfl) ?_
 refine eqf_cons (by rfl) (by go_simp; rfl) (by go_simp; rfl) (by go_simp) ?_
 refine eqf_cons (by rfl) (by go_simp; rfl) (by go_simp; rfl) (by go_simp) ?_
 refine eqf_cons (by rfl) (by go_simp) (by go_simp) (eqA34 (d + 0) w _ _ _ _ _ _) ?_
 exact eqf_last (by rfl) (by go_simp) (by go_simp) (eqA34 (d + 0) w _ _ _ _ _ _)
end Go.Proofs.Ytagokgijffpdnaa.G
namespace Go.Proofs.Ytagokgijffpdnaa.G
open Go.RowKit Go.Proofs.YtagokgijffpdnaaQ Go.Proofs.YtagokgijffpdnaaW.PrintWords Go.Proofs.YtagokgijffpdnaaW.PrintLast Go.Proofs.YtagokgijffpdnaaW.PrintMore
attribute [local go_sem] max2_int min2_int max_two min_two max_three min_three max_four min_four   -- for this text's walks alone
set_option linter.unusedVariables false
set_option linter.unusedSimpArgs false
def manifest_odd.f (a0 : Int) : Option (Bool) := if a0 < 0 then (some true) else (some (decide (a0 > 999999999)))
set_option maxHeartbeats 8000000 in
set_option maxRecDepth 100000 in
theorem manifest_odd.calls (a0 : Int) (r : Bool) (w : World) (h : manifest_odd.f a0 = some r) :
  Calls Try.prog 34 #[.int .i64 a0] w fun e w' => e = .returned (.bool r) ∧ Drawn0 w w' := by
 have H : (if a0 < 0 then (some true) else (some (decide (a0 > 999999999)))) = some r := h
 clear h
 by_cases c2 : a0 < 0
 ·rw [if_pos c2] at H
  have c2b0 : decide (a0 < 0) = true := decide_eq_true c2
  clear c2
  obtain rfl := Option.some.inj H
  go_enter Try.func34, Try.ntmps34
  go_wp2
  go_ret
  exact ⟨z4_, z11_⟩
 ·rw [if_neg c2] at H
  have c2b0 : decide (a0 < 0) = false := decide_eq_false c2
  clear c2
  obtain rfl := Option.some.inj H
  go_enter Try.func34, Try.ntmps34
  go_wp2
  go_ret
  exact ⟨z4_, z11_⟩
def cmp_Or_int.l0 : Nat → Int → List Int → Int → Int → Option (Int)
 | 0, _, _, _, _ => none
 | k + 1, x3, x6, x7, x8 => if x8 < x7 then (if 0 ≤ x8 then (if x8 < (x6.length : Int) then (if (rd x6 x8) = x3 then (cmp_Or_int.l0 k x3 x6 x7 (wrap64 (x8 + 1))) else (some (rd x6 x8))) else (none)) else (none)) else (some x3)
def cmp_Or_int.f (k : Nat) (l0 : List Int) : Option (Int) := cmp_Or_int.l0 k 0 l0 (l0.length : Int) 0
theorem cmp_Or_int.mono_l : ∀ k, (∀ y0 y1 y2 y3, LeO (cmp_Or_int.l0 k y0 y1 y2 y3) (cmp_Or_int.l0 (k + 1) y0 y1 y2 y3))
 | 0 => fun _ _ _ _ r h => by simp [cmp_Or_int.l0] at h
 | k + 1 => by
  have ih0 := cmp_Or_int.mono_l k
  ·intro y0 y1 y2 y3
   unfold cmp_Or_int.l0
   repeat' first
   | (with_reducible exact ih0 _ _ _ _)
   | (with_reducible exact LeO.refl _)
   | (with_reducible exact LeO.none _)
   | (with_reducible refine LeO.ite ?_ ?_)
   | (with_reducible refine LeO.bind ?_ (fun _ => ?_))
   | exact ih0 _ _ _ _
   | exact LeO.none _
   | refine LeO.ite ?_ ?_
   | refine LeO.bind ?_ (fun _ => ?_)
theorem cmp_Or_int.mono : ∀ a0 k, LeO (cmp_Or_int.f k a0) (cmp_Or_int.f (k + 1) a0) := by
 intro a0 k
 have ih0 := cmp_Or_int.mono_l k
 unfold cmp_Or_int.f
 repeat' first
   | (with_reducible exact ih0 _ _ _ _)
   | (with_reducible exact LeO.refl _)
   | (with_reducible exact LeO.none _)
   | (with_reducible refine LeO.ite ?_ ?_)
   | (with_reducible refine LeO.bind ?_ (fun _ => ?_))
   | exact ih0 _ _ _ _
   | exact LeO.none _
   | refine LeO.ite ?_ ?_
   | refine LeO.bind ?_ (fun _ => ?_)
set_option maxHeartbeats 8000000 in
set_option maxRecDepth 100000 in
theorem cmp_Or_int.calls (k : Nat) (A0 : Option Addr) (c0 : Nat) (l0 : List Int) (r : Int) (w : World) (hr0 : Kd.C (Kd.int .i64) w A0 l0.length l0) (hc0 : l0.length ≤ c0) (h : cmp_Or_int.f k l0 = some r) :
  Calls Try.prog 78 #[.slice A0 l0.length c0] w fun e w' => e = .returned (.int .i64 r) ∧ Drawn0 w w' := by
 have HR0 := Aside0.mk hr0
 have HC0 := Aside0.mk hc0
 clear hr0 hc0
 have H : (cmp_Or_int.l0 k 0 l0 (l0.length : Int) 0) = some r := h
 clear h
 have H' := Aside0.mk H
 clear H
 go_enter Try.func78, Try.ntmps78
 go_wp2
 go_loopg [8] k (fun kq v8 w' => ∃ (x8_1 : Int), v8 = .int .i64 x8_1 ∧ Aside0 (cmp_Or_int.l0 kq 0 l0 (l0.length : Int) x8_1 = some r) ∧ Aside0 (kq ≤ k) ∧ Drawn0 w w')
 case atStart => exact ⟨(0), z4_, H', ⟨Nat.le_refl _⟩, z11_⟩
 case round =>
  clear H'
  obtain ⟨x8_1, rfl, HA, HK1, ⟨m1, rfl⟩⟩ := hrel
  cases gk with
  | zero => exact absurd HA.out (by simp [cmp_Or_int.l0])
  | succ k1 =>
   have H := HA.out
   clear HA
   simp only [cmp_Or_int.l0] at H
   by_cases c2 : x8_1 < (l0.length : Int)
   ·rw [if_pos c2] at H
    have c2b0 : decide (x8_1 < (l0.length : Int)) = true := decide_eq_true c2
    clear c2
    by_cases c3 : 0 ≤ x8_1
    ·rw [if_pos c3] at H
     have c3b0 : decide (0 ≤ x8_1) = true := decide_eq_true c3
     clear c3
     by_cases c4 : x8_1 < (l0.length : Int)
     ·rw [if_pos c4] at H
      have c4b0 : decide (x8_1 < (l0.length : Int)) = true := decide_eq_true c4
      clear c4
      by_cases c5 : (rd l0 x8_1) = 0
      ·rw [if_pos c5] at H
       have c5b0 : ((rd l0 x8_1) == 0) = true := beq_iff_eq.mpr c5
       have c5b1 : ((rd l0 x8_1) != 0) = false := bne_eq_false_iff_eq.mpr c5
       clear c5
       have H' := Aside0.mk H
       clear H
       have p101 : 0 ≤ (x8_1 : Int) := of_decide_eq_true z5_
       have q101 : x8_1 < (l0.length : Int) := of_decide_eq_true z5_
       obtain ⟨ad101, e101, hx101_0⟩ := Kd.at_int HR0.out x8_1 p101 q101
       cases e101
       replace p101 := eq_true p101
       replace q101 := eq_true q101
       go_wp2
       go_roundg k1
       case measure => have := HK1.out; omega
       case rel => exact ⟨(wrap64 (x8_1 + 1)), z4_, H', ⟨by have := HK1.out; omega⟩, z11_⟩
      ·rw [if_neg c5] at H
       have c5b0 : ((rd l0 x8_1) == 0) = false := beq_eq_false_iff_ne.mpr c5
       have c5b1 : ((rd l0 x8_1) != 0) = true := bne_iff_ne.mpr c5
       obtain rfl := Option.some.inj H
       have p101 : 0 ≤ (x8_1 : Int) := of_decide_eq_true z5_
       have q101 : x8_1 < (l0.length : Int) := of_decide_eq_true z5_
       obtain ⟨ad101, e101, hx101_0⟩ := Kd.at_int HR0.out x8_1 p101 q101
       cases e101
       replace p101 := eq_true p101
       replace q101 := eq_true q101
       go_wp2
       go_ret
       exact ⟨z4_, z11_⟩
     ·rw [if_neg c4] at H
      exact absurd H (by simp)
    ·rw [if_neg c3] at H
     exact absurd H (by simp)
   ·rw [if_neg c2] at H
    have c2b0 : decide (x8_1 < (l0.length : Int)) = false := decide_eq_false c2
    clear c2
    obtain rfl := Option.some.inj H
    go_wp2
    go_ret
    exact ⟨z4_, z11_⟩
def cmp_isNaN_int64.f (a0 : Int) : Option (Bool) := some (a0 != a0)
set_option maxHeartbeats 8000000 in
set_option maxRecDepth 100000 in
theorem cmp_isNaN_int64.calls (a0 : Int) (r : Bool) (w : World) (h : cmp_isNaN_int64.f a0 = some r) :
  Calls Try.prog 86 #[.int .i64 a0] w fun e w' => e = .returned (.bool r) ∧ Drawn0 w w' := by
 have H : (some (a0 != a0)) = some r := h
 clear h
 obtain rfl := Option.some.inj H
 go_enter Try.func86, Try.ntmps86
 go_wp2
 go_ret
 exact ⟨z4_, z11_⟩
def cmp_Compare_int64.f (a0 : Int) (a1 : Int) : Option (Int) := (cmp_isNaN_int64.f a0).bind fun t102 => ((cmp_isNaN_int64.f a1).bind fun t103 => (if t102 = true then (if t103 = true then (some 0) else (some (-1))) else (if t103 = true then (some 1) else (if a0 < a1 then (some (-1)) else (if a0 > a1 then (some 1) else (some 0))))))
set_option maxHeartbeats 8000000 in
set_option maxRecDepth 100000 in
theorem cmp_Compare_int64.calls (a0 : Int) (a1 : Int) (r : Int) (w : World) (h : cmp_Compare_int64.f a0 a1 = some r) :
  Calls Try.prog 79 #[.int .i64 a0, .int .i64 a1] w fun e w' => e = .returned (.int .i64 r) ∧ Drawn0 w w' := by
 have H : ((cmp_isNaN_int64.f a0).bind fun t102 => ((cmp_isNaN_int64.f a1).bind fun t103 => (if t102 = true then (if t103 = true then (some 0) else (some (-1))) else (if t103 = true then (some 1) else (if a0 < a1 then (some (-1)) else (if a0 > a1 then (some 1) else (some 0))))))) = some r := h
 clear h
 replace H := Option.bind_eq_some_iff.mp H
 obtain ⟨t102, A30, H⟩ := H
 replace H : ((cmp_isNaN_int64.f a1).bind fun t103 => (if t102 = true then (if t103 = true then (some 0) else (some (-1))) else (if t103 = true then (some 1) else (if a0 < a1 then (some (-1)) else (if a0 > a1 then (some 1) else (some 0)))))) = some r := H
 have A3 := Aside0.mk A30
 clear A30
 replace H := Option.bind_eq_some_iff.mp H
 obtain ⟨t103, A40, H⟩ := H
 replace H : (if t102 = true then (if t103 = true then (some 0) else (some (-1))) else (if t103 = true then (some 1) else (if a0 < a1 then (some (-1)) else (if a0 > a1 then (some 1) else (some 0))))) = some r := H
 have A4 := Aside0.mk A40
 clear A40
 by_cases c5 : t102 = true
 ·subst c5
  have H1 : (if t103 = true then (some 0) else (some (-1))) = some r := by rw [if_pos rfl] at H; exact H
  clear H
  have H := H1
  clear H1
  by_cases c6 : t103 = true
  ·subst c6
   have H1 : (some 0) = some r := by rw [if_pos rfl] at H; exact H
   clear H
   have H := H1
   clear H1
   obtain rfl := Option.some.inj H
   go_enter Try.func79, Try.ntmps79
   go_wp2_with (first | ((with_reducible refine gate_callee (f := 86) rfl ?_); refine goesL_ (some 8) rfl rfl Try.func86 (by kernel_rfl) rfl #[.int .i64 a0] rfl (by (try simp only [List.map_toArray, List.map_cons, List.map_nil]); first | done | rfl | (simp only [List.length_drop, List.length_take]; rfl) | (go_simp; simp [IntKind.wrap, IntKind.bits, IntKind.signed]; omega)) ?_; (with_reducible refine (cmp_isNaN_int64.calls a0 true _ A3.out).mono ?_); rintro e w' ⟨rfl, ⟨nd, rfl⟩⟩; refine ⟨_, rfl, ?_⟩) | ((with_reducible refine gate_callee (f := 86) rfl ?_); refine goesL_ (some 10) rfl rfl Try.func86 (by kernel_rfl) rfl #[.int .i64 a1] rfl (by (try simp only [List.map_toArray, List.map_cons, List.map_nil]); first | done | rfl | (simp only [List.length_drop, List.length_take]; rfl) | (go_simp; simp [IntKind.wrap, IntKind.bits, IntKind.signed]; omega)) ?_; (with_reducible refine (cmp_isNaN_int64.calls a1 true _ A4.out).mono ?_); rintro e w' ⟨rfl, ⟨nd, rfl⟩⟩; refine ⟨_, rfl, ?_⟩))
   go_ret
   exact ⟨z4_, z11_⟩
  ·replace c6 := Bool.eq_false_iff.mpr c6
   subst c6
   have H1 : (some (-1)) = some r := by rw [if_neg (show ¬ (false = true) by decide)] at H; exact H
   clear H
   have H := H1
   clear H1
   obtain rfl := Option.some.inj H
   go_enter Try.func79, Try.ntmps79
   go_wp2_with (first | ((with_reducible refine gate_callee (f := 86) rfl ?_); refine goesL_ (some 8) rfl rfl Try.func86 (by kernel_rfl) rfl #[.int .i64 a0] rfl (by (try simp only [List.map_toArray, List.map_cons, List.map_nil]); first | done | rfl | (simp only [List.length_drop, List.length_take]; rfl) | (go_simp; simp [IntKind.wrap, IntKind.bits, IntKind.signed]; omega)) ?_; (with_reducible refine (cmp_isNaN_int64.calls a0 true _ A3.out).mono ?_); rintro e w' ⟨rfl, ⟨nd, rfl⟩⟩; refine ⟨_, rfl, ?_⟩) | ((with_reducible refine gate_callee (f := 86) rfl ?_); refine goesL_ (some 10) rfl rfl Try.func86 (by kernel_rfl) rfl #[.int .i64 a1] rfl (by (try simp only [List.map_toArray, List.map_cons, List.map_nil]); first | done | rfl | (simp only [List.length_drop, List.length_take]; rfl) | (go_simp; simp [IntKind.wrap, IntKind.bits, IntKind.signed]; omega)) ?_; (with_reducible refine (cmp_isNaN_int64.calls a1 false _ A4.out).mono ?_); rintro e w' ⟨rfl, ⟨nd, rfl⟩⟩; refine ⟨_, rfl, ?_⟩))
   go_ret
   exact ⟨z4_, z11_⟩
 ·replace c5 := Bool.eq_false_iff.mpr c5
  subst c5
  have H1 : (if t103 = true then (some 1) else (if a0 < a1 then (some (-1)) else (if a0 > a1 then (some 1) else (some 0)))) = some r := by rw [if_neg (show ¬ (false = true) by decide)] at H; exact H
  clear H
  have H := H1
  clear H1
  by_cases c7 : t103 = true
  ·subst c7
   have H1 : (some 1) = some r := by rw [if_pos rfl] at H; exact H
   clear H
   have H := H1
   clear H1
   obtain rfl := Option.some.inj H
   go_enter Try.func79, Try.ntmps79
   go_wp2_with (first | ((with_reducible refine gate_callee (f := 86) rfl ?_); refine goesL_ (some 8) rfl rfl Try.func86 (by kernel_rfl) rfl #[.int .i64 a0] rfl (by (try simp only [List.map_toArray, List.map_cons, List.map_nil]); first | done | rfl | (simp only [List.length_drop, List.length_take]; rfl) | (go_simp; simp [IntKind.wrap, IntKind.bits, IntKind.signed]; omega)) ?_; (with_reducible refine (cmp_isNaN_int64.calls a0 false _ A3.out).mono ?_); rintro e w' ⟨rfl, ⟨nd, rfl⟩⟩; refine ⟨_, rfl, ?_⟩) | ((with_reducible refine gate_callee (f := 86) rfl ?_); refine goesL_ (some 10) rfl rfl Try.func86 (by kernel_rfl) rfl #[.int .i64 a1] rfl (by (try simp only [List.map_toArray, List.map_cons, List.map_nil]); first | done | rfl | (simp only [List.length_drop, List.length_take]; rfl) | (go_simp; simp [IntKind.wrap, IntKind.bits, IntKind.signed]; omega)) ?_; (with_reducible refine (cmp_isNaN_int64.calls a1 true _ A4.out).mono ?_); rintro e w' ⟨rfl, ⟨nd, rfl⟩⟩; refine ⟨_, rfl, ?_⟩))
   go_ret
   exact ⟨z4_, z11_⟩
  ·replace c7 := Bool.eq_false_iff.mpr c7
   subst c7
   have H1 : (if a0 < a1 then (some (-1)) else (if a0 > a1 then (some 1) else (some 0))) = some r := by rw [if_neg (show ¬ (false = true) by decide)] at H; exact H
   clear H
   have H := H1
   clear H1
   by_cases c8 : a0 < a1
   ·rw [if_pos c8] at H
    have c8b0 : decide (a0 < a1) = true := decide_eq_true c8
    clear c8
    obtain rfl := Option.some.inj H
    go_enter Try.func79, Try.ntmps79
    go_wp2_with (first | ((with_reducible refine gate_callee (f := 86) rfl ?_); refine goesL_ (some 8) rfl rfl Try.func86 (by kernel_rfl) rfl #[.int .i64 a0] rfl (by (try simp only [List.map_toArray, List.map_cons, List.map_nil]); first | done | rfl | (simp only [List.length_drop, List.length_take]; rfl) | (go_simp; simp [IntKind.wrap, IntKind.bits, IntKind.signed]; omega)) ?_; (with_reducible refine (cmp_isNaN_int64.calls a0 false _ A3.out).mono ?_); rintro e w' ⟨rfl, ⟨nd, rfl⟩⟩; refine ⟨_, rfl, ?_⟩) | ((with_reducible refine gate_callee (f := 86) rfl ?_); refine goesL_ (some 10) rfl rfl Try.func86 (by kernel_rfl) rfl #[.int .i64 a1] rfl (by (try simp only [List.map_toArray, List.map_cons, List.map_nil]); first | done | rfl | (simp only [List.length_drop, List.length_take]; rfl) | (go_simp; simp [IntKind.wrap, IntKind.bits, IntKind.signed]; omega)) ?_; (with_reducible refine (cmp_isNaN_int64.calls a1 false _ A4.out).mono ?_); rintro e w' ⟨rfl, ⟨nd, rfl⟩⟩; refine ⟨_, rfl, ?_⟩))
    go_ret
    exact ⟨z4_, z11_⟩
   ·rw [if_neg c8] at H
    have c8b0 : decide (a0 < a1) = false := decide_eq_false c8
    clear c8
    by_cases c9 : a0 > a1
    ·rw [if_pos c9] at H
     have c9b0 : decide (a1 < a0) = true := decide_eq_true c9
     clear c9
     obtain rfl := Option.some.inj H
     go_enter Try.func79, Try.ntmps79
     go_wp2_with (first | ((with_reducible refine gate_callee (f := 86) rfl ?_); refine goesL_ (some 8) rfl rfl Try.func86 (by kernel_rfl) rfl #[.int .i64 a0] rfl (by (try simp only [List.map_toArray, List.map_cons, List.map_nil]); first | done | rfl | (simp only [List.length_drop, List.length_take]; rfl) | (go_simp; simp [IntKind.wrap, IntKind.bits, IntKind.signed]; omega)) ?_; (with_reducible refine (cmp_isNaN_int64.calls a0 false _ A3.out).mono ?_); rintro e w' ⟨rfl, ⟨nd, rfl⟩⟩; refine ⟨_, rfl, ?_⟩) | ((with_reducible refine gate_callee (f := 86) rfl ?_); refine goesL_ (some 10) rfl rfl Try.func86 (by kernel_rfl) rfl #[.int .i64 a1] rfl (by (try simp only [List.map_toArray, List.map_cons, List.map_nil]); first | done | rfl | (simp only [List.length_drop, List.length_take]; rfl) | (go_simp; simp [IntKind.wrap, IntKind.bits, IntKind.signed]; omega)) ?_; (with_reducible refine (cmp_isNaN_int64.calls a1 false _ A4.out).mono ?_); rintro e w' ⟨rfl, ⟨nd, rfl⟩⟩; refine ⟨_, rfl, ?_⟩))
     go_ret
     exact ⟨z4_, z11_⟩
    ·rw [if_neg c9] at H
     have c9b0 : decide (a1 < a0) = false := decide_eq_false c9
     clear c9
     obtain rfl := Option.some.inj H
     go_enter Try.func79, Try.ntmps79
     go_wp2_with (first | ((with_reducible refine gate_callee (f := 86) rfl ?_); refine goesL_ (some 8) rfl rfl Try.func86 (by kernel_rfl) rfl #[.int .i64 a0] rfl (by (try simp only [List.map_toArray, List.map_cons, List.map_nil]); first | done | rfl | (simp only [List.length_drop, List.length_take]; rfl) | (go_simp; simp [IntKind.wrap, IntKind.bits, IntKind.signed]; omega)) ?_; (with_reducible refine (cmp_isNaN_int64.calls a0 false _ A3.out).mono ?_); rintro e w' ⟨rfl, ⟨nd, rfl⟩⟩; refine ⟨_, rfl, ?_⟩) | ((with_reducible refine gate_callee (f := 86) rfl ?_); refine goesL_ (some 10) rfl rfl Try.func86 (by kernel_rfl) rfl #[.int .i64 a1] rfl (by (try simp only [List.map_toArray, List.map_cons, List.map_nil]); first | done | rfl | (simp only [List.length_drop, List.length_take]; rfl) | (go_simp; simp [IntKind.wrap, IntKind.bits, IntKind.signed]; omega)) ?_; (with_reducible refine (cmp_isNaN_int64.calls a1 false _ A4.out).mono ?_); rintro e w' ⟨rfl, ⟨nd, rfl⟩⟩; refine ⟨_, rfl, ?_⟩))
     go_ret
     exact ⟨z4_, z11_⟩
def cmp_isNaN_string.f (a0 : ByteArray) : Option (Bool) := some (a0.toList != a0.toList)
set_option maxHeartbeats 8000000 in
set_option maxRecDepth 100000 in
theorem cmp_isNaN_string.calls (a0 : ByteArray) (r : Bool) (w : World) (h : cmp_isNaN_string.f a0 = some r) :
  Calls Try.prog 87 #[.string a0] w fun e w' => e = .returned (.bool r) ∧ Drawn0 w w' := by
 have H : (some (a0.toList != a0.toList)) = some r := h
 clear h
 obtain rfl := Option.some.inj H
 go_enter Try.func87, Try.ntmps87
 go_wp2
 go_ret
 exact ⟨z4_, z11_⟩
def cmpStr (a b : ByteArray) : Int := if Op.bytesLess a.toList b.toList = true then -1 else if (a.toList == b.toList) = true then 0 else 1
def cmp_Compare_string.f (a0 : ByteArray) (a1 : ByteArray) : Option (Int) := some (cmpStr a0 a1)
theorem cmp_Compare_string.nan (a : ByteArray) : cmp_isNaN_string.f a = some false := by unfold cmp_isNaN_string.f; simp
set_option maxHeartbeats 1000000 in
set_option maxRecDepth 100000 in
theorem cmp_Compare_string.way (a0 : ByteArray) (a1 : ByteArray) (b1 b2 : Bool) (w : World) (h1 : Op.bytesLess a0.toList a1.toList = b1) (h2 : (a0.toList == a1.toList) = b2) :
  Calls Try.prog 80 #[.string a0, .string a1] w fun e w' => e = .returned (.int .i64 (if b1 = true then -1 else if b2 = true then 0 else 1)) ∧ Drawn0 w w' := by
 have HN0 := Aside0.mk (cmp_Compare_string.nan a0); have HN1 := Aside0.mk (cmp_Compare_string.nan a1)
 cases b1 <;> cases b2
 all_goals
  go_enter Try.func80, Try.ntmps80
  go_wp2_with fail
  refine (cmp_isNaN_string.calls a0 false _ HN0.out).mono ?_; rintro e w1 ⟨rfl, hd1⟩
  have HD1 := Aside0.mk hd1; clear hd1
  go_wp2_with fail
  refine (cmp_isNaN_string.calls a1 false _ HN1.out).mono ?_; rintro e w2 ⟨rfl, hd2⟩
  have HD2 := Aside0.mk hd2; clear hd2
  go_wp2
  go_ret
  exact ⟨rfl, by obtain ⟨⟨m1, e1⟩⟩ := HD1.out; obtain ⟨⟨m2, e2⟩⟩ := HD2.out; subst e1; subst e2; exact (Drawn0.refl _).step _ |>.step _⟩
theorem cmp_Compare_string.calls (a0 : ByteArray) (a1 : ByteArray) (r : Int) (w : World) (h : cmp_Compare_string.f a0 a1 = some r) :
  Calls Try.prog 80 #[.string a0, .string a1] w fun e w' => e = .returned (.int .i64 r) ∧ Drawn0 w w' := by
 unfold cmp_Compare_string.f at h
 obtain rfl := Option.some.inj h
 exact cmp_Compare_string.way a0 a1 _ _ w rfl rfl
def kinds_Compare.j0 : Nat → Bool → Bool → Int → ByteArray → Bool → Int → ByteArray → Option (Int)
 | 0, _, _, _, _, _, _, _ => none
 | k + 1, x5, x105000, x105001, x105002, x106000, x106001, x106002 => if x5 = true then (some 0) else (if x105000 = true then (some (-1)) else (if x106000 = true then (some 1) else ((cmp_Compare_int64.f x105001 x106001).bind fun t106 => ((cmp_Compare_string.f x105002 x106002).bind fun t107 => ((cmp_Or_int.f k (([t106, t107] : List Int))).bind fun t111 => (some t111))))))
def kinds_Compare.f (k : Nat) (a0_0 : Bool) (a0_1 : Int) (a0_2 : ByteArray) (a1_0 : Bool) (a1_1 : Int) (a1_2 : ByteArray) : Option (Int) := if a0_0 = true then (kinds_Compare.j0 k a1_0 a0_0 a0_1 a0_2 a1_0 a1_1 a1_2) else (kinds_Compare.j0 k false a0_0 a0_1 a0_2 a1_0 a1_1 a1_2)
theorem kinds_Compare.mono_l : ∀ k, (∀ y0 y1 y2 y3 y4 y5 y6, LeO (kinds_Compare.j0 k y0 y1 y2 y3 y4 y5 y6) (kinds_Compare.j0 (k + 1) y0 y1 y2 y3 y4 y5 y6))
 | 0 => fun _ _ _ _ _ _ _ r h => by simp [kinds_Compare.j0] at h
 | k + 1 => by
  have ih0 := kinds_Compare.mono_l k
  ·intro y0 y1 y2 y3 y4 y5 y6
   unfold kinds_Compare.j0
   repeat' first
   | (with_reducible exact ih0 _ _ _ _ _ _ _)
   | (with_reducible exact cmp_Or_int.mono _ _)
   | (with_reducible exact LeO.refl _)
   | (with_reducible exact LeO.none _)
   | (with_reducible refine LeO.ite ?_ ?_)
   | (with_reducible refine LeO.bind ?_ (fun _ => ?_))
   | exact ih0 _ _ _ _ _ _ _
   | exact cmp_Or_int.mono _ _
   | exact LeO.none _
   | refine LeO.ite ?_ ?_
   | refine LeO.bind ?_ (fun _ => ?_)
theorem kinds_Compare.mono : ∀ a0 a1 a2 a3 a4 a5 k, LeO (kinds_Compare.f k a0 a1 a2 a3 a4 a5) (kinds_Compare.f (k + 1) a0 a1 a2 a3 a4 a5) := by
 intro a0 a1 a2 a3 a4 a5 k
 have ih0 := kinds_Compare.mono_l k
 unfold kinds_Compare.f
 repeat' first
   | (with_reducible exact ih0 _ _ _ _ _ _ _)
   | (with_reducible exact cmp_Or_int.mono _ _)
   | (with_reducible exact LeO.refl _)
   | (with_reducible exact LeO.none _)
   | (with_reducible refine LeO.ite ?_ ?_)
   | (with_reducible refine LeO.bind ?_ (fun _ => ?_))
   | exact ih0 _ _ _ _ _ _ _
   | exact cmp_Or_int.mono _ _
   | exact LeO.none _
   | refine LeO.ite ?_ ?_
   | refine LeO.bind ?_ (fun _ => ?_)
def kinds_Compare.T7 : Bool × List (List Nat × List Nat) := (true, [([], []), ([0], [0]), ([], []), ([2], [2]), ([1, 3], [1, 3]), ([], []), ([5], [5]), ([], []), ([7], [7]), ([6, 8, 4], [6, 8]), ([4, 9], [4, 9]), ([10, 9], [10]), ([11, 11, 0, 1, 2, 3, 4, 5, 6, 7, 8, 9, 10, 11], [11])])
def kinds_Compare.B7 : List Nat := [0, 1, 0, 4, 15, 0, 32, 0, 128, 511, 1023, 2047, 4095]
theorem kinds_Compare.tab7 : rtab .any (opsOf Try.f62 7) = kinds_Compare.T7 := by kernel_rfl
theorem kinds_Compare.bits7 : waitsOk kinds_Compare.T7.2 kinds_Compare.B7 = true := by kernel_rfl
set_option maxHeartbeats 8000000 in
set_option maxRecDepth 100000 in
theorem kinds_Compare.calls (k : Nat) (a0_0 : Bool) (a0_1 : Int) (a0_2 : ByteArray) (a1_0 : Bool) (a1_1 : Int) (a1_2 : ByteArray) (r : Int) (w : World) (h : kinds_Compare.f k a0_0 a0_1 a0_2 a1_0 a1_1 a1_2 = some r) :
  Calls Try.prog 62 #[.agg #[.bool a0_0, .int .i64 a0_1, .string a0_2], .agg #[.bool a1_0, .int .i64 a1_1, .string a1_2]] w fun e w' => e = .returned (.int .i64 r) ∧ Below w.heap.size w w' := by
 have hu34 := Try.underlying34
 have HB := Aside0.mk (Below.refl w.heap.size w)
 have H : (if a0_0 = true then (kinds_Compare.j0 k a1_0 a0_0 a0_1 a0_2 a1_0 a1_1 a1_2) else (kinds_Compare.j0 k false a0_0 a0_1 a0_2 a1_0 a1_1 a1_2)) = some r := h
 clear h
 have HC3 := Aside0.mk H
 clear H
 go_enter Try.func62, Try.ntmps62
 go_upto_region 1 with (first | ((with_reducible refine gate_dst (N := 2) rfl ?_); refine box_event ?hg (N := 2) ?hd (cs := #[.bool a0_0, .int .i64 a0_1, .string a0_2]) (t := 34) ?hr ?_; (case hd => rfl); (case hg => rfl); (case hr => first | (go_simp; done) | (go_simp; rfl)); intro gb104 hg w4 hbox hb; have n0_ := Aside0.mk (below_step z0_ hb); have n1_ := Aside0.mk (hbox); have n2_ := Aside0.mk ((by rw [hg]; exact (below_size z0_) : w.heap.size ≤ gb104)); have n3_ := Aside0.mk ((by rw [hg]; exact (below_size z0_) : w.heap.size ≤ gb104)); clear HB; have HB := n0_; have BK104 := n1_; have GW104 := n2_; have GE104 := n3_; clear n0_ n1_ n2_ n3_; clear hb hbox hg) | ((with_reducible refine gate_dst (N := 3) rfl ?_); refine box_event ?hg (N := 3) ?hd (cs := #[.bool a1_0, .int .i64 a1_1, .string a1_2]) (t := 34) ?hr ?_; (case hd => rfl); (case hg => rfl); (case hr => first | (go_simp; done) | (go_simp; rfl)); intro gb105 hg w5 hbox hb; have n0_ := Aside0.mk (blk_below (g := gb104) (o := .cells #[.bool a0_0, .int .i64 a0_1, .string a0_2] 34 (0, 0)) (by (with_reducible repeat (first | refine blk_drewN ?_ _ | refine blk_drew ?_ | refine blk_alloc ?_ _)); exact BK104.out) hb); have n1_ := Aside0.mk (below_step z26_ hb); have n2_ := Aside0.mk (hbox); have n3_ := Aside0.mk ((by rw [hg]; exact (below_size z26_) : w.heap.size ≤ gb105)); have n4_ := Aside0.mk ((by rw [hg]; exact (below_size z26_) : w.heap.size ≤ gb105)); have n5_ := Aside0.mk ((by rw [hg]; exact Nat.ne_of_lt (blk_lt (g := gb104) (o := .cells #[.bool a0_0, .int .i64 a0_1, .string a0_2] 34 (0, 0)) (by (with_reducible repeat (first | refine blk_drewN ?_ _ | refine blk_drew ?_ | refine blk_alloc ?_ _)); exact BK104.out)) : gb104 ≠ gb105)); have n6_ := Aside0.mk ((by rw [hg]; exact Nat.ne_of_gt (blk_lt (g := gb104) (o := .cells #[.bool a0_0, .int .i64 a0_1, .string a0_2] 34 (0, 0)) (by (with_reducible repeat (first | refine blk_drewN ?_ _ | refine blk_drew ?_ | refine blk_alloc ?_ _)); exact BK104.out)) : gb105 ≠ gb104)); clear BK104; clear HB; have BK104 := n0_; have HB := n1_; have BK105 := n2_; have GW105 := n3_; have GE105 := n4_; have NB104_105 := n5_; have NB105_104 := n6_; clear n0_ n1_ n2_ n3_ n4_ n5_ n6_; clear hb hbox hg))
 (try simp only [Act.put, List.setIfInBounds_toArray, List.set_cons_zero, List.set_cons_succ])
 go_cut [5] (fun v5 wc => ∃ (kq : Nat) (x5_2 : Bool), v5 = .bool x5_2 ∧ Aside0 (kinds_Compare.j0 kq x5_2 a0_0 a0_1 a0_2 a1_0 a1_1 a1_2 = some r) ∧ Aside0 (kq ≤ k) ∧ Aside0 (wc.heap[gb104]? = some (.cells #[.bool a0_0, .int .i64 a0_1, .string a0_2] 34 (0, 0))) ∧ Aside0 (wc.heap[gb105]? = some (.cells #[.bool a1_0, .int .i64 a1_1, .string a1_2] 34 (0, 0))) ∧ Aside0 (Below w.heap.size w wc))
 case first =>
  have H := HC3.out
  clear HC3
  by_cases c6 : a0_0 = true
  ·subst c6
   have H1 : (kinds_Compare.j0 k a1_0 true a0_1 a0_2 a1_0 a1_1 a1_2) = some r := by rw [if_pos rfl] at H; exact H
   clear H
   have H := H1
   clear H1
   have H' := Aside0.mk H
   clear H
   have hnb7 := NB104_105.out
   have hnc7 := NB105_104.out
   have hcz8_0 : w5.cell? ⟨gb104, 0, none⟩ = some (.bool true) := (blk_cell BK104.out 0).trans rfl
   have hcz8_1 : w5.cell? ⟨gb104, 1, none⟩ = some (.int .i64 a0_1) := (blk_cell BK104.out 1).trans rfl
   have hcz8_2 : w5.cell? ⟨gb104, 2, none⟩ = some (.string a0_2) := (blk_cell BK104.out 2).trans rfl
   have hfz8_0 := blk_frozen BK104.out 0
   have hfz8_1 := blk_frozen BK104.out 1
   have hfz8_2 := blk_frozen BK104.out 2
   have hcz9_0 : w5.cell? ⟨gb105, 0, none⟩ = some (.bool a1_0) := (blk_cell BK105.out 0).trans rfl
   have hcz9_1 : w5.cell? ⟨gb105, 1, none⟩ = some (.int .i64 a1_1) := (blk_cell BK105.out 1).trans rfl
   have hcz9_2 : w5.cell? ⟨gb105, 2, none⟩ = some (.string a1_2) := (blk_cell BK105.out 2).trans rfl
   have hfz9_0 := blk_frozen BK105.out 0
   have hfz9_1 := blk_frozen BK105.out 1
   have hfz9_2 := blk_frozen BK105.out 2
   go_wp2
   go_meet
   case rel => exact ⟨_, (a1_0), z4_, H', ⟨by first | omega | exact Nat.le_refl _⟩, ⟨by (with_reducible repeat (first | refine blk_drewN ?_ _ | refine blk_drew ?_ | refine blk_alloc ?_ _)); exact BK104.out⟩, ⟨by (with_reducible repeat (first | refine blk_drewN ?_ _ | refine blk_drew ?_ | refine blk_alloc ?_ _)); exact BK105.out⟩, ⟨z13_⟩⟩
  ·replace c6 := Bool.eq_false_iff.mpr c6
   subst c6
   have H1 : (kinds_Compare.j0 k false false a0_1 a0_2 a1_0 a1_1 a1_2) = some r := by rw [if_neg (show ¬ (false = true) by decide)] at H; exact H
   clear H
   have H := H1
   clear H1
   have H' := Aside0.mk H
   clear H
   have hnb10 := NB104_105.out
   have hnc10 := NB105_104.out
   have hcz11_0 : w5.cell? ⟨gb104, 0, none⟩ = some (.bool false) := (blk_cell BK104.out 0).trans rfl
   have hcz11_1 : w5.cell? ⟨gb104, 1, none⟩ = some (.int .i64 a0_1) := (blk_cell BK104.out 1).trans rfl
   have hcz11_2 : w5.cell? ⟨gb104, 2, none⟩ = some (.string a0_2) := (blk_cell BK104.out 2).trans rfl
   have hfz11_0 := blk_frozen BK104.out 0
   have hfz11_1 := blk_frozen BK104.out 1
   have hfz11_2 := blk_frozen BK104.out 2
   go_wp2
   go_meet
   case rel => exact ⟨_, (false), z4_, H', ⟨by first | omega | exact Nat.le_refl _⟩, ⟨by (with_reducible repeat (first | refine blk_drewN ?_ _ | refine blk_drew ?_ | refine blk_alloc ?_ _)); exact BK104.out⟩, ⟨by (with_reducible repeat (first | refine blk_drewN ?_ _ | refine blk_drew ?_ | refine blk_alloc ?_ _)); exact BK105.out⟩, ⟨z13_⟩⟩
 case rest =>
  clear HC3
  try clear c1
  try clear p2
  try clear c6
  try clear c7
  try clear c10
  try clear hcz11_0
  try clear hcz11_1
  try clear hcz11_2
  try clear hcz8_0
  try clear hcz8_1
  try clear hcz8_2
  try clear hcz9_0
  try clear hcz9_1
  try clear hcz9_2
  try clear hfz11_0
  try clear hfz11_1
  try clear hfz11_2
  try clear hfz8_0
  try clear hfz8_1
  try clear hfz8_2
  try clear hfz9_0
  try clear hfz9_1
  try clear hfz9_2
  obtain ⟨kq, x5_2, rfl, HA, HJ2, BK104, BK105, HB⟩ := hcut
  cases kq with
  | zero => exact absurd HA.out (by simp [kinds_Compare.j0])
  | succ kj2 =>
   have H := HA.out
   clear HA
   simp only [kinds_Compare.j0] at H
   by_cases c12 : x5_2 = true
   ·subst c12
    have H1 : (some 0) = some r := by rw [if_pos rfl] at H; exact H
    clear H
    have H := H1
    clear H1
    obtain rfl := Option.some.inj H
    go_wp2
    go_ret
    exact ⟨z2_, z13_⟩
   ·replace c12 := Bool.eq_false_iff.mpr c12
    subst c12
    have H1 : (if a0_0 = true then (some (-1)) else (if a1_0 = true then (some 1) else ((cmp_Compare_int64.f a0_1 a1_1).bind fun t106 => ((cmp_Compare_string.f a0_2 a1_2).bind fun t107 => ((cmp_Or_int.f kj2 (([t106, t107] : List Int))).bind fun t111 => (some t111)))))) = some r := by rw [if_neg (show ¬ (false = true) by decide)] at H; exact H
    clear H
    have H := H1
    clear H1
    by_cases c13 : a0_0 = true
    ·subst c13
     have H1 : (some (-1)) = some r := by rw [if_pos rfl] at H; exact H
     clear H
     have H := H1
     clear H1
     obtain rfl := Option.some.inj H
     have hnb14 := NB104_105.out
     have hnc14 := NB105_104.out
     have hcz15_0 : wc.cell? ⟨gb104, 0, none⟩ = some (.bool true) := (blk_cell BK104.out 0).trans rfl
     have hcz15_1 : wc.cell? ⟨gb104, 1, none⟩ = some (.int .i64 a0_1) := (blk_cell BK104.out 1).trans rfl
     have hcz15_2 : wc.cell? ⟨gb104, 2, none⟩ = some (.string a0_2) := (blk_cell BK104.out 2).trans rfl
     have hfz15_0 := blk_frozen BK104.out 0
     have hfz15_1 := blk_frozen BK104.out 1
     have hfz15_2 := blk_frozen BK104.out 2
     go_wp2
     go_ret
     exact ⟨z2_, z13_⟩
    ·replace c13 := Bool.eq_false_iff.mpr c13
     subst c13
     have H1 : (if a1_0 = true then (some 1) else ((cmp_Compare_int64.f a0_1 a1_1).bind fun t106 => ((cmp_Compare_string.f a0_2 a1_2).bind fun t107 => ((cmp_Or_int.f kj2 (([t106, t107] : List Int))).bind fun t111 => (some t111))))) = some r := by rw [if_neg (show ¬ (false = true) by decide)] at H; exact H
     clear H
     have H := H1
     clear H1
     by_cases c16 : a1_0 = true
     ·subst c16
      have H1 : (some 1) = some r := by rw [if_pos rfl] at H; exact H
      clear H
      have H := H1
      clear H1
      obtain rfl := Option.some.inj H
      have hnb17 := NB104_105.out
      have hnc17 := NB105_104.out
      have hcz18_0 : wc.cell? ⟨gb104, 0, none⟩ = some (.bool false) := (blk_cell BK104.out 0).trans rfl
      have hcz18_1 : wc.cell? ⟨gb104, 1, none⟩ = some (.int .i64 a0_1) := (blk_cell BK104.out 1).trans rfl
      have hcz18_2 : wc.cell? ⟨gb104, 2, none⟩ = some (.string a0_2) := (blk_cell BK104.out 2).trans rfl
      have hfz18_0 := blk_frozen BK104.out 0
      have hfz18_1 := blk_frozen BK104.out 1
      have hfz18_2 := blk_frozen BK104.out 2
      have hcz19_0 : wc.cell? ⟨gb105, 0, none⟩ = some (.bool true) := (blk_cell BK105.out 0).trans rfl
      have hcz19_1 : wc.cell? ⟨gb105, 1, none⟩ = some (.int .i64 a1_1) := (blk_cell BK105.out 1).trans rfl
      have hcz19_2 : wc.cell? ⟨gb105, 2, none⟩ = some (.string a1_2) := (blk_cell BK105.out 2).trans rfl
      have hfz19_0 := blk_frozen BK105.out 0
      have hfz19_1 := blk_frozen BK105.out 1
      have hfz19_2 := blk_frozen BK105.out 2
      go_wp2
      go_ret
      exact ⟨z2_, z13_⟩
     ·replace c16 := Bool.eq_false_iff.mpr c16
      subst c16
      have H1 : ((cmp_Compare_int64.f a0_1 a1_1).bind fun t106 => ((cmp_Compare_string.f a0_2 a1_2).bind fun t107 => ((cmp_Or_int.f kj2 (([t106, t107] : List Int))).bind fun t111 => (some t111)))) = some r := by rw [if_neg (show ¬ (false = true) by decide)] at H; exact H
      clear H
      have H := H1
      clear H1
      replace H := Option.bind_eq_some_iff.mp H
      obtain ⟨t106, A200, H⟩ := H
      replace H : ((cmp_Compare_string.f a0_2 a1_2).bind fun t107 => ((cmp_Or_int.f kj2 (([t106, t107] : List Int))).bind fun t111 => (some t111))) = some r := H
      have A20 := Aside0.mk A200
      clear A200
      replace H := Option.bind_eq_some_iff.mp H
      obtain ⟨t107, A210, H⟩ := H
      replace H : ((cmp_Or_int.f kj2 (([t106, t107] : List Int))).bind fun t111 => (some t111)) = some r := H
      have A21 := Aside0.mk A210
      clear A210
      obtain ⟨y108, hy108⟩ : ∃ y_ : List Int, y_ = (([t106, t107] : List Int)) := ⟨_, rfl⟩
      replace H : ((cmp_Or_int.f kj2 y108).bind fun t111 => (some t111)) = some r := by first | (rw [hy108]; with_reducible exact H) | (have H2_ := (Option.bind_some _ _).symm.trans H; rw [hy108]; with_reducible exact H2_) | (have H2_ := (Option.bind_some _ _).symm.trans H; with_reducible exact H2_) | with_reducible exact H | (rw [hy108]; exact H) | exact H
      have Ny108 := Aside0.mk hy108
      clear hy108
      replace H := Option.bind_eq_some_iff.mp H
      obtain ⟨t111, A220, H⟩ := H
      replace H : (some t111) = some r := H
      have A22 := Aside0.mk A220
      clear A220
      obtain rfl := Option.some.inj H
      have hnb23 := NB104_105.out
      have hnc23 := NB105_104.out
      have hcz24_0 : wc.cell? ⟨gb104, 0, none⟩ = some (.bool false) := (blk_cell BK104.out 0).trans rfl
      have hcz24_1 : wc.cell? ⟨gb104, 1, none⟩ = some (.int .i64 a0_1) := (blk_cell BK104.out 1).trans rfl
      have hcz24_2 : wc.cell? ⟨gb104, 2, none⟩ = some (.string a0_2) := (blk_cell BK104.out 2).trans rfl
      have hfz24_0 := blk_frozen BK104.out 0
      have hfz24_1 := blk_frozen BK104.out 1
      have hfz24_2 := blk_frozen BK104.out 2
      have hcz25_0 : wc.cell? ⟨gb105, 0, none⟩ = some (.bool false) := (blk_cell BK105.out 0).trans rfl
      have hcz25_1 : wc.cell? ⟨gb105, 1, none⟩ = some (.int .i64 a1_1) := (blk_cell BK105.out 1).trans rfl
      have hcz25_2 : wc.cell? ⟨gb105, 2, none⟩ = some (.string a1_2) := (blk_cell BK105.out 2).trans rfl
      have hfz25_0 := blk_frozen BK105.out 0
      have hfz25_1 := blk_frozen BK105.out 1
      have hfz25_2 := blk_frozen BK105.out 2
      try go_wp2
      have n0_ := Aside0.mk (blk_drew BK104.out)
      have n1_ := Aside0.mk (blk_drew BK105.out)
      have n2_ := Aside0.mk (below_drew1 HB.out)
      clear BK104
      clear BK105
      clear HB
      have BK104 := n0_
      have BK105 := n1_
      have HB := n2_
      clear n0_ n1_ n2_
      refine start_ (n := 13) (S := fun w' => w'.cell? ⟨gb104, 0, none⟩ = some (.bool false) ∧ w'.cell? ⟨gb104, 1, none⟩ = some (.int .i64 a0_1) ∧ w'.cell? ⟨gb104, 2, none⟩ = some (.string a0_2) ∧ w'.cell? ⟨gb105, 0, none⟩ = some (.bool false) ∧ w'.cell? ⟨gb105, 1, none⟩ = some (.int .i64 a1_1) ∧ w'.cell? ⟨gb105, 2, none⟩ = some (.string a1_2)) (ds := []) (bs_ 13 0) (by kernel_rfl) rfl rfl ⟨(blk_cell BK104.out 0).trans rfl, (blk_cell BK104.out 1).trans rfl, (blk_cell BK104.out 2).trans rfl, (blk_cell BK105.out 0).trans rfl, (blk_cell BK105.out 1).trans rfl, (blk_cell BK105.out 2).trans rfl⟩ (fun hHeld => ?_); refine with_tabW kinds_Compare.tab7 kinds_Compare.bits7 (fun HT_ HW_ => ?_)
      generalize wc.drew = w26 at BK104 BK105 HB hHeld ⊢
      refine pA_ 0 (some 18) (bs_ 13 1) HT_ ?_ ?_ ?_ ?_ ?_
      rotate_left; (intro w'; go_simp; with_reducible rfl); rotate_left; (simp only [PT_]; rfl)
      refine pA_ 2 (some 20) (bs_ 13 5) HT_ ?_ ?_ ?_ ?_ ?_
      rotate_left; (intro w'; go_simp; with_reducible rfl); rotate_left; (simp only [PT_]; rfl)
      refine pA_ 5 (some 23) (bs_ 13 37) HT_ ?_ ?_ ?_ ?_ ?_
      rotate_left; (intro w'; go_simp; with_reducible rfl); rotate_left; (simp only [PT_]; rfl)
      refine pA_ 7 (some 25) (bs_ 13 165) HT_ ?_ ?_ ?_ ?_ ?_
      rotate_left; (intro w'; go_simp; with_reducible rfl); rotate_left; (simp only [PT_]; rfl)
      refine take_ (i := 1) (N := some 19) (v := ?_) (a' := ?_) (bs_ 13 167) rfl rfl (take_ofW HT_.out HW_.out (by kernel_rfl)) (fun _ _ _ h => h) (Or.inl ⟨by rfl, ?_⟩) hHeld ?_ ?_
      rotate_left
      ·rintro w' ⟨s0, s1, s2, s3, s4, s5⟩
       go_simp
       with_reducible rfl
      rotate_left
      ·simp only [PT_]
       rfl
      refine take_ (i := 3) (N := some 21) (v := ?_) (a' := ?_) (bs_ 13 175) rfl rfl (take_ofW HT_.out HW_.out (by kernel_rfl)) (fun _ _ _ h => h) (Or.inl ⟨by rfl, ?_⟩) hHeld ?_ ?_
      rotate_left
      ·rintro w' ⟨s0, s1, s2, s3, s4, s5⟩
       go_simp
       with_reducible rfl
      rotate_left
      ·simp only [PT_]
       rfl
      refine take_ (i := 6) (N := some 24) (v := ?_) (a' := ?_) (bs_ 13 239) rfl rfl (take_ofW HT_.out HW_.out (by kernel_rfl)) (fun _ _ _ h => h) (Or.inl ⟨by rfl, ?_⟩) hHeld ?_ ?_
      rotate_left
      ·rintro w' ⟨s0, s1, s2, s3, s4, s5⟩
       go_simp
       with_reducible rfl
      rotate_left
      ·simp only [PT_]
       rfl
      refine take_ (i := 8) (N := some 26) (v := ?_) (a' := ?_) (bs_ 13 495) rfl rfl (take_ofW HT_.out HW_.out (by kernel_rfl)) (fun _ _ _ h => h) (Or.inl ⟨by rfl, ?_⟩) hHeld ?_ ?_
      rotate_left
      ·rintro w' ⟨s0, s1, s2, s3, s4, s5⟩
       go_simp
       with_reducible rfl
      rotate_left
      ·simp only [PT_]
       rfl
      refine oA_ 4 (some 22) (bs_ 13 511) HT_ (fun K hK => ?_)
      refine goes_ Try.func79 (by kernel_rfl) rfl #[.int .i64 a0_1, .int .i64 a1_1] (by rfl) rfl rfl (by (try simp only [List.map_toArray, List.map_cons, List.map_nil]); first | done | rfl | (simp only [List.length_drop, List.length_take]; rfl)) ?_
      with_reducible refine (cmp_Compare_int64.calls a0_1 a1_1 t106 _ A20.out).mono ?_
      rintro e w' ⟨rfl, ⟨nd, rfl⟩⟩
      refine ⟨_, rfl, ?_⟩
      refine hK.out _ _ ⟨(blk_cell BK104.out 0).trans rfl, (blk_cell BK104.out 1).trans rfl, (blk_cell BK104.out 2).trans rfl, (blk_cell BK105.out 0).trans rfl, (blk_cell BK105.out 1).trans rfl, (blk_cell BK105.out 2).trans rfl⟩ (fun hHeld => ?_)
      clear hK K
      refine norm_ (a' := ?_) ?_ ?_; rotate_left; (show Act.put _ (some 22) _ = _; simp only [PT_]; rfl)
      refine oA_ 9 (some 27) (bs_ 13 1023) HT_ (fun K hK => ?_)
      refine goes_ Try.func80 (by kernel_rfl) rfl #[.string a0_2, .string a1_2] (by rfl) rfl rfl (by (try simp only [List.map_toArray, List.map_cons, List.map_nil]); first | done | rfl | (simp only [List.length_drop, List.length_take]; rfl)) ?_
      with_reducible refine (cmp_Compare_string.calls a0_2 a1_2 t107 _ A21.out).mono ?_
      rintro e w' ⟨rfl, ⟨nd, rfl⟩⟩
      refine ⟨_, rfl, ?_⟩
      refine hK.out _ _ ⟨(blk_cell BK104.out 0).trans rfl, (blk_cell BK104.out 1).trans rfl, (blk_cell BK104.out 2).trans rfl, (blk_cell BK105.out 0).trans rfl, (blk_cell BK105.out 1).trans rfl, (blk_cell BK105.out 2).trans rfl⟩ (fun hHeld => ?_)
      clear hK K
      refine norm_ (a' := ?_) ?_ ?_; rotate_left; (show Act.put _ (some 27) _ = _; simp only [PT_]; rfl)
      refine oA_ 10 (some 28) (bs_ 13 2047) HT_ (fun K hK => ?_)
      refine Kd.R_lit_step (Kd.int .i64) _ 3 ?hg (N := 28) ?hd (xs := ([t106, t107] : List Int)) (inner := [.int .i64 t106, .int .i64 t107]) (ok := fun _ => True) (okp := fun _ => True) ?hr ?hp (fun _ hk => hk) trivial (Below.refl _ _) (Nat.le_refl _) (by simp) ?_; (case hd => rfl); (case hg => rfl); (case hr => first | (go_simp; done) | (go_simp; rfl)); (case hp => exact (Reps.one (show Kd.M (Kd.int .i64) _ _ _ t106 [.int .i64 t106] from rfl) (Reps.one (show Kd.M (Kd.int .i64) _ _ _ t107 [.int .i64 t107] from rfl) (Reps.none _ _))))
      intro v109 w27 ho28 hb hg_ hnew_
      clear hg_ hnew_
      (first | rw [← Ny108.out] at ho28 | (simp only [Int.reduceToNat] at ho28; rw [← Ny108.out] at ho28))
      have n0_ := Aside0.mk (Kd.R_lower ho28 (below_size z13_))
      have n1_ := Aside0.mk (blk_below (g := gb104) (o := .cells #[.bool false, .int .i64 a0_1, .string a0_2] 34 (0, 0)) (by (with_reducible repeat (first | refine blk_drewN ?_ _ | refine blk_drew ?_ | refine blk_alloc ?_ _)); exact BK104.out) hb)
      have n2_ := Aside0.mk (blk_below (g := gb105) (o := .cells #[.bool false, .int .i64 a1_1, .string a1_2] 34 (0, 0)) (by (with_reducible repeat (first | refine blk_drewN ?_ _ | refine blk_drew ?_ | refine blk_alloc ?_ _)); exact BK105.out) hb)
      have n3_ := Aside0.mk (below_step z13_ hb)
      clear BK104
      clear BK105
      clear HB
      have HO110 := n0_
      have BK104 := n1_
      have BK105 := n2_
      have HB := n3_
      clear n0_ n1_ n2_ n3_
      clear hb ho28
      obtain ⟨Ao29, co29, eo29⟩ := Kd.R_slice HO110.out
      (first | subst eo29 | (injection eo29 with f1_ f2_ f3_; have f4_ := f1_.symm; have f5_ := f3_.symm; clear f1_ f2_ f3_; subst f4_; subst f5_))
      refine hK.out _ _ ⟨(blk_cell BK104.out 0).trans rfl, (blk_cell BK104.out 1).trans rfl, (blk_cell BK104.out 2).trans rfl, (blk_cell BK105.out 0).trans rfl, (blk_cell BK105.out 1).trans rfl, (blk_cell BK105.out 2).trans rfl⟩ (fun hHeld => ?_)
      clear hK K
      refine norm_ (a' := ?_) ?_ ?_; rotate_left; (show Act.put _ (some 28) _ = _; simp only [PT_]; rfl)
      refine oA_ 11 (some 29) (bs_ 13 4095) HT_ (fun K hK => ?_)
      refine goes_ Try.func78 (by kernel_rfl) rfl #[.slice Ao29 y108.length co29] (by rfl) rfl rfl (by (try simp only [List.map_toArray, List.map_cons, List.map_nil]); first | done | rfl | (simp only [List.length_drop, List.length_take]; rfl)) ?_
      with_reducible refine (cmp_Or_int.calls kj2 _ _ y108 t111 _ ?side1 ?side2 A22.out).mono ?_
      (case side1 => repeat (first | exact (Kd.R_reads' HO110.out).2.2 | (with_reducible refine Kd.C_alloc ?_ _) | (with_reducible refine Kd.C_drewN ?_ _) | (with_reducible refine Kd.C_drew ?_)))
      (case side2 => exact (Kd.R_reads' HO110.out).2.1)
      rintro e w' ⟨rfl, ⟨nd, rfl⟩⟩
      refine ⟨_, rfl, ?_⟩
      refine hK.out _ _ ⟨(blk_cell BK104.out 0).trans rfl, (blk_cell BK104.out 1).trans rfl, (blk_cell BK104.out 2).trans rfl, (blk_cell BK105.out 0).trans rfl, (blk_cell BK105.out 1).trans rfl, (blk_cell BK105.out 2).trans rfl⟩ (fun hHeld => ?_)
      clear hK K
      refine norm_ (a' := ?_) ?_ ?_; rotate_left; (show Act.put _ (some 29) _ = _; simp only [PT_]; rfl)
      refine pA_ 12 (some 4) (bs_ 13 8191) HT_ ?_ ?_ ?_ ?_ ?_
      rotate_left; (intro w'; go_simp; with_reducible rfl); rotate_left; (simp only [PT_]; rfl)
      refine done_ (done_of HT_.out (by kernel_rfl)) ?_
      try go_wp2
      go_ret
      exact ⟨z2_, z13_⟩
end Go.Proofs.Ytagokgijffpdnaa.G
