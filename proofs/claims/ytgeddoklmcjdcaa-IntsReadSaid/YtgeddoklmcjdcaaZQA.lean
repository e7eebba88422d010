import Derived.Test.YtgeddoklmcjdcaaZWWords
import Derived.Test.YtgeddoklmcjdcaaZWMore
import Derived.Laws.BitsAllLaws
import Derived.WalkKit
import Derived.KernelRfl
import Derived.RowKit3
import Derived.Deep.LoopGhost
import Derived.Deep.CutBlock
import Derived.Deep.DeepCutAuto
import Derived.Deep.QuietTactic
import Derived.BigQuiet
import Derived.BigRegion
import Derived.WideLaws
import Derived.RowKit
import Derived.Test.YtgeddoklmcjdcaaProg
import Derived.Test.YtgeddoklmcjdcaaZWLast
import Derived.Test.YtgeddoklmcjdcaaZWQPut
import Derived.Laws.StructEq
import Derived.Below
import Derived.Deep.Draws
import Derived.Deep.AppendLies
import Derived.Maps.AppendAt
import Derived.OwnWalk
import Derived.Laws.BytesArg
import Derived.Laws.MakeOwn
import Derived.Laws.OwnMore
import Derived.Deep.OwnRows
import Derived.Tactics
import Derived.Lib.ConvBytes
import Derived.Laws.Slices
import Derived.Deep.RegionHeld3
import Derived.Laws.Rows
import Derived.Lib.AppendStr
import Derived.ArgAppend
import Derived.Laws.IdiomCopy
import Derived.OrdersHeld
import Derived.Laws.BitsLemmas
import Derived.Laws.CopyOwn
namespace Go.Proofs.YtgeddoklmcjdcaaQ
open Go.RowKit Go.Proofs.YtgeddoklmcjdcaaW.PrintWords
set_option linter.unusedVariables false
set_option linter.unusedSimpArgs false
section
variable {P : Program}
theorem run_append_string_at (w : World) (base : Nat) (t u ty e : TypeId) (i : TypeInfo) (ht : P.underlying t = some (.slice e)) (hu : P.underlying u = some .string) (hi : P.info? e = some i) (hz : i.zero = some (.int .u8 0))
  (hsize : i.size = 1) (hby : i.bytes = 1)
  (v : Value) (n : Nat) (xs : List Value) (hown : w.ownsRow base e 1 v n xs) (s : ByteArray)
  (h63 : n + s.size ≤ maxLen) (hbytes : n + s.size ≤ 140737488355328) (hbase : base ≤ w.heap.size) :
  ∃ v' w', (Builtin.append_ #[t, u] ty #[v, .string s]).run P w = .ok v' w' ∧ w'.ownsRow base e 1 v' (n + s.size) (xs ++ Lib.strCells s) ∧ w.grownBy w' v.ownBlock ∧
   (v'.ownBlock = v.ownBlock ∨ ∃ b, v'.ownBlock = some b ∧ w.heap.size ≤ b) := by
 obtain ⟨v', w', hr, h1, h2, _⟩ := Lib.run_append_own_string (P := P) w base t u ty e i ht hu hi hz hsize hby v n xs hown s h63 hbytes hbase
 refine ⟨v', w', hr, h1, h2, ?_⟩
 have hsmall : n + s.size ≤ 9223372036854775807 := by simp only [maxLen] at h63; omega
 have hxl : xs.length = n := by simpa using hown.1
 rcases hown.2 with ⟨rfl, rfl⟩ | ⟨g, cap, cur, rfl, hbg, hg, hnc, hcm, hcs, htake⟩
 ·have hx : xs = [] := List.eq_nil_of_length_eq_zero hxl
  subst hx
  obtain ⟨v2, w2, hr2, h12, _, _⟩ := Lib.run_append_own_string (P := P) w w.heap.size t u ty e i ht hu hi hz hsize hby (.slice none 0 0) 0 [] (World.ownsRow_nil w w.heap.size e 1) s h63 hbytes (Nat.le_refl _)
  rw [hr] at hr2
  injection hr2 with e1 e2
  subst e1 e2
  cases hv : v'.ownBlock with
  | none => left; rfl
  | some k => right; exact ⟨k, rfl, own_base h12 k hv⟩
 ·by_cases hroom : n + s.size ≤ cap
  ·have hcs' : cur.size = cap := by simpa using hcs
   have hr2 := Lib.run_append_room_string (P := P) w t u ty e i ht hu hi hsize g n cap cur hg s hroom (by omega)
   rw [hr] at hr2
   injection hr2 with e1 e2
   subst e1
   left; rfl
  ·have holds : ∀ j u, xs[j]? = some u → w.cell? ((⟨g, 0, none⟩ : Addr).add j) = some u := hown.cells (g := g) rfl
   have hr2 := Lib.run_append_grow_string (P := P) w t u ty e i (.int .u8 0) ht hu hi hz ⟨g, 0, none⟩ n cap xs (by rw [hsize]; simpa using hxl) holds s (by omega) (by omega) (by rw [hby]; exact growslice_fits (by omega) (by omega))
   rw [hr] at hr2
   injection hr2 with e1 e2
   subst e1
   right; exact ⟨w.heap.size, rfl, Nat.le_refl _⟩
end
section
variable {P : Program} {ops : Array Oper} {rest : List Oper} {o : Oper} {a : Act} {Q : Exit → Act → World → Prop}
theorem R_append_str {w0 W : World} (base : Nat) (hgd : o.guard = none) (s x : Operand) (t u e : TypeId)
  (ho : o.op = .call { callee := .builtin .append, args := #[s, x], argTypes := #[t, u] })
  (ht : P.underlying t = some (.slice e)) (hu : P.underlying u = some .string) (hinfo : (P.info? e).map (fun i => (i.zero, i.size, i.bytes)) = some (some (.int .u8 0), 1, 1))
  (v : Value) (xs : List Int) (y : ByteArray) (ok : Nat → Prop) (hs : a.eval s = v) (hx : a.eval x = .string y) (hfresh : ∀ k, W.heap.size ≤ k → ok k)
  (HO : (Kd.int .u8).R e W base ok v xs) (HB : Below base w0 W) (hbase : base ≤ W.heap.size) (hl : xs.length + y.size ≤ 140737488355328)
  (h : ∀ v1 w1, (Kd.int .u8).R e w1 base ok v1 (xs ++ bytesOf y) → Below base w0 w1 → W.grownBy w1 v.ownBlock → (v1.ownBlock = v.ownBlock ∨ ∃ b, v1.ownBlock = some b ∧ W.heap.size ≤ b) → wpList P ops Q rest (a.put o.dst v1) w1) :
  wpList P ops Q (o :: rest) a W := by
 obtain ⟨i0, hi, hzz⟩ := Option.map_eq_some_iff.1 hinfo
 simp only [Prod.mk.injEq] at hzz
 obtain ⟨hz0, hz1, hz2⟩ := hzz
 have hown := Kd.own_of_R HO
 refine wpList_plain hgd fun K hK => ?_
 obtain ⟨v', w', hr, h2, h3, h5⟩ := run_append_string_at (P := P) W base t u o.type e i0 ht hu hi hz0 hz1 hz2 v xs.length (encs (Value.int .u8) xs) hown y (by simp only [maxLen]; omega) hl hbase
 unfold Oper.wp execOp
 simp only [ho, resolve, invoke, builtin, Sem.run_bind, Sem.run_pure, Result.andThen_ok, List.map_toArray, List.map_cons, List.map_nil, hs, hx, hr]
 have hc : encs (Value.int .u8) xs ++ Lib.strCells y = encs (Value.int .u8) (xs ++ bytesOf y) := by
  simp [encs, bytesOf, Lib.strCells]
 have hl2 : (xs ++ bytesOf y).length = xs.length + y.size := by rw [List.length_append, bytesOf_length]
 rw [hc, ← hl2] at h2
 refine hK _ _ (h v' w' (Kd.R_of_own (h1 := fun _ => rfl) h2 (fun k hk => ?_)) (HB.grown h3 hbase (own_base hown)) h3 h5)
 rcases h5 with h5 | ⟨b, h5, h6⟩
 ·exact HO.1 k (h5 ▸ hk)
 ·rw [h5] at hk
  cases hk
  exact hfresh _ h6
end
end Go.Proofs.YtgeddoklmcjdcaaQ
namespace Go.Proofs.YtgeddoklmcjdcaaQ
set_option linter.unusedVariables false
set_option linter.unusedSimpArgs false
def val (b : Nat) : List Nat → Nat
 | [] => 0
 | x :: l => x + b * val b l
def dig (b : Nat) : Nat → Nat → List Nat
 | 0, _ => []
 | k + 1, n => n % b :: dig b k (n / b)
theorem dig_len (b : Nat) : ∀ k n, (dig b k n).length = k
 | 0, _ => rfl
 | k + 1, n => by simp [dig, dig_len b k]
theorem dig_lt {b : Nat} (hb : 0 < b) : ∀ k n, ∀ x ∈ dig b k n, x < b
 | 0, _, x, h => by simp [dig] at h
 | k + 1, n, x, h => by
  rcases List.mem_cons.1 h with rfl | h
  ·exact Nat.mod_lt _ hb
  ·exact dig_lt hb k _ x h
theorem val_lt {b : Nat} (hb : 0 < b) : ∀ l : List Nat, (∀ x ∈ l, x < b) → val b l < b ^ l.length
 | [], _ => by simp [val]
 | x :: l, h => by
  have h1 := h x (by simp)
  have h2 := val_lt hb l (fun y hy => h y (by simp [hy]))
  have : b * (val b l + 1) ≤ b * b ^ l.length := Nat.mul_le_mul_left _ h2
  rw [List.length_cons, Nat.pow_succ, val, Nat.mul_comm (b ^ _)]
  rw [Nat.mul_add] at this
  omega
theorem val_dig (b : Nat) : ∀ k n, val b (dig b k n) = n % b ^ k
 | 0, n => by simp [dig, val, Nat.mod_one]
 | k + 1, n => by
  rw [dig, val, val_dig b k, Nat.pow_succ, Nat.mul_comm (b ^ k), Nat.mod_mul]
theorem dig_val {b : Nat} (hb : 0 < b) : ∀ l : List Nat, (∀ x ∈ l, x < b) → dig b l.length (val b l) = l
 | [], _ => rfl
 | x :: l, h => by
  have h1 := h x (by simp)
  rw [List.length_cons, dig, val, Nat.add_mul_mod_self_left, Nat.mod_eq_of_lt h1, Nat.add_mul_div_left _ _ hb, Nat.div_eq_of_lt h1, Nat.zero_add, dig_val hb l (fun y hy => h y (by simp [hy]))]
theorem dig_append (b : Nat) : ∀ k m n, dig b (k + m) n = dig b k n ++ dig b m (n / b ^ k)
 | 0, m, n => by simp [dig]
 | k + 1, m, n => by
  rw [show k + 1 + m = (k + m) + 1 by omega, dig, dig, dig_append b k, Nat.div_div_eq_div_mul, Nat.pow_succ, Nat.mul_comm b]; rfl
theorem dig_succ (b k n : Nat) : dig b (k + 1) n = dig b k n ++ [n / b ^ k % b] := by rw [dig_append]; rfl
theorem val_append (b : Nat) : ∀ l m, val b (l ++ m) = val b l + b ^ l.length * val b m
 | [], m => by simp [val]
 | x :: l, m => by
  rw [List.cons_append, val, val, val_append b l, List.length_cons, Nat.pow_succ, Nat.mul_add, Nat.mul_comm (b ^ l.length) b, Nat.mul_assoc, Nat.add_assoc]
theorem val_snoc (b : Nat) (l : List Nat) (x : Nat) : val b (l ++ [x]) = val b l + b ^ l.length * x := by rw [val_append]; simp [val]
theorem dig_get (b : Nat) : ∀ k n i, i < k → (dig b k n).getD i 0 = n / b ^ i % b
 | 0, _, _, h => by omega
 | k + 1, n, 0, _ => by simp [dig]
 | k + 1, n, i + 1, h => by
  rw [dig, List.getD_cons_succ, dig_get b k _ i (by omega), Nat.div_div_eq_div_mul, Nat.pow_succ, Nat.mul_comm b]
theorem dig_ext {b : Nat} (hb : 0 < b) {k n m : Nat} (h : n % b ^ k = m % b ^ k) : dig b k n = dig b k m := by
 have h1 := dig_val hb _ (dig_lt hb k n)
 have h2 := dig_val hb _ (dig_lt hb k m)
 rw [dig_len, val_dig] at h1 h2
 rw [← h1, ← h2, h]
def need (n : Nat) : Nat := (n + 7) / 8
theorem need_le (n : Nat) : n ≤ 8 * need n := by unfold need; omega
theorem pow8 (k : Nat) : 256 ^ k = 2 ^ (8 * k) := by rw [Nat.pow_mul]
def pk (w : Nat) (l : List Nat) : List Nat := dig 256 (need (l.length * w)) (val (2 ^ w) l)
theorem p2 (w : Nat) : 0 < 2 ^ w := Nat.pow_pos (by omega)
theorem pk_val {w : Nat} {l : List Nat} (h : ∀ x ∈ l, x < 2 ^ w) : val 256 (pk w l) = val (2 ^ w) l := by
 unfold pk
 rw [val_dig, Nat.mod_eq_of_lt]
 have h1 := val_lt (p2 w) l h
 rw [← Nat.pow_mul, Nat.mul_comm] at h1
 rw [pow8]
 exact Nat.lt_of_lt_of_le h1 (Nat.pow_le_pow_right (by omega) (need_le _))
theorem pk_len (w : Nat) (l : List Nat) : (pk w l).length = need (l.length * w) := dig_len _ _ _
theorem pk_lt (w : Nat) (l : List Nat) : ∀ x ∈ pk w l, x < 256 := dig_lt (by omega) _ _
theorem pk_small {w : Nat} {l : List Nat} (h : ∀ x ∈ l, x < 2 ^ w) : val 256 (pk w l) < 2 ^ (l.length * w) := by
 rw [pk_val h]
 have := val_lt (p2 w) l h
 rwa [← Nat.pow_mul, Nat.mul_comm] at this
theorem unpk_pk {w : Nat} {l : List Nat} (h : ∀ x ∈ l, x < 2 ^ w) : dig (2 ^ w) l.length (val 256 (pk w l)) = l := by rw [pk_val h, dig_val (p2 w) l h]
theorem pk_unpk {w n : Nat} {s : List Nat} (hs : ∀ x ∈ s, x < 256) (hl : s.length = need (n * w)) (hv : val 256 s < 2 ^ (n * w)) : pk w (dig (2 ^ w) n (val 256 s)) = s := by
 unfold pk
 rw [val_dig, dig_len, Nat.mod_eq_of_lt (by rwa [← Nat.pow_mul, Nat.mul_comm w]), ← hl, dig_val (by omega) s hs]
end Go.Proofs.YtgeddoklmcjdcaaQ
namespace Go.Proofs.YtgeddoklmcjdcaaQ
open Go.Proofs.YtgeddoklmcjdcaaW.PrintWords
set_option linter.unusedVariables false
set_option linter.unusedSimpArgs false
def ints (l : List Nat) : List Int := l.map fun x => ((x : Nat) : Int)
theorem ints_len (l : List Nat) : (ints l).length = l.length := by simp [ints]
theorem ints_app (l m : List Nat) : ints (l ++ m) = ints l ++ ints m := by simp [ints]
theorem ints_Bs {l : List Nat} (h : ∀ x ∈ l, x < 256) : Bs (ints l) := by
 intro y hy
 obtain ⟨x, hx, rfl⟩ := List.mem_map.1 hy
 have := h x hx
 omega
def wb (N h : Nat) : List Nat := dig 256 (need h) N
theorem wb_len (N h : Nat) : (wb N h).length = need h := dig_len _ _ _
theorem pow8_lt {N h : Nat} (hN : N < 2 ^ h) : N / 256 ^ (h / 8) < 2 ^ (h % 8) := by
 rw [Nat.div_lt_iff_lt_mul (Nat.pow_pos (by omega)), pow8, ← Nat.pow_add]
 have : h % 8 + 8 * (h / 8) = h := by omega
 rw [this]; exact hN
theorem wb_begin {N h : Nat} (hN : N < 2 ^ h) (ha : h % 8 = 0) : wb N h ++ [0] = dig 256 (h / 8) N ++ [N / 256 ^ (h / 8)] := by
 have h1 := pow8_lt hN
 rw [ha] at h1
 have e : need h = h / 8 := by unfold need; omega
 unfold wb
 rw [e]
 rw [show N / 256 ^ (h / 8) = 0 from Nat.lt_one_iff.1 h1]
theorem wb_mid {N h : Nat} (hN : N < 2 ^ h) (ha : h % 8 ≠ 0) : wb N h = dig 256 (h / 8) N ++ [N / 256 ^ (h / 8)] := by
 have h1 := pow8_lt hN
 have e : need h = h / 8 + 1 := by unfold need; omega
 have h2 : 2 ^ (h % 8) ≤ 2 ^ 8 := Nat.pow_le_pow_right (by omega) (by omega)
 unfold wb
 rw [e, dig_succ, Nat.mod_eq_of_lt (Nat.lt_of_lt_of_le h1 h2)]
theorem wb_put {N h v t : Nat} (hN : N < 2 ^ h) (hv : v < 2 ^ t) (ht : 0 < t) (h8 : h % 8 + t ≤ 8) : dig 256 (h / 8) N ++ [N / 256 ^ (h / 8) + v * 2 ^ (h % 8)] = wb (N + v * 2 ^ h) (h + t) := by
 have h1 := pow8_lt hN
 have e : need (h + t) = h / 8 + 1 := by unfold need; omega
 have eh : h = 8 * (h / 8) + h % 8 := by omega
 have e2 : v * 2 ^ h = (v * 2 ^ (h % 8)) * 256 ^ (h / 8) := by
  rw [pow8, Nat.mul_assoc, ← Nat.pow_add]; congr 2; omega
 have hp : 0 < 256 ^ (h / 8) := Nat.pow_pos (by omega)
 have e3 : (N + v * 2 ^ h) / 256 ^ (h / 8) = N / 256 ^ (h / 8) + v * 2 ^ (h % 8) := by rw [e2, Nat.add_mul_div_right _ _ hp]
 have h3 : (v + 1) * 2 ^ (h % 8) ≤ 2 ^ t * 2 ^ (h % 8) := Nat.mul_le_mul_right _ hv
 have h4 : 2 ^ t * 2 ^ (h % 8) ≤ 2 ^ 8 := by rw [← Nat.pow_add]; exact Nat.pow_le_pow_right (by omega) (by omega)
 rw [Nat.succ_mul] at h3
 have hlt : N / 256 ^ (h / 8) + v * 2 ^ (h % 8) < 256 := by
  generalize v * 2 ^ (h % 8) = x at *
  generalize N / 256 ^ (h / 8) = y at *
  generalize 2 ^ t * 2 ^ (h % 8) = z at *
  generalize 2 ^ (h % 8) = u at *
  omega
 unfold wb
 rw [e, dig_succ, e3, Nat.mod_eq_of_lt hlt]
 congr 1
 exact dig_ext (by omega) (by rw [e2, Nat.add_mul_mod_self_right])
theorem wb_small {N h v t : Nat} (hN : N < 2 ^ h) (hv : v < 2 ^ t) : N + v * 2 ^ h < 2 ^ (h + t) := by
 rw [Nat.pow_add, Nat.mul_comm (2 ^ h)]
 have : (v + 1) * 2 ^ h ≤ 2 ^ t * 2 ^ h := Nat.mul_le_mul_right _ hv
 rw [Nat.succ_mul] at this
 omega
theorem mod_step (n d t : Nat) : n % 2 ^ d + (n / 2 ^ d % 2 ^ t) * 2 ^ d = n % 2 ^ (d + t) := by
 rw [Nat.pow_add, Nat.mod_mul, Nat.mul_comm (2 ^ d)]
theorem div_step (n d t : Nat) : n / 2 ^ d / 2 ^ t = n / 2 ^ (d + t) := by rw [Nat.div_div_eq_div_mul, ← Nat.pow_add]
theorem and_mask (p t : Nat) (hp : p < 18446744073709551616) (ht : t ≤ 63) : Go.bits .and .u64 (p : Int) ((2 ^ t - 1 : Nat) : Int) = ((p % 2 ^ t : Nat) : Int) := by
 have h1 : 2 ^ t ≤ 2 ^ 63 := Nat.pow_le_pow_right (by omega) ht
 have := Go.u64_and_nat p (2 ^ t - 1) hp (by omega)
 rw [Nat.and_two_pow_sub_one_eq_mod] at this
 exact this
theorem or_byte (x v a : Nat) (hx : x < 2 ^ a) (ha : a ≤ 8) (hs : x + v * 2 ^ a < 256) : Go.bits .or .u8 (x : Int) ((v * 2 ^ a : Nat) : Int) = ((x + v * 2 ^ a : Nat) : Int) := by
 have h1 : 2 ^ a ≤ 2 ^ 8 := Nat.pow_le_pow_right (by omega) ha
 have := Go.u8_or_nat x (v * 2 ^ a) (by omega) (by omega)
 rw [this, Nat.or_comm, Go.nat_join a _ _ (Nat.mul_mod_left _ _) hx, Nat.add_comm]
theorem u8_nat {x : Nat} (h : x < 256) : IntKind.u8.wrap (x : Int) = (x : Int) := by simp only [IntKind.wrap, IntKind.bits, IntKind.signed]; simp; omega
theorem u64_nat {x : Nat} (h : x < 18446744073709551616) : IntKind.u64.wrap (x : Int) = (x : Int) := by simp only [IntKind.wrap, IntKind.bits, IntKind.signed]; simp; omega
def natsOf (S : ByteArray) : List Nat := S.data.toList.map UInt8.toNat
theorem natsOf_lt (S : ByteArray) : ∀ x ∈ natsOf S, x < 256 := by
 intro x hx
 obtain ⟨b, _, rfl⟩ := List.mem_map.1 hx
 exact UInt8.toNat_lt b
theorem natsOf_len (S : ByteArray) : (natsOf S).length = S.size := by simp [natsOf]
theorem ints_natsOf (S : ByteArray) : ints (natsOf S) = bytesOf S := by simp [ints, natsOf, bytesOf, Function.comp_def]
def num (S : ByteArray) : Nat := val 256 (natsOf S)
def byt (S : ByteArray) (j : Nat) : Nat := (natsOf S).getD j 0
theorem byt_lt (S : ByteArray) (j : Nat) : byt S j < 256 := by
 unfold byt
 rw [List.getD_eq_getElem?_getD]
 cases h : (natsOf S)[j]? with
 | none => simp
 | some x => exact natsOf_lt S x (List.mem_of_getElem? h)
theorem byt_at (S : ByteArray) (j : Nat) : ∀ h : j < S.size, (((S[j]'h).toNat : Nat) : Int) = ((byt S j : Nat) : Int) := by
 intro h
 have hs : j < S.data.toList.length := by simpa using h
 unfold byt natsOf
 rw [List.getD_eq_getElem?_getD, List.getElem?_map, List.getElem?_eq_getElem hs]
 rfl
theorem num_byte (S : ByteArray) (j : Nat) (h : j < S.size) : byt S j = num S / 256 ^ j % 256 := by
 have h1 := dig_val (b := 256) (by omega) (natsOf S) (natsOf_lt S)
 have h2 := dig_get 256 (natsOf S).length (num S) j (by rw [natsOf_len]; exact h)
 unfold byt
 rw [← h2]; unfold num; rw [h1]
theorem num_lt (S : ByteArray) : num S < 2 ^ (8 * S.size) := by
 have := val_lt (b := 256) (by omega) (natsOf S) (natsOf_lt S)
 rwa [pow8, natsOf_len] at this
theorem mod_part (x a t : Nat) (h : a + t ≤ 8) : x % 256 / 2 ^ a % 2 ^ t = x / 2 ^ a % 2 ^ t := by
 have e : 256 = 2 ^ a * (2 ^ t * 2 ^ (8 - a - t)) := by rw [← Nat.pow_add, ← Nat.pow_add, show a + (t + (8 - a - t)) = 8 by omega]
 rw [e, Nat.mod_mul_right_div_self, Nat.mod_mul_right_mod]
theorem or_u64 (x v d : Nat) (hx : x < 2 ^ d) (hs : v * 2 ^ d + x < 18446744073709551616) : Go.bits .or .u64 (x : Int) ((v * 2 ^ d : Nat) : Int) = ((x + v * 2 ^ d : Nat) : Int) := by
 have := Go.u64_or_nat x (v * 2 ^ d) (by omega) (by omega)
 rw [this, Nat.or_comm, Go.nat_join d _ _ (Nat.mul_mod_left _ _) hx, Nat.add_comm]
end Go.Proofs.YtgeddoklmcjdcaaQ
namespace Go.Proofs.Ytgeddoklmcjdcaa.G
open Go.RowKit Go.Proofs.YtgeddoklmcjdcaaQ Go.Proofs.YtgeddoklmcjdcaaW.PrintWords Go.Proofs.YtgeddoklmcjdcaaW.PrintLast Go.Proofs.YtgeddoklmcjdcaaW.PrintMore
attribute [local go_sem] max2_int min2_int max_two min_two max_three min_three max_four min_four
set_option linter.unusedVariables false
set_option linter.unusedSimpArgs false
def OwnB (w0 W : World) (g : Nat) (v : Value) (l : List Int) : Prop := (Kd.int .u8).R 5 W w0.heap.size (fun k => k ≠ g) v l
def WR (w0 W : World) (g : Nat) (l : List Int) (h : Nat) : Prop := ∃ v, W.heap[g]? = some (.cells #[v, .int .i64 (h : Int)] 92 (0, 0)) ∧ w0.heap.size ≤ g ∧ OwnB w0 W g v l
theorem infoB : (Try.prog.info? 5).map (fun i => (i.zero, i.size, i.bytes)) = some (some (.int .u8 0), 1, 1) := by kernel_rfl
theorem WR.drewN {w0 W : World} {g h : Nat} {l : List Int} (hw : WR w0 W g l h) (n : Nat) : WR w0 (W.drewN n) g l h := by
 obtain ⟨v, h1, h2, h3⟩ := hw
 exact ⟨v, h1, h2, Kd.R_drewN h3 n⟩
theorem WR.drew {w0 W : World} {g h : Nat} {l : List Int} (hw : WR w0 W g l h) : WR w0 W.drew g l h := by
 obtain ⟨v, h1, h2, h3⟩ := hw
 exact ⟨v, h1, h2, Kd.R_drew h3⟩
theorem WR.below {w0 W W' : World} {g h : Nat} {l : List Int} (hw : WR w0 W g l h) (hb : Below W.heap.size W W') : WR w0 W' g l h := by
 obtain ⟨v, h1, h2, h3⟩ := hw
 exact ⟨v, (hb.block g (blk_lt h1)).trans h1, h2, Kd.R_below h3 hb⟩
def Mid (w0 W : World) (g : Nat) (L : List Nat) (old h : Nat) : Prop := ∃ b cap, W.heap[g]? = some (.cells #[.slice (some ⟨b, 0, none⟩) (L.length + 1) cap, .int .i64 (h : Int)] 92 (0, 0)) ∧ w0.heap.size ≤ g ∧ OwnB w0 W g (.slice (some ⟨b, 0, none⟩) (L.length + 1) cap) (ints (L ++ [old]))
theorem OwnB.slice {w0 W : World} {g : Nat} {v : Value} {l : List Int} (h : OwnB w0 W g v l) (h0 : 0 < l.length) : ∃ b cap, v = .slice (some ⟨b, 0, none⟩) l.length cap := by
 obtain ⟨b, cap, e, _⟩ := Kd.R_form h h0
 exact ⟨b, cap, e⟩
theorem OwnB.ne {w0 W : World} {g : Nat} {v : Value} {l : List Int} (h : OwnB w0 W g v l) : some g ≠ v.ownBlock := Kd.R_away h (fun _ hk => hk)
theorem OwnB.ne' {w0 W : World} {g b n cap : Nat} {l : List Int} (h : OwnB w0 W g (.slice (some ⟨b, 0, none⟩) n cap) l) : g ≠ b := fun e => h.ne (by rw [e]; rfl)
theorem OwnB.fresh {w0 W : World} {g : Nat} {v : Value} {l : List Int} (h : OwnB w0 W g v l) (hg : g < W.heap.size) : ∀ k, W.heap.size ≤ k → k ≠ g := fun k hk e => by omega
theorem Mid.of_begin {w0 W w1 : World} {g h : Nat} {v v5 : Value} {l : List Nat} (h1 : W.heap[g]? = some (.cells #[v, .int .i64 (h : Int)] 92 (0, 0))) (h2 : w0.heap.size ≤ g) (ho : OwnB w0 w1 g v5 (ints (l ++ [0]))) (hg : W.grownBy w1 v.ownBlock) (hne : some g ≠ v.ownBlock) {M : Nat} (e : l ++ [0] = dig 256 (h / 8) M ++ [M / 256 ^ (h / 8)]) :
  Mid w0 (w1.setCell ⟨g, 0, none⟩ v5) g (dig 256 (h / 8) M) (M / 256 ^ (h / 8)) h := by
 rw [e] at ho
 obtain ⟨b, cap, rfl⟩ := ho.slice (by simp [ints])
 have hl : (ints (dig 256 (h / 8) M ++ [M / 256 ^ (h / 8)])).length = (dig 256 (h / 8) M).length + 1 := by simp [ints]
 have hb := blk_set (blk_grown h1 hg hne) 0 (.slice (some ⟨b, 0, none⟩) (ints (dig 256 (h / 8) M ++ [M / 256 ^ (h / 8)])).length cap)
 rw [hl] at hb ho ⊢
 exact ⟨b, cap, hb, h2, Kd.R_far ho (fun _ hk => hk) _⟩
theorem WR.mid {w0 W : World} {g h M : Nat} (hw : WR w0 W g (ints (wb M h)) h) (e : wb M h = dig 256 (h / 8) M ++ [M / 256 ^ (h / 8)]) : Mid w0 W g (dig 256 (h / 8) M) (M / 256 ^ (h / 8)) h := by
 obtain ⟨v, h1, h2, ho⟩ := hw
 rw [e] at ho
 obtain ⟨b, cap, rfl⟩ := ho.slice (by simp [ints])
 have hl : (ints (dig 256 (h / 8) M ++ [M / 256 ^ (h / 8)])).length = (dig 256 (h / 8) M).length + 1 := by simp [ints]
 rw [hl] at h1 ho
 exact ⟨b, cap, h1, h2, ho⟩
theorem ints_set (L : List Nat) (x y : Nat) : (ints (L ++ [x])).set (Int.toNat ((L.length : Nat) : Int)) ((y : Nat) : Int) = ints (L ++ [y]) := by
 rw [Int.toNat_natCast, ints_app, ints_app, List.set_append_right _ _ (by simp [ints])]
 simp [ints]
theorem Mid.put {w0 W : World} {g h b cap t : Nat} {L : List Nat} {old nw : Nat} (h1 : W.heap[g]? = some (.cells #[.slice (some ⟨b, 0, none⟩) (L.length + 1) cap, .int .i64 (h : Int)] 92 (0, 0))) (h2 : w0.heap.size ≤ g) (ho : OwnB w0 W g (.slice (some ⟨b, 0, none⟩) (L.length + 1) cap) (ints (L ++ [old]))) :
  WR w0 ((W.setCell ⟨b, L.length, none⟩ (.int .u8 (nw : Int))).setCell ⟨g, 1, none⟩ (.int .i64 ((h : Int) + (t : Int)))) g (ints (L ++ [nw])) (h + t) := by
 have hp := Kd.R_putn ho ((L.length : Nat) : Int) ((nw : Nat) : Int)
 rw [ints_set, Int.toNat_natCast] at hp
 have hgb := ho.ne'
 have e : ((h : Int) + (t : Int)) = ((h + t : Nat) : Int) := by omega
 rw [e]
 refine ⟨.slice (some ⟨b, 0, none⟩) (L.length + 1) cap, ?_, h2, Kd.R_far hp (fun _ hk => hk) _⟩
 have hx := blk_set (blk_far h1 (p := ⟨b, L.length, none⟩) hgb (.int .u8 (nw : Int))) 1 (.int .i64 ((h + t : Nat) : Int))
 exact hx
theorem Mid.below {w0 W : World} {g b cap n : Nat} {l : List Int} {L : List Nat} {nw : Nat} {u : Value} (hB : Below w0.heap.size w0 W) (h2 : w0.heap.size ≤ g) (ho : OwnB w0 W g (.slice (some ⟨b, 0, none⟩) n cap) l) :
  Below w0.heap.size w0 ((W.setCell ⟨b, L.length, none⟩ (.int .u8 (nw : Int))).setCell ⟨g, 1, none⟩ u) := by
 have hb : w0.heap.size ≤ b := Kd.R_base ho b rfl
 exact below_set (below_set hB hb) h2
set_option maxHeartbeats 4000000 in
set_option maxRecDepth 100000 in
theorem put_calls {w0 w : World} {g : Nat} {N b0 : Nat} (n q0 : Nat) (hN : N < 2 ^ b0) (hn : n < 18446744073709551616) (hq : q0 ≤ 64) (hh : b0 + q0 ≤ 1125899906842560) (hW : WR w0 w g (ints (wb N b0)) b0) (hB : Below w0.heap.size w0 w) :
  Calls Try.prog 70 #[.pointer (some ⟨g, 0, none⟩), .int .u64 (n : Int), .int .i64 (q0 : Int)] w fun e w' => e = .returned (.tuple #[]) ∧ WR w0 w' g (ints (wb (N + n % 2 ^ q0 * 2 ^ b0) (b0 + q0))) (b0 + q0) ∧ Below w0.heap.size w0 w' := by
 have HW := Aside0.mk hW; have HB := Aside0.mk hB; have HNN := Aside0.mk hN
 clear hW hB hN
 go_enter Try.func70, Try.ntmps70
 go_wp2_with fail
 go_loopg [1, 2] q0 (fun gq s1 s2 wx => ∃ d q : Nat, d + q = q0 ∧ gq = q ∧ s1 = .int .u64 ((n / 2 ^ d : Nat) : Int) ∧ s2 = .int .i64 (q : Int) ∧ Aside0 (WR w0 wx g (ints (wb (N + n % 2 ^ d * 2 ^ b0) (b0 + d))) (b0 + d)) ∧ Aside0 (Below w0.heap.size w0 wx))
 case atStart => exact ⟨0, q0, by omega, rfl, by simp, rfl, by simpa [Nat.mod_one] using HW, HB⟩
 case round =>
  obtain ⟨d, q, hdq, rfl, rfl, rfl, HW, HB⟩ := hrel
  by_cases hlt : 0 < gk
  ·have k2 : decide ((0 : Int) < (gk : Int)) = true := decide_eq_true (by omega)
   have k2' : decide (0 < gk) = true := decide_eq_true hlt
   have hML := wb_small HNN.out (Nat.mod_lt n (p2 d))
   have hpl : n / 2 ^ d < 18446744073709551616 := Nat.lt_of_le_of_lt (Nat.div_le_self _ _) hn
   have HF : Aside0 (∀ t, (N + n % 2 ^ d * 2 ^ b0) + n / 2 ^ d % 2 ^ t * 2 ^ (b0 + d) = N + n % 2 ^ (d + t) * 2 ^ b0) := ⟨fun t => by
    rw [← mod_step n d t, Nat.add_mul, Nat.add_assoc, Nat.mul_assoc (n / 2 ^ d % 2 ^ t), ← Nat.pow_add, Nat.add_comm d b0]⟩
   have HS := Aside0.mk (fun t => div_step n d t)
   obtain ⟨M, hM⟩ : ∃ M, N + n % 2 ^ d * 2 ^ b0 = M := ⟨_, rfl⟩
   obtain ⟨p, hp⟩ : ∃ p, n / 2 ^ d = p := ⟨_, rfl⟩
   obtain ⟨H, hH⟩ : ∃ H, b0 + d = H := ⟨_, rfl⟩
   rw [hM, hp, hH] at HF
   rw [hM, hH] at HW
   rw [hM, hH] at hML
   simp only [hp] at HS
   rw [hp] at hpl ⊢
   have HH := Aside0.mk hH
   have hHl : H ≤ 1125899906842560 := by omega
   obtain ⟨a, ha⟩ : ∃ a, H % 8 = a := ⟨_, rfl⟩
   obtain ⟨t, ht⟩ : ∃ t, min gk (8 - a) = t := ⟨_, rfl⟩
   have ha8 : a < 8 := by omega
   have ht0 : 0 < t := by omega
   have htq : t ≤ gk := by omega
   have hat : a + t ≤ 8 := by omega
   have hPT := wb_put hML (Nat.mod_lt p (p2 t)) ht0 (show H % 8 + t ≤ 8 by omega)
   have hold := pow8_lt hML
   have hBE : H % 8 = 0 → wb M H ++ [0] = dig 256 (H / 8) M ++ [M / 256 ^ (H / 8)] := wb_begin hML
   have hMI : H % 8 ≠ 0 → wb M H = dig 256 (H / 8) M ++ [M / 256 ^ (H / 8)] := wb_mid hML
   rw [ha] at hold hPT hBE hMI
   have HBE := Aside0.mk hBE; have HMI := Aside0.mk hMI; clear hBE hMI
   have hv : p % 2 ^ t < 2 ^ t := Nat.mod_lt _ (p2 t)
   have hT : 2 ^ t ≤ 2 ^ 8 := Nat.pow_le_pow_right (by omega) (by omega)
   have hT1 : 1 ≤ 2 ^ t := p2 t
   have hA : 2 ^ a ≤ 2 ^ 8 := Nat.pow_le_pow_right (by omega) (by omega)
   have hs : (p % 2 ^ t + 1) * 2 ^ a ≤ 2 ^ 8 := by
    have h1 : (p % 2 ^ t + 1) * 2 ^ a ≤ 2 ^ t * 2 ^ a := Nat.mul_le_mul_right _ hv
    have h2 : 2 ^ t * 2 ^ a ≤ 2 ^ 8 := by rw [← Nat.pow_add]; exact Nat.pow_le_pow_right (by omega) (by omega)
    omega
   rw [Nat.succ_mul] at hs
   have hs2 : M / 256 ^ (H / 8) + p % 2 ^ t * 2 ^ a < 256 := by omega
   have kand : Go.bits .and .u64 (p : Int) (((2 ^ t : Nat) : Int) - 1) = ((p % 2 ^ t : Nat) : Int) := by
    have := and_mask p t hpl (by omega)
    have e : ((2 ^ t - 1 : Nat) : Int) = ((2 ^ t : Nat) : Int) - 1 := by omega
    rwa [e] at this
   have kor := or_byte (M / 256 ^ (H / 8)) (p % 2 ^ t) a hold (by omega) hs2
   have kshl : IntKind.u8.wrap (((p % 2 ^ t : Nat) : Int) * 2 ^ a) = ((p % 2 ^ t * 2 ^ a : Nat) : Int) := by
    have e : ((p % 2 ^ t : Nat) : Int) * 2 ^ a = ((p % 2 ^ t * 2 ^ a : Nat) : Int) := by simp
    rw [e]; exact u8_nat (Nat.lt_of_le_of_lt (Nat.le_add_left _ _) hs2)
   have kT1 : IntKind.u64.wrap (2 ^ t) = ((2 ^ t : Nat) : Int) := by
    have e : (2 : Int) ^ t = ((2 ^ t : Nat) : Int) := by simp
    rw [e]; exact u64_nat (by omega)
   have kshr : ((p : Int) / 2 ^ t) = ((p / 2 ^ t : Nat) : Int) := by simp
   have m1 : min t 64 = t := by omega
   have m2 : min a 8 = a := by omega
   have kT2 : IntKind.u64.wrap (2 ^ min t 64) = ((2 ^ t : Nat) : Int) := by rw [m1]; exact kT1
   have kshl2 : IntKind.u8.wrap (((p % 2 ^ t : Nat) : Int) * 2 ^ min a 8) = ((p % 2 ^ t * 2 ^ a : Nat) : Int) := by rw [m2]; exact kshl
   have kshr2 : ((p : Int) / 2 ^ min t 64) = ((p / 2 ^ t : Nat) : Int) := by rw [m1]; exact kshr
   have HP2 := Aside0.mk (HS.out t)
   clear HS m1 m2
   obtain ⟨T, hTT⟩ : ∃ T, 2 ^ t = T := ⟨_, rfl⟩
   obtain ⟨v, hvv⟩ : ∃ v, p % 2 ^ t = v := ⟨_, rfl⟩
   obtain ⟨s, hss⟩ : ∃ s, p % 2 ^ t * 2 ^ a = s := ⟨_, rfl⟩
   obtain ⟨pp, hpp⟩ : ∃ pp, p / 2 ^ t = pp := ⟨_, rfl⟩
   obtain ⟨old, hoo⟩ : ∃ old, M / 256 ^ (H / 8) = old := ⟨_, rfl⟩
   have HFt := Aside0.mk (HF.out t)
   rw [hss] at kor kshl kshl2 hs2
   rw [hvv] at kshl kshl2 kand HFt
   rw [hpp] at kshr kshr2 HP2
   rw [hTT] at kand kT1 kT2 hT hT1
   rw [hoo] at kor hs2
   have HPT := Aside0.mk hPT; clear hPT
   rw [hss, hvv, hoo] at HPT
   have hvb : v < 256 := by rw [← hvv]; omega
   have hsb : s < 256 := by omega
   have k1 : ((H : Int) % 8) = (a : Int) := by omega
   have kmin : (if (8 - (a : Int)) < (gk : Int) then (8 - (a : Int)) else (gk : Int)) = (t : Int) := by split <;> omega
   have kv : IntKind.u8.wrap (v : Int) = (v : Int) := u8_nat hvb
   have hgk : gk ≤ 64 := by omega
   have HHL := Aside0.mk hHl
   have HDQ := Aside0.mk hdq
   clear hM hp hH hdq hML hold hv hA hs HF hTT hvv hss hpp hHl
   have HO := Aside0.mk hoo; clear hoo
   have HA := Aside0.mk ha; have HT := Aside0.mk ht; clear ha ht
   obtain ⟨vv, hh1, hh2, hho⟩ := HW.out
   clear HW
   have c0 : wr.cell? ⟨g, 0, none⟩ = some vv := (blk_cell hh1 0).trans rfl
   have c1 : wr.cell? ⟨g, 1, none⟩ = some (.int .i64 (H : Int)) := (blk_cell hh1 1).trans rfl
   have f0 := blk_frozen hh1 0
   have HG1 := Aside0.mk hh1; have HG2 := Aside0.mk hh2; have HGO := Aside0.mk hho
   clear hh1 hh2 hho
   go_upto_if 15 with (fail)
   go_cut [] (fun wc => Aside0 (Mid w0 wc g (dig 256 (H / 8) M) old H) ∧ Aside0 (Below w0.heap.size w0 wc))
   case first =>
    by_cases ha0 : a = 0
    ·have t1 : ((a : Int) == 0) = true := by rw [beq_iff_eq]; omega
     have HA0 := Aside0.mk ha0; clear ha0
     go_wp2_with ((with_reducible refine gate_builtin (b := .append) (xs := #[.tmp 20, .tmp 21]) rfl ?_); at_builtin; refine Kd.R_append (Kd.int .u8) (w0 := w0) w0.heap.size rfl (.tmp 20) (.tmp 21) 38 5 (.int .u8 0) 1 rfl Try.underlying38 infoB rfl (by decide) (by omega) vv (ints (wb M H)) 0 [.int .u8 0] (fun k => k ≠ g) (fun _ => False) rfl rfl ?aP (fun _ hk => hk.elim) ?aF ?aO ?aB ?aS ?aL ?_; (case aP => exact rfl); (case aB => exact HB.out); (case aF => exact OwnB.fresh HGO.out (blk_lt HG1.out)); (case aO => exact HGO.out); (case aS => exact HB.out.size); (case aL => have := HHL.out; rw [ints_len, wb_len]; unfold need; omega); intro v5 w5 ho hb hg hat; obtain ⟨A5, n5, e5⟩ := Kd.R_slice ho; subst e5; have c5 : w5.cell? ⟨g, 0, none⟩ = some vv := (blk_cell (blk_grown HG1.out hg HGO.out.ne) 0).trans rfl; have f5 := blk_frozen (blk_grown HG1.out hg HGO.out.ne) 0; clear c0 f0; have HO5 := Aside0.mk ho; have HB5 := Aside0.mk hb; have HG5 := Aside0.mk hg; clear ho hb hg hat)
     go_meet
     case rel =>
      have h := HO5.out
      have e : (ints (wb M H ++ [0])).length = (ints (wb M H)).length + 1 := by simp [ints]
      rw [show ints (wb M H) ++ [0] = ints (wb M H ++ [0]) from (ints_app (wb M H) [0]).symm, e] at h
      exact ⟨⟨by rw [← HO.out]; exact Mid.of_begin HG1.out HG2.out h HG5.out HGO.out.ne (HBE.out HA0.out)⟩, ⟨below_set HB5.out HG2.out⟩⟩
    ·have t1 : ((a : Int) == 0) = false := by rw [beq_eq_false_iff_ne]; omega
     have HA0 := Aside0.mk ha0; clear ha0
     go_wp2_with (fail)
     go_meet
     case rel => exact ⟨⟨by rw [← HO.out]; exact WR.mid ⟨vv, HG1.out, HG2.out, HGO.out⟩ (HMI.out HA0.out)⟩, HB⟩
   case rest =>
    clear HB HG1 HG2 HGO c0 c1 f0 HBE HMI
    obtain ⟨HM, HB⟩ := hcut
    obtain ⟨b, cap, hh1, hh2, hho⟩ := HM.out
    clear HM
    have hcb := Kd.R_celln (0 : Int) hho (((dig 256 (H / 8) M).length : Nat) : Int) (by omega) (by omega)
    have hrd : rdOf (0 : Int) (ints (dig 256 (H / 8) M ++ [old])) (((dig 256 (H / 8) M).length : Nat) : Int) = (old : Int) := by
     unfold rdOf
     rw [Int.toNat_natCast, ints_app, List.getD_eq_getElem?_getD, List.getElem?_append_right (by simp [ints])]
     simp [ints]
    rw [hrd, Int.toNat_natCast] at hcb
    obtain ⟨cb, fb⟩ := hcb
    have hne := hho.ne'
    have c0 : wc.cell? ⟨g, 0, none⟩ = some (.slice (some ⟨b, 0, none⟩) ((dig 256 (H / 8) M).length + 1) cap) := (blk_cell hh1 0).trans rfl
    have c1 : wc.cell? ⟨g, 1, none⟩ = some (.int .i64 (H : Int)) := (blk_cell hh1 1).trans rfl
    have f1 := blk_frozen hh1 1
    have hlm : (dig 256 (H / 8) M).length ≤ 140737488355328 := by rw [dig_len]; have := HHL.out; omega
    have HP := Aside0.mk (fun nw : Nat => Mid.put (t := t) (nw := nw) hh1 hh2 hho)
    have HB2 := Aside0.mk (fun (nw : Nat) (u : Value) => Mid.below (L := dig 256 (H / 8) M) (nw := nw) (u := u) HB.out hh2 hho)
    clear hrd hh1 hh2 hho
    obtain ⟨m, hm⟩ : ∃ m, (dig 256 (H / 8) M).length = m := ⟨_, rfl⟩
    rw [hm] at cb fb c0 hlm HP HB2
    have HM := Aside0.mk hm; clear hm
    have hHl2 := HHL.out
    have i1 : (0 : Int) ≤ (m : Int) := by omega
    have i2 : (m : Int) < (m : Int) + 1 := by omega
    go_wp2
    go_region
    go_wp2
    go_roundg (gk - t)
    case measure => have := HT.out; omega
    case rel =>
     have hw := HP.out (old + s)
     rw [HPT.out, HFt.out] at hw
     have e : H + t = b0 + (d + t) := by have := HH.out; omega
     have e2 : ((old + s : Nat) : Int) = (old : Int) + (s : Int) := by omega
     have hb2 := HB2.out (old + s) (.int .i64 ((H : Int) + (t : Int)))
     rw [e2] at hb2
     rw [e, e2] at hw
     have hd := HDQ.out
     have e3 : ((gk : Int) - (t : Int)) = ((gk - t : Nat) : Int) := (Int.ofNat_sub htq).symm
     clear kmin
     exact ⟨d + t, gk - t, by clear k1 kT1 kT2 kand kor kshl kshl2 kshr kshr2 kv; omega, rfl, by rw [HP2.out], by rw [e3], ⟨hw.drew⟩, ⟨below_drew hb2⟩⟩
  ·have e : d = q0 := by omega
   have k2 : decide ((0 : Int) < (gk : Int)) = false := decide_eq_false (by omega)
   have k2' : decide (0 < gk) = false := decide_eq_false hlt
   subst e
   clear hlt hdq
   go_wp2
   go_end0
   exact ⟨rfl, HW.out, HB.out⟩
end Go.Proofs.Ytgeddoklmcjdcaa.G
namespace Go.Proofs.Ytgeddoklmcjdcaa.G
open Go.RowKit Go.Proofs.YtgeddoklmcjdcaaQ Go.Proofs.YtgeddoklmcjdcaaW.PrintWords Go.Proofs.YtgeddoklmcjdcaaW.PrintLast Go.Proofs.YtgeddoklmcjdcaaW.PrintMore
attribute [local go_sem] max2_int min2_int max_two min_two max_three min_three max_four min_four
set_option linter.unusedVariables false
set_option linter.unusedSimpArgs false
def RD (w0 W : World) (g : Nat) (S : ByteArray) (a : Nat) : Prop := W.heap[g]? = some (.cells #[.string S, .int .i64 (a : Int)] 97 (0, 0)) ∧ w0.heap.size ≤ g
theorem RD.below {w0 W W' : World} {g a : Nat} {S : ByteArray} (h : RD w0 W g S a) (hb : Below W.heap.size W W') : RD w0 W' g S a := ⟨(hb.block g (blk_lt h.1)).trans h.1, h.2⟩
theorem RD.keep {w0 W W' : World} {g a : Nat} {S : ByteArray} {row : Option Nat} (h : RD w0 W g S a) (hg : W.grownBy W' row) (hne : some g ≠ row) : RD w0 W' g S a := ⟨blk_grown h.1 hg hne, h.2⟩
theorem RD.set1 {w0 W : World} {g a b : Nat} {S : ByteArray} (h : RD w0 W g S a) : RD w0 (W.setCell ⟨g, 1, none⟩ (.int .i64 (b : Int))) g S b := ⟨blk_set h.1 1 _, h.2⟩
set_option maxHeartbeats 4000000 in
set_option maxRecDepth 100000 in
theorem get_calls {w0 w : World} {g : Nat} {S : ByteArray} (a0 q0 : Nat) (hS : S.size ≤ 140737488355328) (hq : q0 ≤ 64) (hs : a0 + q0 ≤ 8 * S.size) (hR : RD w0 w g S a0) (hB : Below w0.heap.size w0 w) :
  Calls Try.prog 72 #[.pointer (some ⟨g, 0, none⟩), .int .i64 (q0 : Int)] w fun e w' => e = .returned (.int .u64 ((num S / 2 ^ a0 % 2 ^ q0 : Nat) : Int)) ∧ RD w0 w' g S (a0 + q0) ∧ Below w0.heap.size w0 w' ∧ KeepBut w w' g none := by
 have HR := Aside0.mk hR; have HB := Aside0.mk hB
 clear hR hB
 go_enter Try.func72, Try.ntmps72
 go_wp2_with fail
 go_loopg [5, 6] q0 (fun gq s5 s6 wx => ∃ d : Nat, d ≤ q0 ∧ gq = q0 - d ∧ s5 = .int .u64 ((num S / 2 ^ a0 % 2 ^ d : Nat) : Int) ∧ s6 = .int .i64 (d : Int) ∧ Aside0 (RD w0 wx g S (a0 + d)) ∧ Aside0 (Below w0.heap.size w0 wx) ∧ Aside0 (KeepBut w wx g none))
 case atStart => exact ⟨0, by omega, by omega, by simp [Nat.mod_one], rfl, HR, HB, ⟨KeepBut.refl _ _ _⟩⟩
 case round =>
  clear HR HB
  obtain ⟨d, hd, rfl, rfl, rfl, HR, HB, HK⟩ := hrel
  by_cases hlt : d < q0
  ·have k2 : decide ((d : Int) < (q0 : Int)) = true := decide_eq_true (by omega)
   have k2' : decide (d < q0) = true := decide_eq_true hlt
   have HF : Aside0 (∀ t, num S / 2 ^ a0 % 2 ^ d + num S / 2 ^ (a0 + d) % 2 ^ t * 2 ^ d = num S / 2 ^ a0 % 2 ^ (d + t)) := ⟨fun t => by
    rw [← div_step]; exact mod_step _ d t⟩
   have hn : num S / 2 ^ a0 % 2 ^ d < 2 ^ d := Nat.mod_lt _ (p2 d)
   obtain ⟨A, hA⟩ : ∃ A, a0 + d = A := ⟨_, rfl⟩
   have hbyte := num_byte S (A / 8) (by omega)
   have hbt := byt_at S (A / 8)
   rw [hA] at HF HR
   have HAA := Aside0.mk hA
   obtain ⟨a, ha⟩ : ∃ a, A % 8 = a := ⟨_, rfl⟩
   obtain ⟨t, ht⟩ : ∃ t, min (q0 - d) (8 - a) = t := ⟨_, rfl⟩
   have ha8 : a < 8 := by omega
   have ht0 : 0 < t := by omega
   have htq : t ≤ q0 - d := by omega
   have hat : a + t ≤ 8 := by omega
   have hpart : byt S (A / 8) / 2 ^ a % 2 ^ t = num S / 2 ^ A % 2 ^ t := by
    rw [hbyte]
    have e1 : A = 8 * (A / 8) + a := by omega
    have e2 : num S / 2 ^ A = num S / 256 ^ (A / 8) / 2 ^ a := by rw [pow8, Nat.div_div_eq_div_mul, ← Nat.pow_add, ← e1]
    rw [e2]
    exact mod_part _ a t hat
   obtain ⟨j, hj⟩ : ∃ j, A / 8 = j := ⟨_, rfl⟩
   rw [hj] at hpart hbt
   have hjl : j < S.size := by omega
   have hBl : byt S j < 256 := byt_lt S j
   obtain ⟨B, hBB⟩ : ∃ B, byt S j = B := ⟨_, rfl⟩
   rw [hBB] at hpart hbt hBl
   have HFt := Aside0.mk (HF.out t)
   have hT : 2 ^ t ≤ 2 ^ 8 := Nat.pow_le_pow_right (by omega) (by omega)
   have hT1 : 1 ≤ 2 ^ t := p2 t
   have hc : B / 2 ^ a < 256 := Nat.lt_of_le_of_lt (Nat.div_le_self _ _) hBl
   have kshr : ((B : Int) / 2 ^ a) = ((B / 2 ^ a : Nat) : Int) := by simp
   have m2 : min a 8 = a := by omega
   have kshr2 : ((B : Int) / 2 ^ min a 8) = ((B / 2 ^ a : Nat) : Int) := by rw [m2]; exact kshr
   have kc : IntKind.u64.wrap ((B / 2 ^ a : Nat) : Int) = ((B / 2 ^ a : Nat) : Int) := u64_nat (by omega)
   have hv : B / 2 ^ a % 2 ^ t < 2 ^ t := Nat.mod_lt _ (p2 t)
   have kand : Go.bits .and .u64 ((B / 2 ^ a : Nat) : Int) (((2 ^ t : Nat) : Int) - 1) = ((B / 2 ^ a % 2 ^ t : Nat) : Int) := by
    have := and_mask (B / 2 ^ a) t (by omega) (by omega)
    have e : ((2 ^ t - 1 : Nat) : Int) = ((2 ^ t : Nat) : Int) - 1 := by omega
    rwa [e] at this
   have kT1 : IntKind.u64.wrap (2 ^ t) = ((2 ^ t : Nat) : Int) := by
    have e : (2 : Int) ^ t = ((2 ^ t : Nat) : Int) := by simp
    rw [e]; exact u64_nat (by omega)
   have m1 : min t 64 = t := by omega
   have kT2 : IntKind.u64.wrap (2 ^ min t 64) = ((2 ^ t : Nat) : Int) := by rw [m1]; exact kT1
   have kT3 : IntKind.u64.wrap (((2 ^ t : Nat) : Int) - 1) = ((2 ^ t : Nat) : Int) - 1 := by
    have e : ((2 ^ t - 1 : Nat) : Int) = ((2 ^ t : Nat) : Int) - 1 := by omega
    rw [← e]; exact u64_nat (by omega)
   have hx : (B / 2 ^ a % 2 ^ t + 1) * 2 ^ d ≤ 2 ^ 64 := by
    have h1 : (B / 2 ^ a % 2 ^ t + 1) * 2 ^ d ≤ 2 ^ t * 2 ^ d := Nat.mul_le_mul_right _ hv
    have h2 : 2 ^ t * 2 ^ d ≤ 2 ^ 64 := by rw [← Nat.pow_add]; exact Nat.pow_le_pow_right (by omega) (by omega)
    omega
   rw [Nat.succ_mul] at hx
   have kor := or_u64 (num S / 2 ^ a0 % 2 ^ d) (B / 2 ^ a % 2 ^ t) d hn (by omega)
   have kshl : IntKind.u64.wrap (((B / 2 ^ a % 2 ^ t : Nat) : Int) * 2 ^ d) = ((B / 2 ^ a % 2 ^ t * 2 ^ d : Nat) : Int) := by
    have e : ((B / 2 ^ a % 2 ^ t : Nat) : Int) * 2 ^ d = ((B / 2 ^ a % 2 ^ t * 2 ^ d : Nat) : Int) := by simp
    have hp := p2 d
    rw [e]; exact u64_nat (by omega)
   have m3 : min d 64 = d := by omega
   have kshl2 : IntKind.u64.wrap (((B / 2 ^ a % 2 ^ t : Nat) : Int) * 2 ^ min d 64) = ((B / 2 ^ a % 2 ^ t * 2 ^ d : Nat) : Int) := by rw [m3]; exact kshl
   have hy : num S / 2 ^ a0 % 2 ^ d + B / 2 ^ a % 2 ^ t * 2 ^ d = num S / 2 ^ a0 % 2 ^ (d + t) := by rw [hpart]; exact HFt.out
   have hyl : num S / 2 ^ a0 % 2 ^ (d + t) < 2 ^ 64 := Nat.lt_of_lt_of_le (Nat.mod_lt _ (p2 _)) (Nat.pow_le_pow_right (by omega) (by omega))
   rw [hy] at kor
   clear m1 m2 m3 HF HFt hpart hbyte hx hv
   obtain ⟨T, hTT⟩ : ∃ T, 2 ^ t = T := ⟨_, rfl⟩
   obtain ⟨n, hnn⟩ : ∃ n, num S / 2 ^ a0 % 2 ^ d = n := ⟨_, rfl⟩
   obtain ⟨y, hyy⟩ : ∃ y, num S / 2 ^ a0 % 2 ^ (d + t) = y := ⟨_, rfl⟩
   obtain ⟨x, hxx⟩ : ∃ x, B / 2 ^ a % 2 ^ t * 2 ^ d = x := ⟨_, rfl⟩
   obtain ⟨v, hvv⟩ : ∃ v, B / 2 ^ a % 2 ^ t = v := ⟨_, rfl⟩
   obtain ⟨c, hcc⟩ : ∃ c, B / 2 ^ a = c := ⟨_, rfl⟩
   rw [hxx] at kor kshl kshl2
   rw [hvv] at kshl kshl2 kand
   rw [hcc] at kand kc kshr kshr2 hc
   rw [hTT] at kT1 kT2 kT3 kand hT hT1
   rw [hnn] at kor ⊢
   rw [hyy] at kor hyl
   have HY := Aside0.mk hyy
   clear hn hy hTT hnn hyy hxx hvv hcc hBB
   have k1 : ((A : Int) % 8) = (a : Int) := by omega
   have kj : ((A : Int) / 8) = (j : Int) := by omega
   have kmin : (if (8 - (a : Int)) < ((q0 : Int) - (d : Int)) then (8 - (a : Int)) else ((q0 : Int) - (d : Int))) = (t : Int) := by split <;> omega
   have j1 : (0 : Int) ≤ (j : Int) := by omega
   have j2 : (j : Int) < (S.size : Int) := by omega
   have hAl : A ≤ 1125899906842624 := by omega
   have HT := Aside0.mk ht; have HD := Aside0.mk hd; have HLT := Aside0.mk hlt
   clear ht hd ha hj hA hlt
   obtain ⟨hr1, hr2⟩ := HR.out
   have c0 : wr.cell? ⟨g, 0, none⟩ = some (.string S) := (blk_cell hr1 0).trans rfl
   have c1 : wr.cell? ⟨g, 1, none⟩ = some (.int .i64 (A : Int)) := (blk_cell hr1 1).trans rfl
   have f1 := blk_frozen hr1 1
   have HR1 := Aside0.mk hr1
   clear hr1
   go_wp2
   go_region
   go_wp2
   go_roundg (q0 - (d + t))
   case measure => have := HT.out; have := HLT.out; omega
   case rel =>
    have e : A + t = a0 + (d + t) := by have := HAA.out; omega
    have hw := (RD.set1 (b := A + t) ⟨HR1.out, hr2⟩ : RD w0 _ g S (A + t))
    have hb := below_set (j := 1) (v := .int .i64 ((A + t : Nat) : Int)) HB.out hr2
    have hk := KeepBut.set_ HK.out 1 (.int .i64 ((A + t : Nat) : Int))
    have e2 : ((A + t : Nat) : Int) = (A : Int) + (t : Int) := by omega
    rw [e2] at hb hk
    rw [e] at hw
    rw [← e, e2] at hw
    have htq2 : d + t ≤ q0 := by have := HLT.out; omega
    exact ⟨d + t, htq2, rfl, by rw [HY.out], by go_num, ⟨by rw [← e]; exact hw⟩, ⟨below_drew hb⟩, ⟨keep_drew hk⟩⟩
  ·have e : d = q0 := by omega
   have k2 : decide ((d : Int) < (q0 : Int)) = false := decide_eq_false (by omega)
   have k2' : decide (d < q0) = false := decide_eq_false hlt
   subst e
   clear hlt hd
   go_wp2
   go_ret
   exact ⟨rfl, HR.out, HB.out, HK.out⟩
end Go.Proofs.Ytgeddoklmcjdcaa.G
namespace Go.Proofs.YtgeddoklmcjdcaaQ
open Go.Proofs.YtgeddoklmcjdcaaW.PrintWords
set_option linter.unusedVariables false
set_option linter.unusedSimpArgs false
def blen (n : Nat) : Nat := if n = 0 then 0 else n.log2 + 1
theorem blen_le {n w : Nat} : blen n ≤ w ↔ n < 2 ^ w := by
 unfold blen
 split
 ·rename_i h
  subst h
  exact ⟨fun _ => p2 w, fun _ => Nat.zero_le _⟩
 ·rename_i h
  rw [Nat.succ_le_iff, Nat.log2_lt h]
theorem blen_div {n k : Nat} (h : 2 ^ k ≤ n) : blen n = blen (n / 2 ^ k) + k := by
 apply Nat.le_antisymm
 ·rw [blen_le, Nat.pow_add, ← Nat.div_lt_iff_lt_mul (p2 k)]
  exact blen_le.1 (Nat.le_refl _)
 ·have h1 : n < 2 ^ blen n := blen_le.1 (Nat.le_refl _)
  have h2 : k < blen n := by
   refine Nat.lt_of_not_le fun h3 => ?_
   have := blen_le.1 h3
   omega
  have h3 : blen (n / 2 ^ k) ≤ blen n - k := by
   rw [blen_le, Nat.div_lt_iff_lt_mul (p2 k), ← Nat.pow_add, show blen n - k + k = blen n by omega]
   exact h1
  omega
theorem blen_64 {n : Nat} (h : n < 18446744073709551616) : blen n ≤ 64 := blen_le.2 h
def wd (l : List Nat) : Nat := blen (l.foldl (· ||| ·) 0)
theorem or_lt {a b w : Nat} : a ||| b < 2 ^ w ↔ a < 2 ^ w ∧ b < 2 ^ w :=
 ⟨fun h => ⟨Nat.lt_of_le_of_lt Nat.left_le_or h, Nat.lt_of_le_of_lt Nat.right_le_or h⟩, fun h => Nat.or_lt_two_pow h.1 h.2⟩
theorem fold_or : ∀ (l : List Nat) (a w : Nat), l.foldl (· ||| ·) a < 2 ^ w ↔ a < 2 ^ w ∧ ∀ x ∈ l, x < 2 ^ w
 | [], a, w => by simp
 | x :: l, a, w => by
  rw [List.foldl_cons, fold_or l, or_lt]
  constructor
  ·rintro ⟨⟨h1, h2⟩, h3⟩
   exact ⟨h1, fun y hy => (List.mem_cons.1 hy).elim (fun e => e ▸ h2) (h3 y)⟩
  ·rintro ⟨h1, h2⟩
   exact ⟨⟨h1, h2 x (by simp)⟩, fun y hy => h2 y (by simp [hy])⟩
theorem wd_le {l : List Nat} {w : Nat} : wd l ≤ w ↔ ∀ x ∈ l, x < 2 ^ w := by
 unfold wd
 rw [blen_le, fold_or]
 exact ⟨fun h => h.2, fun h => ⟨p2 w, h⟩⟩
def U64 (l : List Int) : Prop := ∀ x ∈ l, 0 ≤ x ∧ x < 18446744073709551616
instance (l : List Int) : Decidable (U64 l) := inferInstanceAs (Decidable (∀ x ∈ l, 0 ≤ x ∧ x < 18446744073709551616))
def unats (l : List Int) : List Nat := l.map Int.toNat
theorem unats_len (l : List Int) : (unats l).length = l.length := by simp [unats]
theorem unats_ints (l : List Nat) : unats (ints l) = l := by
 unfold ints unats
 rw [List.map_map]
 exact (List.map_congr_left (fun x hx => by simp)).trans (List.map_id l)
theorem unats_64 {l : List Int} (h : U64 l) : ∀ x ∈ unats l, x < 2 ^ 64 := by
 intro x hx
 obtain ⟨y, hy, rfl⟩ := List.mem_map.1 hx
 have := h y hy
 omega
theorem rd_unats {l : List Int} (h : U64 l) {i : Nat} (hi : i < l.length) : rd l (i : Int) = (((unats l).getD i 0 : Nat) : Int) ∧ (unats l).getD i 0 < 18446744073709551616 := by
 have h1 := h _ (List.getElem_mem hi)
 unfold rd unats
 rw [Int.toNat_natCast, List.getD_eq_getElem?_getD, List.getD_eq_getElem?_getD, List.getElem?_map, List.getElem?_eq_getElem hi]
 simp only [Option.map_some, Option.getD_some]
 omega
theorem take_unats {l : List Int} {i : Nat} (hi : i < l.length) : (unats l).take (i + 1) = (unats l).take i ++ [(unats l).getD i 0] := by
 have h : i < (unats l).length := by rw [unats_len]; exact hi
 rw [List.take_add_one, List.getD_eq_getElem?_getD, List.getElem?_eq_getElem h]; rfl
theorem take_lt {l : List Nat} {w i : Nat} (h : ∀ x ∈ l, x < w) : ∀ x ∈ l.take i, x < w := fun x hx => h x (List.mem_of_mem_take hx)
theorem val_next {l : List Nat} {w i x : Nat} (hi : i ≤ l.length) (hx : x < 2 ^ w) : val (2 ^ w) (l.take i) + x % 2 ^ w * 2 ^ (i * w) = val (2 ^ w) (l.take i ++ [x]) := by
 rw [val_snoc, List.length_take, Nat.min_eq_left hi, ← Nat.pow_mul, Nat.mod_eq_of_lt hx, Nat.mul_comm x, Nat.mul_comm w]
theorem val_take_lt {l : List Nat} {w i : Nat} (h : ∀ x ∈ l, x < 2 ^ w) (hi : i ≤ l.length) : val (2 ^ w) (l.take i) < 2 ^ (i * w) := by
 have := val_lt (p2 w) (l.take i) (take_lt h)
 rwa [List.length_take, Nat.min_eq_left hi, ← Nat.pow_mul, Nat.mul_comm] at this
theorem pk_wb (w : Nat) (l : List Nat) : pk w l = wb (val (2 ^ w) l) (l.length * w) := rfl
def fitE (s : ByteArray) (m : Nat) : Int := if s.size < need m then 2 else if need m < s.size then 3 else if num s < 2 ^ m then 0 else 5
theorem num_top {s : ByteArray} {m : Nat} (hs : s.size = need m) (h : m % 8 ≠ 0) : (num s < 2 ^ m ↔ byt s (need m - 1) / 2 ^ (m % 8) = 0) := by
 have e : need m - 1 = m / 8 := by unfold need; omega
 have e2 : need m = m / 8 + 1 := by unfold need; omega
 have hb := num_byte s (m / 8) (by omega)
 have hn := num_lt s
 rw [hs, e2] at hn
 have h1 : num s / 256 ^ (m / 8) < 256 := by
  rw [Nat.div_lt_iff_lt_mul (Nat.pow_pos (by omega)), Nat.mul_comm, ← Nat.pow_succ, pow8]
  exact hn
 rw [e, hb, Nat.mod_eq_of_lt h1, pow8, Nat.div_div_eq_div_mul, ← Nat.pow_add, show 8 * (m / 8) + m % 8 = m by omega]
 constructor
 ·intro h; exact Nat.div_eq_of_lt h
 ·intro h
  have := Nat.lt_of_div_lt_div (a := num s) (c := 2 ^ m) (b := 2 ^ m) (by rw [h, Nat.div_self (p2 m)]; omega)
  exact this
theorem num_whole {s : ByteArray} {m : Nat} (hs : s.size = need m) (h : m % 8 = 0) : num s < 2 ^ m := by
 have e2 : 8 * need m = m := by unfold need; omega
 have hn := num_lt s
 rwa [hs, e2] at hn
end Go.Proofs.YtgeddoklmcjdcaaQ
namespace Go.Proofs.YtgeddoklmcjdcaaQ
open Go.RowKit Go.Proofs.YtgeddoklmcjdcaaW.PrintWords Go.Proofs.YtgeddoklmcjdcaaW.PrintMore
set_option linter.unusedVariables false
set_option linter.unusedSimpArgs false
theorem w64 {x : Int} (h0 : -9223372036854775808 ≤ x) (h1 : x < 9223372036854775808) : wrap64 x = x := by unfold wrap64; omega
theorem wu64 {x : Int} (h0 : 0 ≤ x) (h1 : x < 18446744073709551616) : IntKind.u64.wrap x = x := by simp [IntKind.wrap, IntKind.bits, IntKind.signed]; omega
theorem wu64_def (x : Int) : IntKind.u64.wrap x = x % 18446744073709551616 := by simp [IntKind.wrap, IntKind.bits, IntKind.signed]
theorem shr_u64_lit (x : Int) (k : Nat) (hk : k ≤ 64) : shr .u64 x (k : Int) = x / 2 ^ k := by
 unfold shr; simp [IntKind.bits]; congr 2; omega
theorem or_join' (x y : Int) (i : Nat) (h0 : 0 ≤ x) (h1 : x < 18446744073709551616) (h2 : 0 ≤ y) (h3 : y < 18446744073709551616) (hx : x % 2 ^ i = 0) (hy : y < 2 ^ i) : Go.bits .or .u64 y x = y + x := by
 obtain ⟨X, rfl⟩ := Int.eq_ofNat_of_zero_le h0
 obtain ⟨Y, rfl⟩ := Int.eq_ofNat_of_zero_le h2
 rw [Go.u64_or_nat Y X (by omega) (by omega), Nat.or_comm, Go.nat_join i X Y (by exact_mod_cast hx) (by exact_mod_cast hy)]
 omega
theorem xor_u64_ones (x : Int) (h0 : 0 ≤ x) (h1 : x < 18446744073709551616) : Go.bits .xor .u64 x 18446744073709551615 = 18446744073709551615 - x := by
 obtain ⟨X, rfl⟩ := Int.eq_ofNat_of_zero_le h0
 have h := Go.u64_xor_nat X 18446744073709551615 (by omega) (by omega)
 have e : X ^^^ 18446744073709551615 = 18446744073709551615 - X := by
  have hx : X < 2 ^ 64 := by omega
  have : (BitVec.ofNat 64 X ^^^ BitVec.allOnes 64).toNat = (~~~ BitVec.ofNat 64 X).toNat := by rw [BitVec.xor_allOnes]
  rw [BitVec.toNat_xor, BitVec.toNat_not, BitVec.toNat_ofNat, BitVec.toNat_allOnes, Nat.mod_eq_of_lt hx] at this
  simpa using this
 rw [e] at h
 have : ((18446744073709551615 : Nat) : Int) = 18446744073709551615 := rfl
 rw [← this, h]
 omega
theorem xor_u64_zero (x : Int) (h0 : 0 ≤ x) (h1 : x < 18446744073709551616) : Go.bits .xor .u64 x 0 = x := by
 obtain ⟨X, rfl⟩ := Int.eq_ofNat_of_zero_le h0
 have h := Go.u64_xor_nat X 0 (by omega) (by omega)
 simpa using h
theorem and_u64_one (x : Int) (h0 : 0 ≤ x) (h1 : x < 18446744073709551616) : Go.bits .and .u64 x 1 = x % 2 := by
 obtain ⟨X, rfl⟩ := Int.eq_ofNat_of_zero_le h0
 have h := Go.u64_and_nat X 1 (by omega) (by omega)
 rw [Nat.and_one_is_mod] at h
 have e : ((1 : Nat) : Int) = 1 := rfl
 rw [← e, h]
 omega
theorem wi64_def (x : Int) : IntKind.i64.wrap x = wrap64 x := by unfold wrap64; exact IntKind.wrap_i64 x
theorem xor_i64_zero (x : Int) (h0 : -9223372036854775808 ≤ x) (h1 : x < 9223372036854775808) : Go.bits .xor .i64 x 0 = x := by
 show IntKind.i64.wrap ((BitVec.ofInt 64 x ^^^ BitVec.ofInt 64 0).toNat : Int) = x
 have e : BitVec.ofInt 64 0 = 0#64 := by decide
 rw [e, BitVec.xor_zero, wi64_def, BitVec.toNat_ofInt]
 unfold wrap64
 omega
theorem xor_i64_ones (x : Int) (h0 : 0 ≤ x) (h1 : x < 9223372036854775808) : Go.bits .xor .i64 x (-1) = -x - 1 := by
 show IntKind.i64.wrap ((BitVec.ofInt 64 x ^^^ BitVec.ofInt 64 (-1)).toNat : Int) = -x - 1
 have e : BitVec.ofInt 64 (-1) = BitVec.allOnes 64 := by decide
 rw [e, BitVec.xor_allOnes, wi64_def, BitVec.toNat_not, BitVec.toNat_ofInt]
 unfold wrap64
 omega
theorem zig (a : Int) (h : i64 a) : Go.bits .xor .u64 (IntKind.u64.wrap (wrap64 (a * 2))) (IntKind.u64.wrap (a / 9223372036854775808)) = fold a := by
 obtain ⟨h0, h1⟩ := h
 unfold fold
 by_cases c : a < 0
 ·rw [if_pos c]
  have e1 : a / 9223372036854775808 = -1 := by omega
  have e2 : IntKind.u64.wrap (-1) = 18446744073709551615 := by decide
  have e3 : IntKind.u64.wrap (wrap64 (a * 2)) = 18446744073709551616 + a * 2 := by rw [wu64_def]; unfold wrap64; omega
  rw [e1, e2, e3, xor_u64_ones _ (by omega) (by omega)]
  omega
 ·rw [if_neg c]
  have e1 : a / 9223372036854775808 = 0 := by omega
  have e2 : IntKind.u64.wrap 0 = 0 := by decide
  have e3 : IntKind.u64.wrap (wrap64 (a * 2)) = a * 2 := by rw [wu64_def]; unfold wrap64; omega
  rw [e1, e2, e3, xor_u64_zero _ (by omega) (by omega)]
  omega
theorem zag (x : Int) (h : u64 x) : Go.bits .xor .i64 (wrap64 (x / 2)) (wrap64 (-(wrap64 (Go.bits .and .u64 x 1)))) = unfold_ x := by
 obtain ⟨h0, h1⟩ := h
 rw [and_u64_one x h0 h1, w64 (x := x / 2) (by omega) (by omega)]
 unfold unfold_
 by_cases c : x % 2 = 1
 ·rw [if_pos c, c]
  have e : wrap64 (-(wrap64 1)) = -1 := by unfold wrap64; decide
  rw [e, xor_i64_ones _ (by omega) (by omega)]
 ·rw [if_neg c]
  have c' : x % 2 = 0 := by omega
  rw [c']
  have e : wrap64 (-(wrap64 0)) = 0 := by unfold wrap64; decide
  rw [e, xor_i64_zero _ (by omega) (by omega)]
end Go.Proofs.YtgeddoklmcjdcaaQ
namespace Go.Proofs.YtgeddoklmcjdcaaW.PrintLast
open Go.Proofs.YtgeddoklmcjdcaaW.PrintWords (Aside0)
def needsOf (md : Region.Mode) (o : Oper) : List Nat := (o.after.toList.filter (fun e => Region.binds md e)).map (fun e => e.on)
def clashOf (md : Region.Mode) (ops : Array Oper) (i : Nat) (oi : Oper) : List Nat := (List.range ops.size).filter fun j => !(j == i) && match ops[j]? with
 | some oj => !(oj.after.any (fun e => Region.binds md e && e.on == i) || oi.apart ops oj)
 | none => false
def rtab (md : Region.Mode) (ops : Array Oper) : Bool × List (List Nat × List Nat) := (Region.noSelect ops, (List.range ops.size).map fun i => match ops[i]? with
 | some o => (needsOf md o, clashOf md ops i o)
 | none => ([], []))
def readyAt (T : List (List Nat × List Nat)) (l : List Bool) (i : Nat) : Bool := !l.getD i true && match T[i]? with
 | some r => r.1.all (fun j => l.getD j false)
 | none => false
def readyT (T : List (List Nat × List Nat)) (l : List Bool) : List Nat := (List.range T.length).filter (readyAt T l)
def freeT (T : List (List Nat × List Nat)) (l : List Bool) (i : Nat) : Bool := match T[i]? with
 | some r => r.2.all (fun j => l.getD j true)
 | none => false
def closedT (T : List (List Nat × List Nat)) (l : List Bool) : Bool := (List.range T.length).all fun j => !l.getD j false || match T[j]? with
 | some r => r.1.all (fun k => l.getD k false)
 | none => true
def reachT (T : List (List Nat × List Nat)) (i : Nat) : Nat → Nat → Bool
 | 0, _ => false
 | fuel + 1, d => match T[d]? with
  | some r => r.1.any fun j => j == i || reachT T i fuel j
  | none => false
def lastT (T : List (List Nat × List Nat)) (l : List Bool) (ds : List Nat) (i : Nat) : Bool := ds.all fun d => l.getD d true || reachT T i T.length d
section
variable {md : Region.Mode} {ops : Array Oper} {T : Bool × List (List Nat × List Nat)} {l l' li lj lk : Array Bool} {ds : List Nat} {i j k : Nat}
theorem gd (l : Array Bool) (j : Nat) (b : Bool) : l.getD j b = l.toList.getD j b := by simp [Array.getD_eq_getD_getElem?, List.getD_eq_getElem?_getD]
theorem needs_all (o : Oper) (p : Nat → Bool) : o.after.all (fun e => !Region.binds md e || p e.on) = (needsOf md o).all p := by
 unfold needsOf
 rw [← Array.all_toList]
 induction o.after.toList with
 | nil => rfl
 | cons e r ih =>
  rw [List.all_cons, ih, List.filter_cons]
  cases h : Region.binds md e <;> simp
theorem needs_any (o : Oper) (p : Nat → Bool) : o.after.any (fun e => Region.binds md e && p e.on) = (needsOf md o).any p := by
 unfold needsOf
 rw [← Array.any_toList]
 induction o.after.toList with
 | nil => rfl
 | cons e r ih =>
  rw [List.any_cons, ih, List.filter_cons]
  cases h : Region.binds md e <;> simp
theorem rtab_length : (rtab md ops).2.length = ops.size := by simp [rtab]
theorem rtab_some {o : Oper} (h : ops[i]? = some o) : (rtab md ops).2[i]? = some (needsOf md o, clashOf md ops i o) := by
 have hi := (Array.getElem?_eq_some_iff.1 h).1
 unfold rtab
 rw [List.getElem?_map, List.getElem?_range hi, Option.map_some, h]
theorem rtab_none (h : ops[i]? = none) : (rtab md ops).2[i]? = none := by
 have hi : ops.size ≤ i := Array.getElem?_eq_none_iff.1 h
 exact List.getElem?_eq_none (by rw [rtab_length]; exact hi)
theorem readyAt_eq : readyAt (rtab md ops).2 l.toList i = (!l.getD i true && ((ops[i]?).map (·.after.all fun e => !Region.binds md e || l.getD e.on false)).getD false) := by
 unfold readyAt
 rw [gd]
 cases h : ops[i]? with
 | none => rw [rtab_none h]; rfl
 | some o =>
  rw [rtab_some h]
  simp only [Option.map_some, Option.getD_some]
  rw [← needs_all]
  simp only [gd]
theorem ready_eq : Region.ready md ops l = readyT (rtab md ops).2 l.toList := by
 unfold Region.ready readyT
 rw [rtab_length]
 refine List.filter_congr (fun i _ => ?_)
 rw [readyAt_eq]
theorem free_eq : Region.free md ops l i = freeT (rtab md ops).2 l.toList i := by
 unfold Region.free freeT
 cases h : ops[i]? with
 | none => rw [rtab_none h]
 | some oi =>
  rw [rtab_some h]
  simp only [clashOf]
  rw [List.all_filter]
  congr 1
  funext j
  rw [gd]
  cases hj : ops[j]? with
  | none => cases (j == i) <;> cases (l.toList.getD j true) <;> simp
  | some oj =>
   cases (j == i) <;> cases (l.toList.getD j true) <;> cases (oj.after.any (fun e => Region.binds md e && e.on == i) || oi.apart ops oj) <;> simp_all
theorem closed_eq : Region.closedB md ops l = closedT (rtab md ops).2 l.toList := by
 unfold Region.closedB closedT
 rw [rtab_length]
 congr 1
 funext j
 rw [gd]
 cases h : ops[j]? with
 | none => rw [rtab_none h]
 | some o =>
  rw [rtab_some h]
  simp only
  rw [← needs_all]
  simp only [gd]
theorem reach_eq : ∀ (fuel d : Nat), Region.reachB md ops i fuel d = reachT (rtab md ops).2 i fuel d
 | 0, _ => rfl
 | fuel + 1, d => by
  unfold Region.reachB reachT
  cases h : ops[d]? with
  | none => rw [rtab_none h]
  | some o =>
   rw [rtab_some h]
   simp only
   rw [← needs_any]
   congr 1
   funext e
   rw [reach_eq fuel]
theorem last_eq : Region.lastB md ops l ds i = lastT (rtab md ops).2 l.toList ds i := by
 unfold Region.lastB lastT
 rw [rtab_length]
 congr 1
 funext d
 rw [gd, reach_eq]
theorem readyAt_mem (h : readyAt T.2 l.toList i = true) (hT : rtab md ops = T) : (Region.ready md ops l).contains i = true := by
 subst hT
 rw [ready_eq]
 unfold readyT
 rw [List.contains_iff_mem, List.mem_filter, List.mem_range]
 refine ⟨?_, h⟩
 unfold readyAt at h
 rw [Bool.and_eq_true] at h
 cases hq : (rtab md ops).2[i]? with
 | none => rw [hq] at h; simp at h
 | some r => exact (List.getElem?_eq_some_iff.1 hq).1
theorem set_of (h : (l.toList.set i true == l'.toList) = true) : (l.setIfInBounds i true == l') = true := by
 rw [beq_iff_eq] at h ⊢
 apply Array.ext'
 rw [Array.toList_setIfInBounds]
 exact h
def anyT (T : Bool × List (List Nat × List Nat)) (l l' : List Bool) (i : Nat) : Bool := T.1 && freeT T.2 l i && readyAt T.2 l i && (l.set i true == l')
theorem any_of (hT : rtab md ops = T) (h : anyT T l.toList l'.toList i = true) : anyB md ops l l' i = true := by
 simp only [anyT, Bool.and_eq_true] at h
 obtain ⟨⟨⟨h1, h2⟩, h3⟩, h4⟩ := h
 have h5 := readyAt_mem h3 hT
 have h6 := set_of h4
 subst hT
 simp only [anyB, Bool.and_eq_true]
 exact ⟨⟨⟨h1, by rw [free_eq]; exact h2⟩, h5⟩, h6⟩
def takeT (T : Bool × List (List Nat × List Nat)) (ds : List Nat) (l l' : List Bool) (i : Nat) : Bool := T.1 && freeT T.2 l i && readyAt T.2 l i && closedT T.2 l && lastT T.2 l ds i && (l.set i true == l')
theorem take_of (hT : rtab md ops = T) (h : takeT T ds l.toList l'.toList i = true) : takeB md ops ds l l' i = true := by
 simp only [takeT, Bool.and_eq_true] at h
 obtain ⟨⟨⟨⟨⟨h1, h2⟩, h3⟩, h4⟩, h5⟩, h6⟩ := h
 have h7 := readyAt_mem h3 hT
 have h8 := set_of h6
 subst hT
 simp only [takeB, Bool.and_eq_true]
 exact ⟨⟨⟨⟨⟨h1, by rw [free_eq]; exact h2⟩, h7⟩, by rw [closed_eq]; exact h4⟩, by rw [last_eq]; exact h5⟩, h8⟩
theorem one_of (hT : rtab md ops = T) (h : (readyT T.2 l.toList == [i] && l.toList.set i true == l'.toList) = true) : readyB md ops l l' i = true := by
 simp only [Bool.and_eq_true] at h
 obtain ⟨h1, h2⟩ := h
 subst hT
 simp only [readyB, Bool.and_eq_true]
 exact ⟨by rw [ready_eq]; exact h1, set_of h2⟩
theorem two_of (hT : rtab md ops = T) (h : (readyT T.2 l.toList == [i, j] && l.toList.set i true == li.toList && l.toList.set j true == lj.toList) = true) : (Region.ready md ops l == [i, j] && l.setIfInBounds i true == li && l.setIfInBounds j true == lj) = true := by
 simp only [Bool.and_eq_true] at h ⊢
 obtain ⟨⟨h1, h2⟩, h3⟩ := h
 subst hT
 exact ⟨⟨by rw [ready_eq]; exact h1, set_of h2⟩, set_of h3⟩
theorem done_of (hT : rtab md ops = T) (h : (readyT T.2 l.toList == []) = true) : (Region.ready md ops l == []) = true := by
 subst hT
 rw [ready_eq]
 exact h
def upM (B : List Nat) (d : Nat) : List Nat → Nat
 | [] => 0
 | n :: r => (2 ^ n ||| (if n < d then B.getD n 0 else 0)) ||| upM B d r
def waitsOk (T : List (List Nat × List Nat)) (B : List Nat) : Bool := (List.range T.length).all fun d => match T[d]? with
 | some r => (B.getD d 0 ||| upM B d r.1) == upM B d r.1
 | none => false
theorem upM_bit {B : List Nat} {d i : Nat} : ∀ {ns : List Nat}, (upM B d ns).testBit i = true → ∃ n ∈ ns, n = i ∨ (n < d ∧ (B.getD n 0).testBit i = true)
 | [], h => by simp [upM] at h
 | n :: r, h => by
  unfold upM at h
  rw [Nat.testBit_or, Nat.testBit_or, Bool.or_eq_true, Bool.or_eq_true] at h
  rcases h with (h | h) | h
  ·rw [Nat.testBit_two_pow] at h
   exact ⟨n, List.mem_cons_self, .inl (by simpa using h)⟩
  ·by_cases hn : n < d
   ·rw [if_pos hn] at h
    exact ⟨n, List.mem_cons_self, .inr ⟨hn, h⟩⟩
   ·rw [if_neg hn] at h
    simp at h
  ·obtain ⟨m, hm, h2⟩ := upM_bit h
   exact ⟨m, List.mem_cons_of_mem _ hm, h2⟩
theorem reach_bit {T : List (List Nat × List Nat)} {B : List Nat} (hB : waitsOk T B = true) : ∀ (fuel d : Nat), d < fuel → d < T.length → (B.getD d 0).testBit i = true → reachT T i fuel d = true
 | 0, d, h, _, _ => by omega
 | fuel + 1, d, h, hd, hb => by
  have h1 := List.all_eq_true.1 hB d (List.mem_range.2 hd)
  cases hr : T[d]? with
  | none => rw [hr] at h1; simp at h1
  | some r =>
   rw [hr] at h1
   simp only [beq_iff_eq] at h1
   have h2 : (upM B d r.1).testBit i = true := by rw [← h1, Nat.testBit_or, hb, Bool.true_or]
   obtain ⟨n, hn, h3⟩ := upM_bit h2
   unfold reachT
   rw [hr]
   simp only
   rw [List.any_eq_true]
   refine ⟨n, hn, ?_⟩
   rcases h3 with rfl | ⟨h4, h5⟩
   ·simp
   ·rw [reach_bit hB fuel n (by omega) (by omega) h5, Bool.or_true]
def lastW (T : List (List Nat × List Nat)) (B : List Nat) (l : List Bool) (ds : List Nat) (i : Nat) : Bool := ds.all fun d => l.getD d true || (decide (d < T.length) && (B.getD d 0).testBit i)
def takeW (T : Bool × List (List Nat × List Nat)) (B : List Nat) (ds : List Nat) (l l' : List Bool) (i : Nat) : Bool := T.1 && freeT T.2 l i && readyAt T.2 l i && closedT T.2 l && lastW T.2 B l ds i && (l.set i true == l')
theorem take_ofW {B : List Nat} (hT : rtab md ops = T) (hB : waitsOk T.2 B = true) (h : takeW T B ds l.toList l'.toList i = true) : takeB md ops ds l l' i = true := by
 refine take_of hT ?_
 simp only [takeW, takeT, Bool.and_eq_true] at h ⊢
 obtain ⟨⟨⟨⟨⟨h1, h2⟩, h3⟩, h4⟩, h5⟩, h6⟩ := h
 refine ⟨⟨⟨⟨⟨h1, h2⟩, h3⟩, h4⟩, ?_⟩, h6⟩
 unfold lastW at h5
 unfold lastT
 rw [List.all_eq_true] at h5 ⊢
 intro d hd
 have h7 := h5 d hd
 rw [Bool.or_eq_true, Bool.and_eq_true, decide_eq_true_eq] at h7
 rcases h7 with h7 | ⟨h8, h9⟩
 ·rw [h7, Bool.true_or]
 ·rw [reach_bit hB _ d h8 h8 h9, Bool.or_true]
theorem with_tabW {P : Program} {Q : Exit → Act → World → Prop} {S : World → Prop} {n : Nat} {a : Act} {w : World} {B : List Nat} (hT : rtab md ops = T) (hB : waitsOk T.2 B = true) (h : Aside0 (rtab md ops = T) → Aside0 (waitsOk T.2 B = true) → wpAnyLast P md ops Q S ds n l a w) : wpAnyLast P md ops Q S ds n l a w := h ⟨hT⟩ ⟨hB⟩
theorem with_tab {P : Program} {Q : Exit → Act → World → Prop} {S : World → Prop} {n : Nat} {a : Act} {w : World} (hT : rtab md ops = T) (h : Aside0 (rtab md ops = T) → wpAnyLast P md ops Q S ds n l a w) : wpAnyLast P md ops Q S ds n l a w := h ⟨hT⟩
end
def opsIn : Code → Nat → Option (Array Oper)
 | .region id ops _, k => if id == k then some ops else none
 | .seq a b, k => match opsIn a k with
  | some o => some o
  | none => opsIn b k
 | .cond _ a b, k => match opsIn a k with
  | some o => some o
  | none => opsIn b k
 | .block _ c, k => opsIn c k
 | .loop c, k => opsIn c k
 | .scope c, k => opsIn c k
 | .rangeFunc _ _ a b, k => match opsIn a k with
  | some o => some o
  | none => opsIn b k
 | _, _ => none
def opsOf (f : Func) (k : Nat) : Array Oper := ((f.body.bind fun c => opsIn c k)).getD #[]
end Go.Proofs.YtgeddoklmcjdcaaW.PrintLast
namespace Go.Proofs.YtgeddoklmcjdcaaW.PrintLast
section
variable {P : Program} {ops : Array Oper} {Q : Exit → Act → World → Prop} {md : Region.Mode} {S : World → Prop} {ds : List Nat} {T : Bool × List (List Nat × List Nat)}
theorem four_of {i j k m : Nat} {l li lj lk lm : Array Bool} (hT : rtab md ops = T) (h : (readyT T.2 l.toList == [i, j, k, m] && l.toList.set i true == li.toList && l.toList.set j true == lj.toList && l.toList.set k true == lk.toList && l.toList.set m true == lm.toList) = true) : (Region.ready md ops l == [i, j, k, m] && l.setIfInBounds i true == li && l.setIfInBounds j true == lj && l.setIfInBounds k true == lk && l.setIfInBounds m true == lm) = true := by
 simp only [Bool.and_eq_true] at h ⊢
 obtain ⟨⟨⟨⟨hr, hsi⟩, hsj⟩, hsk⟩, hsm⟩ := h
 subst hT
 exact ⟨⟨⟨⟨by rw [ready_eq]; exact hr, set_of hsi⟩, set_of hsj⟩, set_of hsk⟩, set_of hsm⟩
end
end Go.Proofs.YtgeddoklmcjdcaaW.PrintLast
namespace Go.Proofs.YtgeddoklmcjdcaaW.PrintWords
open Go.RowKit
namespace Kd
section
variable {α : Type} {d : Kd α} {W : World} {g n : Nat} {S ok : Nat → Prop} {A : Option Addr} {ad : Addr} {xs : List α}
theorem F_in (h : F d W ok A n xs) {ad : Addr} (hA : A = some ad) (hn : 0 < n) (hs : 0 < d.sz) : ok ad.block := by
 subst hA
 have hl := F_len h
 cases xs with
 | nil => simp at hl; omega
 | cons x r =>
  obtain ⟨ad', c, he, _, _, _, hin⟩ := F_get h x 0 (by omega) (by omega)
  injection he with he
  subst he
  exact hin hs
end
end Kd
end Go.Proofs.YtgeddoklmcjdcaaW.PrintWords
namespace Go.Proofs.YtgeddoklmcjdcaaW.PrintWords
open Go.RowKit
section
variable {w w' u : World} {m B g : Nat} {o : Obj} {row : Option Nat} {S : Nat → Prop} {a : Addr} {v : Value}
end
namespace Kd
section
variable {α : Type} {d : Kd α} {e base n m : Nat} {ok : Nat → Prop} {w w' : World} {v : Value} {A : Option Addr} {xs : List α}
theorem C_at (hq : w.drewN m = w') (h : d.C w A n xs) : d.C w' A n xs := by subst hq; exact C_drewN h m
end
end Kd
end Go.Proofs.YtgeddoklmcjdcaaW.PrintWords
namespace Go.Proofs.YtgeddoklmcjdcaaW.PrintWords
open Go.RowKit
section
variable {P : Program} {d : Nat} {xs ys : Array Value} {f : Field} {fs : List Field} {a b : Value} {r s : Bool} {w : World}
theorem eqf_nil : (Op.eqFields d xs ys []).run P w = .ok true w := by simp [Op.eqFields]
end
end Go.Proofs.YtgeddoklmcjdcaaW.PrintWords
namespace Go.Proofs.YtgeddoklmcjdcaaW.PrintWords
theorem Reps.one {α : Type} {R : α → List Value → Prop} {ps : List α} {cs : List Value} {p : α} {v : Value} (hp : R p [v]) (h : Reps R 1 ps cs) : Reps R 1 (p :: ps) (v :: cs) := by
 refine ⟨by simp [h.1], fun j q hq => ?_⟩
 cases j with
 | zero =>
  simp only [List.getElem?_cons_zero, Option.some.injEq] at hq
  subst hq
  simpa using hp
 | succ j =>
  simp only [List.getElem?_cons_succ] at hq
  have h1 := h.2 j q hq
  simpa [Nat.mul_one] using h1
theorem Reps.front {α : Type} {R : α → List Value → Prop} {size : Nat} {ps : List α} {cs c all : List Value} {p : α} (hp : R p c) (hc : c.length = size) (h : Reps R size ps cs) (ha : c ++ cs = all) : Reps R size (p :: ps) all := by
 subst ha
 refine ⟨by rw [List.length_append, hc, h.1, List.length_cons, Nat.succ_mul, Nat.add_comm], fun j q hq => ?_⟩
 cases j with
 | zero =>
  simp only [List.getElem?_cons_zero, Option.some.injEq] at hq
  subst hq
  rw [Nat.zero_mul, List.drop_zero, List.take_append_of_le_length (by omega), List.take_of_length_le (by omega)]
  exact hp
 | succ j =>
  simp only [List.getElem?_cons_succ] at hq
  have h1 := h.2 j q hq
  rw [Nat.succ_mul, List.drop_append, List.drop_of_length_le (by rw [hc]; exact Nat.le_add_left _ _), List.nil_append, hc, Nat.add_sub_cancel]
  exact h1
theorem Reps.c2 {α : Type} {R : α → List Value → Prop} {ps : List α} {cs : List Value} {p : α} {va vb : Value} (hp : R p [va, vb]) (h : Reps R 2 ps cs) : Reps R 2 (p :: ps) (va :: vb :: cs) := Reps.front hp rfl h rfl
theorem Reps.c3 {α : Type} {R : α → List Value → Prop} {ps : List α} {cs : List Value} {p : α} {va vb vc : Value} (hp : R p [va, vb, vc]) (h : Reps R 3 ps cs) : Reps R 3 (p :: ps) (va :: vb :: vc :: cs) := Reps.front hp rfl h rfl
theorem Reps.c4 {α : Type} {R : α → List Value → Prop} {ps : List α} {cs : List Value} {p : α} {va vb vc vd : Value} (hp : R p [va, vb, vc, vd]) (h : Reps R 4 ps cs) : Reps R 4 (p :: ps) (va :: vb :: vc :: vd :: cs) := Reps.front hp rfl h rfl
theorem Reps.c5 {α : Type} {R : α → List Value → Prop} {ps : List α} {cs : List Value} {p : α} {va vb vc vd ve : Value} (hp : R p [va, vb, vc, vd, ve]) (h : Reps R 5 ps cs) : Reps R 5 (p :: ps) (va :: vb :: vc :: vd :: ve :: cs) := Reps.front hp rfl h rfl
theorem Reps.c6 {α : Type} {R : α → List Value → Prop} {ps : List α} {cs : List Value} {p : α} {va vb vc vd ve vf : Value} (hp : R p [va, vb, vc, vd, ve, vf]) (h : Reps R 6 ps cs) : Reps R 6 (p :: ps) (va :: vb :: vc :: vd :: ve :: vf :: cs) := Reps.front hp rfl h rfl
theorem Reps.c7 {α : Type} {R : α → List Value → Prop} {ps : List α} {cs : List Value} {p : α} {va vb vc vd ve vf vg : Value} (hp : R p [va, vb, vc, vd, ve, vf, vg]) (h : Reps R 7 ps cs) : Reps R 7 (p :: ps) (va :: vb :: vc :: vd :: ve :: vf :: vg :: cs) := Reps.front hp rfl h rfl
theorem Reps.c8 {α : Type} {R : α → List Value → Prop} {ps : List α} {cs : List Value} {p : α} {va vb vc vd ve vf vg vh : Value} (hp : R p [va, vb, vc, vd, ve, vf, vg, vh]) (h : Reps R 8 ps cs) : Reps R 8 (p :: ps) (va :: vb :: vc :: vd :: ve :: vf :: vg :: vh :: cs) := Reps.front hp rfl h rfl
theorem Reps.c9 {α : Type} {R : α → List Value → Prop} {ps : List α} {cs : List Value} {p : α} {va vb vc vd ve vf vg vh vi : Value} (hp : R p [va, vb, vc, vd, ve, vf, vg, vh, vi]) (h : Reps R 9 ps cs) : Reps R 9 (p :: ps) (va :: vb :: vc :: vd :: ve :: vf :: vg :: vh :: vi :: cs) := Reps.front hp rfl h rfl
theorem Reps.c10 {α : Type} {R : α → List Value → Prop} {ps : List α} {cs : List Value} {p : α} {va vb vc vd ve vf vg vh vi vj : Value} (hp : R p [va, vb, vc, vd, ve, vf, vg, vh, vi, vj]) (h : Reps R 10 ps cs) : Reps R 10 (p :: ps) (va :: vb :: vc :: vd :: ve :: vf :: vg :: vh :: vi :: vj :: cs) := Reps.front hp rfl h rfl
end Go.Proofs.YtgeddoklmcjdcaaW.PrintWords
namespace Go.Proofs.YtgeddoklmcjdcaaW.PrintLast
def up (b : Nat → Bool) (i : Nat) : Nat → Bool := fun j => if j = i then true else b j
section
variable {P : Program} {ops : Array Oper} {Q : Exit → Act → World → Prop} {md : Region.Mode} {T : Bool × List (List Nat × List Nat)} {B : List Nat} {O : List Nat} {b : Nat → Bool} {i j n : Nat}
end
end Go.Proofs.YtgeddoklmcjdcaaW.PrintLast
namespace Go.Proofs.YtgeddoklmcjdcaaW.PrintWords
open Go.RowKit
end Go.Proofs.YtgeddoklmcjdcaaW.PrintWords
namespace Go.Proofs.YtgeddoklmcjdcaaW.PrintLast
section
variable {ops : Array Oper} {a : Act} {o og : Oper} {g : Nat} {t : Tmp} {u : Bool}
theorem eval_of {v : Value} (h : a.tmps[t]? = some v) : a.eval (.tmp t) = v := by simp [Act.eval, h]
end
end Go.Proofs.YtgeddoklmcjdcaaW.PrintLast
namespace Go.Proofs.YtgeddoklmcjdcaaW.PrintWords
open Go.RowKit
section
variable {P : Program} {ops : Array Oper} {rest : List Oper} {o : Oper} {a : Act} {Q : Exit → Act → World → Prop} {W : World}
theorem gate_guard (hw : Region.wanted o (yielded ops a.tmps) = true) (h : wpList P ops Q ({ o with guard := none } :: rest) a W) : wpList P ops Q (o :: rest) a W := by
 have h1 : Region.wanted { o with guard := none } (yielded ops a.tmps) = true := rfl
 unfold wpList at h ⊢
 rw [if_pos h1] at h
 rw [if_pos hw]
 exact h
end
end Go.Proofs.YtgeddoklmcjdcaaW.PrintWords
namespace Go.Proofs.Ytgeddoklmcjdcaa.G
open Go.RowKit Go.Proofs.YtgeddoklmcjdcaaQ Go.Proofs.YtgeddoklmcjdcaaW.PrintWords Go.Proofs.YtgeddoklmcjdcaaW.PrintLast Go.Proofs.YtgeddoklmcjdcaaW.PrintMore
attribute [local go_sem] max2_int min2_int max_two min_two max_three min_three max_four min_four   -- for this text's walks alone
set_option linter.unusedVariables false
set_option linter.unusedSimpArgs false
def errW : Option Int → Value
 | none => .nilIface
 | some c => .iface 0 (.int .i64 c)
theorem errW_none : errW none = .nilIface := rfl
theorem errW_some (c : Int) : errW (some c) = .iface 0 (.int .i64 c) := rfl
theorem info2 : (Try.prog.info? 2).map (fun i => (i.zero, i.size, i.bytes)) = some (some (.int .i64 0), 1, 8) := by kernel_rfl
theorem info4 : (Try.prog.info? 4).map (fun i => (i.zero, i.size, i.bytes)) = some (some (.bool false), 1, 1) := by kernel_rfl
theorem info5 : (Try.prog.info? 5).map (fun i => (i.zero, i.size, i.bytes)) = some (some (.int .u8 0), 1, 1) := by kernel_rfl
theorem info44 : (Try.prog.info? 44).map (fun i => (i.zero, i.size, i.bytes)) = some (some (.int .u64 0), 1, 8) := by kernel_rfl
end Go.Proofs.Ytgeddoklmcjdcaa.G
namespace Go.Proofs.Ytgeddoklmcjdcaa.G
open Go.RowKit Go.Proofs.YtgeddoklmcjdcaaQ Go.Proofs.YtgeddoklmcjdcaaW.PrintWords Go.Proofs.YtgeddoklmcjdcaaW.PrintLast Go.Proofs.YtgeddoklmcjdcaaW.PrintMore
def bsL_ : Nat → Nat → List Bool
  | 0, _ => []
  | n + 1, m => (m % 2 == 1) :: bsL_ n (m / 2)
def bs_ (n m : Nat) : Array Bool := ⟨bsL_ n m⟩
theorem PT_ : (∀ (a : Act) (d : Tmp) (v : Value), a.put (some d) v = { a with tmps := a.tmps.setIfInBounds d v }) ∧ (∀ (a : Act) (v : Value), a.put none v = a) ∧ (∀ (l : List Value) (i : Nat) (x : Value), l.toArray.setIfInBounds i x = (l.set i x).toArray) ∧ (∀ (x y : Value) (l : List Value), (x :: l).set 0 y = y :: l) ∧ (∀ (x y : Value) (l : List Value) (i : Nat), (x :: l).set (i + 1) y = x :: l.set i y) ∧ (∀ n, IntKind.i64.wrap n = Go.RowKit.wrap64 n) ∧ (∀ n, IntKind.i32.wrap n = Go.RowKit.wrap32 n) :=
  ⟨fun _ _ _ => rfl, fun _ _ => rfl, fun l i x => by simp, fun _ _ _ => rfl, fun _ _ _ _ => rfl, i64_w, i32_w⟩
section
variable {P : Program} {ops : Array Oper} {Q : Exit → Act → World → Prop} {md : Region.Mode} {S : World → Prop} {ds : List Nat} {T : Bool × List (List Nat × List Nat)} {oi : Oper} {fuel : Nat} {l : Array Bool} {a : Act} {w : World}
theorem pA_ (i : Nat) (N : Option Tmp) (l' : Array Bool) (HT : Aside0 (rtab md ops = T)) (v : Value) (hy : ∀ w, (execOp a.eval oi).run P w = .ok (.value v) w) (a' : Act) (ha : a.put N v = a') (h : wpAnyLast P md ops Q S ds fuel l' a' w)
    (hi : ops[i]? = some oi := by exact rfl) (hN : oi.dst = N := by exact rfl) (hc : anyT T l.toList l'.toList i = true := by kernel_rfl) (hQ : ∀ c a w, Q (.panic c) (a.put oi.dst v) w → Q (.panic c) a w := by exact fun _ _ _ h => h) (hw : Region.wanted oi (yielded ops a.tmps) = true := by rfl) :
    wpAnyLast P md ops Q S ds (fuel + 1) l a w := pure_ l' hi hN (any_of HT.out hc) hQ (Or.inl ⟨hw, hy⟩) ha h
theorem pB_ (i : Nat) (N : Option Tmp) (l' : Array Bool) (HT : Aside0 (rtab md ops = T)) (a' : Act) (ha : a.put N undef = a') (h : wpAnyLast P md ops Q S ds fuel l' a' w)
    (hi : ops[i]? = some oi := by exact rfl) (hN : oi.dst = N := by exact rfl) (hc : anyT T l.toList l'.toList i = true := by kernel_rfl) (hQ : ∀ c a w, Q (.panic c) (a.put oi.dst undef) w → Q (.panic c) a w := by exact fun _ _ _ h => h) (hw : Region.wanted oi (yielded ops a.tmps) = false := by rfl) :
    wpAnyLast P md ops Q S ds (fuel + 1) l a w := pure_ l' hi hN (any_of HT.out hc) hQ (Or.inr ⟨hw, rfl⟩) ha h
theorem oA_ (i : Nat) (N : Option Tmp) (l' : Array Bool) (HT : Aside0 (rtab md ops = T)) (h : ∀ K : Act → World → Prop, Shut (∀ a' w', S w' → (S w' → wpAnyLast P md ops Q S ds fuel l' a' w') → K a' w') → if Region.wanted oi (yielded ops a.tmps) = true then Oper.wp P oi a w K Q else K (a.put N undef) w)
    (hi : ops[i]? = some oi := by exact rfl) (hN : oi.dst = N := by exact rfl) (hc : (readyT T.2 l.toList == [i] && l.toList.set i true == l'.toList) = true := by kernel_rfl) (hd : i ∉ ds := by decide) :
    wpAnyLast P md ops Q S ds (fuel + 1) l a w := one_ l' hi hN (one_of HT.out hc) hd h
end
theorem z0_ {p : Prop} (h : p := by repeat (first | (with_reducible first | exact HK.out | apply KeepBut.set_ | apply keep_drewN | apply keep_drew | apply keep_alloc) | exact HK.out)) : p := h
theorem z1_ {p : Prop} (h : p := by repeat (first | (with_reducible first | exact HB.out | apply below_alloc | apply pw_below_drewN | apply below_drew1) | exact HB.out)) : p := h
theorem z2_ {p : Prop} (h : p := by repeat (first | (with_reducible first | exact HI0.out | apply IsS55.alloc | apply IsS55.drewN | apply IsS55.drew | apply IsS55.set_0 | apply IsS55.set_1 | apply IsS55.set_2) | exact HI0.out)) : p := h
theorem z3_ {p : Prop} (h : p := by repeat (first | (with_reducible first | exact HB.out | apply below_alloc | apply pw_below_drewN | apply below_drew1 | refine below_set ?_ (IsS55.ge HI0.out)) | exact HB.out)) : p := h
theorem z4_ {p : Prop} (h : p := by repeat (first | (with_reducible first | exact HI0.out | apply IsS66.alloc | apply IsS66.drewN | apply IsS66.drew | apply IsS66.set_0 | apply IsS66.set_1) | exact HI0.out)) : p := h
theorem z5_ {p : Prop} (h : p := by repeat (first | (with_reducible first | exact HB.out | apply below_alloc | apply pw_below_drewN | apply below_drew1 | refine below_set ?_ (IsS66.ge HI0.out)) | exact HB.out)) : p := h
theorem z6_ {p : Prop} (h : p := by first | rfl | (simp [errW_none, errW_some] <;> rfl) | (simp [*, errW_none, errW_some] <;> rfl)) : p := h
theorem z7_ {p : Prop} (h : p := by repeat (first | (with_reducible first | exact HI470.out | apply IsS55.alloc | apply IsS55.drewN | apply IsS55.drew | apply IsS55.set_0 | apply IsS55.set_1 | apply IsS55.set_2) | exact HI470.out)) : p := h
theorem z8_ {p : Prop} (h : p := by repeat (first | (with_reducible first | exact HB.out | apply below_alloc | apply pw_below_drewN | apply below_drew1 | refine below_set ?_ (IsS55.ge HI470.out)) | exact HB.out)) : p := h
theorem z9_ {p : Prop} (h : p := by repeat (first | (with_reducible first | exact HK.out | apply Kept.alloc | apply Kept.drewN | apply Kept.drew) | exact HK.out)) : p := h
theorem z10_ {p : Prop} (h : p := by first | exact Kd.R_nil _ _ _ _ _ | exact Kd.N_nil _ _ _ _ _ | exact Kd.V_nil _ _ _ _ _ | exact Kd.Q_nil _ _ _ _ _ | exact Kd.S_nil _ _ _ _ _) : p := h
theorem z11_ {p : Prop} (h : p := by first | rfl | (simp; done) | (simp [*]; done)) : p := h
theorem z12_ {p : Prop} (h : p := by first | (with_reducible assumption) | assumption) : p := h
theorem z13_ {p : Prop} (h : p := by repeat (first | exact Drawn0.refl _ | apply Drawn0.step)) : p := h
end Go.Proofs.Ytgeddoklmcjdcaa.G
namespace Go.Proofs.Ytgeddoklmcjdcaa.G
open Go.RowKit Go.Proofs.YtgeddoklmcjdcaaQ Go.Proofs.YtgeddoklmcjdcaaW.PrintWords Go.Proofs.YtgeddoklmcjdcaaW.PrintLast Go.Proofs.YtgeddoklmcjdcaaW.PrintMore
attribute [local go_sem] max2_int min2_int max_two min_two max_three min_three max_four min_four   -- for this text's walks alone
set_option linter.unusedVariables false
set_option linter.unusedSimpArgs false
def IsS66 (w0 W : World) (g : Nat) (f0 : ByteArray) (f1 : Int) : Prop := W.heap[g]? = some (.cells #[.string f0, .int .i64 f1] 66 (0, 0)) ∧ w0.heap.size ≤ g
theorem IsS66.grown {w0 W : World} {g : Nat} {f0 : ByteArray} {f1 : Int} {W1 : World} {row : Option Nat} (h : IsS66 w0 W g f0 f1) (hw : W.grownBy W1 row) (hne : some g ≠ row) : IsS66 w0 W1 g f0 f1 := by
 obtain ⟨hb, hg⟩ := h
 exact ⟨blk_grown hb hw hne, hg⟩
theorem IsS66.fresh {w0 W : World} {g : Nat} {f0 : ByteArray} {f1 : Int} (h : IsS66 w0 W g f0 f1) : ∀ k, W.heap.size ≤ k → k ≠ g := by
 obtain ⟨hb, hg⟩ := h
 exact Kd.freshB hb
theorem IsS66.kept {w0 W : World} {g : Nat} {f0 : ByteArray} {f1 : Int} {W1 : World} {S : Nat → Prop} (h : IsS66 w0 W g f0 f1) (hk : Kept W W1 S) (hne : ¬ S g) : IsS66 w0 W1 g f0 f1 := by
 obtain ⟨hb, hg⟩ := h
 exact ⟨blk_kept hb hk hne, hg⟩
theorem IsS66.below {w0 W : World} {g : Nat} {f0 : ByteArray} {f1 : Int} {W1 : World} (h : IsS66 w0 W g f0 f1) (hw : Below W.heap.size W W1) : IsS66 w0 W1 g f0 f1 := h.grown (grown_of_below hw none) (by simp)
theorem IsS66.alloc {w0 W : World} {g : Nat} {f0 : ByteArray} {f1 : Int} (h : IsS66 w0 W g f0 f1) (o : Obj) : IsS66 w0 (W.alloc o) g f0 f1 := h.below (below_alloc (Below.refl _ _) o)
theorem IsS66.drewN {w0 W : World} {g : Nat} {f0 : ByteArray} {f1 : Int} (h : IsS66 w0 W g f0 f1) (m : Nat) : IsS66 w0 (W.drewN m) g f0 f1 := h
theorem IsS66.drew {w0 W : World} {g : Nat} {f0 : ByteArray} {f1 : Int} (h : IsS66 w0 W g f0 f1) : IsS66 w0 W.drew g f0 f1 := h
theorem IsS66.at_ {w0 W : World} {g : Nat} {f0 : ByteArray} {f1 : Int} {w' : World} {m : Nat} (hq : W.drewN m = w') (h : IsS66 w0 W g f0 f1) : IsS66 w0 w' g f0 f1 := by subst hq; exact IsS66.drewN h m
theorem IsS66.apart {w0 W : World} {g : Nat} {f0 : ByteArray} {f1 : Int} {α : Type} {d : Kd α} {e : Nat} {base : Nat} {ok : Nat → Prop} {v : Value} {xs : List α} (h : IsS66 w0 W g f0 f1) (ho : d.R e W base ok v xs) (ht : ∀ q, q ∈ e :: d.E → q ≠ 66) : d.R e W base (fun k => ok k ∧ k ≠ g) v xs := by
 obtain ⟨hb, hg⟩ := h
 exact Kd.R_types ho hb ht
theorem IsS66.own_ne {w0 W : World} {g : Nat} {f0 : ByteArray} {f1 : Int} {α : Type} {d : Kd α} {e : Nat} {base : Nat} {ok : Nat → Prop} {v : Value} {xs : List α} (h : IsS66 w0 W g f0 f1) (ho : d.R e W base ok v xs) (ht : e ≠ 66) : some g ≠ v.ownBlock := by
 obtain ⟨hb, hg⟩ := h
 exact Kd.R_ne ho hb ht
theorem IsS66.ge {w0 W : World} {g : Nat} {f0 : ByteArray} {f1 : Int} (h : IsS66 w0 W g f0 f1) : w0.heap.size ≤ g := by
 obtain ⟨hb, hg⟩ := h
 exact hg
theorem IsS66.far {w0 W : World} {g : Nat} {f0 : ByteArray} {f1 : Int} {p : Addr} (h : IsS66 w0 W g f0 f1) (hne : g ≠ p.block) (u : Value) : IsS66 w0 (W.setCell p u) g f0 f1 := by
 obtain ⟨hb, hg⟩ := h
 exact ⟨blk_far hb hne u, hg⟩
theorem cellS66_0 {W : World} {g : Nat} {f0 : ByteArray} {f1 : Int} (h : W.heap[g]? = some (.cells #[.string f0, .int .i64 f1] 66 (0, 0))) : W.cell? ⟨g, 0, none⟩ = some (.string f0) := (blk_cell h 0).trans rfl
theorem IsS66.set_0 {w0 W : World} {g : Nat} {f0 : ByteArray} {f1 : Int} (h : IsS66 w0 W g f0 f1) (x : ByteArray) : IsS66 w0 (W.setCell ⟨g, 0, none⟩ (.string x)) g x f1 := by
 obtain ⟨hb, hg⟩ := h
 exact ⟨by simpa using blk_set hb 0 (.string x), hg⟩
theorem cellS66_1 {W : World} {g : Nat} {f0 : ByteArray} {f1 : Int} (h : W.heap[g]? = some (.cells #[.string f0, .int .i64 f1] 66 (0, 0))) : W.cell? ⟨g, 1, none⟩ = some (.int .i64 f1) := (blk_cell h 1).trans rfl
theorem IsS66.set_1 {w0 W : World} {g : Nat} {f0 : ByteArray} {f1 : Int} (h : IsS66 w0 W g f0 f1) (x : Int) : IsS66 w0 (W.setCell ⟨g, 1, none⟩ (.int .i64 x)) g f0 x := by
 obtain ⟨hb, hg⟩ := h
 exact ⟨by simpa using blk_set hb 1 (.int .i64 x), hg⟩
def tally_Cursor_Err.f (s0_0 : ByteArray) (s0_1 : Int) : Option (Int × ByteArray × Int) := some (s0_1, s0_0, s0_1)
set_option maxHeartbeats 8000000 in
set_option maxRecDepth 100000 in
theorem tally_Cursor_Err.calls (g : Nat) (s0_0 : ByteArray) (s0_1 : Int) (r1 : Int) (r2 : ByteArray) (r3 : Int) (w0 w : World) (hI : IsS66 w0 w g s0_0 s0_1) (hB : Below w0.heap.size w0 w) (h : tally_Cursor_Err.f s0_0 s0_1 = some (r1, r2, r3)) :
  Calls Try.prog 25 #[.pointer (some ⟨g, 0, none⟩)] w fun e w' => e = .returned (.int .i64 r1) ∧ IsS66 w0 w' g r2 r3 ∧ Below w0.heap.size w0 w' ∧ KeepBut w w' g none := by
 have HI0 := Aside0.mk hI
 have HK := Aside0.mk (KeepBut.refl w g none)
 have HL := Aside0.mk hB.size
 clear hI
 have HW0 := Aside0.mk hB.size
 have HB := Aside0.mk hB
 clear hB
 have H : (some (s0_1, s0_0, s0_1)) = some (r1, r2, r3) := h
 clear h
 simp only [Option.some.injEq, Prod.mk.injEq] at H
 obtain ⟨rfl, rfl, rfl⟩ := H
 obtain ⟨HGz2, hgz2⟩ := HI0.out
 have hcz2_0 := cellS66_0 HGz2
 have hcz2_1 := cellS66_1 HGz2
 have hfz2_0 := blk_frozen HGz2 0
 have hfz2_1 := blk_frozen HGz2 1
 clear HGz2 hgz2
 go_enter Try.func25, Try.ntmps25
 go_wp2
 go_ret
 exact ⟨z6_, z4_, z5_, z0_⟩
def tally_Cursor_ok.f (s0_0 : ByteArray) (s0_1 : Int) : Option (Bool × ByteArray × Int) := some ((s0_1 == 0), s0_0, s0_1)
set_option maxHeartbeats 8000000 in
set_option maxRecDepth 100000 in
theorem tally_Cursor_ok.calls (g : Nat) (s0_0 : ByteArray) (s0_1 : Int) (r1 : Bool) (r2 : ByteArray) (r3 : Int) (w0 w : World) (hI : IsS66 w0 w g s0_0 s0_1) (hB : Below w0.heap.size w0 w) (h : tally_Cursor_ok.f s0_0 s0_1 = some (r1, r2, r3)) :
  Calls Try.prog 47 #[.pointer (some ⟨g, 0, none⟩)] w fun e w' => e = .returned (.bool r1) ∧ IsS66 w0 w' g r2 r3 ∧ Below w0.heap.size w0 w' ∧ KeepBut w w' g none := by
 have HI0 := Aside0.mk hI
 have HK := Aside0.mk (KeepBut.refl w g none)
 have HL := Aside0.mk hB.size
 clear hI
 have HW0 := Aside0.mk hB.size
 have HB := Aside0.mk hB
 clear hB
 have H : (some ((s0_1 == 0), s0_0, s0_1)) = some (r1, r2, r3) := h
 clear h
 simp only [Option.some.injEq, Prod.mk.injEq] at H
 obtain ⟨rfl, rfl, rfl⟩ := H
 obtain ⟨HGz2, hgz2⟩ := HI0.out
 have hcz2_0 := cellS66_0 HGz2
 have hcz2_1 := cellS66_1 HGz2
 have hfz2_0 := blk_frozen HGz2 0
 have hfz2_1 := blk_frozen HGz2 1
 clear HGz2 hgz2
 go_enter Try.func47, Try.ntmps47
 go_wp2
 go_ret
 exact ⟨z6_, z4_, z5_, z0_⟩
def tally_next.f (a0 : ByteArray) : Option (Int × ByteArray × Int) := some ((decU (bytesOf a0)).1, a0.extract (decU (bytesOf a0)).2.1 a0.size, (decU (bytesOf a0)).2.2)
theorem tally_next.bt0 (s : ByteArray) : ∀ h : 0 < s.size, (((s[0]'h).toNat : Nat) : Int) = bt s 0 := fun h => bt_at s 0 h
theorem tally_next.whole (s : ByteArray) : s.extract 0 s.size = s := bytesOf_inj (by rw [bytesOf_tail]; rfl)
theorem tally_next.tl (s : ByteArray) : (s.toList.isEmpty = true ↔ bytesOf s = []) := by
 rw [ByteArray.toList_eq]; unfold bytesOf; simp
theorem tally_next.or_ (x c : Int) (h0 : 0 ≤ x) (h1 : x * 256 < 18446744073709551616) (hc : 0 ≤ c) (hc2 : c < 256) : Go.bits .or .u64 (IntKind.u64.wrap (x * 256)) (IntKind.u64.wrap c) = x * 256 + c := by
 have e1 : IntKind.u64.wrap (x * 256) = x * 256 := by simp [IntKind.wrap, IntKind.bits, IntKind.signed]; omega
 have e2 : IntKind.u64.wrap c = c := by simp [IntKind.wrap, IntKind.bits, IntKind.signed]; omega
 rw [e1, e2, Go.u64_or _ _ (by omega) h1 hc (by omega), Go.nat_join 8 _ _ (by omega) (by omega)]
 omega
set_option maxHeartbeats 400000 in
set_option maxRecDepth 100000 in
theorem tally_next.empty (s : ByteArray) (w : World) (h0 : s.toList.isEmpty = true) :
  Calls Try.prog 48 #[.string s] w fun e w' => e = .returned (.tuple #[.int .u64 0, .string s, .int .i64 2]) ∧ Below w.heap.size w w' := by
 go_enter Try.func48, Try.ntmps48
 go_wp2
 go_ret3
 exact ⟨rfl, Below.refl _ _⟩
set_option maxHeartbeats 400000 in
set_option maxRecDepth 100000 in
theorem tally_next.big (s : ByteArray) (w : World) (h0 : s.toList.isEmpty = false) (h1 : 0 < s.size) (h2 : 192 < bt s 0) :
  Calls Try.prog 48 #[.string s] w fun e w' => e = .returned (.tuple #[.int .u64 0, .string s, .int .i64 5]) ∧ Below w.heap.size w w' := by
 have hb := tally_next.bt0 s
 have hr := bt_range s 0
 have q1 : 0 ≤ bt s 0 / 64 := by omega
 have q2 : bt s 0 / 64 ≤ 64 := by omega
 have q3 : decide (192 ≤ bt s 0) = true := by simp; omega
 have q4 : decide (192 < bt s 0) = true := by simp; omega
 go_enter Try.func48, Try.ntmps48
 go_wp2
 go_ret3
 exact ⟨rfl, Below.refl _ _⟩
set_option maxHeartbeats 400000 in
set_option maxRecDepth 100000 in
theorem tally_next.short (s : ByteArray) (w : World) (n : Nat) (h0 : s.toList.isEmpty = false) (h1 : 0 < s.size) (h2 : bt s 0 < 192) (hn : IntKind.i64.wrap (2 ^ (bt s 0 / 64).toNat) = (n : Int)) (h3 : s.size < n) :
  Calls Try.prog 48 #[.string s] w fun e w' => e = .returned (.tuple #[.int .u64 0, .string s, .int .i64 2]) ∧ Below w.heap.size w w' := by
 have hb := tally_next.bt0 s
 have hr := bt_range s 0
 have q1 : 0 ≤ bt s 0 / 64 := by omega
 have q2 : bt s 0 / 64 ≤ 64 := by omega
 have q3 : decide (192 ≤ bt s 0) = false := by simp; omega
 go_enter Try.func48, Try.ntmps48
 go_wp2
 go_ret3
 exact ⟨rfl, Below.refl _ _⟩
set_option maxHeartbeats 400000 in
set_option maxRecDepth 100000 in
theorem tally_next.short9 (s : ByteArray) (w : World) (h0 : s.toList.isEmpty = false) (h1 : 0 < s.size) (h2 : bt s 0 = 192) (h3 : s.size < 9) :
  Calls Try.prog 48 #[.string s] w fun e w' => e = .returned (.tuple #[.int .u64 0, .string s, .int .i64 2]) ∧ Below w.heap.size w w' := by
 have hb : ∀ h : 0 < s.size, (((s[0]'h).toNat : Nat) : Int) = 192 := fun h => (tally_next.bt0 s h).trans h2
 clear h2
 go_enter Try.func48, Try.ntmps48
 go_wp2
 go_ret3
 exact ⟨rfl, Below.refl _ _⟩
theorem tally_next.cells (s : ByteArray) (w : World) (n : Nat) (h3 : n ≤ s.size) (L : List Int) (hL : L = ((bytesOf s).take n).drop 1) : ∀ j, j < n - 1 → (Lib.bytesWorld w 5 (s.extract 1 n)).cell? ⟨w.heap.size, j, none⟩ = some (.int .u8 (rd L j)) := by
 intro j hj
 rw [Lib.bytesWorld_cell w 5 (s.extract 1 n) j (by simp; omega), hL, ← bytesOf_extract]
 unfold bytesOf rd
 have hs : j < (s.extract 1 n).data.toList.length := by simp; omega
 simp only [List.getD_eq_getElem?_getD, List.getElem?_map, Int.toNat_natCast, List.getElem?_eq_getElem hs, Option.map_some, Option.getD_some]
set_option maxHeartbeats 1000000 in
set_option maxRecDepth 100000 in
theorem tally_next.loop_lt_bad (s : ByteArray) (w : World) (n : Nat) (x0 least : Int) (h0 : s.toList.isEmpty = false) (h1 : 0 < s.size) (h2 : bt s 0 < 192) (hn : IntKind.i64.wrap (2 ^ (bt s 0 / 64).toNat) = (n : Int)) (h3 : n ≤ s.size) (hm : 1 ≤ n) (hm2 : n < 10)
  (hx : bt s 0 % 64 = x0) (L : List Int) (hL : L = ((bytesOf s).take n).drop 1) (hbd : ∀ k, k < n - 1 → 0 ≤ numI x0 (L.take k) ∧ numI x0 (L.take k) * 256 < 18446744073709551616)
  (hleast : ∀ w, (Instr.index 83 (.agg #[.int .u64 0, .int .u64 0, .int .u64 64, .int .u64 0, .int .u64 16384, .int .u64 0, .int .u64 0, .int .u64 0, .int .u64 0, .int .u64 1073741824]) (.int .i64 n)).run Try.prog w = .ok (.int .u64 least) w)
  (hd : decide (numI x0 L < least) = true) :
  Calls Try.prog 48 #[.string s] w fun e w' => e = .returned (.tuple #[.int .u64 0, .string s, .int .i64 5]) ∧ Below w.heap.size w w' := by
 have hb := tally_next.bt0 s
 have hr := bt_range s 0
 have q1 : 0 ≤ bt s 0 / 64 := by omega
 have q2 : bt s 0 / 64 ≤ 64 := by omega
 have q3 : decide (192 ≤ bt s 0) = false := by simp; omega
 have q4 : decide (s.size < n) = false := by simp; omega
 have q5 : (1 : Int) ≤ (n : Int) := by omega
 have q6 : (n : Int) ≤ (s.size : Int) := by omega
 have hcv := fun (W : World) (t : ByteArray) => Lib.run_convert_string_bytes (P := Try.prog) W 9 38 5 t Try.underlying9 Try.underlying38 Try.underlying5
 have HLB : Bs L := by rw [hL]; exact ((Bs.bytesOf s).take _).drop _
 have hLl : L.length = n - 1 := by rw [hL]; simp [bytesOf_size]; omega
 have hcell := tally_next.cells s w n h3 L hL
 have HL := Aside0.mk hLl; have HC := Aside0.mk hcell; have HB := Aside0.mk hbd; have HBL := Aside0.mk HLB
 have HBW := Aside0.mk (bytes_below (Below.refl w.heap.size w) (Nat.le_refl _) 5 (s.extract 1 n))
 have hlo : 0 ≤ numI x0 L ∨ True := .inr trivial
 clear hL hLl hcell hbd HLB
 go_enter Try.func48, Try.ntmps48
 go_wp2
 go_loop [7, 37] (fun x i => ∃ k : Nat, k ≤ n - 1 ∧ i = .int .i64 k ∧ x = .int .u64 (numI x0 (L.take k))) (fun _ i => (n - 1) - (intOf i).toNat)
 case atStart => exact ⟨0, Nat.zero_le _, rfl, by first | rfl | (simp [numI_nil, ← hx]; done) | (simp [numI_nil, hx])⟩
 case round =>
  obtain ⟨k, hk, rfl, rfl⟩ := hrel
  by_cases hlt : k < n - 1
  ·have hc := HC.out k hlt
   have hs := numI_step x0 L k (by rw [HL.out]; exact hlt)
   have hrd : 0 ≤ rd L k ∧ rd L k < 256 := by
    have hk' : k < L.length := by rw [HL.out]; exact hlt
    have := HBL.out (rd L k) (by simp [rd, List.getD_eq_getElem?_getD, List.getElem?_eq_getElem hk'])
    exact this
   have ho := Aside0.mk ((tally_next.or_ (numI x0 (L.take k)) (rd L k) (HB.out k hlt).1 (HB.out k hlt).2 hrd.1 hrd.2).trans hs.symm)
   clear hs
   go_wp2
   go_round
   case rel => exact ⟨k + 1, by omega, by go_num, by first | (rw [← ho.out]; rfl) | (rw [← ho.out]; congr 2; simp [IntKind.wrap, IntKind.bits, IntKind.signed]; omega)⟩
   case measure => simp [intOf]; omega
  ·have he : k = n - 1 := by omega
   have ht : L.take k = L := List.take_of_length_le (by rw [HL.out]; omega)
   rw [ht]
   clear hk
   go_wp2
   try go_quiet (fail)
   try go_wp2
   go_ret3
   exact ⟨by rfl, by first | exact HBW.out | exact pw_below_drewN HBW.out _⟩
set_option maxHeartbeats 1000000 in
set_option maxRecDepth 100000 in
theorem tally_next.loop_lt_ok (s : ByteArray) (w : World) (n : Nat) (x0 least : Int) (h0 : s.toList.isEmpty = false) (h1 : 0 < s.size) (h2 : bt s 0 < 192) (hn : IntKind.i64.wrap (2 ^ (bt s 0 / 64).toNat) = (n : Int)) (h3 : n ≤ s.size) (hm : 1 ≤ n) (hm2 : n < 10)
  (hx : bt s 0 % 64 = x0) (L : List Int) (hL : L = ((bytesOf s).take n).drop 1) (hbd : ∀ k, k < n - 1 → 0 ≤ numI x0 (L.take k) ∧ numI x0 (L.take k) * 256 < 18446744073709551616)
  (hleast : ∀ w, (Instr.index 83 (.agg #[.int .u64 0, .int .u64 0, .int .u64 64, .int .u64 0, .int .u64 16384, .int .u64 0, .int .u64 0, .int .u64 0, .int .u64 0, .int .u64 1073741824]) (.int .i64 n)).run Try.prog w = .ok (.int .u64 least) w)
  (hd : decide (numI x0 L < least) = false) :
  Calls Try.prog 48 #[.string s] w fun e w' => e = .returned (.tuple #[.int .u64 (numI x0 L), .string (s.extract n s.size), .int .i64 0]) ∧ Below w.heap.size w w' := by
 have hb := tally_next.bt0 s
 have hr := bt_range s 0
 have q1 : 0 ≤ bt s 0 / 64 := by omega
 have q2 : bt s 0 / 64 ≤ 64 := by omega
 have q3 : decide (192 ≤ bt s 0) = false := by simp; omega
 have q4 : decide (s.size < n) = false := by simp; omega
 have q5 : (1 : Int) ≤ (n : Int) := by omega
 have q6 : (n : Int) ≤ (s.size : Int) := by omega
 have hcv := fun (W : World) (t : ByteArray) => Lib.run_convert_string_bytes (P := Try.prog) W 9 38 5 t Try.underlying9 Try.underlying38 Try.underlying5
 have HLB : Bs L := by rw [hL]; exact ((Bs.bytesOf s).take _).drop _
 have hLl : L.length = n - 1 := by rw [hL]; simp [bytesOf_size]; omega
 have hcell := tally_next.cells s w n h3 L hL
 have HL := Aside0.mk hLl; have HC := Aside0.mk hcell; have HB := Aside0.mk hbd; have HBL := Aside0.mk HLB
 have HBW := Aside0.mk (bytes_below (Below.refl w.heap.size w) (Nat.le_refl _) 5 (s.extract 1 n))
 have hlo : 0 ≤ numI x0 L ∨ True := .inr trivial
 clear hL hLl hcell hbd HLB
 go_enter Try.func48, Try.ntmps48
 go_wp2
 go_loop [7, 37] (fun x i => ∃ k : Nat, k ≤ n - 1 ∧ i = .int .i64 k ∧ x = .int .u64 (numI x0 (L.take k))) (fun _ i => (n - 1) - (intOf i).toNat)
 case atStart => exact ⟨0, Nat.zero_le _, rfl, by first | rfl | (simp [numI_nil, ← hx]; done) | (simp [numI_nil, hx])⟩
 case round =>
  obtain ⟨k, hk, rfl, rfl⟩ := hrel
  by_cases hlt : k < n - 1
  ·have hc := HC.out k hlt
   have hs := numI_step x0 L k (by rw [HL.out]; exact hlt)
   have hrd : 0 ≤ rd L k ∧ rd L k < 256 := by
    have hk' : k < L.length := by rw [HL.out]; exact hlt
    have := HBL.out (rd L k) (by simp [rd, List.getD_eq_getElem?_getD, List.getElem?_eq_getElem hk'])
    exact this
   have ho := Aside0.mk ((tally_next.or_ (numI x0 (L.take k)) (rd L k) (HB.out k hlt).1 (HB.out k hlt).2 hrd.1 hrd.2).trans hs.symm)
   clear hs
   go_wp2
   go_round
   case rel => exact ⟨k + 1, by omega, by go_num, by first | (rw [← ho.out]; rfl) | (rw [← ho.out]; congr 2; simp [IntKind.wrap, IntKind.bits, IntKind.signed]; omega)⟩
   case measure => simp [intOf]; omega
  ·have he : k = n - 1 := by omega
   have ht : L.take k = L := List.take_of_length_le (by rw [HL.out]; omega)
   rw [ht]
   clear hk
   go_wp2
   try go_quiet (fail)
   try go_wp2
   go_ret3
   exact ⟨by rfl, by first | exact HBW.out | exact pw_below_drewN HBW.out _⟩
set_option maxHeartbeats 1000000 in
set_option maxRecDepth 100000 in
theorem tally_next.loop_eq_bad (s : ByteArray) (w : World) (least : Int) (h0 : s.toList.isEmpty = false) (h1 : 0 < s.size) (h2 : bt s 0 = 192) (h3 : 9 ≤ s.size)
  (L : List Int) (hL : L = ((bytesOf s).take 9).drop 1) (hbd : ∀ k, k < 9 - 1 → 0 ≤ numI 0 (L.take k) ∧ numI 0 (L.take k) * 256 < 18446744073709551616)
  (hleast : ∀ w, (Instr.index 83 (.agg #[.int .u64 0, .int .u64 0, .int .u64 64, .int .u64 0, .int .u64 16384, .int .u64 0, .int .u64 0, .int .u64 0, .int .u64 0, .int .u64 1073741824]) (.int .i64 9)).run Try.prog w = .ok (.int .u64 least) w)
  (hd : decide (numI 0 L < least) = true) :
  Calls Try.prog 48 #[.string s] w fun e w' => e = .returned (.tuple #[.int .u64 0, .string s, .int .i64 5]) ∧ Below w.heap.size w w' := by
 have hb : ∀ h : 0 < s.size, (((s[0]'h).toNat : Nat) : Int) = 192 := fun h => (tally_next.bt0 s h).trans h2
 clear h2
 have q4 : decide (s.size < 9) = false := by simp; omega
 have q5 : (1 : Int) ≤ (9 : Int) := by omega
 have q6 : (9 : Int) ≤ (s.size : Int) := by omega
 have hcv := fun (W : World) (t : ByteArray) => Lib.run_convert_string_bytes (P := Try.prog) W 9 38 5 t Try.underlying9 Try.underlying38 Try.underlying5
 have HLB : Bs L := by rw [hL]; exact ((Bs.bytesOf s).take _).drop _
 have hLl : L.length = 9 - 1 := by rw [hL]; simp [bytesOf_size]; omega
 have hcell := tally_next.cells s w 9 h3 L hL
 have HL := Aside0.mk hLl; have HC := Aside0.mk hcell; have HB := Aside0.mk hbd; have HBL := Aside0.mk HLB
 have HBW := Aside0.mk (bytes_below (Below.refl w.heap.size w) (Nat.le_refl _) 5 (s.extract 1 9))
 have hlo : 0 ≤ numI 0 L ∨ True := .inr trivial
 clear hL hLl hcell hbd HLB
 go_enter Try.func48, Try.ntmps48
 go_wp2
 go_loop [7, 37] (fun x i => ∃ k : Nat, k ≤ 9 - 1 ∧ i = .int .i64 k ∧ x = .int .u64 (numI 0 (L.take k))) (fun _ i => (9 - 1) - (intOf i).toNat)
 case atStart => exact ⟨0, Nat.zero_le _, rfl, by rfl⟩
 case round =>
  obtain ⟨k, hk, rfl, rfl⟩ := hrel
  by_cases hlt : k < 9 - 1
  ·have hc := HC.out k hlt
   have hs := numI_step 0 L k (by rw [HL.out]; exact hlt)
   have hrd : 0 ≤ rd L k ∧ rd L k < 256 := by
    have hk' : k < L.length := by rw [HL.out]; exact hlt
    have := HBL.out (rd L k) (by simp [rd, List.getD_eq_getElem?_getD, List.getElem?_eq_getElem hk'])
    exact this
   have ho := Aside0.mk ((tally_next.or_ (numI 0 (L.take k)) (rd L k) (HB.out k hlt).1 (HB.out k hlt).2 hrd.1 hrd.2).trans hs.symm)
   clear hs
   go_wp2
   go_round
   case rel => exact ⟨k + 1, by omega, by go_num, by first | (rw [← ho.out]; rfl) | (rw [← ho.out]; congr 2; simp [IntKind.wrap, IntKind.bits, IntKind.signed]; omega)⟩
   case measure => simp [intOf]; omega
  ·have he : k = 9 - 1 := by omega
   have ht : L.take k = L := List.take_of_length_le (by rw [HL.out]; omega)
   rw [ht]
   clear hk
   go_wp2
   try go_quiet (fail)
   try go_wp2
   go_ret3
   exact ⟨by rfl, by first | exact HBW.out | exact pw_below_drewN HBW.out _⟩
set_option maxHeartbeats 1000000 in
set_option maxRecDepth 100000 in
theorem tally_next.loop_eq_ok (s : ByteArray) (w : World) (least : Int) (h0 : s.toList.isEmpty = false) (h1 : 0 < s.size) (h2 : bt s 0 = 192) (h3 : 9 ≤ s.size)
  (L : List Int) (hL : L = ((bytesOf s).take 9).drop 1) (hbd : ∀ k, k < 9 - 1 → 0 ≤ numI 0 (L.take k) ∧ numI 0 (L.take k) * 256 < 18446744073709551616)
  (hleast : ∀ w, (Instr.index 83 (.agg #[.int .u64 0, .int .u64 0, .int .u64 64, .int .u64 0, .int .u64 16384, .int .u64 0, .int .u64 0, .int .u64 0, .int .u64 0, .int .u64 1073741824]) (.int .i64 9)).run Try.prog w = .ok (.int .u64 least) w)
  (hd : decide (numI 0 L < least) = false) :
  Calls Try.prog 48 #[.string s] w fun e w' => e = .returned (.tuple #[.int .u64 (numI 0 L), .string (s.extract 9 s.size), .int .i64 0]) ∧ Below w.heap.size w w' := by
 have hb : ∀ h : 0 < s.size, (((s[0]'h).toNat : Nat) : Int) = 192 := fun h => (tally_next.bt0 s h).trans h2
 clear h2
 have q4 : decide (s.size < 9) = false := by simp; omega
 have q5 : (1 : Int) ≤ (9 : Int) := by omega
 have q6 : (9 : Int) ≤ (s.size : Int) := by omega
 have hcv := fun (W : World) (t : ByteArray) => Lib.run_convert_string_bytes (P := Try.prog) W 9 38 5 t Try.underlying9 Try.underlying38 Try.underlying5
 have HLB : Bs L := by rw [hL]; exact ((Bs.bytesOf s).take _).drop _
 have hLl : L.length = 9 - 1 := by rw [hL]; simp [bytesOf_size]; omega
 have hcell := tally_next.cells s w 9 h3 L hL
 have HL := Aside0.mk hLl; have HC := Aside0.mk hcell; have HB := Aside0.mk hbd; have HBL := Aside0.mk HLB
 have HBW := Aside0.mk (bytes_below (Below.refl w.heap.size w) (Nat.le_refl _) 5 (s.extract 1 9))
 have hlo : 0 ≤ numI 0 L ∨ True := .inr trivial
 clear hL hLl hcell hbd HLB
 go_enter Try.func48, Try.ntmps48
 go_wp2
 go_loop [7, 37] (fun x i => ∃ k : Nat, k ≤ 9 - 1 ∧ i = .int .i64 k ∧ x = .int .u64 (numI 0 (L.take k))) (fun _ i => (9 - 1) - (intOf i).toNat)
 case atStart => exact ⟨0, Nat.zero_le _, rfl, by rfl⟩
 case round =>
  obtain ⟨k, hk, rfl, rfl⟩ := hrel
  by_cases hlt : k < 9 - 1
  ·have hc := HC.out k hlt
   have hs := numI_step 0 L k (by rw [HL.out]; exact hlt)
   have hrd : 0 ≤ rd L k ∧ rd L k < 256 := by
    have hk' : k < L.length := by rw [HL.out]; exact hlt
    have := HBL.out (rd L k) (by simp [rd, List.getD_eq_getElem?_getD, List.getElem?_eq_getElem hk'])
    exact this
   have ho := Aside0.mk ((tally_next.or_ (numI 0 (L.take k)) (rd L k) (HB.out k hlt).1 (HB.out k hlt).2 hrd.1 hrd.2).trans hs.symm)
   clear hs
   go_wp2
   go_round
   case rel => exact ⟨k + 1, by omega, by go_num, by first | (rw [← ho.out]; rfl) | (rw [← ho.out]; congr 2; simp [IntKind.wrap, IntKind.bits, IntKind.signed]; omega)⟩
   case measure => simp [intOf]; omega
  ·have he : k = 9 - 1 := by omega
   have ht : L.take k = L := List.take_of_length_le (by rw [HL.out]; omega)
   rw [ht]
   clear hk
   go_wp2
   try go_quiet (fail)
   try go_wp2
   go_ret3
   exact ⟨by rfl, by first | exact HBW.out | exact pw_below_drewN HBW.out _⟩
set_option maxRecDepth 100000 in
theorem tally_next.at_ (n : Nat) (v : Int) (h : [(0 : Int), 0, 64, 0, 16384, 0, 0, 0, 0, 1073741824][n]? = some v) : ∀ w, (Instr.index 83 (.agg #[.int .u64 0, .int .u64 0, .int .u64 64, .int .u64 0, .int .u64 16384, .int .u64 0, .int .u64 0, .int .u64 0, .int .u64 0, .int .u64 1073741824]) (.int .i64 n)).run Try.prog w = .ok (.int .u64 v) w := by
 match n, h with
 | 0, h => simp at h; subst h; exact fun _ => by kernel_rfl
 | 1, h => simp at h; subst h; exact fun _ => by kernel_rfl
 | 2, h => simp at h; subst h; exact fun _ => by kernel_rfl
 | 3, h => simp at h; subst h; exact fun _ => by kernel_rfl
 | 4, h => simp at h; subst h; exact fun _ => by kernel_rfl
 | 5, h => simp at h; subst h; exact fun _ => by kernel_rfl
 | 6, h => simp at h; subst h; exact fun _ => by kernel_rfl
 | 7, h => simp at h; subst h; exact fun _ => by kernel_rfl
 | 8, h => simp at h; subst h; exact fun _ => by kernel_rfl
 | 9, h => simp at h; subst h; exact fun _ => by kernel_rfl
 | n + 10, h => simp at h
theorem tally_next.bd (x : Int) (m : Nat) (h0 : 0 ≤ x) (hx : (x + 1) * 256 ^ m ≤ 18446744073709551616) (L : List Int) (hB : Bs L) (hl : L.length = m) : ∀ k, k < m → 0 ≤ numI x (L.take k) ∧ numI x (L.take k) * 256 < 18446744073709551616 := by
 intro k hk
 obtain ⟨a, b⟩ := numI_bd h0 (L.take k) (hB.take k)
 refine ⟨a, ?_⟩
 rw [List.length_take, Nat.min_eq_left (by omega)] at b
 have e : (256 : Int) ^ m = 256 ^ (k + 1) * 256 ^ (m - k - 1) := by rw [← Int.pow_add]; congr 1; omega
 have p1 : (1 : Int) ≤ 256 ^ (m - k - 1) := by have : (0 : Int) < 256 ^ (m - k - 1) := Int.pow_pos (by omega); omega
 have p2 : (0 : Int) ≤ (x + 1) * 256 ^ (k + 1) := Int.mul_nonneg (by omega) (Int.pow_nonneg (by omega))
 rw [e, ← Int.mul_assoc] at hx
 have p3 : (x + 1) * 256 ^ (k + 1) ≤ (x + 1) * 256 ^ (k + 1) * 256 ^ (m - k - 1) := by
  have := Int.mul_le_mul_of_nonneg_left p1 p2
  omega
 rw [Int.pow_succ, ← Int.mul_assoc] at p3 hx
 omega
theorem tally_next.calls (a0 : ByteArray) (r1 : Int) (r2 : ByteArray) (r3 : Int) (w : World) (h : tally_next.f a0 = some (r1, r2, r3)) :
  Calls Try.prog 48 #[.string a0] w fun e w' => e = .returned (.tuple #[.int .u64 r1, .string r2, .int .i64 r3]) ∧ Below w.heap.size w w' := by
 unfold tally_next.f at h
 simp only [Option.some.injEq, Prod.mk.injEq] at h
 obtain ⟨h1, h2, h3⟩ := h
 subst h1 h2 h3
 have hsz := bytesOf_size a0
 have hB := Bs.bytesOf a0
 rcases hl : bytesOf a0 with _ | ⟨b, r⟩
 ·simp only [decU]
  rw [tally_next.whole]
  exact tally_next.empty a0 w ((tally_next.tl a0).2 hl)
 ·have ne : a0.toList.isEmpty = false := by
   cases hE : a0.toList.isEmpty with
   | false => rfl
   | true => rw [(tally_next.tl a0).1 hE] at hl; cases hl
  have pos : 0 < a0.size := by rw [← hsz, hl]; simp
  have hb0 : bt a0 0 = b := by rw [bt_rd, hl]; rfl
  rw [hl] at hB hsz
  have hb := hB.head
  have hlen : r.length + 1 = a0.size := by simpa using hsz
  simp only [decU]
  by_cases c1 : 192 < b
  ·rw [if_pos c1]
   simp only [tally_next.whole]
   exact tally_next.big a0 w ne pos (by rw [hb0]; exact c1)
  ·rw [if_neg c1]
   have hL : r.take (szU b) = ((bytesOf a0).take (szU b + 1)).drop 1 := by rw [hl]; rfl
   have hLB : Bs (r.take (szU b)) := hB.tail.take _
   by_cases c2 : b = 192
   ·subst c2
    have e1 : szU 192 = 8 := by decide
    rw [e1] at hL hLB ⊢
    by_cases c3 : r.length < 8
    ·rw [if_pos c3]
     simp only [tally_next.whole]
     exact tally_next.short9 a0 w ne pos hb0 (by omega)
    ·rw [if_neg c3]
     have hbd := tally_next.bd 0 8 (by omega) (by decide) (r.take 8) hLB (by simp; omega)
     have e2 : leastU 8 = 1073741824 := by decide
     have e3 : (192 : Int) % 64 = 0 := by decide
     rw [e2, e3]
     by_cases c4 : numI 0 (r.take 8) < 1073741824
     ·rw [if_pos c4]
      simp only [tally_next.whole]
      exact tally_next.loop_eq_bad a0 w 1073741824 ne pos hb0 (by omega) (r.take 8) hL hbd (tally_next.at_ 9 _ rfl) (decide_eq_true c4)
     ·rw [if_neg c4]
      exact tally_next.loop_eq_ok a0 w 1073741824 ne pos hb0 (by omega) (r.take 8) hL hbd (tally_next.at_ 9 _ rfl) (decide_eq_false c4)
   ·have hlt : b < 192 := by omega
    have hn : IntKind.i64.wrap (2 ^ (bt a0 0 / 64).toNat) = ((szU b + 1 : Nat) : Int) ∧ (b % 64 + 1) * 256 ^ szU b ≤ 18446744073709551616 ∧ szU b + 1 < 10 ∧ [(0 : Int), 0, 64, 0, 16384, 0, 0, 0, 0, 1073741824][szU b + 1]? = some (leastU (szU b)) := by
     rw [hb0]
     have : b / 64 = 0 ∧ szU b = 0 ∨ b / 64 = 1 ∧ szU b = 1 ∨ b / 64 = 2 ∧ szU b = 3 := by
      unfold szU
      by_cases d1 : b < 64
      ·rw [if_pos d1]; omega
      ·rw [if_neg d1]
       by_cases d2 : b < 128
       ·rw [if_pos d2]; omega
       ·rw [if_neg d2, if_pos hlt]; omega
     rcases this with ⟨e, e'⟩ | ⟨e, e'⟩ | ⟨e, e'⟩ <;> rw [e, e'] <;> refine ⟨by decide, by simp; omega, by decide, by decide⟩
    obtain ⟨hn, hx, h10, hat⟩ := hn
    by_cases c3 : r.length < szU b
    ·rw [if_pos c3]
     simp only [tally_next.whole]
     exact tally_next.short a0 w (szU b + 1) ne pos (by rw [hb0]; exact hlt) hn (by omega)
    ·rw [if_neg c3]
     have hbd := tally_next.bd (b % 64) (szU b) (by omega) hx (r.take (szU b)) hLB (by simp; omega)
     by_cases c4 : numI (b % 64) (r.take (szU b)) < leastU (szU b)
     ·rw [if_pos c4]
      simp only [tally_next.whole]
      exact tally_next.loop_lt_bad a0 w (szU b + 1) (b % 64) (leastU (szU b)) ne pos (by rw [hb0]; exact hlt) hn (by omega) (by omega) h10 (by rw [hb0]) (r.take (szU b)) hL hbd (tally_next.at_ _ _ hat) (decide_eq_true c4)
     ·rw [if_neg c4]
      exact tally_next.loop_lt_ok a0 w (szU b + 1) (b % 64) (leastU (szU b)) ne pos (by rw [hb0]; exact hlt) hn (by omega) (by omega) h10 (by rw [hb0]) (r.take (szU b)) hL hbd (tally_next.at_ _ _ hat) (decide_eq_false c4)
def tally_Cursor_Uint.f (s0_0 : ByteArray) (s0_1 : Int) : Option (Int × ByteArray × Int) := (tally_Cursor_ok.f s0_0 s0_1).bind fun bt126 => (if bt126.1 = true then ((tally_next.f bt126.2.1).bind fun bt129 => (some (bt129.1, bt129.2.1, bt129.2.2))) else (some (0, bt126.2.1, bt126.2.2)))
set_option maxHeartbeats 8000000 in
set_option maxRecDepth 100000 in
theorem tally_Cursor_Uint.calls (g : Nat) (s0_0 : ByteArray) (s0_1 : Int) (r1 : Int) (r2 : ByteArray) (r3 : Int) (w0 w : World) (hI : IsS66 w0 w g s0_0 s0_1) (hB : Below w0.heap.size w0 w) (h : tally_Cursor_Uint.f s0_0 s0_1 = some (r1, r2, r3)) :
  Calls Try.prog 26 #[.pointer (some ⟨g, 0, none⟩)] w fun e w' => e = .returned (.int .u64 r1) ∧ IsS66 w0 w' g r2 r3 ∧ Below w0.heap.size w0 w' ∧ KeepBut w w' g none := by
 have HI0 := Aside0.mk hI
 have HK := Aside0.mk (KeepBut.refl w g none)
 have HL := Aside0.mk hB.size
 clear hI
 have HW0 := Aside0.mk hB.size
 have HB := Aside0.mk hB
 clear hB
 have H : ((tally_Cursor_ok.f s0_0 s0_1).bind fun bt126 => (if bt126.1 = true then ((tally_next.f bt126.2.1).bind fun bt129 => (some (bt129.1, bt129.2.1, bt129.2.2))) else (some (0, bt126.2.1, bt126.2.2)))) = some (r1, r2, r3) := h
 clear h
 replace H := Option.bind_eq_some_iff.mp H
 obtain ⟨⟨t126, t127, t128⟩, A20, H⟩ := H
 replace H : (if t126 = true then ((tally_next.f t127).bind fun bt129 => (some (bt129.1, bt129.2.1, bt129.2.2))) else (some (0, t127, t128))) = some (r1, r2, r3) := H
 have A2 := Aside0.mk A20
 clear A20
 by_cases c3 : t126 = true
 ·subst c3
  have H1 : ((tally_next.f t127).bind fun bt129 => (some (bt129.1, bt129.2.1, bt129.2.2))) = some (r1, r2, r3) := by rw [if_pos rfl] at H; exact H
  clear H
  have H := H1
  clear H1
  replace H := Option.bind_eq_some_iff.mp H
  obtain ⟨⟨t129, t130, t131⟩, A40, H⟩ := H
  replace H : (some (t129, t130, t131)) = some (r1, r2, r3) := H
  have A4 := Aside0.mk A40
  clear A40
  simp only [Option.some.injEq, Prod.mk.injEq] at H
  obtain ⟨rfl, rfl, rfl⟩ := H
  go_enter Try.func26, Try.ntmps26
  go_wp2_with (first | ((with_reducible refine gate_callee (f := 47) rfl ?_); refine goesL_ (some 7) rfl rfl Try.func47 (by kernel_rfl) rfl #[.pointer (some ⟨g, 0, none⟩)] rfl (by (try simp only [List.map_toArray, List.map_cons, List.map_nil]); first | done | rfl | (simp only [List.length_drop, List.length_take]; rfl) | (go_simp; simp [IntKind.wrap, IntKind.bits, IntKind.signed]; omega)) ?_; (with_reducible refine (tally_Cursor_ok.calls g s0_0 s0_1 true t127 t128 w0 _ ?side1 ?side2 A2.out).mono ?_); (case side1 => repeat (first | (with_reducible first | exact HI0.out | apply IsS66.alloc | apply IsS66.drewN | apply IsS66.drew | apply IsS66.set_0 | apply IsS66.set_1) | exact HI0.out)); (case side2 => repeat (first | (with_reducible first | exact HB.out | apply below_alloc | apply pw_below_drewN | apply below_drew1 | refine below_set ?_ (IsS66.ge HI0.out)) | exact HB.out)); rintro e w5 ⟨rfl, hi, hb, hk⟩; refine ⟨_, rfl, ?_⟩; have n0_ := Aside0.mk (KeepBut.trans z0_ hk (.inl rfl)); have n1_ := Aside0.mk (hb); have n2_ := Aside0.mk (hi); clear HK; clear HB; clear HI0; have HK := n0_; have HB := n1_; have HI0 := n2_; clear n0_ n1_ n2_; (try clear hb); (try clear hb2); (try clear hk); (try clear hi); obtain ⟨HGz6, hgz6⟩ := HI0.out; have hcz6_0 := cellS66_0 HGz6; have hcz6_1 := cellS66_1 HGz6; have hfz6_0 := blk_frozen HGz6 0; have hfz6_1 := blk_frozen HGz6 1; clear HGz6 hgz6) | ((with_reducible refine gate_callee (f := 48) rfl ?_); refine goesL_ (some 14) rfl rfl Try.func48 (by kernel_rfl) rfl #[.string t127] rfl (by (try simp only [List.map_toArray, List.map_cons, List.map_nil]); first | done | rfl | (simp only [List.length_drop, List.length_take]; rfl) | (go_simp; simp [IntKind.wrap, IntKind.bits, IntKind.signed]; omega)) ?_; (with_reducible refine (tally_next.calls t127 t129 t130 t131 _ A4.out).mono ?_); rintro e w7 ⟨rfl, hb⟩; refine ⟨_, rfl, ?_⟩; have n0_ := Aside0.mk (IsS66.below z4_ hb); have n1_ := Aside0.mk (KeepBut.trans z0_ (KeepBut.of_below hb g none) (.inl rfl)); have n2_ := Aside0.mk (below_step z5_ hb); clear HI0; clear HK; clear HB; have HI0 := n0_; have HK := n1_; have HB := n2_; clear n0_ n1_ n2_; (try clear hb); (try clear hb2); (try clear hk); (try clear hi); obtain ⟨HGz8, hgz8⟩ := HI0.out; have hcz8_0 := cellS66_0 HGz8; have hcz8_1 := cellS66_1 HGz8; have hfz8_0 := blk_frozen HGz8 0; have hfz8_1 := blk_frozen HGz8 1; clear HGz8 hgz8))
  go_ret
  exact ⟨z6_, z4_, z5_, z0_⟩
 ·replace c3 := Bool.eq_false_iff.mpr c3
  subst c3
  have H1 : (some (0, t127, t128)) = some (r1, r2, r3) := by rw [if_neg (show ¬ (false = true) by decide)] at H; exact H
  clear H
  have H := H1
  clear H1
  simp only [Option.some.injEq, Prod.mk.injEq] at H
  obtain ⟨rfl, rfl, rfl⟩ := H
  go_enter Try.func26, Try.ntmps26
  go_wp2_with (first | ((with_reducible refine gate_callee (f := 47) rfl ?_); refine goesL_ (some 7) rfl rfl Try.func47 (by kernel_rfl) rfl #[.pointer (some ⟨g, 0, none⟩)] rfl (by (try simp only [List.map_toArray, List.map_cons, List.map_nil]); first | done | rfl | (simp only [List.length_drop, List.length_take]; rfl) | (go_simp; simp [IntKind.wrap, IntKind.bits, IntKind.signed]; omega)) ?_; (with_reducible refine (tally_Cursor_ok.calls g s0_0 s0_1 false t127 t128 w0 _ ?side1 ?side2 A2.out).mono ?_); (case side1 => repeat (first | (with_reducible first | exact HI0.out | apply IsS66.alloc | apply IsS66.drewN | apply IsS66.drew | apply IsS66.set_0 | apply IsS66.set_1) | exact HI0.out)); (case side2 => repeat (first | (with_reducible first | exact HB.out | apply below_alloc | apply pw_below_drewN | apply below_drew1 | refine below_set ?_ (IsS66.ge HI0.out)) | exact HB.out)); rintro e w9 ⟨rfl, hi, hb, hk⟩; refine ⟨_, rfl, ?_⟩; have n0_ := Aside0.mk (KeepBut.trans z0_ hk (.inl rfl)); have n1_ := Aside0.mk (hb); have n2_ := Aside0.mk (hi); clear HK; clear HB; clear HI0; have HK := n0_; have HB := n1_; have HI0 := n2_; clear n0_ n1_ n2_; (try clear hb); (try clear hb2); (try clear hk); (try clear hi)))
  go_ret
  exact ⟨z6_, z4_, z5_, z0_⟩
def tally_Cursor_Int.f (s0_0 : ByteArray) (s0_1 : Int) : Option (Int × ByteArray × Int) := (tally_Cursor_Uint.f s0_0 s0_1).bind fun bt132 => (some (Go.bits .xor .i64 (wrap64 (bt132.1 / 2)) (wrap64 (-(wrap64 (Go.bits .and .u64 bt132.1 1)))), bt132.2.1, bt132.2.2))
set_option maxHeartbeats 8000000 in
set_option maxRecDepth 100000 in
theorem tally_Cursor_Int.calls (g : Nat) (s0_0 : ByteArray) (s0_1 : Int) (r1 : Int) (r2 : ByteArray) (r3 : Int) (w0 w : World) (hI : IsS66 w0 w g s0_0 s0_1) (hB : Below w0.heap.size w0 w) (h : tally_Cursor_Int.f s0_0 s0_1 = some (r1, r2, r3)) :
  Calls Try.prog 56 #[.pointer (some ⟨g, 0, none⟩)] w fun e w' => e = .returned (.int .i64 r1) ∧ IsS66 w0 w' g r2 r3 ∧ Below w0.heap.size w0 w' ∧ KeepBut w w' g none := by
 have HI0 := Aside0.mk hI
 have HK := Aside0.mk (KeepBut.refl w g none)
 have HL := Aside0.mk hB.size
 clear hI
 have HW0 := Aside0.mk hB.size
 have HB := Aside0.mk hB
 clear hB
 have H : ((tally_Cursor_Uint.f s0_0 s0_1).bind fun bt132 => (some (Go.bits .xor .i64 (wrap64 (bt132.1 / 2)) (wrap64 (-(wrap64 (Go.bits .and .u64 bt132.1 1)))), bt132.2.1, bt132.2.2))) = some (r1, r2, r3) := h
 clear h
 replace H := Option.bind_eq_some_iff.mp H
 obtain ⟨⟨t132, t133, t134⟩, A20, H⟩ := H
 replace H : (some (Go.bits .xor .i64 (wrap64 (t132 / 2)) (wrap64 (-(wrap64 (Go.bits .and .u64 t132 1)))), t133, t134)) = some (r1, r2, r3) := H
 have A2 := Aside0.mk A20
 clear A20
 simp only [Option.some.injEq, Prod.mk.injEq] at H
 obtain ⟨rfl, rfl, rfl⟩ := H
 go_enter Try.func56, Try.ntmps56
 go_wp2_with (first | ((with_reducible refine gate_callee (f := 26) rfl ?_); refine goesL_ (some 5) rfl rfl Try.func26 (by kernel_rfl) rfl #[.pointer (some ⟨g, 0, none⟩)] rfl (by (try simp only [List.map_toArray, List.map_cons, List.map_nil]); first | done | rfl | (simp only [List.length_drop, List.length_take]; rfl) | (go_simp; simp [IntKind.wrap, IntKind.bits, IntKind.signed]; omega)) ?_; (with_reducible refine (tally_Cursor_Uint.calls g s0_0 s0_1 t132 t133 t134 w0 _ ?side1 ?side2 A2.out).mono ?_); (case side1 => repeat (first | (with_reducible first | exact HI0.out | apply IsS66.alloc | apply IsS66.drewN | apply IsS66.drew | apply IsS66.set_0 | apply IsS66.set_1) | exact HI0.out)); (case side2 => repeat (first | (with_reducible first | exact HB.out | apply below_alloc | apply pw_below_drewN | apply below_drew1 | refine below_set ?_ (IsS66.ge HI0.out)) | exact HB.out)); rintro e w3 ⟨rfl, hi, hb, hk⟩; refine ⟨_, rfl, ?_⟩; have n0_ := Aside0.mk (KeepBut.trans z0_ hk (.inl rfl)); have n1_ := Aside0.mk (hb); have n2_ := Aside0.mk (hi); clear HK; clear HB; clear HI0; have HK := n0_; have HB := n1_; have HI0 := n2_; clear n0_ n1_ n2_; (try clear hb); (try clear hb2); (try clear hk); (try clear hi)))
 go_ret
 exact ⟨z6_, z4_, z5_, z0_⟩
def ints_readPlain.l0 : Nat → List Int → Int → Int → ByteArray → Int → Option (List Int × Int × ByteArray × Int)
 | 0, _, _, _, _, _ => none
 | k + 1, x6, x7, x8, x1000, x1001 => if x8 < x7 then ((tally_Cursor_Err.f x1000 x1001).bind fun bt138 => (if bt138.1 = 0 then ((tally_Cursor_Int.f bt138.2.1 bt138.2.2).bind fun bt141 => (if x6.length < 17592186044416 then (ints_readPlain.l0 k (x6 ++ [bt141.1]) x7 (wrap64 (x8 + 1)) bt141.2.1 bt141.2.2) else (none))) else ((tally_Cursor_Err.f bt138.2.1 bt138.2.2).bind fun bt147 => (some (x6, bt147.1, bt147.2.1, bt147.2.2))))) else ((tally_Cursor_Err.f x1000 x1001).bind fun bt135 => (some (x6, bt135.1, bt135.2.1, bt135.2.2)))
def ints_readPlain.f (k : Nat) (s0_0 : ByteArray) (s0_1 : Int) (a1 : Int) : Option (List Int × Int × ByteArray × Int) := ints_readPlain.l0 k ([] : List Int) a1 0 s0_0 s0_1
theorem ints_readPlain.mono_l : ∀ k, (∀ y0 y1 y2 y3 y4, LeO (ints_readPlain.l0 k y0 y1 y2 y3 y4) (ints_readPlain.l0 (k + 1) y0 y1 y2 y3 y4))
 | 0 => fun _ _ _ _ _ r h => by simp [ints_readPlain.l0] at h
 | k + 1 => by
  have ih0 := ints_readPlain.mono_l k
  ·intro y0 y1 y2 y3 y4
   unfold ints_readPlain.l0
   repeat' first
   | (with_reducible exact ih0 _ _ _ _ _)
   | (with_reducible exact LeO.refl _)
   | (with_reducible exact LeO.none _)
   | (with_reducible refine LeO.ite ?_ ?_)
   | (with_reducible refine LeO.bind ?_ (fun _ => ?_))
   | exact ih0 _ _ _ _ _
   | exact LeO.none _
   | refine LeO.ite ?_ ?_
   | refine LeO.bind ?_ (fun _ => ?_)
theorem ints_readPlain.mono : ∀ a0 a1 a2 k, LeO (ints_readPlain.f k a0 a1 a2) (ints_readPlain.f (k + 1) a0 a1 a2) := by
 intro a0 a1 a2 k
 have ih0 := ints_readPlain.mono_l k
 unfold ints_readPlain.f
 repeat' first
   | (with_reducible exact ih0 _ _ _ _ _)
   | (with_reducible exact LeO.refl _)
   | (with_reducible exact LeO.none _)
   | (with_reducible refine LeO.ite ?_ ?_)
   | (with_reducible refine LeO.bind ?_ (fun _ => ?_))
   | exact ih0 _ _ _ _ _
   | exact LeO.none _
   | refine LeO.ite ?_ ?_
   | refine LeO.bind ?_ (fun _ => ?_)
set_option maxHeartbeats 8000000 in
set_option maxRecDepth 100000 in
theorem ints_readPlain.calls (k : Nat) (g : Nat) (s0_0 : ByteArray) (s0_1 : Int) (a1 : Int) (r1 : List Int) (r2 : Int) (r3 : ByteArray) (r4 : Int) (w0 w : World) (hI : IsS66 w0 w g s0_0 s0_1) (hB : Below w0.heap.size w0 w) (h : ints_readPlain.f k s0_0 s0_1 a1 = some (r1, r2, r3, r4)) :
  Calls Try.prog 35 #[.pointer (some ⟨g, 0, none⟩), .int .i64 a1] w fun e w' => ∃ v0_ : Value, e = .returned (.tuple #[v0_, .int .i64 r2]) ∧ Kd.R (Kd.int .i64) 2 w' w.heap.size (fun _ => True) v0_ r1 ∧ IsS66 w0 w' g r3 r4 ∧ Below w0.heap.size w0 w' ∧ KeepBut w w' g none := by
 have HI0 := Aside0.mk hI
 have HK := Aside0.mk (KeepBut.refl w g none)
 have HL := Aside0.mk hB.size
 clear hI
 have HW0 := Aside0.mk hB.size
 have HB := Aside0.mk hB
 clear hB
 have H : (ints_readPlain.l0 k ([] : List Int) a1 0 s0_0 s0_1) = some (r1, r2, r3, r4) := h
 clear h
 have H' := Aside0.mk H
 clear H
 go_enter Try.func35, Try.ntmps35
 go_wp2
 go_loopg [6, 8] k (fun kq v6 v8 w' => ∃ (x6_1 : List Int) (x8_1 : Int) (x1000_1 : ByteArray) (x1001_1 : Int), v8 = .int .i64 x8_1 ∧ Aside0 (ints_readPlain.l0 kq x6_1 a1 x8_1 x1000_1 x1001_1 = some (r1, r2, r3, r4)) ∧ Aside0 (kq ≤ k) ∧ Aside0 (Kd.R (Kd.int .i64) 2 w' w.heap.size (fun _ => True) v6 x6_1) ∧ Aside0 (IsS66 w0 w' g x1000_1 x1001_1) ∧ Aside0 (KeepBut w w' g none) ∧ Aside0 (Below w0.heap.size w0 w'))
 case atStart => exact ⟨(([] : List Int)), (0), (s0_0), (s0_1), z11_, H', ⟨Nat.le_refl _⟩, ⟨z10_⟩, ⟨z4_⟩, ⟨z0_⟩, ⟨z5_⟩⟩
 case round =>
  clear H'
  try clear p2
  obtain ⟨x6_1, x8_1, x1000_1, x1001_1, rfl, HA, HK1, HO_6, HI0, HK, HB⟩ := hrel
  cases gk with
  | zero => exact absurd HA.out (by simp [ints_readPlain.l0])
  | succ k1 =>
   have H := HA.out
   clear HA
   simp only [ints_readPlain.l0] at H
   by_cases c3 : x8_1 < a1
   ·rw [if_pos c3] at H
    have c3b0 : decide (x8_1 < a1) = true := decide_eq_true c3
    clear c3
    replace H := Option.bind_eq_some_iff.mp H
    obtain ⟨⟨t138, t139, t140⟩, A40, H⟩ := H
    replace H : (if t138 = 0 then ((tally_Cursor_Int.f t139 t140).bind fun bt141 => (if x6_1.length < 17592186044416 then (ints_readPlain.l0 k1 (x6_1 ++ [bt141.1]) a1 (wrap64 (x8_1 + 1)) bt141.2.1 bt141.2.2) else (none))) else ((tally_Cursor_Err.f t139 t140).bind fun bt147 => (some (x6_1, bt147.1, bt147.2.1, bt147.2.2)))) = some (r1, r2, r3, r4) := H
    have A4 := Aside0.mk A40
    clear A40
    by_cases c5 : t138 = 0
    ·rw [if_pos c5] at H
     have c5b0 : (t138 == 0) = true := beq_iff_eq.mpr c5
     have c5b1 : (t138 != 0) = false := bne_eq_false_iff_eq.mpr c5
     clear c5
     replace H := Option.bind_eq_some_iff.mp H
     obtain ⟨⟨t141, t142, t143⟩, A60, H⟩ := H
     replace H : (if x6_1.length < 17592186044416 then (ints_readPlain.l0 k1 (x6_1 ++ [t141]) a1 (wrap64 (x8_1 + 1)) t142 t143) else (none)) = some (r1, r2, r3, r4) := H
     have A6 := Aside0.mk A60
     clear A60
     by_cases c7 : x6_1.length < 17592186044416
     ·rw [if_pos c7] at H
      have LMc7 := Aside0.mk c7
      clear c7
      obtain ⟨y144, hy144⟩ : ∃ y_ : List Int, y_ = (x6_1 ++ [t141]) := ⟨_, rfl⟩
      replace H : (ints_readPlain.l0 k1 y144 a1 (wrap64 (x8_1 + 1)) t142 t143) = some (r1, r2, r3, r4) := by first | (rw [hy144]; with_reducible exact H) | (have H2_ := (Option.bind_some _ _).symm.trans H; rw [hy144]; with_reducible exact H2_) | (have H2_ := (Option.bind_some _ _).symm.trans H; with_reducible exact H2_) | with_reducible exact H | (rw [hy144]; exact H) | exact H
      have Ny144 := Aside0.mk hy144
      clear hy144
      have H' := Aside0.mk H
      clear H
      go_wp2_with (first | ((with_reducible refine gate_callee (f := 25) rfl ?_); refine goesL_ (some 11) rfl rfl Try.func25 (by kernel_rfl) rfl #[.pointer (some ⟨g, 0, none⟩)] rfl (by (try simp only [List.map_toArray, List.map_cons, List.map_nil]); first | done | rfl | (simp only [List.length_drop, List.length_take]; rfl) | (go_simp; simp [IntKind.wrap, IntKind.bits, IntKind.signed]; omega)) ?_; (with_reducible refine (tally_Cursor_Err.calls g x1000_1 x1001_1 t138 t139 t140 w0 _ ?side1 ?side2 A4.out).mono ?_); (case side1 => repeat (first | (with_reducible first | exact HI0.out | apply IsS66.alloc | apply IsS66.drewN | apply IsS66.drew | apply IsS66.set_0 | apply IsS66.set_1) | exact HI0.out)); (case side2 => repeat (first | (with_reducible first | exact HB.out | apply below_alloc | apply pw_below_drewN | apply below_drew1 | refine below_set ?_ (IsS66.ge HI0.out)) | exact HB.out)); rintro e w8 ⟨rfl, hi, hb, hk⟩; refine ⟨_, rfl, ?_⟩; have n0_ := Aside0.mk (Kd.R_mono (Kd.R_keep (IsS66.apart (show IsS66 w0 _ g x1000_1 x1001_1 from z4_) (by (with_reducible repeat (first | apply Kd.R_alloc | apply Kd.R_drewN | apply Kd.R_drew)); exact HO_6.out) (by decide)) hk (fun _ h => h.2)) (fun _ h => h.1)); have n1_ := Aside0.mk (KeepBut.trans z0_ hk (.inl rfl)); have n2_ := Aside0.mk (hb); have n3_ := Aside0.mk (hi); clear HO_6; clear HK; clear HB; clear HI0; have HO_6 := n0_; have HK := n1_; have HB := n2_; have HI0 := n3_; clear n0_ n1_ n2_ n3_; (try clear hb); (try clear hb2); (try clear hk); (try clear hi)) | ((with_reducible refine gate_callee (f := 56) rfl ?_); refine goesL_ (some 15) rfl rfl Try.func56 (by kernel_rfl) rfl #[.pointer (some ⟨g, 0, none⟩)] rfl (by (try simp only [List.map_toArray, List.map_cons, List.map_nil]); first | done | rfl | (simp only [List.length_drop, List.length_take]; rfl) | (go_simp; simp [IntKind.wrap, IntKind.bits, IntKind.signed]; omega)) ?_; (with_reducible refine (tally_Cursor_Int.calls g t139 t140 t141 t142 t143 w0 _ ?side1 ?side2 A6.out).mono ?_); (case side1 => repeat (first | (with_reducible first | exact HI0.out | apply IsS66.alloc | apply IsS66.drewN | apply IsS66.drew | apply IsS66.set_0 | apply IsS66.set_1) | exact HI0.out)); (case side2 => repeat (first | (with_reducible first | exact HB.out | apply below_alloc | apply pw_below_drewN | apply below_drew1 | refine below_set ?_ (IsS66.ge HI0.out)) | exact HB.out)); rintro e w9 ⟨rfl, hi, hb, hk⟩; refine ⟨_, rfl, ?_⟩; have n0_ := Aside0.mk (Kd.R_mono (Kd.R_keep (IsS66.apart (show IsS66 w0 _ g t139 t140 from z4_) (by (with_reducible repeat (first | apply Kd.R_alloc | apply Kd.R_drewN | apply Kd.R_drew)); exact HO_6.out) (by decide)) hk (fun _ h => h.2)) (fun _ h => h.1)); have n1_ := Aside0.mk (KeepBut.trans z0_ hk (.inl rfl)); have n2_ := Aside0.mk (hb); have n3_ := Aside0.mk (hi); clear HO_6; clear HK; clear HB; clear HI0; have HO_6 := n0_; have HK := n1_; have HB := n2_; have HI0 := n3_; clear n0_ n1_ n2_ n3_; (try clear hb); (try clear hb2); (try clear hk); (try clear hi)) | ((with_reducible refine gate_builtin (b := .append) (xs := #[.tmp 13, .tmp 16]) rfl ?_); at_builtin; refine Kd.R_append (Kd.int .i64) w.heap.size rfl (.tmp 13) (.tmp 16) 22 2 (.int .i64 0) 8 rfl Try.underlying22 info2 rfl (by decide) (by omega) u6 x6_1 t141 [.int .i64 t141] (fun _ => True) (fun _ => False) rfl rfl ?aP (fun _ hk => hk.elim) ?aF ?aO (Below.refl _ _) ?aS ?aL ?_; (case aP => exact rfl); (case aF => exact (fun _ _ => trivial)); (case aO => exact (by (with_reducible repeat (first | apply Kd.R_alloc | apply Kd.R_drewN | apply Kd.R_drew)); exact HO_6.out)); (case aS => exact (keep_size (w := w) (g := g) (row := none) z0_)); (case aL => have := LMc7.out; omega); intro v145 w10 ho hb hg hat; rw [← Ny144.out] at ho; have n0_ := Aside0.mk (IsS66.grown z4_ hg (IsS66.own_ne HI0.out HO_6.out (by decide))); have n1_ := Aside0.mk (below_weaken z5_ HL.out hb); have n2_ := Aside0.mk (KeepBut.trans z0_ (KeepBut.of_grown hg g) (Kd.R_base2 HO_6.out)); have n3_ := Aside0.mk (ho); clear HI0; clear HB; clear HK; clear HO_6; have HI0 := n0_; have HB := n1_; have HK := n2_; have HO146 := n3_; clear n0_ n1_ n2_ n3_; clear ho hb hg hat))
      go_roundg k1
      case measure => have := HK1.out; omega
      case rel => exact ⟨(y144), (wrap64 (x8_1 + 1)), (t142), (t143), z11_, H', ⟨by have := HK1.out; omega⟩, ⟨by (with_reducible repeat (first | apply Kd.R_alloc | apply Kd.R_drewN | apply Kd.R_drew)); exact HO146.out⟩, ⟨z4_⟩, ⟨z0_⟩, ⟨z5_⟩⟩
     ·rw [if_neg c7] at H
      exact absurd H (by simp)
    ·rw [if_neg c5] at H
     have c5b0 : (t138 == 0) = false := beq_eq_false_iff_ne.mpr c5
     have c5b1 : (t138 != 0) = true := bne_iff_ne.mpr c5
     replace H := Option.bind_eq_some_iff.mp H
     obtain ⟨⟨t147, t148, t149⟩, A110, H⟩ := H
     replace H : (some (x6_1, t147, t148, t149)) = some (r1, r2, r3, r4) := H
     have A11 := Aside0.mk A110
     clear A110
     simp only [Option.some.injEq, Prod.mk.injEq] at H
     obtain ⟨rfl, rfl, rfl, rfl⟩ := H
     go_wp2_with (first | ((with_reducible refine gate_callee (f := 25) rfl ?_); refine goesL_ (some 11) rfl rfl Try.func25 (by kernel_rfl) rfl #[.pointer (some ⟨g, 0, none⟩)] rfl (by (try simp only [List.map_toArray, List.map_cons, List.map_nil]); first | done | rfl | (simp only [List.length_drop, List.length_take]; rfl) | (go_simp; simp [IntKind.wrap, IntKind.bits, IntKind.signed]; omega)) ?_; (with_reducible refine (tally_Cursor_Err.calls g x1000_1 x1001_1 t138 t139 t140 w0 _ ?side1 ?side2 A4.out).mono ?_); (case side1 => repeat (first | (with_reducible first | exact HI0.out | apply IsS66.alloc | apply IsS66.drewN | apply IsS66.drew | apply IsS66.set_0 | apply IsS66.set_1) | exact HI0.out)); (case side2 => repeat (first | (with_reducible first | exact HB.out | apply below_alloc | apply pw_below_drewN | apply below_drew1 | refine below_set ?_ (IsS66.ge HI0.out)) | exact HB.out)); rintro e w12 ⟨rfl, hi, hb, hk⟩; refine ⟨_, rfl, ?_⟩; have n0_ := Aside0.mk (Kd.R_mono (Kd.R_keep (IsS66.apart (show IsS66 w0 _ g x1000_1 x1001_1 from z4_) (by (with_reducible repeat (first | apply Kd.R_alloc | apply Kd.R_drewN | apply Kd.R_drew)); exact HO_6.out) (by decide)) hk (fun _ h => h.2)) (fun _ h => h.1)); have n1_ := Aside0.mk (KeepBut.trans z0_ hk (.inl rfl)); have n2_ := Aside0.mk (hb); have n3_ := Aside0.mk (hi); clear HO_6; clear HK; clear HB; clear HI0; have HO_6 := n0_; have HK := n1_; have HB := n2_; have HI0 := n3_; clear n0_ n1_ n2_ n3_; (try clear hb); (try clear hb2); (try clear hk); (try clear hi)) | ((with_reducible refine gate_callee (f := 25) rfl ?_); refine goesL_ (some 21) rfl rfl Try.func25 (by kernel_rfl) rfl #[.pointer (some ⟨g, 0, none⟩)] rfl (by (try simp only [List.map_toArray, List.map_cons, List.map_nil]); first | done | rfl | (simp only [List.length_drop, List.length_take]; rfl) | (go_simp; simp [IntKind.wrap, IntKind.bits, IntKind.signed]; omega)) ?_; (with_reducible refine (tally_Cursor_Err.calls g t139 t140 t147 t148 t149 w0 _ ?side1 ?side2 A11.out).mono ?_); (case side1 => repeat (first | (with_reducible first | exact HI0.out | apply IsS66.alloc | apply IsS66.drewN | apply IsS66.drew | apply IsS66.set_0 | apply IsS66.set_1) | exact HI0.out)); (case side2 => repeat (first | (with_reducible first | exact HB.out | apply below_alloc | apply pw_below_drewN | apply below_drew1 | refine below_set ?_ (IsS66.ge HI0.out)) | exact HB.out)); rintro e w13 ⟨rfl, hi, hb, hk⟩; refine ⟨_, rfl, ?_⟩; have n0_ := Aside0.mk (Kd.R_mono (Kd.R_keep (IsS66.apart (show IsS66 w0 _ g t139 t140 from z4_) (by (with_reducible repeat (first | apply Kd.R_alloc | apply Kd.R_drewN | apply Kd.R_drew)); exact HO_6.out) (by decide)) hk (fun _ h => h.2)) (fun _ h => h.1)); have n1_ := Aside0.mk (KeepBut.trans z0_ hk (.inl rfl)); have n2_ := Aside0.mk (hb); have n3_ := Aside0.mk (hi); clear HO_6; clear HK; clear HB; clear HI0; have HO_6 := n0_; have HK := n1_; have HB := n2_; have HI0 := n3_; clear n0_ n1_ n2_ n3_; (try clear hb); (try clear hb2); (try clear hk); (try clear hi)))
     go_ret2
     exact ⟨_, z6_, by (with_reducible repeat (first | apply Kd.R_alloc | apply Kd.R_drewN | apply Kd.R_drew)); exact HO_6.out, z4_, z5_, z0_⟩
   ·rw [if_neg c3] at H
    have c3b0 : decide (x8_1 < a1) = false := decide_eq_false c3
    clear c3
    replace H := Option.bind_eq_some_iff.mp H
    obtain ⟨⟨t135, t136, t137⟩, A140, H⟩ := H
    replace H : (some (x6_1, t135, t136, t137)) = some (r1, r2, r3, r4) := H
    have A14 := Aside0.mk A140
    clear A140
    simp only [Option.some.injEq, Prod.mk.injEq] at H
    obtain ⟨rfl, rfl, rfl, rfl⟩ := H
    go_wp2_with (first | ((with_reducible refine gate_callee (f := 25) rfl ?_); refine goesL_ (some 21) rfl rfl Try.func25 (by kernel_rfl) rfl #[.pointer (some ⟨g, 0, none⟩)] rfl (by (try simp only [List.map_toArray, List.map_cons, List.map_nil]); first | done | rfl | (simp only [List.length_drop, List.length_take]; rfl) | (go_simp; simp [IntKind.wrap, IntKind.bits, IntKind.signed]; omega)) ?_; (with_reducible refine (tally_Cursor_Err.calls g x1000_1 x1001_1 t135 t136 t137 w0 _ ?side1 ?side2 A14.out).mono ?_); (case side1 => repeat (first | (with_reducible first | exact HI0.out | apply IsS66.alloc | apply IsS66.drewN | apply IsS66.drew | apply IsS66.set_0 | apply IsS66.set_1) | exact HI0.out)); (case side2 => repeat (first | (with_reducible first | exact HB.out | apply below_alloc | apply pw_below_drewN | apply below_drew1 | refine below_set ?_ (IsS66.ge HI0.out)) | exact HB.out)); rintro e w15 ⟨rfl, hi, hb, hk⟩; refine ⟨_, rfl, ?_⟩; have n0_ := Aside0.mk (Kd.R_mono (Kd.R_keep (IsS66.apart (show IsS66 w0 _ g x1000_1 x1001_1 from z4_) (by (with_reducible repeat (first | apply Kd.R_alloc | apply Kd.R_drewN | apply Kd.R_drew)); exact HO_6.out) (by decide)) hk (fun _ h => h.2)) (fun _ h => h.1)); have n1_ := Aside0.mk (KeepBut.trans z0_ hk (.inl rfl)); have n2_ := Aside0.mk (hb); have n3_ := Aside0.mk (hi); clear HO_6; clear HK; clear HB; clear HI0; have HO_6 := n0_; have HK := n1_; have HB := n2_; have HI0 := n3_; clear n0_ n1_ n2_ n3_; (try clear hb); (try clear hb2); (try clear hk); (try clear hi)))
    go_ret2
    exact ⟨_, z6_, by (with_reducible repeat (first | apply Kd.R_alloc | apply Kd.R_drewN | apply Kd.R_drew)); exact HO_6.out, z4_, z5_, z0_⟩
end Go.Proofs.Ytgeddoklmcjdcaa.G
namespace Go.Proofs.Ytgeddoklmcjdcaa.G
open Go.RowKit Go.Proofs.YtgeddoklmcjdcaaQ Go.Proofs.YtgeddoklmcjdcaaW.PrintWords Go.Proofs.YtgeddoklmcjdcaaW.PrintLast Go.Proofs.YtgeddoklmcjdcaaW.PrintMore
attribute [local go_sem] max2_int min2_int max_two min_two max_three min_three max_four min_four   -- for this text's walks alone
set_option linter.unusedVariables false
set_option linter.unusedSimpArgs false
def tally_big.l0 : Nat → List Int → Int → Int → Option (List Int)
 | 0, _, _, _ => none
 | k + 1, x0, x1, x2 => if x2 ≥ 0 then (if 0 ≤ (wrap64 (8 * x2)) then (if x0.length < 140737488355328 then (tally_big.l0 k (x0 ++ [(shr .u64 x1 (wrap64 (8 * x2))) % 256]) x1 (wrap64 (x2 - 1))) else (none)) else (none)) else (some x0)
def tally_big.f (k : Nat) (l0 : List Int) (a1 : Int) (a2 : Int) : Option (List Int) := tally_big.l0 k l0 a1 (wrap64 (a2 - 1))
theorem tally_big.mono_l : ∀ k, (∀ y0 y1 y2, LeO (tally_big.l0 k y0 y1 y2) (tally_big.l0 (k + 1) y0 y1 y2))
 | 0 => fun _ _ _ r h => by simp [tally_big.l0] at h
 | k + 1 => by
  have ih0 := tally_big.mono_l k
  ·intro y0 y1 y2
   unfold tally_big.l0
   repeat' first
   | (with_reducible exact ih0 _ _ _)
   | (with_reducible exact LeO.refl _)
   | (with_reducible exact LeO.none _)
   | (with_reducible refine LeO.ite ?_ ?_)
   | (with_reducible refine LeO.bind ?_ (fun _ => ?_))
   | exact ih0 _ _ _
   | exact LeO.none _
   | refine LeO.ite ?_ ?_
   | refine LeO.bind ?_ (fun _ => ?_)
theorem tally_big.mono : ∀ a0 a1 a2 k, LeO (tally_big.f k a0 a1 a2) (tally_big.f (k + 1) a0 a1 a2) := by
 intro a0 a1 a2 k
 have ih0 := tally_big.mono_l k
 unfold tally_big.f
 repeat' first
   | (with_reducible exact ih0 _ _ _)
   | (with_reducible exact LeO.refl _)
   | (with_reducible exact LeO.none _)
   | (with_reducible refine LeO.ite ?_ ?_)
   | (with_reducible refine LeO.bind ?_ (fun _ => ?_))
   | exact ih0 _ _ _
   | exact LeO.none _
   | refine LeO.ite ?_ ?_
   | refine LeO.bind ?_ (fun _ => ?_)
set_option maxHeartbeats 8000000 in
set_option maxRecDepth 100000 in
theorem tally_big.calls (k : Nat) (P0_ : Nat → Prop) (u9000_ : Value) (l0 : List Int) (a1 : Int) (a2 : Int) (r : List Int) (w0 w : World) (hB : Below w0.heap.size w0 w) (ho0 : Kd.R (Kd.int .u8) 5 w w0.heap.size P0_ u9000_ l0) (h : tally_big.f k l0 a1 a2 = some r) :
  Calls Try.prog 42 #[u9000_, .int .u64 a1, .int .i64 a2] w fun e w' => ∃ v0_ : Value, e = .returned (v0_) ∧ Kd.R (Kd.int .u8) 5 w' w0.heap.size (fun k_ => (P0_ k_ ∨ w.heap.size ≤ k_)) v0_ r ∧ Below w0.heap.size w0 w' ∧ Kept w w' (fun k_ => P0_ k_) := by
 have HO0 := Aside0.mk (show Kd.R (Kd.int .u8) 5 w w0.heap.size (fun k_ => (P0_ k_ ∨ w.heap.size ≤ k_)) u9000_ l0 from Kd.R_mono ho0 (fun k_ hk => (.inl hk)))
 have HK := Aside0.mk (Kept.refl w (fun k_ => P0_ k_))
 have HW0 := Aside0.mk hB.size
 have HB := Aside0.mk hB
 clear hB
 have H : (tally_big.l0 k l0 a1 (wrap64 (a2 - 1))) = some r := h
 clear h
 have H' := Aside0.mk H
 clear H
 go_enter Try.func42, Try.ntmps42
 go_wp2
 go_loopg [0, 2] k (fun kq v0 v2 w' => ∃ (x0_1 : List Int) (x2_1 : Int), v2 = .int .i64 x2_1 ∧ Aside0 (tally_big.l0 kq x0_1 a1 x2_1 = some r) ∧ Aside0 (kq ≤ k) ∧ Aside0 (Kd.R (Kd.int .u8) 5 w' w0.heap.size (fun k_ => (P0_ k_ ∨ w.heap.size ≤ k_)) v0 x0_1) ∧ Aside0 (Kept w w' (fun k_ => P0_ k_)) ∧ Aside0 (Below w0.heap.size w0 w'))
 case atStart => exact ⟨(l0), (wrap64 (a2 - 1)), z11_, H', ⟨Nat.le_refl _⟩, ⟨by (with_reducible repeat (first | apply Kd.R_alloc | apply Kd.R_drewN | apply Kd.R_drew)); exact HO0.out⟩, ⟨z9_⟩, ⟨z1_⟩⟩
 case round =>
  clear H'
  try clear p2
  obtain ⟨x0_1, x2_1, rfl, HA, HK1, HO_0, HK, HB⟩ := hrel
  cases gk with
  | zero => exact absurd HA.out (by simp [tally_big.l0])
  | succ k1 =>
   have H := HA.out
   clear HA
   simp only [tally_big.l0] at H
   by_cases c4 : x2_1 ≥ 0
   ·rw [if_pos c4] at H
    have c4b0 : decide (0 ≤ x2_1) = true := decide_eq_true c4
    clear c4
    obtain ⟨ji5, hji5⟩ : ∃ j_ : Int, (wrap64 (8 * x2_1)) = j_ := ⟨_, rfl⟩
    replace H : (if 0 ≤ (ji5) then (if x0_1.length < 140737488355328 then (tally_big.l0 k1 (x0_1 ++ [(shr .u64 a1 (ji5)) % 256]) a1 (wrap64 (x2_1 - 1))) else (none)) else (none)) = some r := by first | (rw [hji5] at H; exact H) | (simp only [hji5] at H ⊢; exact H)
    have hji5w : (IntKind.i64.wrap (8 * x2_1)) = ji5 := (i64_w _).trans hji5
    by_cases c6 : 0 ≤ (ji5)
    ·rw [if_pos c6] at H
     have c6b0 := eq_true c6
     have c6b1 : decide (0 ≤ (ji5)) = true := decide_eq_true c6
     clear c6
     obtain ⟨ji7, hji7⟩ : ∃ j_ : Int, (shr .u64 a1 (ji5)) = j_ := ⟨_, rfl⟩
     replace H : (if x0_1.length < 140737488355328 then (tally_big.l0 k1 (x0_1 ++ [(ji7) % 256]) a1 (wrap64 (x2_1 - 1))) else (none)) = some r := by first | (rw [hji7] at H; exact H) | (simp only [hji7] at H ⊢; exact H)
     have hji7_ : (a1 / 2 ^ min (ji5).toNat 64) = ji7 := hji7
     have hji7z : (ji5) ≤ 64 → (a1 / 2 ^ (ji5).toNat) = ji7 := shr_small hji7
     by_cases c8 : x0_1.length < 140737488355328
     ·rw [if_pos c8] at H
      have LMc8 := Aside0.mk c8
      clear c8
      obtain ⟨y101, hy101⟩ : ∃ y_ : List Int, y_ = (x0_1 ++ [(ji7) % 256]) := ⟨_, rfl⟩
      replace H : (tally_big.l0 k1 y101 a1 (wrap64 (x2_1 - 1))) = some r := by first | (rw [hy101]; with_reducible exact H) | (have H2_ := (Option.bind_some _ _).symm.trans H; rw [hy101]; with_reducible exact H2_) | (have H2_ := (Option.bind_some _ _).symm.trans H; with_reducible exact H2_) | with_reducible exact H | (rw [hy101]; exact H) | exact H
      have Ny101 := Aside0.mk hy101
      clear hy101
      have H' := Aside0.mk H
      clear H
      go_wp2_with (first | ((with_reducible refine gate_builtin (b := .append) (xs := #[.tmp 13, .tmp 19]) rfl ?_); at_builtin; refine Kd.R_append (Kd.int .u8) (w0 := w0) w0.heap.size rfl (.tmp 13) (.tmp 19) 38 5 (.int .u8 0) 1 rfl Try.underlying38 info5 rfl (by decide) (by omega) u0 x0_1 ((ji7) % 256) [.int .u8 ((ji7) % 256)] (fun k_ => (P0_ k_ ∨ w.heap.size ≤ k_)) (fun _ => False) rfl rfl ?aP (fun _ hk => hk.elim) ?aF ?aO ?aB ?aS ?aL ?_; (case aP => exact rfl); (case aB => exact z1_); (case aF => exact (fun k_ hk => (.inr (Nat.le_trans (by first | exact HK.out.1 | exact (show Kept w _ (fun k_ => P0_ k_) from z9_).1) hk)))); (case aO => exact (by (with_reducible repeat (first | apply Kd.R_alloc | apply Kd.R_drewN | apply Kd.R_drew)); exact HO_0.out)); (case aS => exact (below_size z1_)); (case aL => have := LMc8.out; omega); intro v102 w9 ho hb hg hat; rw [← Ny101.out] at ho; have n0_ := Aside0.mk (hb); have n1_ := Aside0.mk (Kept.of_grown (S := (fun k_ => P0_ k_)) hg z9_ (fun k_ e_ => (HO_0.out.1 k_ e_))); have n2_ := Aside0.mk (ho); clear HB; clear HK; clear HO_0; have HB := n0_; have HK := n1_; have HO103 := n2_; clear n0_ n1_ n2_; clear ho hb hg hat))
      go_roundg k1
      case measure => have := HK1.out; omega
      case rel => exact ⟨(y101), (wrap64 (x2_1 - 1)), z11_, H', ⟨by have := HK1.out; omega⟩, ⟨by (with_reducible repeat (first | apply Kd.R_alloc | apply Kd.R_drewN | apply Kd.R_drew)); exact HO103.out⟩, ⟨z9_⟩, ⟨z1_⟩⟩
     ·rw [if_neg c8] at H
      exact absurd H (by simp)
    ·rw [if_neg c6] at H
     exact absurd H (by simp)
   ·rw [if_neg c4] at H
    have c4b0 : decide (0 ≤ x2_1) = false := decide_eq_false c4
    clear c4
    obtain rfl := Option.some.inj H
    go_wp2
    go_ret
    exact ⟨_, z6_, by (with_reducible repeat (first | apply Kd.R_alloc | apply Kd.R_drewN | apply Kd.R_drew)); exact HO_0.out, z1_, z9_⟩
def tally_Uint.f (k : Nat) (l0 : List Int) (a1 : Int) : Option (List Int) := if (a1 / 64) = 0 then (if l0.length < 140737488355328 then (some (l0 ++ [(a1) % 256])) else (none)) else (if (a1 / 16384) = 0 then ((tally_big.f k l0 (Go.bits .or .u64 a1 16384) 2).bind fun t107 => (some t107)) else (if (a1 / 1073741824) = 0 then ((tally_big.f k l0 (Go.bits .or .u64 a1 2147483648) 4).bind fun t110 => (some t110)) else (if l0.length < 140737488355328 then ((tally_big.f k (l0 ++ [192]) a1 8).bind fun t116 => (some t116)) else (none))))
theorem tally_Uint.mono : ∀ a0 a1 k, LeO (tally_Uint.f k a0 a1) (tally_Uint.f (k + 1) a0 a1) := by
 intro a0 a1 k
 unfold tally_Uint.f
 repeat' first
   | (with_reducible exact tally_big.mono _ _ _ _)
   | (with_reducible exact LeO.refl _)
   | (with_reducible exact LeO.none _)
   | (with_reducible refine LeO.ite ?_ ?_)
   | (with_reducible refine LeO.bind ?_ (fun _ => ?_))
   | exact tally_big.mono _ _ _ _
   | exact LeO.none _
   | refine LeO.ite ?_ ?_
   | refine LeO.bind ?_ (fun _ => ?_)
set_option maxHeartbeats 8000000 in
set_option maxRecDepth 100000 in
theorem tally_Uint.calls (k : Nat) (P0_ : Nat → Prop) (u9000_ : Value) (l0 : List Int) (a1 : Int) (r : List Int) (w0 w : World) (hB : Below w0.heap.size w0 w) (ho0 : Kd.R (Kd.int .u8) 5 w w0.heap.size P0_ u9000_ l0) (h : tally_Uint.f k l0 a1 = some r) :
  Calls Try.prog 18 #[u9000_, .int .u64 a1] w fun e w' => ∃ v0_ : Value, e = .returned (v0_) ∧ Kd.R (Kd.int .u8) 5 w' w0.heap.size (fun k_ => (P0_ k_ ∨ w.heap.size ≤ k_)) v0_ r ∧ Below w0.heap.size w0 w' ∧ Kept w w' (fun k_ => P0_ k_) := by
 have HO0 := Aside0.mk (show Kd.R (Kd.int .u8) 5 w w0.heap.size (fun k_ => (P0_ k_ ∨ w.heap.size ≤ k_)) u9000_ l0 from Kd.R_mono ho0 (fun k_ hk => (.inl hk)))
 have HK := Aside0.mk (Kept.refl w (fun k_ => P0_ k_))
 have HW0 := Aside0.mk hB.size
 have HB := Aside0.mk hB
 clear hB
 have H : (if (a1 / 64) = 0 then (if l0.length < 140737488355328 then (some (l0 ++ [(a1) % 256])) else (none)) else (if (a1 / 16384) = 0 then ((tally_big.f k l0 (Go.bits .or .u64 a1 16384) 2).bind fun t107 => (some t107)) else (if (a1 / 1073741824) = 0 then ((tally_big.f k l0 (Go.bits .or .u64 a1 2147483648) 4).bind fun t110 => (some t110)) else (if l0.length < 140737488355328 then ((tally_big.f k (l0 ++ [192]) a1 8).bind fun t116 => (some t116)) else (none))))) = some r := h
 clear h
 by_cases c3 : (a1 / 64) = 0
 ·rw [if_pos c3] at H
  have c3b0 : ((a1 / 64) == 0) = true := beq_iff_eq.mpr c3
  have c3b1 : ((a1 / 64) != 0) = false := bne_eq_false_iff_eq.mpr c3
  clear c3
  by_cases c4 : l0.length < 140737488355328
  ·rw [if_pos c4] at H
   have LMc4 := Aside0.mk c4
   clear c4
   obtain ⟨y104, hy104⟩ : ∃ y_ : List Int, y_ = (l0 ++ [(a1) % 256]) := ⟨_, rfl⟩
   replace H : (some y104) = some r := by first | (rw [hy104]; with_reducible exact H) | (have H2_ := (Option.bind_some _ _).symm.trans H; rw [hy104]; with_reducible exact H2_) | (have H2_ := (Option.bind_some _ _).symm.trans H; with_reducible exact H2_) | with_reducible exact H | (rw [hy104]; exact H) | exact H
   have Ny104 := Aside0.mk hy104
   clear hy104
   obtain rfl := Option.some.inj H
   go_enter Try.func18, Try.ntmps18
   go_wp2_with (first | ((with_reducible refine gate_builtin (b := .append) (xs := #[.tmp 9, .tmp 12]) rfl ?_); at_builtin; refine Kd.R_append (Kd.int .u8) (w0 := w0) w0.heap.size rfl (.tmp 9) (.tmp 12) 38 5 (.int .u8 0) 1 rfl Try.underlying38 info5 rfl (by decide) (by omega) u9000_ l0 ((a1) % 256) [.int .u8 ((a1) % 256)] (fun k_ => (P0_ k_ ∨ w.heap.size ≤ k_)) (fun _ => False) rfl rfl ?aP (fun _ hk => hk.elim) ?aF ?aO ?aB ?aS ?aL ?_; (case aP => exact rfl); (case aB => exact z1_); (case aF => exact (fun k_ hk => (.inr (Nat.le_trans (by first | exact HK.out.1 | exact (show Kept w _ (fun k_ => P0_ k_) from z9_).1) hk)))); (case aO => exact (by (with_reducible repeat (first | apply Kd.R_alloc | apply Kd.R_drewN | apply Kd.R_drew)); exact HO0.out)); (case aS => exact (below_size z1_)); (case aL => have := LMc4.out; omega); intro v105 w5 ho hb hg hat; rw [← Ny104.out] at ho; have n0_ := Aside0.mk (hb); have n1_ := Aside0.mk (Kept.of_grown (S := (fun k_ => P0_ k_)) hg z9_ (fun k_ e_ => (HO0.out.1 k_ e_))); have n2_ := Aside0.mk (ho); clear HB; clear HK; clear HO0; have HB := n0_; have HK := n1_; have HO106 := n2_; clear n0_ n1_ n2_; clear ho hb hg hat))
   go_ret
   exact ⟨_, z6_, by (with_reducible repeat (first | apply Kd.R_alloc | apply Kd.R_drewN | apply Kd.R_drew)); exact HO106.out, z1_, z9_⟩
  ·rw [if_neg c4] at H
   exact absurd H (by simp)
 ·rw [if_neg c3] at H
  have c3b0 : ((a1 / 64) == 0) = false := beq_eq_false_iff_ne.mpr c3
  have c3b1 : ((a1 / 64) != 0) = true := bne_iff_ne.mpr c3
  by_cases c6 : (a1 / 16384) = 0
  ·rw [if_pos c6] at H
   have c6b0 : ((a1 / 16384) == 0) = true := beq_iff_eq.mpr c6
   have c6b1 : ((a1 / 16384) != 0) = false := bne_eq_false_iff_eq.mpr c6
   clear c6
   replace H := Option.bind_eq_some_iff.mp H
   obtain ⟨t107, A70, H⟩ := H
   replace H : (some t107) = some r := H
   have A7 := Aside0.mk A70
   clear A70
   obtain rfl := Option.some.inj H
   obtain ⟨Ao8, co8, eo8⟩ := Kd.R_slice HO0.out
   subst eo8
   go_enter Try.func18, Try.ntmps18
   go_wp2_with (first | ((with_reducible refine gate_callee (f := 42) rfl ?_); refine goesL_ (some 21) rfl rfl Try.func42 (by kernel_rfl) rfl #[.slice Ao8 l0.length co8, .int .u64 (Go.bits .or .u64 a1 16384), .int .i64 2] rfl (by (try simp only [List.map_toArray, List.map_cons, List.map_nil]); first | done | rfl | (simp only [List.length_drop, List.length_take]; rfl) | (go_simp; simp [IntKind.wrap, IntKind.bits, IntKind.signed]; omega)) ?_; (with_reducible refine (tally_big.calls k (fun k_ => some k_ = (.slice Ao8 l0.length co8 : Value).ownBlock) (.slice Ao8 l0.length co8) l0 (Go.bits .or .u64 a1 16384) 2 t107 w0 _ ?side1 ?side2 A7.out).mono ?_); (case side1 => repeat (first | (with_reducible first | exact HB.out | apply below_alloc | apply pw_below_drewN | apply below_drew1) | exact HB.out)); (case side2 => exact Kd.R_tight rfl HO0.out); rintro e w9 ⟨v108, rfl, ho0, hb, hkp⟩; refine ⟨_, rfl, ?_⟩; have n0_ := Aside0.mk (Kd.R_mono (ok' := fun k_ => (P0_ k_ ∨ w.heap.size ≤ k_)) ho0 (fun k_ hk_ => Or.elim hk_ (fun hs_ => (HO0.out.1 k_ (hs_).symm)) (fun hn_ => (.inr (Nat.le_trans (by first | exact HK.out.1 | exact (show Kept w _ (fun k_ => P0_ k_) from z9_).1) hn_))))); have n1_ := Aside0.mk (Kept.then_ (S := (fun k_ => P0_ k_)) z9_ hkp (fun k_ hs_ => (fun e_ => (HO0.out.1 k_ e_.symm)) hs_)); have n2_ := Aside0.mk (hb); clear HK; clear HB; clear HO0; have HO109 := n0_; have HK := n1_; have HB := n2_; clear n0_ n1_ n2_; (try clear hb); (try clear hkp); (try clear ho0)))
   go_ret
   exact ⟨_, z6_, by (with_reducible repeat (first | apply Kd.R_alloc | apply Kd.R_drewN | apply Kd.R_drew)); exact HO109.out, z1_, z9_⟩
  ·rw [if_neg c6] at H
   have c6b0 : ((a1 / 16384) == 0) = false := beq_eq_false_iff_ne.mpr c6
   have c6b1 : ((a1 / 16384) != 0) = true := bne_iff_ne.mpr c6
   by_cases c10 : (a1 / 1073741824) = 0
   ·rw [if_pos c10] at H
    have c10b0 : ((a1 / 1073741824) == 0) = true := beq_iff_eq.mpr c10
    have c10b1 : ((a1 / 1073741824) != 0) = false := bne_eq_false_iff_eq.mpr c10
    clear c10
    replace H := Option.bind_eq_some_iff.mp H
    obtain ⟨t110, A110, H⟩ := H
    replace H : (some t110) = some r := H
    have A11 := Aside0.mk A110
    clear A110
    obtain rfl := Option.some.inj H
    obtain ⟨Ao12, co12, eo12⟩ := Kd.R_slice HO0.out
    subst eo12
    go_enter Try.func18, Try.ntmps18
    go_wp2_with (first | ((with_reducible refine gate_callee (f := 42) rfl ?_); refine goesL_ (some 29) rfl rfl Try.func42 (by kernel_rfl) rfl #[.slice Ao12 l0.length co12, .int .u64 (Go.bits .or .u64 a1 2147483648), .int .i64 4] rfl (by (try simp only [List.map_toArray, List.map_cons, List.map_nil]); first | done | rfl | (simp only [List.length_drop, List.length_take]; rfl) | (go_simp; simp [IntKind.wrap, IntKind.bits, IntKind.signed]; omega)) ?_; (with_reducible refine (tally_big.calls k (fun k_ => some k_ = (.slice Ao12 l0.length co12 : Value).ownBlock) (.slice Ao12 l0.length co12) l0 (Go.bits .or .u64 a1 2147483648) 4 t110 w0 _ ?side1 ?side2 A11.out).mono ?_); (case side1 => repeat (first | (with_reducible first | exact HB.out | apply below_alloc | apply pw_below_drewN | apply below_drew1) | exact HB.out)); (case side2 => exact Kd.R_tight rfl HO0.out); rintro e w13 ⟨v111, rfl, ho0, hb, hkp⟩; refine ⟨_, rfl, ?_⟩; have n0_ := Aside0.mk (Kd.R_mono (ok' := fun k_ => (P0_ k_ ∨ w.heap.size ≤ k_)) ho0 (fun k_ hk_ => Or.elim hk_ (fun hs_ => (HO0.out.1 k_ (hs_).symm)) (fun hn_ => (.inr (Nat.le_trans (by first | exact HK.out.1 | exact (show Kept w _ (fun k_ => P0_ k_) from z9_).1) hn_))))); have n1_ := Aside0.mk (Kept.then_ (S := (fun k_ => P0_ k_)) z9_ hkp (fun k_ hs_ => (fun e_ => (HO0.out.1 k_ e_.symm)) hs_)); have n2_ := Aside0.mk (hb); clear HK; clear HB; clear HO0; have HO112 := n0_; have HK := n1_; have HB := n2_; clear n0_ n1_ n2_; (try clear hb); (try clear hkp); (try clear ho0)))
    go_ret
    exact ⟨_, z6_, by (with_reducible repeat (first | apply Kd.R_alloc | apply Kd.R_drewN | apply Kd.R_drew)); exact HO112.out, z1_, z9_⟩
   ·rw [if_neg c10] at H
    have c10b0 : ((a1 / 1073741824) == 0) = false := beq_eq_false_iff_ne.mpr c10
    have c10b1 : ((a1 / 1073741824) != 0) = true := bne_iff_ne.mpr c10
    by_cases c14 : l0.length < 140737488355328
    ·rw [if_pos c14] at H
     have LMc14 := Aside0.mk c14
     clear c14
     obtain ⟨y113, hy113⟩ : ∃ y_ : List Int, y_ = (l0 ++ [192]) := ⟨_, rfl⟩
     replace H : ((tally_big.f k y113 a1 8).bind fun t116 => (some t116)) = some r := by first | (rw [hy113]; with_reducible exact H) | (have H2_ := (Option.bind_some _ _).symm.trans H; rw [hy113]; with_reducible exact H2_) | (have H2_ := (Option.bind_some _ _).symm.trans H; with_reducible exact H2_) | with_reducible exact H | (rw [hy113]; exact H) | exact H
     have Ny113 := Aside0.mk hy113
     clear hy113
     replace H := Option.bind_eq_some_iff.mp H
     obtain ⟨t116, A150, H⟩ := H
     replace H : (some t116) = some r := H
     have A15 := Aside0.mk A150
     clear A150
     obtain rfl := Option.some.inj H
     go_enter Try.func18, Try.ntmps18
     go_wp2_with (first | ((with_reducible refine gate_builtin (b := .append) (xs := #[.tmp 30, .tmp 31]) rfl ?_); at_builtin; refine Kd.R_append (Kd.int .u8) (w0 := w0) w0.heap.size rfl (.tmp 30) (.tmp 31) 38 5 (.int .u8 0) 1 rfl Try.underlying38 info5 rfl (by decide) (by omega) u9000_ l0 192 [.int .u8 192] (fun k_ => (P0_ k_ ∨ w.heap.size ≤ k_)) (fun _ => False) rfl rfl ?aP (fun _ hk => hk.elim) ?aF ?aO ?aB ?aS ?aL ?_; (case aP => exact rfl); (case aB => exact z1_); (case aF => exact (fun k_ hk => (.inr (Nat.le_trans (by first | exact HK.out.1 | exact (show Kept w _ (fun k_ => P0_ k_) from z9_).1) hk)))); (case aO => exact (by (with_reducible repeat (first | apply Kd.R_alloc | apply Kd.R_drewN | apply Kd.R_drew)); exact HO0.out)); (case aS => exact (below_size z1_)); (case aL => have := LMc14.out; omega); intro v114 w16 ho hb hg hat; rw [← Ny113.out] at ho; have n0_ := Aside0.mk (hb); have n1_ := Aside0.mk (Kept.of_grown (S := (fun k_ => P0_ k_)) hg z9_ (fun k_ e_ => (HO0.out.1 k_ e_))); have n2_ := Aside0.mk (ho); clear HB; clear HK; clear HO0; have HB := n0_; have HK := n1_; have HO115 := n2_; clear n0_ n1_ n2_; clear ho hb hg hat; obtain ⟨Ao17, co17, eo17⟩ := Kd.R_slice HO115.out; subst eo17) | ((with_reducible refine gate_callee (f := 42) rfl ?_); refine goesL_ (some 34) rfl rfl Try.func42 (by kernel_rfl) rfl #[.slice Ao17 y113.length co17, .int .u64 a1, .int .i64 8] rfl (by (try simp only [List.map_toArray, List.map_cons, List.map_nil]); first | done | rfl | (simp only [List.length_drop, List.length_take]; rfl) | (go_simp; simp [IntKind.wrap, IntKind.bits, IntKind.signed]; omega)) ?_; (with_reducible refine (tally_big.calls k (fun k_ => some k_ = (.slice Ao17 y113.length co17 : Value).ownBlock) (.slice Ao17 y113.length co17) y113 a1 8 t116 w0 _ ?side1 ?side2 A15.out).mono ?_); (case side1 => repeat (first | (with_reducible first | exact HB.out | apply below_alloc | apply pw_below_drewN | apply below_drew1) | exact HB.out)); (case side2 => exact Kd.R_tight rfl HO115.out); rintro e w18 ⟨v117, rfl, ho0, hb, hkp⟩; refine ⟨_, rfl, ?_⟩; have n0_ := Aside0.mk (Kd.R_mono (ok' := fun k_ => (P0_ k_ ∨ w.heap.size ≤ k_)) ho0 (fun k_ hk_ => Or.elim hk_ (fun hs_ => (HO115.out.1 k_ (hs_).symm)) (fun hn_ => (.inr (Nat.le_trans (by first | exact HK.out.1 | exact (show Kept w _ (fun k_ => P0_ k_) from z9_).1) hn_))))); have n1_ := Aside0.mk (Kept.then_ (S := (fun k_ => P0_ k_)) z9_ hkp (fun k_ hs_ => (fun e_ => (HO115.out.1 k_ e_.symm)) hs_)); have n2_ := Aside0.mk (hb); clear HK; clear HB; clear HO115; have HO118 := n0_; have HK := n1_; have HB := n2_; clear n0_ n1_ n2_; (try clear hb); (try clear hkp); (try clear ho0)))
     go_ret
     exact ⟨_, z6_, by (with_reducible repeat (first | apply Kd.R_alloc | apply Kd.R_drewN | apply Kd.R_drew)); exact HO118.out, z1_, z9_⟩
    ·rw [if_neg c14] at H
     exact absurd H (by simp)
def tally_Int.f (k : Nat) (l0 : List Int) (a1 : Int) : Option (List Int) := (tally_Uint.f k l0 (Go.bits .xor .u64 (IntKind.u64.wrap (wrap64 (a1 * 2))) (IntKind.u64.wrap (a1 / 9223372036854775808)))).bind fun t119 => (some t119)
theorem tally_Int.mono : ∀ a0 a1 k, LeO (tally_Int.f k a0 a1) (tally_Int.f (k + 1) a0 a1) := by
 intro a0 a1 k
 unfold tally_Int.f
 repeat' first
   | (with_reducible exact tally_Uint.mono _ _ _)
   | (with_reducible exact LeO.refl _)
   | (with_reducible exact LeO.none _)
   | (with_reducible refine LeO.ite ?_ ?_)
   | (with_reducible refine LeO.bind ?_ (fun _ => ?_))
   | exact tally_Uint.mono _ _ _
   | exact LeO.none _
   | refine LeO.ite ?_ ?_
   | refine LeO.bind ?_ (fun _ => ?_)
set_option maxHeartbeats 8000000 in
set_option maxRecDepth 100000 in
theorem tally_Int.calls (k : Nat) (P0_ : Nat → Prop) (u9000_ : Value) (l0 : List Int) (a1 : Int) (r : List Int) (w0 w : World) (hB : Below w0.heap.size w0 w) (ho0 : Kd.R (Kd.int .u8) 5 w w0.heap.size P0_ u9000_ l0) (h : tally_Int.f k l0 a1 = some r) :
  Calls Try.prog 55 #[u9000_, .int .i64 a1] w fun e w' => ∃ v0_ : Value, e = .returned (v0_) ∧ Kd.R (Kd.int .u8) 5 w' w0.heap.size (fun k_ => (P0_ k_ ∨ w.heap.size ≤ k_)) v0_ r ∧ Below w0.heap.size w0 w' ∧ Kept w w' (fun k_ => P0_ k_) := by
 have HO0 := Aside0.mk (show Kd.R (Kd.int .u8) 5 w w0.heap.size (fun k_ => (P0_ k_ ∨ w.heap.size ≤ k_)) u9000_ l0 from Kd.R_mono ho0 (fun k_ hk => (.inl hk)))
 have HK := Aside0.mk (Kept.refl w (fun k_ => P0_ k_))
 have HW0 := Aside0.mk hB.size
 have HB := Aside0.mk hB
 clear hB
 have H : ((tally_Uint.f k l0 (Go.bits .xor .u64 (IntKind.u64.wrap (wrap64 (a1 * 2))) (IntKind.u64.wrap (a1 / 9223372036854775808)))).bind fun t119 => (some t119)) = some r := h
 clear h
 replace H := Option.bind_eq_some_iff.mp H
 obtain ⟨t119, A30, H⟩ := H
 replace H : (some t119) = some r := H
 have A3 := Aside0.mk A30
 clear A30
 obtain rfl := Option.some.inj H
 obtain ⟨Ao4, co4, eo4⟩ := Kd.R_slice HO0.out
 subst eo4
 go_enter Try.func55, Try.ntmps55
 go_wp2_with (first | ((with_reducible refine gate_callee (f := 18) rfl ?_); refine goesL_ (some 13) rfl rfl Try.func18 (by kernel_rfl) rfl #[.slice Ao4 l0.length co4, .int .u64 (Go.bits .xor .u64 (IntKind.u64.wrap (wrap64 (a1 * 2))) (IntKind.u64.wrap (a1 / 9223372036854775808)))] rfl (by (try simp only [List.map_toArray, List.map_cons, List.map_nil]); first | done | rfl | (simp only [List.length_drop, List.length_take]; rfl) | (go_simp; simp [IntKind.wrap, IntKind.bits, IntKind.signed]; omega)) ?_; (with_reducible refine (tally_Uint.calls k (fun k_ => some k_ = (.slice Ao4 l0.length co4 : Value).ownBlock) (.slice Ao4 l0.length co4) l0 (Go.bits .xor .u64 (IntKind.u64.wrap (wrap64 (a1 * 2))) (IntKind.u64.wrap (a1 / 9223372036854775808))) t119 w0 _ ?side1 ?side2 A3.out).mono ?_); (case side1 => repeat (first | (with_reducible first | exact HB.out | apply below_alloc | apply pw_below_drewN | apply below_drew1) | exact HB.out)); (case side2 => exact Kd.R_tight rfl HO0.out); rintro e w5 ⟨v120, rfl, ho0, hb, hkp⟩; refine ⟨_, rfl, ?_⟩; have n0_ := Aside0.mk (Kd.R_mono (ok' := fun k_ => (P0_ k_ ∨ w.heap.size ≤ k_)) ho0 (fun k_ hk_ => Or.elim hk_ (fun hs_ => (HO0.out.1 k_ (hs_).symm)) (fun hn_ => (.inr (Nat.le_trans (by first | exact HK.out.1 | exact (show Kept w _ (fun k_ => P0_ k_) from z9_).1) hn_))))); have n1_ := Aside0.mk (Kept.then_ (S := (fun k_ => P0_ k_)) z9_ hkp (fun k_ hs_ => (fun e_ => (HO0.out.1 k_ e_.symm)) hs_)); have n2_ := Aside0.mk (hb); clear HK; clear HB; clear HO0; have HO121 := n0_; have HK := n1_; have HB := n2_; clear n0_ n1_ n2_; (try clear hb); (try clear hkp); (try clear ho0)))
 go_ret
 exact ⟨_, z6_, by (with_reducible repeat (first | apply Kd.R_alloc | apply Kd.R_drewN | apply Kd.R_drew)); exact HO121.out, z1_, z9_⟩
def ints_writePlain.l0 : Nat → List Int → List Int → Int → Int → Option (List Int)
 | 0, _, _, _, _ => none
 | k + 1, x0, x7, x8, x9 => if x9 < x8 then (if 0 ≤ x9 then (if x9 < (x7.length : Int) then ((tally_Int.f k x0 (rd x7 x9)).bind fun t123 => (ints_writePlain.l0 k t123 x7 x8 (wrap64 (x9 + 1)))) else (none)) else (none)) else (some x0)
def ints_writePlain.f (k : Nat) (l0 : List Int) (l1 : List Int) : Option (List Int) := ints_writePlain.l0 k l0 l1 (l1.length : Int) 0
theorem ints_writePlain.mono_l : ∀ k, (∀ y0 y1 y2 y3, LeO (ints_writePlain.l0 k y0 y1 y2 y3) (ints_writePlain.l0 (k + 1) y0 y1 y2 y3))
 | 0 => fun _ _ _ _ r h => by simp [ints_writePlain.l0] at h
 | k + 1 => by
  have ih0 := ints_writePlain.mono_l k
  ·intro y0 y1 y2 y3
   unfold ints_writePlain.l0
   repeat' first
   | (with_reducible exact ih0 _ _ _ _)
   | (with_reducible exact tally_Int.mono _ _ _)
   | (with_reducible exact LeO.refl _)
   | (with_reducible exact LeO.none _)
   | (with_reducible refine LeO.ite ?_ ?_)
   | (with_reducible refine LeO.bind ?_ (fun _ => ?_))
   | exact ih0 _ _ _ _
   | exact tally_Int.mono _ _ _
   | exact LeO.none _
   | refine LeO.ite ?_ ?_
   | refine LeO.bind ?_ (fun _ => ?_)
theorem ints_writePlain.mono : ∀ a0 a1 k, LeO (ints_writePlain.f k a0 a1) (ints_writePlain.f (k + 1) a0 a1) := by
 intro a0 a1 k
 have ih0 := ints_writePlain.mono_l k
 unfold ints_writePlain.f
 repeat' first
   | (with_reducible exact ih0 _ _ _ _)
   | (with_reducible exact tally_Int.mono _ _ _)
   | (with_reducible exact LeO.refl _)
   | (with_reducible exact LeO.none _)
   | (with_reducible refine LeO.ite ?_ ?_)
   | (with_reducible refine LeO.bind ?_ (fun _ => ?_))
   | exact ih0 _ _ _ _
   | exact tally_Int.mono _ _ _
   | exact LeO.none _
   | refine LeO.ite ?_ ?_
   | refine LeO.bind ?_ (fun _ => ?_)
set_option maxHeartbeats 8000000 in
set_option maxRecDepth 100000 in
theorem ints_writePlain.calls (k : Nat) (P0_ : Nat → Prop) (u9000_ : Value) (l0 : List Int) (A1 : Option Addr) (c1 : Nat) (l1 : List Int) (r : List Int) (w0 w : World) (hB : Below w0.heap.size w0 w) (ho0 : Kd.R (Kd.int .u8) 5 w w0.heap.size P0_ u9000_ l0) (hr1 : ∀ W_, Kept w W_ (fun k_ => P0_ k_) → Kd.C (Kd.int .i64) W_ A1 l1.length l1) (hc1 : l1.length ≤ c1) (h : ints_writePlain.f k l0 l1 = some r) :
  Calls Try.prog 34 #[u9000_, .slice A1 l1.length c1] w fun e w' => ∃ v0_ : Value, e = .returned (v0_) ∧ Kd.R (Kd.int .u8) 5 w' w0.heap.size (fun k_ => (P0_ k_ ∨ w.heap.size ≤ k_)) v0_ r ∧ Below w0.heap.size w0 w' ∧ Kept w w' (fun k_ => P0_ k_) := by
 have HO0 := Aside0.mk (show Kd.R (Kd.int .u8) 5 w w0.heap.size (fun k_ => (P0_ k_ ∨ w.heap.size ≤ k_)) u9000_ l0 from Kd.R_mono ho0 (fun k_ hk => (.inl hk)))
 have HR1 := Aside0.mk hr1
 have HC1 := Aside0.mk hc1
 clear hr1 hc1
 have HK := Aside0.mk (Kept.refl w (fun k_ => P0_ k_))
 have HW0 := Aside0.mk hB.size
 have HB := Aside0.mk hB
 clear hB
 have H : (ints_writePlain.l0 k l0 l1 (l1.length : Int) 0) = some r := h
 clear h
 have H' := Aside0.mk H
 clear H
 go_enter Try.func34, Try.ntmps34
 go_wp2
 go_loopg [0, 9] k (fun kq v0 v9 w' => ∃ (x0_1 : List Int) (x9_1 : Int), v9 = .int .i64 x9_1 ∧ Aside0 (ints_writePlain.l0 kq x0_1 l1 (l1.length : Int) x9_1 = some r) ∧ Aside0 (kq ≤ k) ∧ Aside0 (Kd.R (Kd.int .u8) 5 w' w0.heap.size (fun k_ => (P0_ k_ ∨ w.heap.size ≤ k_)) v0 x0_1) ∧ Aside0 (Kept w w' (fun k_ => P0_ k_)) ∧ Aside0 (Below w0.heap.size w0 w'))
 case atStart => exact ⟨(l0), (0), z11_, H', ⟨Nat.le_refl _⟩, ⟨by (with_reducible repeat (first | apply Kd.R_alloc | apply Kd.R_drewN | apply Kd.R_drew)); exact HO0.out⟩, ⟨z9_⟩, ⟨z1_⟩⟩
 case round =>
  clear H'
  try clear c1
  try clear p2
  obtain ⟨x0_1, x9_1, rfl, HA, HK1, HO_0, HK, HB⟩ := hrel
  cases gk with
  | zero => exact absurd HA.out (by simp [ints_writePlain.l0])
  | succ k1 =>
   have H := HA.out
   clear HA
   simp only [ints_writePlain.l0] at H
   by_cases c3 : x9_1 < (l1.length : Int)
   ·rw [if_pos c3] at H
    have c3b0 : decide (x9_1 < (l1.length : Int)) = true := decide_eq_true c3
    clear c3
    by_cases c4 : 0 ≤ x9_1
    ·rw [if_pos c4] at H
     have c4b0 : decide (0 ≤ x9_1) = true := decide_eq_true c4
     clear c4
     by_cases c5 : x9_1 < (l1.length : Int)
     ·rw [if_pos c5] at H
      have c5b0 : decide (x9_1 < (l1.length : Int)) = true := decide_eq_true c5
      clear c5
      replace H := Option.bind_eq_some_iff.mp H
      obtain ⟨t123, A60, H⟩ := H
      replace H : (ints_writePlain.l0 k1 t123 l1 (l1.length : Int) (wrap64 (x9_1 + 1))) = some r := H
      have A6 := Aside0.mk A60
      clear A60
      have H' := Aside0.mk H
      clear H
      have p122 : 0 ≤ (x9_1 : Int) := of_decide_eq_true z12_
      have q122 : x9_1 < (l1.length : Int) := of_decide_eq_true z12_
      obtain ⟨ad122, e122, hx122_0⟩ := Kd.at_int (Kd.C_kept_now HR1.out HK.out) x9_1 p122 q122
      cases e122
      replace p122 := eq_true p122
      replace q122 := eq_true q122
      obtain ⟨Ao7, co7, eo7⟩ := Kd.R_slice HO_0.out
      subst eo7
      go_wp2_with (first | ((with_reducible refine gate_callee (f := 55) rfl ?_); refine goesL_ (some 15) rfl rfl Try.func55 (by kernel_rfl) rfl #[.slice Ao7 x0_1.length co7, .int .i64 (rd l1 x9_1)] rfl (by (try simp only [List.map_toArray, List.map_cons, List.map_nil]); first | done | rfl | (simp only [List.length_drop, List.length_take]; rfl) | (go_simp; simp [IntKind.wrap, IntKind.bits, IntKind.signed]; omega)) ?_; (with_reducible refine (tally_Int.calls k1 (fun k_ => some k_ = (.slice Ao7 x0_1.length co7 : Value).ownBlock) (.slice Ao7 x0_1.length co7) x0_1 (rd l1 x9_1) t123 w0 _ ?side1 ?side2 A6.out).mono ?_); (case side1 => repeat (first | (with_reducible first | exact HB.out | apply below_alloc | apply pw_below_drewN | apply below_drew1) | exact HB.out)); (case side2 => exact Kd.R_tight rfl HO_0.out); rintro e w8 ⟨v124, rfl, ho0, hb, hkp⟩; refine ⟨_, rfl, ?_⟩; have n0_ := Aside0.mk (Kd.R_mono (ok' := fun k_ => (P0_ k_ ∨ w.heap.size ≤ k_)) ho0 (fun k_ hk_ => Or.elim hk_ (fun hs_ => (HO_0.out.1 k_ (hs_).symm)) (fun hn_ => (.inr (Nat.le_trans (by first | exact HK.out.1 | exact (show Kept w _ (fun k_ => P0_ k_) from z9_).1) hn_))))); have n1_ := Aside0.mk (Kept.then_ (S := (fun k_ => P0_ k_)) z9_ hkp (fun k_ hs_ => (fun e_ => (HO_0.out.1 k_ e_.symm)) hs_)); have n2_ := Aside0.mk (hb); clear HK; clear HB; clear HO_0; have HO125 := n0_; have HK := n1_; have HB := n2_; clear n0_ n1_ n2_; (try clear hb); (try clear hkp); (try clear ho0)))
      go_roundg k1
      case measure => have := HK1.out; omega
      case rel => exact ⟨(t123), (wrap64 (x9_1 + 1)), z11_, H', ⟨by have := HK1.out; omega⟩, ⟨by (with_reducible repeat (first | apply Kd.R_alloc | apply Kd.R_drewN | apply Kd.R_drew)); exact HO125.out⟩, ⟨z9_⟩, ⟨z1_⟩⟩
     ·rw [if_neg c5] at H
      exact absurd H (by simp)
    ·rw [if_neg c4] at H
     exact absurd H (by simp)
   ·rw [if_neg c3] at H
    have c3b0 : decide (x9_1 < (l1.length : Int)) = false := decide_eq_false c3
    clear c3
    obtain rfl := Option.some.inj H
    go_wp2
    go_ret
    exact ⟨_, z6_, by (with_reducible repeat (first | apply Kd.R_alloc | apply Kd.R_drewN | apply Kd.R_drew)); exact HO_0.out, z1_, z9_⟩
end Go.Proofs.Ytgeddoklmcjdcaa.G
namespace Go.Proofs.Ytgeddoklmcjdcaa.G
open Go.RowKit Go.Proofs.YtgeddoklmcjdcaaQ Go.Proofs.YtgeddoklmcjdcaaW.PrintWords Go.Proofs.YtgeddoklmcjdcaaW.PrintLast Go.Proofs.YtgeddoklmcjdcaaW.PrintMore
attribute [local go_sem] max2_int min2_int max_two min_two max_three min_three max_four min_four   -- for this text's walks alone
set_option linter.unusedVariables false
set_option linter.unusedSimpArgs false
def ints_writeDelta.l0 : Nat → List Int → Int → List Int → Int → Int → Option (List Int)
 | 0, _, _, _, _, _ => none
 | k + 1, x0, x5, x8, x9, x10 => if x10 < x9 then (if 0 ≤ x10 then (if x10 < (x8.length : Int) then ((tally_Int.f k x0 (wrap64 ((rd x8 x10) - x5))).bind fun t151 => (ints_writeDelta.l0 k t151 (rd x8 x10) x8 x9 (wrap64 (x10 + 1)))) else (none)) else (none)) else (some x0)
def ints_writeDelta.f (k : Nat) (l0 : List Int) (l1 : List Int) : Option (List Int) := ints_writeDelta.l0 k l0 0 l1 (l1.length : Int) 0
theorem ints_writeDelta.mono_l : ∀ k, (∀ y0 y1 y2 y3 y4, LeO (ints_writeDelta.l0 k y0 y1 y2 y3 y4) (ints_writeDelta.l0 (k + 1) y0 y1 y2 y3 y4))
 | 0 => fun _ _ _ _ _ r h => by simp [ints_writeDelta.l0] at h
 | k + 1 => by
  have ih0 := ints_writeDelta.mono_l k
  ·intro y0 y1 y2 y3 y4
   unfold ints_writeDelta.l0
   repeat' first
   | (with_reducible exact ih0 _ _ _ _ _)
   | (with_reducible exact tally_Int.mono _ _ _)
   | (with_reducible exact LeO.refl _)
   | (with_reducible exact LeO.none _)
   | (with_reducible refine LeO.ite ?_ ?_)
   | (with_reducible refine LeO.bind ?_ (fun _ => ?_))
   | exact ih0 _ _ _ _ _
   | exact tally_Int.mono _ _ _
   | exact LeO.none _
   | refine LeO.ite ?_ ?_
   | refine LeO.bind ?_ (fun _ => ?_)
theorem ints_writeDelta.mono : ∀ a0 a1 k, LeO (ints_writeDelta.f k a0 a1) (ints_writeDelta.f (k + 1) a0 a1) := by
 intro a0 a1 k
 have ih0 := ints_writeDelta.mono_l k
 unfold ints_writeDelta.f
 repeat' first
   | (with_reducible exact ih0 _ _ _ _ _)
   | (with_reducible exact tally_Int.mono _ _ _)
   | (with_reducible exact LeO.refl _)
   | (with_reducible exact LeO.none _)
   | (with_reducible refine LeO.ite ?_ ?_)
   | (with_reducible refine LeO.bind ?_ (fun _ => ?_))
   | exact ih0 _ _ _ _ _
   | exact tally_Int.mono _ _ _
   | exact LeO.none _
   | refine LeO.ite ?_ ?_
   | refine LeO.bind ?_ (fun _ => ?_)
set_option maxHeartbeats 8000000 in
set_option maxRecDepth 100000 in
theorem ints_writeDelta.calls (k : Nat) (P0_ : Nat → Prop) (u9000_ : Value) (l0 : List Int) (A1 : Option Addr) (c1 : Nat) (l1 : List Int) (r : List Int) (w0 w : World) (hB : Below w0.heap.size w0 w) (ho0 : Kd.R (Kd.int .u8) 5 w w0.heap.size P0_ u9000_ l0) (hr1 : ∀ W_, Kept w W_ (fun k_ => P0_ k_) → Kd.C (Kd.int .i64) W_ A1 l1.length l1) (hc1 : l1.length ≤ c1) (h : ints_writeDelta.f k l0 l1 = some r) :
  Calls Try.prog 36 #[u9000_, .slice A1 l1.length c1] w fun e w' => ∃ v0_ : Value, e = .returned (v0_) ∧ Kd.R (Kd.int .u8) 5 w' w0.heap.size (fun k_ => (P0_ k_ ∨ w.heap.size ≤ k_)) v0_ r ∧ Below w0.heap.size w0 w' ∧ Kept w w' (fun k_ => P0_ k_) := by
 have HO0 := Aside0.mk (show Kd.R (Kd.int .u8) 5 w w0.heap.size (fun k_ => (P0_ k_ ∨ w.heap.size ≤ k_)) u9000_ l0 from Kd.R_mono ho0 (fun k_ hk => (.inl hk)))
 have HR1 := Aside0.mk hr1
 have HC1 := Aside0.mk hc1
 clear hr1 hc1
 have HK := Aside0.mk (Kept.refl w (fun k_ => P0_ k_))
 have HW0 := Aside0.mk hB.size
 have HB := Aside0.mk hB
 clear hB
 have H : (ints_writeDelta.l0 k l0 0 l1 (l1.length : Int) 0) = some r := h
 clear h
 have H' := Aside0.mk H
 clear H
 go_enter Try.func36, Try.ntmps36
 go_wp2
 go_loopg [0, 5, 10] k (fun kq v0 v5 v10 w' => ∃ (x0_1 : List Int) (x5_1 : Int) (x10_1 : Int), v5 = .int .i64 x5_1 ∧ v10 = .int .i64 x10_1 ∧ Aside0 (ints_writeDelta.l0 kq x0_1 x5_1 l1 (l1.length : Int) x10_1 = some r) ∧ Aside0 (kq ≤ k) ∧ Aside0 (Kd.R (Kd.int .u8) 5 w' w0.heap.size (fun k_ => (P0_ k_ ∨ w.heap.size ≤ k_)) v0 x0_1) ∧ Aside0 (Kept w w' (fun k_ => P0_ k_)) ∧ Aside0 (Below w0.heap.size w0 w'))
 case atStart => exact ⟨(l0), (0), (0), z11_, z11_, H', ⟨Nat.le_refl _⟩, ⟨by (with_reducible repeat (first | apply Kd.R_alloc | apply Kd.R_drewN | apply Kd.R_drew)); exact HO0.out⟩, ⟨z9_⟩, ⟨z1_⟩⟩
 case round =>
  clear H'
  try clear c1
  try clear p2
  obtain ⟨x0_1, x5_1, x10_1, rfl, rfl, HA, HK1, HO_0, HK, HB⟩ := hrel
  cases gk with
  | zero => exact absurd HA.out (by simp [ints_writeDelta.l0])
  | succ k1 =>
   have H := HA.out
   clear HA
   simp only [ints_writeDelta.l0] at H
   by_cases c3 : x10_1 < (l1.length : Int)
   ·rw [if_pos c3] at H
    have c3b0 : decide (x10_1 < (l1.length : Int)) = true := decide_eq_true c3
    clear c3
    by_cases c4 : 0 ≤ x10_1
    ·rw [if_pos c4] at H
     have c4b0 : decide (0 ≤ x10_1) = true := decide_eq_true c4
     clear c4
     by_cases c5 : x10_1 < (l1.length : Int)
     ·rw [if_pos c5] at H
      have c5b0 : decide (x10_1 < (l1.length : Int)) = true := decide_eq_true c5
      clear c5
      replace H := Option.bind_eq_some_iff.mp H
      obtain ⟨t151, A60, H⟩ := H
      replace H : (ints_writeDelta.l0 k1 t151 (rd l1 x10_1) l1 (l1.length : Int) (wrap64 (x10_1 + 1))) = some r := H
      have A6 := Aside0.mk A60
      clear A60
      have H' := Aside0.mk H
      clear H
      have p150 : 0 ≤ (x10_1 : Int) := of_decide_eq_true z12_
      have q150 : x10_1 < (l1.length : Int) := of_decide_eq_true z12_
      obtain ⟨ad150, e150, hx150_0⟩ := Kd.at_int (Kd.C_kept_now HR1.out HK.out) x10_1 p150 q150
      cases e150
      replace p150 := eq_true p150
      replace q150 := eq_true q150
      obtain ⟨Ao7, co7, eo7⟩ := Kd.R_slice HO_0.out
      subst eo7
      go_wp2_with (first | ((with_reducible refine gate_callee (f := 55) rfl ?_); refine goesL_ (some 18) rfl rfl Try.func55 (by kernel_rfl) rfl #[.slice Ao7 x0_1.length co7, .int .i64 (wrap64 ((rd l1 x10_1) - x5_1))] rfl (by (try simp only [List.map_toArray, List.map_cons, List.map_nil]); first | done | rfl | (simp only [List.length_drop, List.length_take]; rfl) | (go_simp; simp [IntKind.wrap, IntKind.bits, IntKind.signed]; omega)) ?_; (with_reducible refine (tally_Int.calls k1 (fun k_ => some k_ = (.slice Ao7 x0_1.length co7 : Value).ownBlock) (.slice Ao7 x0_1.length co7) x0_1 (wrap64 ((rd l1 x10_1) - x5_1)) t151 w0 _ ?side1 ?side2 A6.out).mono ?_); (case side1 => repeat (first | (with_reducible first | exact HB.out | apply below_alloc | apply pw_below_drewN | apply below_drew1) | exact HB.out)); (case side2 => exact Kd.R_tight rfl HO_0.out); rintro e w8 ⟨v152, rfl, ho0, hb, hkp⟩; refine ⟨_, rfl, ?_⟩; have n0_ := Aside0.mk (Kd.R_mono (ok' := fun k_ => (P0_ k_ ∨ w.heap.size ≤ k_)) ho0 (fun k_ hk_ => Or.elim hk_ (fun hs_ => (HO_0.out.1 k_ (hs_).symm)) (fun hn_ => (.inr (Nat.le_trans (by first | exact HK.out.1 | exact (show Kept w _ (fun k_ => P0_ k_) from z9_).1) hn_))))); have n1_ := Aside0.mk (Kept.then_ (S := (fun k_ => P0_ k_)) z9_ hkp (fun k_ hs_ => (fun e_ => (HO_0.out.1 k_ e_.symm)) hs_)); have n2_ := Aside0.mk (hb); clear HK; clear HB; clear HO_0; have HO153 := n0_; have HK := n1_; have HB := n2_; clear n0_ n1_ n2_; (try clear hb); (try clear hkp); (try clear ho0)))
      go_roundg k1
      case measure => have := HK1.out; omega
      case rel => exact ⟨(t151), (rd l1 x10_1), (wrap64 (x10_1 + 1)), z11_, z11_, H', ⟨by have := HK1.out; omega⟩, ⟨by (with_reducible repeat (first | apply Kd.R_alloc | apply Kd.R_drewN | apply Kd.R_drew)); exact HO153.out⟩, ⟨z9_⟩, ⟨z1_⟩⟩
     ·rw [if_neg c5] at H
      exact absurd H (by simp)
    ·rw [if_neg c4] at H
     exact absurd H (by simp)
   ·rw [if_neg c3] at H
    have c3b0 : decide (x10_1 < (l1.length : Int)) = false := decide_eq_false c3
    clear c3
    obtain rfl := Option.some.inj H
    go_wp2
    go_ret
    exact ⟨_, z6_, by (with_reducible repeat (first | apply Kd.R_alloc | apply Kd.R_drewN | apply Kd.R_drew)); exact HO_0.out, z1_, z9_⟩
def ints_readDelta.l0 : Nat → List Int → Int → Int → ByteArray → Int → Option (List Int × Int × ByteArray × Int)
 | 0, _, _, _, _, _ => none
 | k + 1, x6, x7, x8, x1000, x1001 => if x8 < (x6.length : Int) then (if 0 ≤ x8 then (if 0 ≤ (wrap64 (x8 - 1)) then (if (wrap64 (x8 - 1)) < (x6.length : Int) then (ints_readDelta.l0 k (x6.set (x8 : Int).toNat (wrap64 ((rd x6 x8) + (rd x6 (wrap64 (x8 - 1)))))) x7 (wrap64 (x8 + 1)) x1000 x1001) else (none)) else (none)) else (none)) else (some (x6, x7, x1000, x1001))
def ints_readDelta.f (k : Nat) (s0_0 : ByteArray) (s0_1 : Int) (a1 : Int) : Option (List Int × Int × ByteArray × Int) := (ints_readPlain.f k s0_0 s0_1 a1).bind fun bt154 => (ints_readDelta.l0 k bt154.1 bt154.2.1 1 bt154.2.2.1 bt154.2.2.2)
theorem ints_readDelta.mono_l : ∀ k, (∀ y0 y1 y2 y3 y4, LeO (ints_readDelta.l0 k y0 y1 y2 y3 y4) (ints_readDelta.l0 (k + 1) y0 y1 y2 y3 y4))
 | 0 => fun _ _ _ _ _ r h => by simp [ints_readDelta.l0] at h
 | k + 1 => by
  have ih0 := ints_readDelta.mono_l k
  ·intro y0 y1 y2 y3 y4
   unfold ints_readDelta.l0
   repeat' first
   | (with_reducible exact ih0 _ _ _ _ _)
   | (with_reducible exact ints_readPlain.mono _ _ _ _)
   | (with_reducible exact LeO.refl _)
   | (with_reducible exact LeO.none _)
   | (with_reducible refine LeO.ite ?_ ?_)
   | (with_reducible refine LeO.bind ?_ (fun _ => ?_))
   | exact ih0 _ _ _ _ _
   | exact ints_readPlain.mono _ _ _ _
   | exact LeO.none _
   | refine LeO.ite ?_ ?_
   | refine LeO.bind ?_ (fun _ => ?_)
theorem ints_readDelta.mono : ∀ a0 a1 a2 k, LeO (ints_readDelta.f k a0 a1 a2) (ints_readDelta.f (k + 1) a0 a1 a2) := by
 intro a0 a1 a2 k
 have ih0 := ints_readDelta.mono_l k
 unfold ints_readDelta.f
 repeat' first
   | (with_reducible exact ih0 _ _ _ _ _)
   | (with_reducible exact ints_readPlain.mono _ _ _ _)
   | (with_reducible exact LeO.refl _)
   | (with_reducible exact LeO.none _)
   | (with_reducible refine LeO.ite ?_ ?_)
   | (with_reducible refine LeO.bind ?_ (fun _ => ?_))
   | exact ih0 _ _ _ _ _
   | exact ints_readPlain.mono _ _ _ _
   | exact LeO.none _
   | refine LeO.ite ?_ ?_
   | refine LeO.bind ?_ (fun _ => ?_)
def ints_readDelta.T5 : Bool × List (List Nat × List Nat) := (true, [([], []), ([], []), ([0, 1], [0, 1]), ([2], [2]), ([], []), ([], []), ([5], [5]), ([4, 6], [4, 6]), ([7], [7]), ([3, 8], [3, 8]), ([0, 1, 0, 1, 2, 3, 4, 5, 6, 7, 8, 9], [0, 1]), ([10, 9, 0, 1, 2, 3, 4, 5, 6, 7, 8, 9], [9, 10])])
def ints_readDelta.B5 : List Nat := [0, 0, 3, 7, 0, 0, 32, 112, 240, 511, 1023, 2047]
theorem ints_readDelta.tab5 : rtab .any (opsOf Try.f37 5) = ints_readDelta.T5 := by kernel_rfl
theorem ints_readDelta.bits5 : waitsOk ints_readDelta.T5.2 ints_readDelta.B5 = true := by kernel_rfl
set_option maxHeartbeats 8000000 in
set_option maxRecDepth 100000 in
theorem ints_readDelta.calls (k : Nat) (g : Nat) (s0_0 : ByteArray) (s0_1 : Int) (a1 : Int) (r1 : List Int) (r2 : Int) (r3 : ByteArray) (r4 : Int) (w0 w : World) (hI : IsS66 w0 w g s0_0 s0_1) (hB : Below w0.heap.size w0 w) (h : ints_readDelta.f k s0_0 s0_1 a1 = some (r1, r2, r3, r4)) :
  Calls Try.prog 37 #[.pointer (some ⟨g, 0, none⟩), .int .i64 a1] w fun e w' => ∃ v0_ : Value, e = .returned (.tuple #[v0_, .int .i64 r2]) ∧ Kd.R (Kd.int .i64) 2 w' w.heap.size (fun _ => True) v0_ r1 ∧ IsS66 w0 w' g r3 r4 ∧ Below w0.heap.size w0 w' ∧ KeepBut w w' g none := by
 have HI0 := Aside0.mk hI
 have HK := Aside0.mk (KeepBut.refl w g none)
 have HL := Aside0.mk hB.size
 clear hI
 have HW0 := Aside0.mk hB.size
 have HB := Aside0.mk hB
 clear hB
 have H : ((ints_readPlain.f k s0_0 s0_1 a1).bind fun bt154 => (ints_readDelta.l0 k bt154.1 bt154.2.1 1 bt154.2.2.1 bt154.2.2.2)) = some (r1, r2, r3, r4) := h
 clear h
 replace H := Option.bind_eq_some_iff.mp H
 obtain ⟨⟨t154, t157, t158, t159⟩, A30, H⟩ := H
 replace H : (ints_readDelta.l0 k t154 t157 1 t158 t159) = some (r1, r2, r3, r4) := H
 have A3 := Aside0.mk A30
 clear A30
 have H' := Aside0.mk H
 clear H
 go_enter Try.func37, Try.ntmps37
 go_wp2_with (first | ((with_reducible refine gate_callee (f := 35) rfl ?_); refine goesL_ (some 12) rfl rfl Try.func35 (by kernel_rfl) rfl #[.pointer (some ⟨g, 0, none⟩), .int .i64 a1] rfl (by (try simp only [List.map_toArray, List.map_cons, List.map_nil]); first | done | rfl | (simp only [List.length_drop, List.length_take]; rfl) | (go_simp; simp [IntKind.wrap, IntKind.bits, IntKind.signed]; omega)) ?_; (with_reducible refine (ints_readPlain.calls k g s0_0 s0_1 a1 t154 t157 t158 t159 w0 _ ?side1 ?side2 A3.out).mono ?_); (case side1 => repeat (first | (with_reducible first | exact HI0.out | apply IsS66.alloc | apply IsS66.drewN | apply IsS66.drew | apply IsS66.set_0 | apply IsS66.set_1) | exact HI0.out)); (case side2 => repeat (first | (with_reducible first | exact HB.out | apply below_alloc | apply pw_below_drewN | apply below_drew1 | refine below_set ?_ (IsS66.ge HI0.out)) | exact HB.out)); rintro e w4 ⟨v155, rfl, ho0, hi, hb, hk⟩; refine ⟨_, rfl, ?_⟩; have n0_ := Aside0.mk (Kd.R_lower ho0 (keep_size (w := w) (g := g) (row := none) z0_)); have n1_ := Aside0.mk (KeepBut.trans z0_ hk (.inl rfl)); have n2_ := Aside0.mk (hb); have n3_ := Aside0.mk (hi); clear HK; clear HB; clear HI0; have HO156 := n0_; have HK := n1_; have HB := n2_; have HI0 := n3_; clear n0_ n1_ n2_ n3_; (try clear hb); (try clear hb2); (try clear hk); (try clear hi); (try clear ho0)))
 go_loopg [8] k (fun kq v8 w' => ∃ (x6_1 : List Int) (x8_1 : Int), v8 = .int .i64 x8_1 ∧ Aside0 (ints_readDelta.l0 kq x6_1 t157 x8_1 t158 t159 = some (r1, r2, r3, r4)) ∧ Aside0 (kq ≤ k) ∧ Aside0 (Kd.R (Kd.int .i64) 2 w' w.heap.size (fun _ => True) v155 x6_1) ∧ Aside0 (IsS66 w0 w' g t158 t159) ∧ Aside0 (KeepBut w w' g none) ∧ Aside0 (Below w0.heap.size w0 w'))
 case atStart => exact ⟨(t154), (1), z11_, H', ⟨Nat.le_refl _⟩, ⟨by (with_reducible repeat (first | apply Kd.R_alloc | apply Kd.R_drewN | apply Kd.R_drew)); exact HO156.out⟩, ⟨z4_⟩, ⟨z0_⟩, ⟨z5_⟩⟩
 case round =>
  clear H'
  try clear p2
  try clear c3
  obtain ⟨x6_1, x8_1, rfl, HA, HK1, HO_6, HI0, HK, HB⟩ := hrel
  cases gk with
  | zero => exact absurd HA.out (by simp [ints_readDelta.l0])
  | succ k1 =>
   have H := HA.out
   clear HA
   simp only [ints_readDelta.l0] at H
   by_cases c5 : x8_1 < (x6_1.length : Int)
   ·rw [if_pos c5] at H
    have c5b0 : decide (x8_1 < (x6_1.length : Int)) = true := decide_eq_true c5
    clear c5
    by_cases c6 : 0 ≤ x8_1
    ·rw [if_pos c6] at H
     have c6b0 : decide (0 ≤ x8_1) = true := decide_eq_true c6
     clear c6
     obtain ⟨ji7, hji7⟩ : ∃ j_ : Int, (wrap64 (x8_1 - 1)) = j_ := ⟨_, rfl⟩
     replace H : (if 0 ≤ (ji7) then (if (ji7) < (x6_1.length : Int) then (ints_readDelta.l0 k1 (x6_1.set (x8_1 : Int).toNat (wrap64 ((rd x6_1 x8_1) + (rd x6_1 (ji7))))) t157 (wrap64 (x8_1 + 1)) t158 t159) else (none)) else (none)) = some (r1, r2, r3, r4) := by first | (rw [hji7] at H; exact H) | (simp only [hji7] at H ⊢; exact H)
     have hji7w : (IntKind.i64.wrap (x8_1 - 1)) = ji7 := (i64_w _).trans hji7
     by_cases c8 : 0 ≤ (ji7)
     ·rw [if_pos c8] at H
      have c8b0 : decide (0 ≤ (ji7)) = true := decide_eq_true c8
      clear c8
      by_cases c9 : (ji7) < (x6_1.length : Int)
      ·rw [if_pos c9] at H
       have c9b0 : decide ((ji7) < (x6_1.length : Int)) = true := decide_eq_true c9
       clear c9
       obtain ⟨y162, hy162⟩ : ∃ y_ : List Int, y_ = (x6_1.set (x8_1 : Int).toNat (wrap64 ((rd x6_1 x8_1) + (rd x6_1 (ji7))))) := ⟨_, rfl⟩
       replace H : (ints_readDelta.l0 k1 y162 t157 (wrap64 (x8_1 + 1)) t158 t159) = some (r1, r2, r3, r4) := by first | (rw [hy162]; with_reducible exact H) | (have H2_ := (Option.bind_some _ _).symm.trans H; rw [hy162]; with_reducible exact H2_) | (have H2_ := (Option.bind_some _ _).symm.trans H; with_reducible exact H2_) | with_reducible exact H | (rw [hy162]; exact H) | exact H
       have Ny162 := Aside0.mk hy162
       clear hy162
       have H' := Aside0.mk H
       clear H
       obtain ⟨Ao11, co11, eo11⟩ := Kd.R_slice HO_6.out
       subst eo11
       try go_wp2
       have n0_ := Aside0.mk (Kd.R_drew HO_6.out)
       have n1_ := Aside0.mk (IsS66.drew HI0.out)
       have n2_ := Aside0.mk (keep_drew HK.out)
       have n3_ := Aside0.mk (below_drew1 HB.out)
       clear HO_6
       clear HI0
       clear HK
       clear HB
       have HO_6 := n0_
       have HI0 := n1_
       have HK := n2_
       have HB := n3_
       clear n0_ n1_ n2_ n3_
       have p160 : 0 ≤ (x8_1 : Int) := of_decide_eq_true z12_
       have q160 : x8_1 < (x6_1.length : Int) := of_decide_eq_true z12_
       obtain ⟨ad160, e160, hx160_0⟩ := Kd.at_int (Kd.R_reads' HO_6.out).2.2 x8_1 p160 q160
       cases e160
       replace p160 := eq_true p160
       replace q160 := eq_true q160
       have p161 : 0 ≤ ((ji7) : Int) := of_decide_eq_true z12_
       have q161 : (ji7) < (x6_1.length : Int) := of_decide_eq_true z12_
       obtain ⟨ad161, e161, hx161_0⟩ := Kd.at_int (Kd.R_reads' HO_6.out).2.2 (ji7) p161 q161
       obtain rfl : ad160 = ad161 := (by injection e161)
       replace p161 := eq_true p161
       replace q161 := eq_true q161
       have p10 : 0 ≤ (x8_1 : Int) := of_decide_eq_true z12_
       have q10 : (x8_1 : Int) < ((x6_1.length : Int) : Int) := of_decide_eq_true z12_
       obtain ⟨go10, co10, eo10, gb10, gl10, cl10, HG10⟩ := Kd.R_form HO_6.out (by omega)
       (first | cases eo10 | (injection eo10 with ea_ en_ ec_; (first | subst ea_ | (injection ea_ with ea_; subst ea_)); subst ec_; clear en_))
       have GB10 := Aside0.mk gb10
       have GG10 := Aside0.mk HG10
       clear gb10 gl10 HG10
       (first | simp only [add_plain] at hx160_0 | skip)
       (first | simp only [add_plain] at hx161_0 | skip)
       obtain ⟨hx10_0, hf10_0⟩ := Kd.R_celln 0 HO_6.out (x8_1 : Int) p10 q10
       replace p10 := eq_true p10
       replace q10 := eq_true q10
       have HN0_go10 := Aside0.mk (show g ≠ go10 from by have h_ := IsS66.own_ne HI0.out HO_6.out (by decide); intro e_; exact h_ (by rw [e_]; rfl))
       have HP13 := Kd.R_putn HO_6.out (x8_1 : Int) (wrap64 ((rd x6_1 x8_1) + (rd x6_1 (ji7))))
       rw [← Ny162.out] at HP13
       have HQ13 := Aside0.mk HP13
       clear HP13
       refine start_ (n := 12) (S := fun w' => w'.cell? ⟨go10, (x8_1).toNat, none⟩ = some (.int .i64 (rd x6_1 x8_1)) ∧ w'.cell? ⟨go10, ((ji7)).toNat, none⟩ = some (.int .i64 (rd x6_1 (ji7)))) (ds := [11]) (bs_ 12 0) (by kernel_rfl) rfl rfl ⟨hx160_0, hx161_0⟩ (fun hHeld => ?_); refine with_tabW ints_readDelta.tab5 ints_readDelta.bits5 (fun HT_ HW_ => ?_)
       generalize wr.drew = w12 at HO_6 HI0 HK HB GG10 HQ13 hf10_0 hx10_0 hx160_0 hx161_0 hHeld ⊢
       refine pA_ 0 (some 21) (bs_ 12 1) HT_ ?_ ?_ ?_ ?_ ?_
       rotate_left; (intro w'; go_simp; with_reducible rfl); rotate_left; (simp only [PT_]; rfl)
       refine pA_ 1 (some 22) (bs_ 12 3) HT_ ?_ ?_ ?_ ?_ ?_
       rotate_left; (intro w'; go_simp; with_reducible rfl); rotate_left; (simp only [PT_]; rfl)
       refine pA_ 2 (some 23) (bs_ 12 7) HT_ ?_ ?_ ?_ ?_ ?_
       rotate_left; (intro w'; go_simp; with_reducible rfl); rotate_left; (simp only [PT_]; rfl)
       refine pA_ 4 (some 25) (bs_ 12 23) HT_ ?_ ?_ ?_ ?_ ?_
       rotate_left; (intro w'; go_simp; with_reducible rfl); rotate_left; (simp only [PT_]; rfl)
       refine pA_ 5 (some 26) (bs_ 12 55) HT_ ?_ ?_ ?_ ?_ ?_
       rotate_left; (intro w'; go_simp; with_reducible rfl); rotate_left; (simp only [PT_]; rfl)
       refine pA_ 6 (some 27) (bs_ 12 119) HT_ ?_ ?_ ?_ ?_ ?_
       rotate_left; (intro w'; go_simp; with_reducible rfl); rotate_left; (simp only [PT_]; rfl)
       refine pA_ 7 (some 28) (bs_ 12 247) HT_ ?_ ?_ ?_ ?_ ?_
       rotate_left; (intro w'; go_simp; with_reducible rfl); rotate_left; (simp only [PT_]; rfl)
       refine take_ (i := 3) (N := some 24) (v := ?_) (a' := ?_) (bs_ 12 255) rfl rfl (take_ofW HT_.out HW_.out (by kernel_rfl)) (fun _ _ _ h => h) (Or.inl ⟨by rfl, ?_⟩) hHeld ?_ ?_
       rotate_left
       ·rintro w' ⟨s0, s1⟩
        go_simp
        with_reducible rfl
       rotate_left
       ·simp only [PT_]
        rfl
       refine take_ (i := 8) (N := some 29) (v := ?_) (a' := ?_) (bs_ 12 511) rfl rfl (take_ofW HT_.out HW_.out (by kernel_rfl)) (fun _ _ _ h => h) (Or.inl ⟨by rfl, ?_⟩) hHeld ?_ ?_
       rotate_left
       ·rintro w' ⟨s0, s1⟩
        go_simp
        with_reducible rfl
       rotate_left
       ·simp only [PT_]
        rfl
       refine pA_ 9 (some 30) (bs_ 12 1023) HT_ ?_ ?_ ?_ ?_ ?_
       rotate_left; (intro w'; go_simp; with_reducible rfl); rotate_left; (simp only [PT_]; rfl)
       refine pA_ 10 (some 31) (bs_ 12 2047) HT_ ?_ ?_ ?_ ?_ ?_
       rotate_left; (intro w'; go_simp; with_reducible rfl); rotate_left; (simp only [PT_]; rfl)
       refine last_ (i := 11) (N := none) (bs_ 12 4095) rfl rfl (one_of HT_.out (by kernel_rfl)) (by decide) (fun K hK => ?_)
       refine skip_ (w1 := ?_) (by rfl) rfl ?_ ?_
       rotate_left
       ·go_simp
        rfl
       refine hK.out _ _ ?_
       clear hK K
       refine done_ (done_of HT_.out (by kernel_rfl)) ?_
       try go_wp2
       go_roundg k1
       case measure => have := HK1.out; omega
       case rel => exact ⟨(y162), (wrap64 (x8_1 + 1)), z11_, H', ⟨by have := HK1.out; omega⟩, ⟨by (with_reducible repeat (first | apply Kd.R_alloc | apply Kd.R_drewN | apply Kd.R_drew)); exact HQ13.out⟩, ⟨by repeat (first | (with_reducible first | exact HI0.out | apply IsS66.alloc | apply IsS66.drewN | apply IsS66.drew | apply IsS66.set_0 | apply IsS66.set_1 | refine IsS66.far ?_ HN0_go10.out _) | exact HI0.out)⟩, ⟨by repeat (first | (with_reducible first | exact HK.out | apply KeepBut.set_ | apply keep_drewN | apply keep_drew | apply keep_alloc | refine keep_far ?_ GB10.out _) | exact HK.out)⟩, ⟨by repeat (first | (with_reducible first | exact HB.out | apply below_alloc | apply pw_below_drewN | apply below_drew1 | refine below_set ?_ (Nat.le_trans HL.out GB10.out) | refine below_set ?_ (IsS66.ge HI0.out)) | exact HB.out)⟩⟩
      ·rw [if_neg c9] at H
       exact absurd H (by simp)
     ·rw [if_neg c8] at H
      exact absurd H (by simp)
    ·rw [if_neg c6] at H
     exact absurd H (by simp)
   ·rw [if_neg c5] at H
    have c5b0 : decide (x8_1 < (x6_1.length : Int)) = false := decide_eq_false c5
    clear c5
    simp only [Option.some.injEq, Prod.mk.injEq] at H
    obtain ⟨rfl, rfl, rfl, rfl⟩ := H
    obtain ⟨Ao14, co14, eo14⟩ := Kd.R_slice HO_6.out
    subst eo14
    go_wp2
    go_ret2
    exact ⟨_, z6_, by (with_reducible repeat (first | apply Kd.R_alloc | apply Kd.R_drewN | apply Kd.R_drew)); exact HO_6.out, z4_, z5_, z0_⟩
end Go.Proofs.Ytgeddoklmcjdcaa.G
namespace Go.Proofs.Ytgeddoklmcjdcaa.G
open Go.RowKit Go.Proofs.YtgeddoklmcjdcaaQ Go.Proofs.YtgeddoklmcjdcaaW.PrintWords Go.Proofs.YtgeddoklmcjdcaaW.PrintLast Go.Proofs.YtgeddoklmcjdcaaW.PrintMore
attribute [local go_sem] max2_int min2_int max_two min_two max_three min_three max_four min_four   -- for this text's walks alone
set_option linter.unusedVariables false
set_option linter.unusedSimpArgs false
def bits_Mul64.f (a0 : Int) (a1 : Int) : Option (Int × Int) := some (IntKind.u64.wrap ((IntKind.u64.wrap ((IntKind.u64.wrap ((a0 / 4294967296) * (a1 / 4294967296))) + ((IntKind.u64.wrap ((IntKind.u64.wrap ((a0 / 4294967296) * (Go.bits .and .u64 a1 4294967295))) + ((IntKind.u64.wrap ((Go.bits .and .u64 a0 4294967295) * (Go.bits .and .u64 a1 4294967295))) / 4294967296))) / 4294967296))) + ((IntKind.u64.wrap ((Go.bits .and .u64 (IntKind.u64.wrap ((IntKind.u64.wrap ((a0 / 4294967296) * (Go.bits .and .u64 a1 4294967295))) + ((IntKind.u64.wrap ((Go.bits .and .u64 a0 4294967295) * (Go.bits .and .u64 a1 4294967295))) / 4294967296))) 4294967295) + (IntKind.u64.wrap ((Go.bits .and .u64 a0 4294967295) * (a1 / 4294967296))))) / 4294967296)), IntKind.u64.wrap (a0 * a1))
set_option maxHeartbeats 8000000 in
set_option maxRecDepth 100000 in
theorem bits_Mul64.calls (a0 : Int) (a1 : Int) (r1 : Int) (r2 : Int) (w : World) (h : bits_Mul64.f a0 a1 = some (r1, r2)) :
  Calls Try.prog 75 #[.int .u64 a0, .int .u64 a1] w fun e w' => e = .returned (.tuple #[.int .u64 r1, .int .u64 r2]) ∧ Drawn0 w w' := by
 have H : (some (IntKind.u64.wrap ((IntKind.u64.wrap ((IntKind.u64.wrap ((a0 / 4294967296) * (a1 / 4294967296))) + ((IntKind.u64.wrap ((IntKind.u64.wrap ((a0 / 4294967296) * (Go.bits .and .u64 a1 4294967295))) + ((IntKind.u64.wrap ((Go.bits .and .u64 a0 4294967295) * (Go.bits .and .u64 a1 4294967295))) / 4294967296))) / 4294967296))) + ((IntKind.u64.wrap ((Go.bits .and .u64 (IntKind.u64.wrap ((IntKind.u64.wrap ((a0 / 4294967296) * (Go.bits .and .u64 a1 4294967295))) + ((IntKind.u64.wrap ((Go.bits .and .u64 a0 4294967295) * (Go.bits .and .u64 a1 4294967295))) / 4294967296))) 4294967295) + (IntKind.u64.wrap ((Go.bits .and .u64 a0 4294967295) * (a1 / 4294967296))))) / 4294967296)), IntKind.u64.wrap (a0 * a1))) = some (r1, r2) := h
 clear h
 simp only [Option.some.injEq, Prod.mk.injEq] at H
 obtain ⟨rfl, rfl⟩ := H
 go_enter Try.func75, Try.ntmps75
 go_wp2
 go_ret2
 exact ⟨z11_, z13_⟩
def bits_Mul.f (a0 : Int) (a1 : Int) : Option (Int × Int) := (bits_Mul64.f a0 a1).bind fun bt189 => (some (bt189.1, bt189.2))
set_option maxHeartbeats 8000000 in
set_option maxRecDepth 100000 in
theorem bits_Mul.calls (a0 : Int) (a1 : Int) (r1 : Int) (r2 : Int) (w : World) (h : bits_Mul.f a0 a1 = some (r1, r2)) :
  Calls Try.prog 68 #[.int .u64 a0, .int .u64 a1] w fun e w' => e = .returned (.tuple #[.int .u64 r1, .int .u64 r2]) ∧ Drawn0 w w' := by
 have H : ((bits_Mul64.f a0 a1).bind fun bt189 => (some (bt189.1, bt189.2))) = some (r1, r2) := h
 clear h
 replace H := Option.bind_eq_some_iff.mp H
 obtain ⟨⟨t189, t190⟩, A30, H⟩ := H
 replace H : (some (t189, t190)) = some (r1, r2) := H
 have A3 := Aside0.mk A30
 clear A30
 simp only [Option.some.injEq, Prod.mk.injEq] at H
 obtain ⟨rfl, rfl⟩ := H
 go_enter Try.func68, Try.ntmps68
 go_wp2_with (first | ((with_reducible refine gate_callee (f := 75) rfl ?_); refine goesL_ (some 25) rfl rfl Try.func75 (by kernel_rfl) rfl #[.int .u64 a0, .int .u64 a1] rfl (by (try simp only [List.map_toArray, List.map_cons, List.map_nil]); first | done | rfl | (simp only [List.length_drop, List.length_take]; rfl) | (go_simp; simp [IntKind.wrap, IntKind.bits, IntKind.signed]; omega)) ?_; (with_reducible refine (bits_Mul64.calls a0 a1 t189 t190 _ A3.out).mono ?_); rintro e w' ⟨rfl, ⟨nd, rfl⟩⟩; refine ⟨_, rfl, ?_⟩))
 go_ret2
 exact ⟨z11_, z13_⟩
end Go.Proofs.Ytgeddoklmcjdcaa.G
