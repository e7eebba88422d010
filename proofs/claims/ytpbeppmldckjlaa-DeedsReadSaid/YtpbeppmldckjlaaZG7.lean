import Derived.Test.YtpbeppmldckjlaaZG0
import Derived.Test.YtpbeppmldckjlaaZG2
import Derived.Test.YtpbeppmldckjlaaZG3
import Derived.Test.YtpbeppmldckjlaaZG4
import Derived.Test.YtpbeppmldckjlaaZG5
namespace Go.Proofs.Ytpbeppmldckjlaa.G
open Go.RowKit Go.Proofs.YtpbeppmldckjlaaQ Go.Proofs.YtpbeppmldckjlaaW.PrintWords Go.Proofs.YtpbeppmldckjlaaW.PrintLast Go.Proofs.YtpbeppmldckjlaaW.PrintMore
attribute [local go_sem] max2_int min2_int max_two min_two max_three min_three max_four min_four   -- for this text's walks alone
set_option linter.unusedVariables false
set_option linter.unusedSimpArgs false
def tally_From.f (a0 : ByteArray) : Option (ByteArray × Int) := some (a0, 0)
set_option maxHeartbeats 8000000 in
set_option maxRecDepth 100000 in
theorem tally_From.calls (a0 : ByteArray) (r1 : ByteArray) (r2 : Int) (w0 w : World) (hB : Below w0.heap.size w0 w) (h : tally_From.f a0 = some (r1, r2)) :
    Calls Try.prog 25 #[.string a0] w fun e w' => ∃ g_ : Nat, e = .returned (.pointer (some ⟨g_, 0, none⟩)) ∧ IsS77 w0 w' g_ r1 r2 ∧ Below w0.heap.size w0 w' ∧ Below w.heap.size w w' := by
  have hu77 := Try.underlying77
  have HBW := Aside0.mk (Below.refl w.heap.size w)
  have HW0 := Aside0.mk hB.size
  have HB := Aside0.mk hB
  clear hB
  have H : (some (a0, 0)) = some (r1, r2) := h
  clear h
  simp only [Option.some.injEq, Prod.mk.injEq] at H
  obtain ⟨rfl, rfl⟩ := H
  go_enter Try.func25, Try.ntmps25
  go_wp2_with (first | ((with_reducible refine gate_dst (N := 5) rfl ?_); refine box_event ?hg (N := 5) ?hd (cs := #[.string a0, .int .i64 0]) (t := 77) ?hr ?_; (case hd => rfl); (case hg => rfl); (case hr => first | (go_simp; done) | (go_simp; rfl)); intro gb214 hg w2 hbox hb; have n0_ := Aside0.mk (below_step HBW.out hb); have n1_ := Aside0.mk (below_step (by repeat (first | (with_reducible first | exact HB.out | apply below_alloc | apply pw_below_drewN | apply below_drew1) | exact HB.out)) hb); have n2_ := Aside0.mk (hbox); have n3_ := Aside0.mk ((by rw [hg]; exact (below_size (by repeat (first | (with_reducible first | exact HBW.out | apply below_alloc | apply pw_below_drewN | apply below_drew1) | exact HBW.out))) : w.heap.size ≤ gb214)); have n4_ := Aside0.mk ((Nat.le_trans HW0.out (by rw [hg]; exact (below_size (by repeat (first | (with_reducible first | exact HBW.out | apply below_alloc | apply pw_below_drewN | apply below_drew1) | exact HBW.out))) : w.heap.size ≤ gb214) : w0.heap.size ≤ gb214)); clear HBW; clear HB; have HBW := n0_; have HB := n1_; have BK214 := n2_; have GW214 := n3_; have GE214 := n4_; clear n0_ n1_ n2_ n3_ n4_; clear hb hbox hg))
  go_ret
  exact ⟨_, rfl, (show IsS77 w0 _ gb214 a0 0 from ⟨by (with_reducible repeat (first | refine blk_drewN ?_ _ | refine blk_drew ?_ | refine blk_alloc ?_ _)); exact BK214.out, GE214.out⟩), by repeat (first | (with_reducible first | exact HB.out | apply below_alloc | apply pw_below_drewN | apply below_drew1 | refine below_set ?_ GE214.out) | exact HB.out), by repeat (first | (with_reducible first | exact HBW.out | apply below_alloc | apply pw_below_drewN | apply below_drew1 | refine below_set ?_ GW214.out) | exact HBW.out)⟩
theorem w64' (x : Int) (h0 : -9223372036854775808 ≤ x) (h1 : x < 9223372036854775808) : wrap64 x = x := w64 h0 h1
theorem big_step (k : Nat) (l : List Int) (x : Int) (i : Nat) (hi : i ≤ 7) (hl : l.length < 140737488355328) :
    tally_big.l0 (k + 1) l x i = tally_big.l0 k (l ++ [x / 256 ^ i % 256]) x ((i : Int) - 1) := by
  simp only [tally_big.l0]
  rw [if_pos (by omega), w64' (8 * (i : Int)) (by omega) (by omega), if_pos (by omega), if_pos hl, w64' ((i : Int) - 1) (by omega) (by omega)]
  have e : (8 * (i : Int)) = ((8 * i : Nat) : Int) := by omega
  rw [e, shr_u64_lit x (8 * i) (by omega)]
  have e2 : (256 : Int) ^ i = 2 ^ (8 * i) := by rw [Int.pow_mul]; rfl
  rw [e2]
theorem big_end (k : Nat) (l : List Int) (x : Int) : tally_big.l0 (k + 1) l x (-1) = some l := by
  simp only [tally_big.l0]; rw [if_neg (by omega)]
def bigs (x : Int) : Nat → List Int
  | 0 => []
  | n + 1 => x / 256 ^ n % 256 :: bigs x n
theorem big_f (n : Nat) (hn : n ≤ 8) : ∀ (k : Nat) (l : List Int) (x : Int), n < k → l.length + n ≤ 140737488355328 → tally_big.l0 k l x ((n : Int) - 1) = some (l ++ bigs x n) := by
  induction n with
  | zero =>
    intro k l x hk hl
    obtain ⟨k, rfl⟩ : ∃ m, k = m + 1 := ⟨k - 1, by omega⟩
    have e : ((0 : Nat) : Int) - 1 = -1 := by omega
    rw [e, big_end]; simp [bigs]
  | succ n ih =>
    intro k l x hk hl
    obtain ⟨k, rfl⟩ : ∃ m, k = m + 1 := ⟨k - 1, by omega⟩
    have e : ((n + 1 : Nat) : Int) - 1 = (n : Int) := by omega
    rw [e, big_step k l x n (by omega) (by omega), ih (by omega) k _ x (by omega) (by simp; omega)]
    simp [bigs]
theorem Uint_f {k : Nat} (hk : 10 ≤ k) {l : List Int} (hl : l.length + 9 ≤ 140737488355328) {x : Int} (hx : u64 x) : tally_Uint.f k l x = some (l ++ encU x) := by
  obtain ⟨h0, h1⟩ := hx
  unfold tally_Uint.f encU
  by_cases c1 : x < 64
  · rw [if_pos (by omega), if_pos (by omega), if_pos c1]
    simp; omega
  · rw [if_neg (by omega), if_neg c1]
    by_cases c2 : x < 16384
    · rw [if_pos (by omega), if_pos c2, or_join' 16384 x 14 (by omega) (by omega) (by omega) (by omega) (by decide) (by simp; omega)]
      unfold tally_big.f
      have e : wrap64 (2 - 1) = ((2 : Nat) : Int) - 1 := by unfold wrap64; decide
      rw [e, big_f 2 (by omega) k l _ (by omega) (by omega)]
      simp [bigs]; omega
    · rw [if_neg (by omega), if_neg c2]
      by_cases c3 : x < 1073741824
      · rw [if_pos (by omega), if_pos c3, or_join' 2147483648 x 30 (by omega) (by omega) (by omega) (by omega) (by decide) (by simp; omega)]
        unfold tally_big.f
        have e : wrap64 (4 - 1) = ((4 : Nat) : Int) - 1 := by unfold wrap64; decide
        rw [e, big_f 4 (by omega) k l _ (by omega) (by omega)]
        simp [bigs]; omega
      · rw [if_neg (by omega), if_neg c3, if_pos (by omega)]
        unfold tally_big.f
        have e : wrap64 (8 - 1) = ((8 : Nat) : Int) - 1 := by unfold wrap64; decide
        rw [e, big_f 8 (by omega) k _ _ (by omega) (by simp; omega)]
        simp [bigs]
theorem Int_f {k : Nat} (hk : 10 ≤ k) {l : List Int} (hl : l.length + 9 ≤ 140737488355328) {x : Int} (hx : i64 x) : tally_Int.f k l x = some (l ++ encI x) := by
  unfold tally_Int.f
  rw [zig x hx, Uint_f hk hl (fold_u64 hx)]; rfl
theorem Text_f {k : Nat} (hk : 10 ≤ k) {l : List Int} {s : ByteArray} (hl : l.length + 9 + s.size < 140737488355328) : tally_Text.f k l s = some (l ++ encT (bytesOf s)) := by
  unfold tally_Text.f
  have hu : u64 (s.size : Int) := by unfold u64; omega
  rw [wu64 hu.1 hu.2, Uint_f hk (by omega) hu]
  have := encU_len (s.size : Int)
  simp only [Option.bind_some]
  rw [if_pos (by simp; omega)]
  simp [encT, bytesOf_size]
theorem rUint_l0 (n : Nat) : ∀ (k : Nat) (a size mark : Int) (l : List Int), n ≤ 9 → (size = 1 ∨ size = 2 ∨ size = 4 ∨ size = 9) → (n : Int) ≤ size → n < k → l.length + n ≤ 140737488355328 →
    tithebarnref01_Uint.l0 k a size mark l ((n : Int) - 1) = some (strOfNums (l ++ (List.range n).reverse.map fun (i : Nat) => if (i : Int) = size - 1 then ((if i < 8 then a / 256 ^ i else 0) + mark) % 256 else (if i < 8 then a / 256 ^ i else 0) % 256)) := by
  induction n with
  | zero =>
    intro k a size mark l _ _ _ hk hl
    obtain ⟨k, rfl⟩ : ∃ m, k = m + 1 := ⟨k - 1, by omega⟩
    simp only [tithebarnref01_Uint.l0]
    rw [if_neg (by omega)]; simp
  | succ n ih =>
    intro k a size mark l h9 hsz hn hk hl
    obtain ⟨k, rfl⟩ : ∃ m, k = m + 1 := ⟨k - 1, by omega⟩
    have e : ((n + 1 : Nat) : Int) - 1 = (n : Int) := by omega
    rw [e]
    simp only [tithebarnref01_Uint.l0]
    have hs1 : wrap64 (size - 1) = size - 1 := w64 (by omega) (by omega)
    have hn1 : wrap64 ((n : Int) - 1) = (n : Int) - 1 := w64 (by omega) (by omega)
    rw [if_pos (by omega), hs1, hn1]
    rw [List.range_succ, List.reverse_append, List.reverse_singleton, List.singleton_append, List.map_cons]
    by_cases c : n < 8
    · have h8 : IntKind.u64.wrap (wrap64 (8 * (n : Int))) = ((8 * n : Nat) : Int) := by rw [w64 (by omega) (by omega), wu64 (by omega) (by omega)]; omega
      rw [if_pos (by omega), h8, if_pos (by omega), shr_u64_lit a (8 * n) (by omega)]
      have e2 : (2 : Int) ^ (8 * n) = 256 ^ n := by rw [Int.pow_mul]; rfl
      rw [e2]
      by_cases d : (n : Int) = size - 1
      · rw [if_pos d, if_pos (by omega), ih k a size mark _ (by omega) hsz (by omega) (by omega) (by simp; omega)]
        rw [List.append_assoc, List.singleton_append, if_pos d, if_pos c]
      · rw [if_neg d, if_pos (by omega), ih k a size mark _ (by omega) hsz (by omega) (by omega) (by simp; omega)]
        rw [List.append_assoc, List.singleton_append, if_neg d, if_pos c]
    · have h8 : n = 8 := by omega
      rw [if_neg (by omega)]
      by_cases d : (n : Int) = size - 1
      · rw [if_pos d, if_pos (by omega), ih k a size mark _ (by omega) hsz (by omega) (by omega) (by simp; omega)]
        rw [List.append_assoc, List.singleton_append, if_pos d, if_neg c]; simp
      · rw [if_neg d, if_pos (by omega), ih k a size mark _ (by omega) hsz (by omega) (by omega) (by simp; omega)]
        rw [List.append_assoc, List.singleton_append, if_neg d, if_neg c]; simp
theorem rUint_f {k : Nat} (hk : 12 ≤ k) {x : Int} (hx : u64 x) : tithebarnref01_Uint.f k x = some (strOfNums (encU x)) := by
  obtain ⟨h0, h1⟩ := hx
  obtain ⟨k, rfl⟩ : ∃ m, k = m + 1 := ⟨k - 1, by omega⟩
  have go : ∀ (n : Nat) (mark : Int), n ≤ 9 → (n = 1 ∨ n = 2 ∨ n = 4 ∨ n = 9) → tithebarnref01_Uint.j0 (k + 1) x n mark = some (strOfNums ((List.range n).reverse.map fun (i : Nat) => if (i : Int) = n - 1 then ((if i < 8 then x / 256 ^ i else 0) + mark) % 256 else (if i < 8 then x / 256 ^ i else 0) % 256)) := by
    intro n mark hn hs
    simp only [tithebarnref01_Uint.j0]
    rw [w64 (by omega) (by omega), rUint_l0 n k x n mark [] hn (by omega) (by omega) (by omega) (by simp; omega)]
    rfl
  unfold tithebarnref01_Uint.f encU
  by_cases c1 : x < 64
  · rw [if_pos c1, if_pos c1]
    refine (go 1 0 (by omega) (by omega)).trans ?_
    simp [List.range_succ]; congr 2; omega
  · rw [if_neg c1, if_neg c1]
    by_cases c2 : x < 16384
    · rw [if_pos c2, if_pos c2]
      refine (go 2 64 (by omega) (by omega)).trans ?_
      simp [List.range_succ]; congr 2; omega
    · rw [if_neg c2, if_neg c2]
      by_cases c3 : x < 1073741824
      · rw [if_pos c3, if_pos c3]
        refine (go 4 128 (by omega) (by omega)).trans ?_
        simp [List.range_succ]; congr 2; omega
      · rw [if_neg c3, if_neg c3]
        refine (go 9 192 (by omega) (by omega)).trans ?_
        simp [List.range_succ]
def aUint (r : List Int) (e : Int) : Int × List Int × Int := if e = 0 then ((decU r).1, r.drop (decU r).2.1, (decU r).2.2) else (0, r, e)
def aInt (r : List Int) (e : Int) : Int × List Int × Int := (unfold_ (aUint r e).1, (aUint r e).2)
def aByte (r : List Int) (e : Int) : Int × List Int × Int := if e = 0 then (match r with | [] => (0, [], 2) | b :: t => (b, t, 0)) else (0, r, e)
def aText (most : Int) (r : List Int) (e : Int) : List Int × List Int × Int :=
  if e = 0 then
    if (decU r).2.2 = 0 then
      if most < 0 ∨ most < (decU r).1 then ([], r, 3)
      else if ((r.drop (decU r).2.1).length : Int) < (decU r).1 then ([], r, 2)
      else ((r.drop (decU r).2.1).take (decU r).1.toNat, (r.drop (decU r).2.1).drop (decU r).1.toNat, 0)
    else ([], r, (decU r).2.2)
  else ([], r, e)
def aDone (r : List Int) (e : Int) : Int := if e = 0 then (if r = [] then 0 else 5) else e
theorem decU_u64 {r : List Int} (hr : Bs r) : u64 (decU r).1 := by
  rcases h : decU r with ⟨x, n, e⟩
  rcases decU_err h with ⟨rfl, _⟩ | ⟨_, rfl, _⟩
  · exact (decU_bytes hr h).2.1
  · unfold u64; simp
theorem aUint_u64 {r : List Int} (hr : Bs r) (e : Int) : u64 (aUint r e).1 := by
  unfold aUint; split
  · exact decU_u64 hr
  · unfold u64; simp
theorem aUint_Bs {r : List Int} (hr : Bs r) (e : Int) : Bs (aUint r e).2.1 := by
  unfold aUint; split
  · exact hr.drop _
  · exact hr
theorem aByte_Bs {r : List Int} (hr : Bs r) (e : Int) : Bs (aByte r e).2.1 := by
  unfold aByte; split
  · split
    · exact Bs.nil
    · exact hr.tail
  · exact hr
theorem aText_Bs {r : List Int} (hr : Bs r) (m e : Int) : Bs (aText m r e).1 ∧ Bs (aText m r e).2.1 := by
  unfold aText
  repeat' split
  all_goals first | exact ⟨Bs.nil, hr⟩ | exact ⟨(hr.drop _).take _, (hr.drop _).drop _⟩
theorem cUint_f (s : ByteArray) (e : Int) : tally_Cursor_Uint.f s e = some ((aUint (bytesOf s) e).1, strOfNums (aUint (bytesOf s) e).2.1, (aUint (bytesOf s) e).2.2) := by
  unfold tally_Cursor_Uint.f tally_Cursor_ok.f tally_next.f aUint
  simp only [Option.bind_some]
  by_cases c : e = 0
  · rw [if_pos (by simpa using c), if_pos c]
    simp only
    rw [← bytesOf_tail, strOfNums_bytesOf]
  · rw [if_neg (by simpa using c), if_neg c]
    simp only
    rw [strOfNums_bytesOf]
theorem cInt_f (s : ByteArray) (e : Int) : tally_Cursor_Int.f s e = some ((aInt (bytesOf s) e).1, strOfNums (aInt (bytesOf s) e).2.1, (aInt (bytesOf s) e).2.2) := by
  unfold tally_Cursor_Int.f
  rw [cUint_f]
  simp only [Option.bind_some]
  rw [zag _ (aUint_u64 (Bs.bytesOf s) e)]; rfl
theorem toList_nil (s : ByteArray) : s.toList = [] ↔ bytesOf s = [] := by rw [ByteArray.toList_eq]; unfold bytesOf; simp
theorem cByte_f (s : ByteArray) (e : Int) (hs : s.size ≤ 9223372036854775807) : tally_Cursor_Byte.f s e = some ((aByte (bytesOf s) e).1, strOfNums (aByte (bytesOf s) e).2.1, (aByte (bytesOf s) e).2.2) := by
  unfold tally_Cursor_Byte.f tally_Cursor_ok.f aByte
  simp only [Option.bind_some]
  by_cases c : e = 0
  · rw [if_pos (by simpa using c), if_pos c]
    by_cases d : bytesOf s = []
    · rw [if_pos ((toList_nil s).2 d), d, eq_nil_of_bytes d]; rfl
    · rw [if_neg (fun h => d ((toList_nil s).1 h))]
      rcases hl : bytesOf s with _ | ⟨b, t⟩
      · exact absurd hl d
      · have hsz : s.size = t.length + 1 := by rw [size_eq, hl]; rfl
        rw [if_pos (by omega), if_pos (by omega)]
        have hb : bt s 0 = b := by rw [bt_rd, hl]; rfl
        have hr := bt_range s 0
        have ht : bytesOf (s.extract 1 s.size) = t := by rw [bytesOf_tail, hl]; rfl
        simp only
        rw [w64 (by omega) (by omega), hb, ← ht, strOfNums_bytesOf, c]
  · rw [if_neg (by simpa using c), if_neg c]
    simp only
    rw [strOfNums_bytesOf]
theorem cDone_f (s : ByteArray) (e : Int) : tally_Cursor_Done.f s e = some (aDone (bytesOf s) e, s, e) := by
  unfold tally_Cursor_Done.f tally_Cursor_ok.f tally_Cursor_Err.f aDone
  simp only [Option.bind_some]
  by_cases c : e = 0
  · rw [if_pos (by simpa using c), if_pos c]
    by_cases d : bytesOf s = []
    · rw [if_pos ((toList_nil s).2 d), if_pos d, c]
    · rw [if_neg (fun h => d ((toList_nil s).1 h)), if_neg d]
  · rw [if_neg (by simpa using c), if_neg c]
theorem cText_f {k : Nat} (hk : 1 ≤ k) (s : ByteArray) (e m : Int) (hs : s.size ≤ 9223372036854775807) (hm : m < 9223372036854775808) : tally_Cursor_Text.f k s e m = some (strOfNums (aText m (bytesOf s) e).1, strOfNums (aText m (bytesOf s) e).2.1, (aText m (bytesOf s) e).2.2) := by
  obtain ⟨k, rfl⟩ : ∃ n, k = n + 1 := ⟨k - 1, by omega⟩
  unfold tally_Cursor_Text.f tally_Cursor_ok.f tally_next.f aText
  simp only [Option.bind_some]
  by_cases c : e = 0
  · rw [if_pos (by simpa using c), if_pos c]
    by_cases d : (decU (bytesOf s)).2.2 = 0
    · rw [if_pos d, if_pos d]
      have hx := decU_u64 (Bs.bytesOf s)
      have ht := bytesOf_tail s (decU (bytesOf s)).2.1
      have hsz : (s.extract (decU (bytesOf s)).2.1 s.size).size ≤ s.size := by simp
      generalize s.extract (decU (bytesOf s)).2.1 s.size = r at *
      rw [← ht]
      generalize (decU (bytesOf s)).1 = x at *
      obtain ⟨x0, x1⟩ := hx
      by_cases g : m < 0
      · rw [if_pos g, if_pos (Or.inl g)]
        simp only [tally_Cursor_Text.j0]
        rw [if_pos trivial, strOfNums_bytesOf]; rfl
      · rw [if_neg g, wu64 (x := m) (by omega) (by omega)]
        simp only [tally_Cursor_Text.j0]
        by_cases g2 : m < x
        · rw [if_pos (by simpa using g2), if_pos (Or.inr g2), strOfNums_bytesOf]; rfl
        · rw [if_neg (by simpa using g2), wu64 (x := (r.size : Int)) (by omega) (by omega), if_neg (show ¬ (m < 0 ∨ m < x) by omega), bytesOf_size]
          by_cases g3 : (r.size : Int) < x
          · rw [if_pos g3, if_pos g3, strOfNums_bytesOf]; rfl
          · rw [if_neg g3, if_neg g3, if_pos x0, if_pos (by omega), c]
            simp only
            have e1 : bytesOf (r.extract 0 x.toNat) = (bytesOf r).take x.toNat := by rw [bytesOf_extract]; rfl
            have e2 : bytesOf (r.extract x.toNat r.size) = (bytesOf r).drop x.toNat := bytesOf_tail r _
            rw [← e1, ← e2, strOfNums_bytesOf, strOfNums_bytesOf]
    · rw [if_neg d, if_neg d, strOfNums_bytesOf]; rfl
  · rw [if_neg (by simpa using c), if_neg c, strOfNums_bytesOf]; rfl
def Cur (w0 w : World) (g : Nat) (r : List Int) (e : Int) : Prop := IsS77 w0 w g (strOfNums r) e ∧ Bs r ∧ r.length ≤ 4611686018427387904
theorem Cur.keep {w0 W W' : World} {g g' : Nat} {r : List Int} {e : Int} (h : Cur w0 W g r e) (hk : KeepBut W W' g' none) (hne : g ≠ g') : Cur w0 W' g r e := by
  refine ⟨⟨?_, h.1.2⟩, h.2⟩
  rw [hk.2 g (Array.getElem?_eq_some_iff.1 h.1.1).1 hne (by simp)]
  exact h.1.1
theorem Cur.below {w0 W W' : World} {g : Nat} {r : List Int} {e : Int} (h : Cur w0 W g r e) (hb : Below W.heap.size W W') : Cur w0 W' g r e := by
  refine ⟨⟨?_, h.1.2⟩, h.2⟩
  rw [hb.block g (Array.getElem?_eq_some_iff.1 h.1.1).1]
  exact h.1.1
theorem Cur.drew {w0 W : World} {g : Nat} {r : List Int} {e : Int} (h : Cur w0 W g r e) : Cur w0 W.drew g r e := h
theorem Cur.drewN {w0 W : World} {g : Nat} {r : List Int} {e : Int} (h : Cur w0 W g r e) (n : Nat) : Cur w0 (W.drewN n) g r e := ⟨⟨h.1.1, h.1.2⟩, h.2⟩
theorem Cur.lt {w0 W : World} {g : Nat} {r : List Int} {e : Int} (h : Cur w0 W g r e) : g < W.heap.size := (Array.getElem?_eq_some_iff.1 h.1.1).1
theorem Cur.ge {w0 W : World} {g : Nat} {r : List Int} {e : Int} (h : Cur w0 W g r e) : w0.heap.size ≤ g := h.1.2
theorem from_any {w0 w : World} (s : ByteArray) (hs : s.size ≤ 4611686018427387904) (hB : Below w0.heap.size w0 w) : Calls Try.prog 25 #[.string s] w fun en w' =>
    ∃ g, en = .returned (.pointer (some ⟨g, 0, none⟩)) ∧ Cur w0 w' g (bytesOf s) 0 ∧ w.heap.size ≤ g ∧ Below w0.heap.size w0 w' ∧ Below w.heap.size w w' := by
  refine (tally_From.calls s s 0 w w (Below.refl _ _) rfl).mono ?_
  rintro en w' ⟨g, rfl, hI, _, hb⟩
  refine ⟨g, rfl, ⟨⟨by rw [strOfNums_bytesOf]; exact hI.1, Nat.le_trans hB.size hI.2⟩, Bs.bytesOf s, by rw [bytesOf_size]; exact hs⟩, hI.2, below_then hB hB.size hb, hb⟩
section
variable {w0 w : World} {g : Nat} {r : List Int} {e : Int}
theorem Cur.bytes (hC : Cur w0 w g r e) : bytesOf (strOfNums r) = r := bytesOf_strOfNums hC.2.1
theorem Cur.size (hC : Cur w0 w g r e) : (strOfNums r).size ≤ 4611686018427387904 := by rw [size_strOfNums]; exact hC.2.2
theorem aUint_len (r : List Int) (e : Int) : (aUint r e).2.1.length ≤ r.length := by unfold aUint; split <;> simp
theorem aByte_len (r : List Int) (e : Int) : (aByte r e).2.1.length ≤ r.length := by
  unfold aByte; split
  · split <;> simp
  · simp
theorem aText_len (r : List Int) (m e : Int) : (aText m r e).2.1.length ≤ r.length ∧ (aText m r e).1.length ≤ r.length := by
  unfold aText
  repeat' split
  all_goals simp
  all_goals omega
theorem int_any (hC : Cur w0 w g r e) (hB : Below w0.heap.size w0 w) : Calls Try.prog 48 #[.pointer (some ⟨g, 0, none⟩)] w fun en w' =>
    en = .returned (.int .i64 (aInt r e).1) ∧ Cur w0 w' g (aUint r e).2.1 (aUint r e).2.2 ∧ Below w0.heap.size w0 w' ∧ KeepBut w w' g none := by
  have h := cInt_f (strOfNums r) e
  rw [hC.bytes] at h
  refine (tally_Cursor_Int.calls g _ _ _ _ _ w0 w hC.1 hB h).mono ?_
  rintro en w' ⟨rfl, hI, hb, hk⟩
  exact ⟨rfl, ⟨hI, aUint_Bs hC.2.1 e, Nat.le_trans (aUint_len r e) hC.2.2⟩, hb, hk⟩
theorem byte_any (hC : Cur w0 w g r e) (hB : Below w0.heap.size w0 w) : Calls Try.prog 46 #[.pointer (some ⟨g, 0, none⟩)] w fun en w' =>
    en = .returned (.int .i64 (aByte r e).1) ∧ Cur w0 w' g (aByte r e).2.1 (aByte r e).2.2 ∧ Below w0.heap.size w0 w' ∧ KeepBut w w' g none := by
  have h := cByte_f (strOfNums r) e (by have := hC.size; omega)
  rw [hC.bytes] at h
  refine (tally_Cursor_Byte.calls g _ _ _ _ _ w0 w hC.1 hB h).mono ?_
  rintro en w' ⟨rfl, hI, hb, hk⟩
  exact ⟨rfl, ⟨hI, aByte_Bs hC.2.1 e, Nat.le_trans (aByte_len r e) hC.2.2⟩, hb, hk⟩
theorem text_any (m : Int) (hm : m < 9223372036854775808) (hC : Cur w0 w g r e) (hB : Below w0.heap.size w0 w) : Calls Try.prog 49 #[.pointer (some ⟨g, 0, none⟩), .int .i64 m] w fun en w' =>
    en = .returned (.string (strOfNums (aText m r e).1)) ∧ Cur w0 w' g (aText m r e).2.1 (aText m r e).2.2 ∧ Below w0.heap.size w0 w' ∧ KeepBut w w' g none := by
  have h := cText_f (k := 1) (Nat.le_refl _) (strOfNums r) e m (by have := hC.size; omega) hm
  rw [hC.bytes] at h
  refine (tally_Cursor_Text.calls 1 g _ _ m _ _ _ w0 w hC.1 hB h).mono ?_
  rintro en w' ⟨rfl, hI, hb, hk⟩
  exact ⟨rfl, ⟨hI, (aText_Bs hC.2.1 m e).2, Nat.le_trans (aText_len r m e).1 hC.2.2⟩, hb, hk⟩
theorem done_any (hC : Cur w0 w g r e) (hB : Below w0.heap.size w0 w) : Calls Try.prog 29 #[.pointer (some ⟨g, 0, none⟩)] w fun en w' =>
    en = .returned (.int .i64 (aDone r e)) ∧ Cur w0 w' g r e ∧ Below w0.heap.size w0 w' ∧ KeepBut w w' g none := by
  have h := cDone_f (strOfNums r) e
  rw [hC.bytes] at h
  refine (tally_Cursor_Done.calls g _ _ _ _ _ w0 w hC.1 hB h).mono ?_
  rintro en w' ⟨rfl, hI, hb, hk⟩
  exact ⟨rfl, ⟨hI, hC.2⟩, hb, hk⟩
end
theorem Cur.cell1 {w0 w : World} {g : Nat} {r : List Int} {e : Int} (hC : Cur w0 w g r e) : w.cell? ⟨g, 1, none⟩ = some (.int .i64 e) := by simp [World.cell?, hC.1.1]
set_option maxHeartbeats 400000 in
set_option maxRecDepth 100000 in
theorem err_same {w0 w : World} {g : Nat} {r : List Int} {e : Int} (hC : Cur w0 w g r e) : Calls Try.prog 47 #[.pointer (some ⟨g, 0, none⟩)] w fun en w' => en = .returned (.int .i64 e) ∧ w' = w := by
  have h1 := hC.cell1
  clear hC
  go_enter Try.func47, Try.ntmps47
  go_wp2
  go_ret
  exact ⟨rfl, rfl⟩
section
variable {ops : Array Oper} {rest : List Oper} {o : Oper} {a : Act} {Q : Exit → Act → World → Prop}
end
theorem Cur.kept {w0 W W' : World} {g : Nat} {r : List Int} {e : Int} {S : Nat → Prop} (h : Cur w0 W g r e) (hk : Kept W W' S) (hn : ¬ S g) : Cur w0 W' g r e := by
  refine ⟨⟨?_, h.1.2⟩, h.2⟩
  rw [hk.2 g h.lt hn]
  exact h.1.1
def RdS (w0 W : World) (g c : Nat) (r : List Int) (e : Int) (odd : Bool) : Prop := W.heap[g]? = some (.cells #[.pointer (some ⟨c, 0, none⟩), .bool odd] 56 (0, 0)) ∧ w0.heap.size ≤ g ∧ Cur w0 W c r e
def GC (g c : Nat) : Nat → Prop := fun k => k = g ∨ k = c
theorem RdS.ne {w0 W : World} {g c : Nat} {r : List Int} {e : Int} {odd : Bool} (h : RdS w0 W g c r e odd) : g ≠ c := blk_ne h.1 h.2.2.1.1 (by decide)
theorem RdS.drew {w0 W : World} {g c : Nat} {r : List Int} {e : Int} {odd : Bool} (h : RdS w0 W g c r e odd) : RdS w0 W.drew g c r e odd := ⟨h.1, h.2.1, h.2.2.drew⟩
theorem RdS.below {w0 W W' : World} {g c : Nat} {r : List Int} {e : Int} {odd : Bool} (h : RdS w0 W g c r e odd) (hb : Below W.heap.size W W') : RdS w0 W' g c r e odd := ⟨(hb.block g (blk_lt h.1)).trans h.1, h.2.1, h.2.2.below hb⟩
theorem RdS.kept {w0 W W' : World} {g c : Nat} {r : List Int} {e : Int} {odd : Bool} {S : Nat → Prop} (h : RdS w0 W g c r e odd) (hk : Kept W W' S) (h1 : ¬ S g) (h2 : ¬ S c) : RdS w0 W' g c r e odd := ⟨blk_kept h.1 hk h1, h.2.1, h.2.2.kept hk h2⟩
theorem Kept.gc {w W : World} {g c : Nat} (hk : KeepBut w W c none) : Kept w W (GC g c) := Kept.of_keep (Kept.refl w _) hk (.inl (.inr rfl))
theorem RdS.on {w0 W W' : World} {g c : Nat} {r r' : List Int} {e e' : Int} {odd : Bool} (h : RdS w0 W g c r e odd) (hk : KeepBut W W' c none) (hc : Cur w0 W' c r' e') : RdS w0 W' g c r' e' odd :=
  ⟨(hk.2 g (blk_lt h.1) h.ne (by simp)).trans h.1, h.2.1, hc⟩
section
variable {w0 w : World} {g c : Nat} {r : List Int} {e : Int} {odd : Bool}
theorem RdS.c0 (h : RdS w0 w g c r e odd) : w.cell? ⟨g, 0, none⟩ = some (.pointer (some ⟨c, 0, none⟩)) := (blk_cell h.1 0).trans rfl
theorem RdS.c1 (h : RdS w0 w g c r e odd) : w.cell? ⟨g, 1, none⟩ = some (.bool odd) := (blk_cell h.1 1).trans rfl
theorem RdS.f1 (h : RdS w0 w g c r e odd) : w.frozen? ⟨g, 1, none⟩ = false := blk_frozen h.1 1
set_option maxHeartbeats 1000000 in
set_option maxRecDepth 100000 in
theorem truth_any {b : Int} {r' : List Int} {e' : Int} (hb0 : aByte r e = (b, r', e')) (hR : RdS w0 w g c r e odd) (hB : Below w0.heap.size w0 w) :
    Calls Try.prog 26 #[.pointer (some ⟨g, 0, none⟩)] w fun en w' => en = .returned (.bool (b == 1)) ∧ RdS w0 w' g c r' e' (odd || decide (1 < b)) ∧ Below w0.heap.size w0 w' ∧ Kept w w' (GC g c) := by
  have c0 := hR.c0
  have HR := Aside0.mk hR; have HB := Aside0.mk hB; have HB0 := Aside0.mk hb0
  clear hR hB hb0
  go_enter Try.func26, Try.ntmps26
  go_wp2_with fail
  refine (byte_any HR.out.2.2 HB.out).mono ?_; rintro en w1 ⟨rfl, hc, hb, hk⟩
  rw [HB0.out] at hc ⊢
  have hR1 := HR.out.on hk hc
  have c1 := hR1.c1; have f1 := hR1.f1
  have HR1 := Aside0.mk hR1; have HB1 := Aside0.mk hb; have HK1 := Aside0.mk (Kept.gc (g := g) hk)
  clear c0 hR1 hb hk hc
  have fin : ∀ u : Bool, RdS w0 (w1.setCell ⟨g, 1, none⟩ (.bool u)) g c r' e' u ∧ Below w0.heap.size w0 (w1.setCell ⟨g, 1, none⟩ (.bool u)) ∧ Kept w (w1.setCell ⟨g, 1, none⟩ (.bool u)) (GC g c) := fun u =>
    ⟨⟨blk_set HR1.out.1 1 _, HR1.out.2.1, HR1.out.2.2.keep (KeepBut.set_ (KeepBut.refl w1 g none) 1 _) (Ne.symm HR1.out.ne)⟩, below_set HB1.out HR1.out.2.1, Kept.setCell HK1.out (.inl (.inl rfl)) _⟩
  have HFIN := Aside0.mk fin
  clear fin
  cases odd
  · go_wp2
    go_ret
    exact ⟨rfl, HFIN.out _⟩
  · go_wp2
    go_ret
    exact ⟨rfl, HFIN.out _⟩
set_option maxHeartbeats 1000000 in
set_option maxRecDepth 100000 in
theorem fine_any {f : Bool} (hf : (!odd && (e == 0)) = f) (hR : RdS w0 w g c r e odd) : Calls Try.prog 27 #[.pointer (some ⟨g, 0, none⟩)] w fun en w' => en = .returned (.bool f) ∧ w' = w := by
  have c0 := hR.c0
  have c1 := hR.c1
  have HR := Aside0.mk hR
  subst hf
  clear hR
  cases odd
  · go_enter Try.func27, Try.ntmps27
    go_wp2_with fail
    refine (err_same HR.out.2.2).mono ?_; rintro en w1 ⟨rfl, rfl⟩
    go_wp2
    go_ret
    exact ⟨rfl, rfl⟩
  · go_enter Try.func27, Try.ntmps27
    go_wp2
    go_ret
    exact ⟨rfl, rfl⟩
end
def restL (k : Int) (r : List Int) (e : Int) (odd : Bool) : S43 × List Int × Int :=
  if odd = true then (⟨false, 0, ⟨#[]⟩⟩, r, e) else if k = 1 then (⟨false, (aInt r e).1, ⟨#[]⟩⟩, (aUint r e).2.1, (aUint r e).2.2) else (⟨false, 0, strOfNums (aText 64 r e).1⟩, (aText 64 r e).2.1, (aText 64 r e).2.2)
def valL (k : Int) (null : Bool) (r : List Int) (e : Int) (odd : Bool) : S43 × List Int × Int × Bool :=
  if null = true then
    if (aByte r e).1 = 1 then (⟨true, 0, ⟨#[]⟩⟩, (aByte r e).2.1, (aByte r e).2.2, odd)
    else ((restL k (aByte r e).2.1 (aByte r e).2.2 (odd || decide (1 < (aByte r e).1))).1, (restL k (aByte r e).2.1 (aByte r e).2.2 (odd || decide (1 < (aByte r e).1))).2.1, (restL k (aByte r e).2.1 (aByte r e).2.2 (odd || decide (1 < (aByte r e).1))).2.2, odd || decide (1 < (aByte r e).1))
  else ((restL k r e odd).1, (restL k r e odd).2.1, (restL k r e odd).2.2, odd)
def vcells (v : S43) : Value := .agg #[.bool v.f0, .int .i64 v.f1, .string v.f2]
theorem gc_new {w0 w : World} {g c : Nat} {r : List Int} {e : Int} {odd : Bool} (h : RdS w0 w g c r e odd) {k : Nat} (hk : w.heap.size ≤ k) : ¬ GC g c k := fun he => by
  have h1 := blk_lt h.1
  have h2 := h.2.2.lt
  rcases he with he | he <;> omega
theorem val_one {w0 w X : World} {g c n : Nat} {r : List Int} {e : Int} {odd : Bool} (hn : w0.heap.size ≤ n) (hw : w.heap.size ≤ n) (hg : g ≠ n) (hc : c ≠ n) (h : RdS w0 X g c r e odd ∧ Below w0.heap.size w0 X ∧ Kept w X (GC g c)) (j : Nat) (v : Value) :
    RdS w0 (X.setCell ⟨n, j, none⟩ v) g c r e odd ∧ Below w0.heap.size w0 (X.setCell ⟨n, j, none⟩ v) ∧ Kept w (X.setCell ⟨n, j, none⟩ v) (GC g c) :=
  ⟨⟨blk_far h.1.1 (p := ⟨n, j, none⟩) hg v, h.1.2.1, ⟨⟨blk_far h.1.2.2.1.1 (p := ⟨n, j, none⟩) hc v, h.1.2.2.1.2⟩, h.1.2.2.2⟩⟩, below_set h.2.1 hn, Kept.setCell (p := ⟨n, j, none⟩) h.2.2 (.inr hw) v⟩
theorem val_fin {w0 w w1 : World} {g c : Nat} {r r' : List Int} {e e' : Int} {odd odd' : Bool} (hR : RdS w0 w g c r e odd) (hB : Below w0.heap.size w0 w) (h1 : RdS w0 w1 g c r' e' odd') (h2 : Below w0.heap.size w0 w1) (h3 : Kept w w1 (GC g c)) (v0 v1 v2 : Value) :
    RdS w0 (((w1.setCell ⟨w.heap.size + 1, 0, none⟩ v0).setCell ⟨w.heap.size + 1, 1, none⟩ v1).setCell ⟨w.heap.size + 1, 2, none⟩ v2) g c r' e' odd' ∧ Below w0.heap.size w0 (((w1.setCell ⟨w.heap.size + 1, 0, none⟩ v0).setCell ⟨w.heap.size + 1, 1, none⟩ v1).setCell ⟨w.heap.size + 1, 2, none⟩ v2) ∧ Kept w (((w1.setCell ⟨w.heap.size + 1, 0, none⟩ v0).setCell ⟨w.heap.size + 1, 1, none⟩ v1).setCell ⟨w.heap.size + 1, 2, none⟩ v2) (GC g c) := by
  have hw : w.heap.size ≤ w.heap.size + 1 := Nat.le_succ _
  have hn : w0.heap.size ≤ w.heap.size + 1 := Nat.le_trans hB.size hw
  have hg : g ≠ w.heap.size + 1 := fun e => gc_new hR hw (.inl e.symm)
  have hc : c ≠ w.heap.size + 1 := fun e => gc_new hR hw (.inr e.symm)
  generalize w.heap.size + 1 = n at *
  exact val_one hn hw hg hc (val_one hn hw hg hc (val_one hn hw hg hc ⟨h1, h2, h3⟩ 0 v0) 1 v1) 2 v2
section
variable {w0 w : World} {g c : Nat} {r : List Int} {e : Int} {odd : Bool}
set_option maxHeartbeats 4000000 in
set_option maxRecDepth 100000 in
theorem value_A {k : Int} {r' : List Int} {e' : Int} (hb0 : aByte r e = (1, r', e')) (hR : RdS w0 w g c r e odd) (hB : Below w0.heap.size w0 w) :
    Calls Try.prog 28 #[.pointer (some ⟨g, 0, none⟩), .agg #[.int .i64 k, .bool true]] w fun en w' => en = .returned (.agg #[.bool true, .int .i64 0, .string ⟨#[]⟩]) ∧ RdS w0 w' g c r' e' odd ∧ Below w0.heap.size w0 w' ∧ Kept w w' (GC g c) := by
  have HR := Aside0.mk hR; have HB := Aside0.mk hB
  have HB1 := Aside0.mk (below_alloc (below_alloc (Below.refl w.heap.size w) (.cells #[.int .i64 k, .bool true] 39)) (.cells #[.bool false, .int .i64 0, .string ⟨#[]⟩] 43))
  have HY0 : Aside0 (((w.alloc (.cells #[.int .i64 k, .bool true] 39)).alloc (.cells #[.bool false, .int .i64 0, .string ⟨#[]⟩] 43)).heap[w.heap.size]? = some (.cells #[.int .i64 k, .bool true] 39 (0, 0))) := ⟨((below_alloc (Below.refl _ (w.alloc (.cells #[.int .i64 k, .bool true] 39))) _).block w.heap.size (by simp)).trans (heap_alloc_new w _)⟩
  have HY1 : Aside0 (((w.alloc (.cells #[.int .i64 k, .bool true] 39)).alloc (.cells #[.bool false, .int .i64 0, .string ⟨#[]⟩] 43)).heap[w.heap.size + 1]? = some (.cells #[.bool false, .int .i64 0, .string ⟨#[]⟩] 43 (0, 0))) := ⟨by have := heap_alloc_new (w.alloc (.cells #[.int .i64 k, .bool true] 39)) (.cells #[.bool false, .int .i64 0, .string ⟨#[]⟩] 43); simpa using this⟩
  clear hR hB
  have HB0 := Aside0.mk hb0
  clear hb0
  go_enter Try.func28, Try.ntmps28
  go_wp2_with fail
  refine (truth_any HB0.out (HR.out.below HB1.out) (below_then HB.out HB.out.size HB1.out)).mono ?_; rintro en w1 ⟨rfl, hr, hbb, hk⟩
  rw [show (odd || decide ((1 : Int) < 1)) = odd by simp] at hr
  rw [show ((1 : Int) == 1) = true from rfl]
  have hk0 := Kept.then_ (Kept.of_below HB1.out (GC g c)) hk (fun _ h => .inl h)
  have HR1 := Aside0.mk hr; have HBB1 := Aside0.mk hbb; have HK1 := Aside0.mk hk0
  have z01 := blk_kept HY0.out hk (gc_new HR.out (Nat.le_refl _))
  have z11 := blk_kept HY1.out hk (gc_new HR.out (Nat.le_succ _))
  clear hr hbb hk hk0 HY0 HY1
  have c001 : w1.cell? ⟨w.heap.size, 0, none⟩ = some (.int .i64 k) := (blk_cell z01 0).trans rfl
  have d01 : w1.cell? ⟨w.heap.size + 1, 0, none⟩ = some (.bool false) := (blk_cell z11 0).trans rfl
  have d11 : w1.cell? ⟨w.heap.size + 1, 1, none⟩ = some (.int .i64 0) := (blk_cell z11 1).trans rfl
  have d21 : w1.cell? ⟨w.heap.size + 1, 2, none⟩ = some (.string ⟨#[]⟩) := (blk_cell z11 2).trans rfl
  have f01 := blk_frozen z11 0
  have f11 := blk_frozen z11 1
  have f21 := blk_frozen z11 2
  have g01 := HR1.out.c0
  have g11 := HR1.out.c1
  have HZ01 := Aside0.mk z01; have HZ11 := Aside0.mk z11
  clear z01 z11
  go_wp2
  refine bodyPost_ret (v := .agg #[.bool true, .int .i64 0, .string ⟨#[]⟩]) ?_ rfl ⟨rfl, val_fin HR.out HB.out HR1.out HBB1.out HK1.out _ _ _⟩
  simp [results, Try.results28, go_sem, *]
set_option maxHeartbeats 4000000 in
set_option maxRecDepth 100000 in
theorem value_Bodd {k : Int} {b : Int} {r1 : List Int} {e1 : Int} {odd' : Bool} (hb0 : aByte r e = (b, r1, e1)) (hb : (b == 1) = false) (ho : (odd || decide (1 < b)) = odd') (hod : odd' = true) (hR : RdS w0 w g c r e odd) (hB : Below w0.heap.size w0 w) :
    Calls Try.prog 28 #[.pointer (some ⟨g, 0, none⟩), .agg #[.int .i64 k, .bool true]] w fun en w' => en = .returned (.agg #[.bool false, .int .i64 0, .string ⟨#[]⟩]) ∧ RdS w0 w' g c r1 e1 odd' ∧ Below w0.heap.size w0 w' ∧ Kept w w' (GC g c) := by
  rw [hod] at ho
  subst hod
  have HR := Aside0.mk hR; have HB := Aside0.mk hB
  have HB1 := Aside0.mk (below_alloc (below_alloc (Below.refl w.heap.size w) (.cells #[.int .i64 k, .bool true] 39)) (.cells #[.bool false, .int .i64 0, .string ⟨#[]⟩] 43))
  have HY0 : Aside0 (((w.alloc (.cells #[.int .i64 k, .bool true] 39)).alloc (.cells #[.bool false, .int .i64 0, .string ⟨#[]⟩] 43)).heap[w.heap.size]? = some (.cells #[.int .i64 k, .bool true] 39 (0, 0))) := ⟨((below_alloc (Below.refl _ (w.alloc (.cells #[.int .i64 k, .bool true] 39))) _).block w.heap.size (by simp)).trans (heap_alloc_new w _)⟩
  have HY1 : Aside0 (((w.alloc (.cells #[.int .i64 k, .bool true] 39)).alloc (.cells #[.bool false, .int .i64 0, .string ⟨#[]⟩] 43)).heap[w.heap.size + 1]? = some (.cells #[.bool false, .int .i64 0, .string ⟨#[]⟩] 43 (0, 0))) := ⟨by have := heap_alloc_new (w.alloc (.cells #[.int .i64 k, .bool true] 39)) (.cells #[.bool false, .int .i64 0, .string ⟨#[]⟩] 43); simpa using this⟩
  clear hR hB
  have HB0 := Aside0.mk hb0; have HOD := Aside0.mk ho
  clear hb0 ho
  go_enter Try.func28, Try.ntmps28
  go_wp2_with fail
  refine (truth_any HB0.out (HR.out.below HB1.out) (below_then HB.out HB.out.size HB1.out)).mono ?_; rintro en w1 ⟨rfl, hr, hbb, hk⟩
  rw [HOD.out] at hr
  rw [hb]
  have hk0 := Kept.then_ (Kept.of_below HB1.out (GC g c)) hk (fun _ h => .inl h)
  have HR1 := Aside0.mk hr; have HBB1 := Aside0.mk hbb; have HK1 := Aside0.mk hk0
  have z01 := blk_kept HY0.out hk (gc_new HR.out (Nat.le_refl _))
  have z11 := blk_kept HY1.out hk (gc_new HR.out (Nat.le_succ _))
  clear hr hbb hk hk0 HY0 HY1
  have c001 : w1.cell? ⟨w.heap.size, 0, none⟩ = some (.int .i64 k) := (blk_cell z01 0).trans rfl
  have d01 : w1.cell? ⟨w.heap.size + 1, 0, none⟩ = some (.bool false) := (blk_cell z11 0).trans rfl
  have d11 : w1.cell? ⟨w.heap.size + 1, 1, none⟩ = some (.int .i64 0) := (blk_cell z11 1).trans rfl
  have d21 : w1.cell? ⟨w.heap.size + 1, 2, none⟩ = some (.string ⟨#[]⟩) := (blk_cell z11 2).trans rfl
  have f01 := blk_frozen z11 0
  have f11 := blk_frozen z11 1
  have f21 := blk_frozen z11 2
  have g01 := HR1.out.c0
  have g11 := HR1.out.c1
  have HZ01 := Aside0.mk z01; have HZ11 := Aside0.mk z11
  clear z01 z11
  go_wp2
  refine bodyPost_ret (v := .agg #[.bool false, .int .i64 0, .string ⟨#[]⟩]) ?_ rfl ⟨rfl, val_fin HR.out HB.out HR1.out HBB1.out HK1.out _ _ _⟩
  simp [results, Try.results28, go_sem, *]
set_option maxHeartbeats 4000000 in
set_option maxRecDepth 100000 in
theorem value_Bint {k : Int} {b : Int} {r1 : List Int} {e1 : Int} {odd' : Bool} (hb0 : aByte r e = (b, r1, e1)) (hb : (b == 1) = false) (ho : (odd || decide (1 < b)) = odd') (hod : odd' = false) (hkk : k = 1) (hR : RdS w0 w g c r e odd) (hB : Below w0.heap.size w0 w) :
    Calls Try.prog 28 #[.pointer (some ⟨g, 0, none⟩), .agg #[.int .i64 k, .bool true]] w fun en w' => en = .returned (.agg #[.bool false, .int .i64 (aInt r1 e1).1, .string ⟨#[]⟩]) ∧ RdS w0 w' g c (aUint r1 e1).2.1 (aUint r1 e1).2.2 odd' ∧ Below w0.heap.size w0 w' ∧ Kept w w' (GC g c) := by
  subst hkk
  have hkk : ((1 : Int) == 1) = true := rfl
  rw [hod] at ho
  subst hod
  have HR := Aside0.mk hR; have HB := Aside0.mk hB
  have HB1 := Aside0.mk (below_alloc (below_alloc (Below.refl w.heap.size w) (.cells #[.int .i64 1, .bool true] 39)) (.cells #[.bool false, .int .i64 0, .string ⟨#[]⟩] 43))
  have HY0 : Aside0 (((w.alloc (.cells #[.int .i64 1, .bool true] 39)).alloc (.cells #[.bool false, .int .i64 0, .string ⟨#[]⟩] 43)).heap[w.heap.size]? = some (.cells #[.int .i64 1, .bool true] 39 (0, 0))) := ⟨((below_alloc (Below.refl _ (w.alloc (.cells #[.int .i64 1, .bool true] 39))) _).block w.heap.size (by simp)).trans (heap_alloc_new w _)⟩
  have HY1 : Aside0 (((w.alloc (.cells #[.int .i64 1, .bool true] 39)).alloc (.cells #[.bool false, .int .i64 0, .string ⟨#[]⟩] 43)).heap[w.heap.size + 1]? = some (.cells #[.bool false, .int .i64 0, .string ⟨#[]⟩] 43 (0, 0))) := ⟨by have := heap_alloc_new (w.alloc (.cells #[.int .i64 1, .bool true] 39)) (.cells #[.bool false, .int .i64 0, .string ⟨#[]⟩] 43); simpa using this⟩
  clear hR hB
  have HB0 := Aside0.mk hb0; have HOD := Aside0.mk ho
  clear hb0 ho
  go_enter Try.func28, Try.ntmps28
  go_wp2_with fail
  refine (truth_any HB0.out (HR.out.below HB1.out) (below_then HB.out HB.out.size HB1.out)).mono ?_; rintro en w1 ⟨rfl, hr, hbb, hk⟩
  rw [HOD.out] at hr
  rw [hb]
  have hk0 := Kept.then_ (Kept.of_below HB1.out (GC g c)) hk (fun _ h => .inl h)
  have HR1 := Aside0.mk hr; have HBB1 := Aside0.mk hbb; have HK1 := Aside0.mk hk0
  have z01 := blk_kept HY0.out hk (gc_new HR.out (Nat.le_refl _))
  have z11 := blk_kept HY1.out hk (gc_new HR.out (Nat.le_succ _))
  clear hr hbb hk hk0 HY0 HY1
  have c001 : w1.cell? ⟨w.heap.size, 0, none⟩ = some (.int .i64 1) := (blk_cell z01 0).trans rfl
  have d01 : w1.cell? ⟨w.heap.size + 1, 0, none⟩ = some (.bool false) := (blk_cell z11 0).trans rfl
  have d11 : w1.cell? ⟨w.heap.size + 1, 1, none⟩ = some (.int .i64 0) := (blk_cell z11 1).trans rfl
  have d21 : w1.cell? ⟨w.heap.size + 1, 2, none⟩ = some (.string ⟨#[]⟩) := (blk_cell z11 2).trans rfl
  have f01 := blk_frozen z11 0
  have f11 := blk_frozen z11 1
  have f21 := blk_frozen z11 2
  have g01 := HR1.out.c0
  have g11 := HR1.out.c1
  have HZ01 := Aside0.mk z01; have HZ11 := Aside0.mk z11
  clear z01 z11
  go_wp2_with fail
  refine (int_any HR1.out.2.2 HBB1.out).mono ?_; rintro en w2 ⟨rfl, hc, hbb, hk⟩
  have HR2 := Aside0.mk (HR1.out.on hk hc); have HBB2 := Aside0.mk hbb; have HK2 := Aside0.mk (HK1.out.then_ (Kept.gc (g := g) hk) (fun _ h => .inl h))
  have z02 := blk_kept HZ01.out (Kept.gc (g := g) hk) (gc_new HR.out (Nat.le_refl _))
  have z12 := blk_kept HZ11.out (Kept.gc (g := g) hk) (gc_new HR.out (Nat.le_succ _))
  clear hc hbb hk c001 d01 d11 d21 f01 f11 f21 g01 g11
  have c002 : w2.cell? ⟨w.heap.size, 0, none⟩ = some (.int .i64 1) := (blk_cell z02 0).trans rfl
  have d02 : w2.cell? ⟨w.heap.size + 1, 0, none⟩ = some (.bool false) := (blk_cell z12 0).trans rfl
  have d12 : w2.cell? ⟨w.heap.size + 1, 1, none⟩ = some (.int .i64 0) := (blk_cell z12 1).trans rfl
  have d22 : w2.cell? ⟨w.heap.size + 1, 2, none⟩ = some (.string ⟨#[]⟩) := (blk_cell z12 2).trans rfl
  have f02 := blk_frozen z12 0
  have f12 := blk_frozen z12 1
  have f22 := blk_frozen z12 2
  have g02 := HR2.out.c0
  have g12 := HR2.out.c1
  have HZ02 := Aside0.mk z02; have HZ12 := Aside0.mk z12
  clear z02 z12
  go_wp2
  refine bodyPost_ret (v := .agg #[.bool false, .int .i64 (aInt r1 e1).1, .string ⟨#[]⟩]) ?_ rfl ⟨rfl, val_fin HR.out HB.out HR2.out HBB2.out HK2.out _ _ _⟩
  simp [results, Try.results28, go_sem, *]
set_option maxHeartbeats 4000000 in
set_option maxRecDepth 100000 in
theorem value_Btext {k : Int} {b : Int} {r1 : List Int} {e1 : Int} {odd' : Bool} (hb0 : aByte r e = (b, r1, e1)) (hb : (b == 1) = false) (ho : (odd || decide (1 < b)) = odd') (hod : odd' = false) (hkk : (k == 1) = false) (hR : RdS w0 w g c r e odd) (hB : Below w0.heap.size w0 w) :
    Calls Try.prog 28 #[.pointer (some ⟨g, 0, none⟩), .agg #[.int .i64 k, .bool true]] w fun en w' => en = .returned (.agg #[.bool false, .int .i64 0, .string (strOfNums (aText 64 r1 e1).1)]) ∧ RdS w0 w' g c (aText 64 r1 e1).2.1 (aText 64 r1 e1).2.2 odd' ∧ Below w0.heap.size w0 w' ∧ Kept w w' (GC g c) := by
  rw [hod] at ho
  subst hod
  have HR := Aside0.mk hR; have HB := Aside0.mk hB
  have HB1 := Aside0.mk (below_alloc (below_alloc (Below.refl w.heap.size w) (.cells #[.int .i64 k, .bool true] 39)) (.cells #[.bool false, .int .i64 0, .string ⟨#[]⟩] 43))
  have HY0 : Aside0 (((w.alloc (.cells #[.int .i64 k, .bool true] 39)).alloc (.cells #[.bool false, .int .i64 0, .string ⟨#[]⟩] 43)).heap[w.heap.size]? = some (.cells #[.int .i64 k, .bool true] 39 (0, 0))) := ⟨((below_alloc (Below.refl _ (w.alloc (.cells #[.int .i64 k, .bool true] 39))) _).block w.heap.size (by simp)).trans (heap_alloc_new w _)⟩
  have HY1 : Aside0 (((w.alloc (.cells #[.int .i64 k, .bool true] 39)).alloc (.cells #[.bool false, .int .i64 0, .string ⟨#[]⟩] 43)).heap[w.heap.size + 1]? = some (.cells #[.bool false, .int .i64 0, .string ⟨#[]⟩] 43 (0, 0))) := ⟨by have := heap_alloc_new (w.alloc (.cells #[.int .i64 k, .bool true] 39)) (.cells #[.bool false, .int .i64 0, .string ⟨#[]⟩] 43); simpa using this⟩
  clear hR hB
  have HB0 := Aside0.mk hb0; have HOD := Aside0.mk ho
  clear hb0 ho
  go_enter Try.func28, Try.ntmps28
  go_wp2_with fail
  refine (truth_any HB0.out (HR.out.below HB1.out) (below_then HB.out HB.out.size HB1.out)).mono ?_; rintro en w1 ⟨rfl, hr, hbb, hk⟩
  rw [HOD.out] at hr
  rw [hb]
  have hk0 := Kept.then_ (Kept.of_below HB1.out (GC g c)) hk (fun _ h => .inl h)
  have HR1 := Aside0.mk hr; have HBB1 := Aside0.mk hbb; have HK1 := Aside0.mk hk0
  have z01 := blk_kept HY0.out hk (gc_new HR.out (Nat.le_refl _))
  have z11 := blk_kept HY1.out hk (gc_new HR.out (Nat.le_succ _))
  clear hr hbb hk hk0 HY0 HY1
  have c001 : w1.cell? ⟨w.heap.size, 0, none⟩ = some (.int .i64 k) := (blk_cell z01 0).trans rfl
  have d01 : w1.cell? ⟨w.heap.size + 1, 0, none⟩ = some (.bool false) := (blk_cell z11 0).trans rfl
  have d11 : w1.cell? ⟨w.heap.size + 1, 1, none⟩ = some (.int .i64 0) := (blk_cell z11 1).trans rfl
  have d21 : w1.cell? ⟨w.heap.size + 1, 2, none⟩ = some (.string ⟨#[]⟩) := (blk_cell z11 2).trans rfl
  have f01 := blk_frozen z11 0
  have f11 := blk_frozen z11 1
  have f21 := blk_frozen z11 2
  have g01 := HR1.out.c0
  have g11 := HR1.out.c1
  have HZ01 := Aside0.mk z01; have HZ11 := Aside0.mk z11
  clear z01 z11
  go_wp2_with fail
  refine (text_any 64 (by omega) HR1.out.2.2 HBB1.out).mono ?_; rintro en w2 ⟨rfl, hc, hbb, hk⟩
  have HR2 := Aside0.mk (HR1.out.on hk hc); have HBB2 := Aside0.mk hbb; have HK2 := Aside0.mk (HK1.out.then_ (Kept.gc (g := g) hk) (fun _ h => .inl h))
  have z02 := blk_kept HZ01.out (Kept.gc (g := g) hk) (gc_new HR.out (Nat.le_refl _))
  have z12 := blk_kept HZ11.out (Kept.gc (g := g) hk) (gc_new HR.out (Nat.le_succ _))
  clear hc hbb hk c001 d01 d11 d21 f01 f11 f21 g01 g11
  have c002 : w2.cell? ⟨w.heap.size, 0, none⟩ = some (.int .i64 k) := (blk_cell z02 0).trans rfl
  have d02 : w2.cell? ⟨w.heap.size + 1, 0, none⟩ = some (.bool false) := (blk_cell z12 0).trans rfl
  have d12 : w2.cell? ⟨w.heap.size + 1, 1, none⟩ = some (.int .i64 0) := (blk_cell z12 1).trans rfl
  have d22 : w2.cell? ⟨w.heap.size + 1, 2, none⟩ = some (.string ⟨#[]⟩) := (blk_cell z12 2).trans rfl
  have f02 := blk_frozen z12 0
  have f12 := blk_frozen z12 1
  have f22 := blk_frozen z12 2
  have g02 := HR2.out.c0
  have g12 := HR2.out.c1
  have HZ02 := Aside0.mk z02; have HZ12 := Aside0.mk z12
  clear z02 z12
  go_wp2
  refine bodyPost_ret (v := .agg #[.bool false, .int .i64 0, .string (strOfNums (aText 64 r1 e1).1)]) ?_ rfl ⟨rfl, val_fin HR.out HB.out HR2.out HBB2.out HK2.out _ _ _⟩
  simp [results, Try.results28, go_sem, *]
set_option maxHeartbeats 4000000 in
set_option maxRecDepth 100000 in
theorem value_Codd {k : Int}  (hod : odd = true) (hR : RdS w0 w g c r e odd) (hB : Below w0.heap.size w0 w) :
    Calls Try.prog 28 #[.pointer (some ⟨g, 0, none⟩), .agg #[.int .i64 k, .bool false]] w fun en w' => en = .returned (.agg #[.bool false, .int .i64 0, .string ⟨#[]⟩]) ∧ RdS w0 w' g c r e odd ∧ Below w0.heap.size w0 w' ∧ Kept w w' (GC g c) := by
  subst hod
  have HR := Aside0.mk hR; have HB := Aside0.mk hB
  have HB1 := Aside0.mk (below_alloc (below_alloc (Below.refl w.heap.size w) (.cells #[.int .i64 k, .bool false] 39)) (.cells #[.bool false, .int .i64 0, .string ⟨#[]⟩] 43))
  have HY0 : Aside0 (((w.alloc (.cells #[.int .i64 k, .bool false] 39)).alloc (.cells #[.bool false, .int .i64 0, .string ⟨#[]⟩] 43)).heap[w.heap.size]? = some (.cells #[.int .i64 k, .bool false] 39 (0, 0))) := ⟨((below_alloc (Below.refl _ (w.alloc (.cells #[.int .i64 k, .bool false] 39))) _).block w.heap.size (by simp)).trans (heap_alloc_new w _)⟩
  have HY1 : Aside0 (((w.alloc (.cells #[.int .i64 k, .bool false] 39)).alloc (.cells #[.bool false, .int .i64 0, .string ⟨#[]⟩] 43)).heap[w.heap.size + 1]? = some (.cells #[.bool false, .int .i64 0, .string ⟨#[]⟩] 43 (0, 0))) := ⟨by have := heap_alloc_new (w.alloc (.cells #[.int .i64 k, .bool false] 39)) (.cells #[.bool false, .int .i64 0, .string ⟨#[]⟩] 43); simpa using this⟩
  clear hR hB
  go_enter Try.func28, Try.ntmps28
  go_upto_region 1 with (fail)
  generalize ((w.alloc (.cells #[.int .i64 k, .bool false] 39)).alloc (.cells #[.bool false, .int .i64 0, .string ⟨#[]⟩] 43)) = w1 at *
  have HR1 := Aside0.mk (HR.out.below HB1.out); have HBB1 := Aside0.mk (below_then HB.out HB.out.size HB1.out); have HK1 := Aside0.mk (Kept.of_below HB1.out (GC g c))
  have z01 := HY0.out
  have z11 := HY1.out
  have nn : w1.cell? ⟨w.heap.size, 1, none⟩ = some (.bool false) := (blk_cell z01 1).trans rfl
  clear HY0 HY1
  have c001 : w1.cell? ⟨w.heap.size, 0, none⟩ = some (.int .i64 k) := (blk_cell z01 0).trans rfl
  have d01 : w1.cell? ⟨w.heap.size + 1, 0, none⟩ = some (.bool false) := (blk_cell z11 0).trans rfl
  have d11 : w1.cell? ⟨w.heap.size + 1, 1, none⟩ = some (.int .i64 0) := (blk_cell z11 1).trans rfl
  have d21 : w1.cell? ⟨w.heap.size + 1, 2, none⟩ = some (.string ⟨#[]⟩) := (blk_cell z11 2).trans rfl
  have f01 := blk_frozen z11 0
  have f11 := blk_frozen z11 1
  have f21 := blk_frozen z11 2
  have g01 := HR1.out.c0
  have g11 := HR1.out.c1
  have HZ01 := Aside0.mk z01; have HZ11 := Aside0.mk z11
  clear z01 z11
  go_wp2
  refine bodyPost_ret (v := .agg #[.bool false, .int .i64 0, .string ⟨#[]⟩]) ?_ rfl ⟨rfl, val_fin HR.out HB.out HR1.out HBB1.out HK1.out _ _ _⟩
  simp [results, Try.results28, go_sem, *]
set_option maxHeartbeats 4000000 in
set_option maxRecDepth 100000 in
theorem value_Cint {k : Int}  (hod : odd = false) (hkk : k = 1) (hR : RdS w0 w g c r e odd) (hB : Below w0.heap.size w0 w) :
    Calls Try.prog 28 #[.pointer (some ⟨g, 0, none⟩), .agg #[.int .i64 k, .bool false]] w fun en w' => en = .returned (.agg #[.bool false, .int .i64 (aInt r e).1, .string ⟨#[]⟩]) ∧ RdS w0 w' g c (aUint r e).2.1 (aUint r e).2.2 odd ∧ Below w0.heap.size w0 w' ∧ Kept w w' (GC g c) := by
  subst hkk
  have hkk : ((1 : Int) == 1) = true := rfl
  subst hod
  have HR := Aside0.mk hR; have HB := Aside0.mk hB
  have HB1 := Aside0.mk (below_alloc (below_alloc (Below.refl w.heap.size w) (.cells #[.int .i64 1, .bool false] 39)) (.cells #[.bool false, .int .i64 0, .string ⟨#[]⟩] 43))
  have HY0 : Aside0 (((w.alloc (.cells #[.int .i64 1, .bool false] 39)).alloc (.cells #[.bool false, .int .i64 0, .string ⟨#[]⟩] 43)).heap[w.heap.size]? = some (.cells #[.int .i64 1, .bool false] 39 (0, 0))) := ⟨((below_alloc (Below.refl _ (w.alloc (.cells #[.int .i64 1, .bool false] 39))) _).block w.heap.size (by simp)).trans (heap_alloc_new w _)⟩
  have HY1 : Aside0 (((w.alloc (.cells #[.int .i64 1, .bool false] 39)).alloc (.cells #[.bool false, .int .i64 0, .string ⟨#[]⟩] 43)).heap[w.heap.size + 1]? = some (.cells #[.bool false, .int .i64 0, .string ⟨#[]⟩] 43 (0, 0))) := ⟨by have := heap_alloc_new (w.alloc (.cells #[.int .i64 1, .bool false] 39)) (.cells #[.bool false, .int .i64 0, .string ⟨#[]⟩] 43); simpa using this⟩
  clear hR hB
  go_enter Try.func28, Try.ntmps28
  go_upto_region 1 with (fail)
  generalize ((w.alloc (.cells #[.int .i64 1, .bool false] 39)).alloc (.cells #[.bool false, .int .i64 0, .string ⟨#[]⟩] 43)) = w1 at *
  have HR1 := Aside0.mk (HR.out.below HB1.out); have HBB1 := Aside0.mk (below_then HB.out HB.out.size HB1.out); have HK1 := Aside0.mk (Kept.of_below HB1.out (GC g c))
  have z01 := HY0.out
  have z11 := HY1.out
  have nn : w1.cell? ⟨w.heap.size, 1, none⟩ = some (.bool false) := (blk_cell z01 1).trans rfl
  clear HY0 HY1
  have c001 : w1.cell? ⟨w.heap.size, 0, none⟩ = some (.int .i64 1) := (blk_cell z01 0).trans rfl
  have d01 : w1.cell? ⟨w.heap.size + 1, 0, none⟩ = some (.bool false) := (blk_cell z11 0).trans rfl
  have d11 : w1.cell? ⟨w.heap.size + 1, 1, none⟩ = some (.int .i64 0) := (blk_cell z11 1).trans rfl
  have d21 : w1.cell? ⟨w.heap.size + 1, 2, none⟩ = some (.string ⟨#[]⟩) := (blk_cell z11 2).trans rfl
  have f01 := blk_frozen z11 0
  have f11 := blk_frozen z11 1
  have f21 := blk_frozen z11 2
  have g01 := HR1.out.c0
  have g11 := HR1.out.c1
  have HZ01 := Aside0.mk z01; have HZ11 := Aside0.mk z11
  clear z01 z11
  go_wp2_with fail
  refine (int_any HR1.out.2.2 HBB1.out).mono ?_; rintro en w2 ⟨rfl, hc, hbb, hk⟩
  have HR2 := Aside0.mk (HR1.out.on hk hc); have HBB2 := Aside0.mk hbb; have HK2 := Aside0.mk (HK1.out.then_ (Kept.gc (g := g) hk) (fun _ h => .inl h))
  have z02 := blk_kept HZ01.out (Kept.gc (g := g) hk) (gc_new HR.out (Nat.le_refl _))
  have z12 := blk_kept HZ11.out (Kept.gc (g := g) hk) (gc_new HR.out (Nat.le_succ _))
  clear hc hbb hk c001 d01 d11 d21 f01 f11 f21 g01 g11
  have c002 : w2.cell? ⟨w.heap.size, 0, none⟩ = some (.int .i64 1) := (blk_cell z02 0).trans rfl
  have d02 : w2.cell? ⟨w.heap.size + 1, 0, none⟩ = some (.bool false) := (blk_cell z12 0).trans rfl
  have d12 : w2.cell? ⟨w.heap.size + 1, 1, none⟩ = some (.int .i64 0) := (blk_cell z12 1).trans rfl
  have d22 : w2.cell? ⟨w.heap.size + 1, 2, none⟩ = some (.string ⟨#[]⟩) := (blk_cell z12 2).trans rfl
  have f02 := blk_frozen z12 0
  have f12 := blk_frozen z12 1
  have f22 := blk_frozen z12 2
  have g02 := HR2.out.c0
  have g12 := HR2.out.c1
  have HZ02 := Aside0.mk z02; have HZ12 := Aside0.mk z12
  clear z02 z12
  go_wp2
  refine bodyPost_ret (v := .agg #[.bool false, .int .i64 (aInt r e).1, .string ⟨#[]⟩]) ?_ rfl ⟨rfl, val_fin HR.out HB.out HR2.out HBB2.out HK2.out _ _ _⟩
  simp [results, Try.results28, go_sem, *]
set_option maxHeartbeats 4000000 in
set_option maxRecDepth 100000 in
theorem value_Ctext {k : Int}  (hod : odd = false) (hkk : (k == 1) = false) (hR : RdS w0 w g c r e odd) (hB : Below w0.heap.size w0 w) :
    Calls Try.prog 28 #[.pointer (some ⟨g, 0, none⟩), .agg #[.int .i64 k, .bool false]] w fun en w' => en = .returned (.agg #[.bool false, .int .i64 0, .string (strOfNums (aText 64 r e).1)]) ∧ RdS w0 w' g c (aText 64 r e).2.1 (aText 64 r e).2.2 odd ∧ Below w0.heap.size w0 w' ∧ Kept w w' (GC g c) := by
  subst hod
  have HR := Aside0.mk hR; have HB := Aside0.mk hB
  have HB1 := Aside0.mk (below_alloc (below_alloc (Below.refl w.heap.size w) (.cells #[.int .i64 k, .bool false] 39)) (.cells #[.bool false, .int .i64 0, .string ⟨#[]⟩] 43))
  have HY0 : Aside0 (((w.alloc (.cells #[.int .i64 k, .bool false] 39)).alloc (.cells #[.bool false, .int .i64 0, .string ⟨#[]⟩] 43)).heap[w.heap.size]? = some (.cells #[.int .i64 k, .bool false] 39 (0, 0))) := ⟨((below_alloc (Below.refl _ (w.alloc (.cells #[.int .i64 k, .bool false] 39))) _).block w.heap.size (by simp)).trans (heap_alloc_new w _)⟩
  have HY1 : Aside0 (((w.alloc (.cells #[.int .i64 k, .bool false] 39)).alloc (.cells #[.bool false, .int .i64 0, .string ⟨#[]⟩] 43)).heap[w.heap.size + 1]? = some (.cells #[.bool false, .int .i64 0, .string ⟨#[]⟩] 43 (0, 0))) := ⟨by have := heap_alloc_new (w.alloc (.cells #[.int .i64 k, .bool false] 39)) (.cells #[.bool false, .int .i64 0, .string ⟨#[]⟩] 43); simpa using this⟩
  clear hR hB
  go_enter Try.func28, Try.ntmps28
  go_upto_region 1 with (fail)
  generalize ((w.alloc (.cells #[.int .i64 k, .bool false] 39)).alloc (.cells #[.bool false, .int .i64 0, .string ⟨#[]⟩] 43)) = w1 at *
  have HR1 := Aside0.mk (HR.out.below HB1.out); have HBB1 := Aside0.mk (below_then HB.out HB.out.size HB1.out); have HK1 := Aside0.mk (Kept.of_below HB1.out (GC g c))
  have z01 := HY0.out
  have z11 := HY1.out
  have nn : w1.cell? ⟨w.heap.size, 1, none⟩ = some (.bool false) := (blk_cell z01 1).trans rfl
  clear HY0 HY1
  have c001 : w1.cell? ⟨w.heap.size, 0, none⟩ = some (.int .i64 k) := (blk_cell z01 0).trans rfl
  have d01 : w1.cell? ⟨w.heap.size + 1, 0, none⟩ = some (.bool false) := (blk_cell z11 0).trans rfl
  have d11 : w1.cell? ⟨w.heap.size + 1, 1, none⟩ = some (.int .i64 0) := (blk_cell z11 1).trans rfl
  have d21 : w1.cell? ⟨w.heap.size + 1, 2, none⟩ = some (.string ⟨#[]⟩) := (blk_cell z11 2).trans rfl
  have f01 := blk_frozen z11 0
  have f11 := blk_frozen z11 1
  have f21 := blk_frozen z11 2
  have g01 := HR1.out.c0
  have g11 := HR1.out.c1
  have HZ01 := Aside0.mk z01; have HZ11 := Aside0.mk z11
  clear z01 z11
  go_wp2_with fail
  refine (text_any 64 (by omega) HR1.out.2.2 HBB1.out).mono ?_; rintro en w2 ⟨rfl, hc, hbb, hk⟩
  have HR2 := Aside0.mk (HR1.out.on hk hc); have HBB2 := Aside0.mk hbb; have HK2 := Aside0.mk (HK1.out.then_ (Kept.gc (g := g) hk) (fun _ h => .inl h))
  have z02 := blk_kept HZ01.out (Kept.gc (g := g) hk) (gc_new HR.out (Nat.le_refl _))
  have z12 := blk_kept HZ11.out (Kept.gc (g := g) hk) (gc_new HR.out (Nat.le_succ _))
  clear hc hbb hk c001 d01 d11 d21 f01 f11 f21 g01 g11
  have c002 : w2.cell? ⟨w.heap.size, 0, none⟩ = some (.int .i64 k) := (blk_cell z02 0).trans rfl
  have d02 : w2.cell? ⟨w.heap.size + 1, 0, none⟩ = some (.bool false) := (blk_cell z12 0).trans rfl
  have d12 : w2.cell? ⟨w.heap.size + 1, 1, none⟩ = some (.int .i64 0) := (blk_cell z12 1).trans rfl
  have d22 : w2.cell? ⟨w.heap.size + 1, 2, none⟩ = some (.string ⟨#[]⟩) := (blk_cell z12 2).trans rfl
  have f02 := blk_frozen z12 0
  have f12 := blk_frozen z12 1
  have f22 := blk_frozen z12 2
  have g02 := HR2.out.c0
  have g12 := HR2.out.c1
  have HZ02 := Aside0.mk z02; have HZ12 := Aside0.mk z12
  clear z02 z12
  go_wp2
  refine bodyPost_ret (v := .agg #[.bool false, .int .i64 0, .string (strOfNums (aText 64 r e).1)]) ?_ rfl ⟨rfl, val_fin HR.out HB.out HR2.out HBB2.out HK2.out _ _ _⟩
  simp [results, Try.results28, go_sem, *]
theorem value_any {k : Int} {null : Bool} {v : S43} {r' : List Int} {e' : Int} {odd' : Bool} (hv : valL k null r e odd = (v, r', e', odd')) (hR : RdS w0 w g c r e odd) (hB : Below w0.heap.size w0 w) :
    Calls Try.prog 28 #[.pointer (some ⟨g, 0, none⟩), .agg #[.int .i64 k, .bool null]] w fun en w' => en = .returned (vcells v) ∧ RdS w0 w' g c r' e' odd' ∧ Below w0.heap.size w0 w' ∧ Kept w w' (GC g c) := by
  unfold valL at hv
  cases null
  · rw [if_neg (by decide)] at hv
    unfold restL at hv
    cases odd
    · rw [if_neg (by decide)] at hv
      by_cases hk : k = 1
      · rw [if_pos hk] at hv
        obtain ⟨rfl, rfl, rfl, rfl⟩ := by simpa using hv
        exact value_Cint rfl hk hR hB
      · rw [if_neg hk] at hv
        obtain ⟨rfl, rfl, rfl, rfl⟩ := by simpa using hv
        exact value_Ctext rfl (beq_eq_false_iff_ne.mpr hk) hR hB
    · rw [if_pos rfl] at hv
      obtain ⟨rfl, rfl, rfl, rfl⟩ := by simpa using hv
      exact value_Codd rfl hR hB
  · rw [if_pos rfl] at hv
    rcases hb : aByte r e with ⟨b, r1, e1⟩
    rw [hb] at hv
    by_cases h1 : b = 1
    · subst h1
      rw [if_pos rfl] at hv
      obtain ⟨rfl, rfl, rfl, rfl⟩ := by simpa using hv
      exact value_A hb hR hB
    · rw [if_neg h1] at hv
      have h1' : (b == 1) = false := beq_eq_false_iff_ne.mpr h1
      obtain ⟨od, ho⟩ : ∃ od, (odd || decide (1 < b)) = od := ⟨_, rfl⟩
      simp only [ho] at hv
      unfold restL at hv
      cases od
      · rw [if_neg (by decide)] at hv
        by_cases hk : k = 1
        · rw [if_pos hk] at hv
          obtain ⟨rfl, rfl, rfl, rfl⟩ := by simpa using hv
          exact value_Bint hb h1' ho rfl hk hR hB
        · rw [if_neg hk] at hv
          obtain ⟨rfl, rfl, rfl, rfl⟩ := by simpa using hv
          exact value_Btext hb h1' ho rfl (beq_eq_false_iff_ne.mpr hk) hR hB
      · rw [if_pos rfl] at hv
        obtain ⟨rfl, rfl, rfl, rfl⟩ := by simpa using hv
        exact value_Bodd hb h1' ho rfl hR hB
end
def rowsL : List S39 → List Int → Int → Bool → List S43 → List S43 × List Int × Int × Bool
  | [], r, e, odd, acc => (acc, r, e, odd)
  | x :: l, r, e, odd, acc => if (!odd && (e == 0)) = true then rowsL l (valL x.f0 x.f1 r e odd).2.1 (valL x.f0 x.f1 r e odd).2.2.1 (valL x.f0 x.f1 r e odd).2.2.2 (acc ++ [(valL x.f0 x.f1 r e odd).1]) else (acc, r, e, odd)
def endL (gone : Bool) (q : List S43 × List Int × Int × Bool) : Bool × List S43 × Int :=
  if q.2.2.2 = true then (false, [], 4) else if aDone q.2.1 q.2.2.1 = 0 then (gone, q.1, 0) else (false, [], aDone q.2.1 q.2.2.1)
def readL (l : List S39) (r : List Int) : Bool × List S43 × Int :=
  endL ((aByte r 0).1 == 1) (rowsL (l.take (if ((aByte r 0).1 == 1) = true then 1 else l.length)) (aByte r 0).2.1 (aByte r 0).2.2 (decide (1 < (aByte r 0).1)) [])
def RowS (w0 W : World) (g c R D : Nat) (gone : Bool) (v : Value) (acc : List S43) (r : List Int) (e : Int) (odd : Bool) : Prop :=
  RdS w0 W g c r e odd ∧ Below w0.heap.size w0 W ∧ (W.heap[D]? = some (.cells #[.bool gone, v] 26 (0, 0)) ∧ w0.heap.size ≤ D) ∧ (W.heap[R]? = some (.cells #[.bool false, .slice none 0 0] 26 (0, 0)) ∧ w0.heap.size ≤ R) ∧ D ≠ R ∧ k43.R 43 W w0.heap.size (fun _ => True) v acc
section
variable {w0 W W' : World} {g c R D : Nat} {gone : Bool} {v v1 : Value} {acc acc' : List S43} {r r' : List Int} {e e' : Int} {odd odd' : Bool}
theorem RowS.below (h : RowS w0 W g c R D gone v acc r e odd) (hb : Below W.heap.size W W') : RowS w0 W' g c R D gone v acc r e odd :=
  ⟨h.1.below hb, below_then h.2.1 h.2.1.size hb, ⟨(hb.block D (blk_lt h.2.2.1.1)).trans h.2.2.1.1, h.2.2.1.2⟩, ⟨(hb.block R (blk_lt h.2.2.2.1.1)).trans h.2.2.2.1.1, h.2.2.2.1.2⟩, h.2.2.2.2.1, Kd.R_below h.2.2.2.2.2 hb⟩
theorem RowS.drew (h : RowS w0 W g c R D gone v acc r e odd) : RowS w0 W.drew g c R D gone v acc r e odd := h.below (below_drew (Below.refl _ _))
theorem RowS.gne (h : RowS w0 W g c R D gone v acc r e odd) : some g ≠ v.ownBlock := Kd.R_ne h.2.2.2.2.2 h.1.1 (by decide)
theorem RowS.cne (h : RowS w0 W g c R D gone v acc r e odd) : some c ≠ v.ownBlock := Kd.R_ne h.2.2.2.2.2 h.1.2.2.1.1 (by decide)
theorem RowS.dne (h : RowS w0 W g c R D gone v acc r e odd) : some D ≠ v.ownBlock := Kd.R_ne h.2.2.2.2.2 h.2.2.1.1 (by decide)
theorem RowS.rne (h : RowS w0 W g c R D gone v acc r e odd) : some R ≠ v.ownBlock := Kd.R_ne h.2.2.2.2.2 h.2.2.2.1.1 (by decide)
theorem RowS.dgc (h : RowS w0 W g c R D gone v acc r e odd) : ¬ GC g c D := fun x => x.elim (blk_ne h.2.2.1.1 h.1.1 (by decide)) (blk_ne h.2.2.1.1 h.1.2.2.1.1 (by decide))
theorem RowS.rgc (h : RowS w0 W g c R D gone v acc r e odd) : ¬ GC g c R := fun x => x.elim (blk_ne h.2.2.2.1.1 h.1.1 (by decide)) (blk_ne h.2.2.2.1.1 h.1.2.2.1.1 (by decide))
theorem RowS.val (h : RowS w0 W g c R D gone v acc r e odd) (hk : Kept W W' (GC g c)) (hr : RdS w0 W' g c r' e' odd') (hb : Below w0.heap.size w0 W') : RowS w0 W' g c R D gone v acc r' e' odd' :=
  ⟨hr, hb, ⟨blk_kept h.2.2.1.1 hk h.dgc, h.2.2.1.2⟩, ⟨blk_kept h.2.2.2.1.1 hk h.rgc, h.2.2.2.1.2⟩, h.2.2.2.2.1,
    Kd.R_mono (Kd.R_kept (Kd.R_tight rfl h.2.2.2.2.2) hk (fun k hk' hs => hs.elim (fun e => h.gne (e ▸ hk')) (fun e => h.cne (e ▸ hk')))) (fun _ _ => trivial)⟩
theorem RowS.app (h : RowS w0 W g c R D gone v acc r e odd) (hg : W.grownBy W' v.ownBlock) (hr : k43.R 43 W' w0.heap.size (fun _ => True) v1 acc') (hb : Below w0.heap.size w0 W') : RowS w0 (W'.setCell ⟨D, 1, none⟩ v1) g c R D gone v1 acc' r e odd := by
  have d := blk_grown h.2.2.1.1 hg h.dne
  have rr := blk_grown h.2.2.2.1.1 hg h.rne
  have gg := blk_grown h.1.1 hg h.gne
  have cc := blk_grown h.1.2.2.1.1 hg h.cne
  exact ⟨⟨blk_far gg (p := ⟨D, 1, none⟩) (fun e => h.dgc (.inl e.symm)) v1, h.1.2.1, ⟨⟨blk_far cc (p := ⟨D, 1, none⟩) (fun e => h.dgc (.inr e.symm)) v1, h.1.2.2.1.2⟩, h.1.2.2.2⟩⟩, below_set hb h.2.2.1.2, ⟨blk_set d 1 v1, h.2.2.1.2⟩,
    ⟨blk_far rr (p := ⟨D, 1, none⟩) (Ne.symm h.2.2.2.2.1) v1, h.2.2.2.1.2⟩, h.2.2.2.2.1, Kd.R_set hr d (by decide) 1 v1⟩
theorem RowS.bad (h : RowS w0 W g c R D gone v acc r e odd) (a b : Value) : Below w0.heap.size w0 ((W.setCell ⟨R, 0, none⟩ a).setCell ⟨R, 1, none⟩ b) := below_set (below_set h.2.1 h.2.2.2.1.2) h.2.2.2.1.2
theorem RowS.good (h : RowS w0 W g c R D gone v acc r e odd) (a b : Value) : k43.R 43 ((W.setCell ⟨R, 0, none⟩ a).setCell ⟨R, 1, none⟩ b) w0.heap.size (fun _ => True) v acc :=
  Kd.R_set (Kd.R_set h.2.2.2.2.2 h.2.2.2.1.1 (by decide) 0 a) (blk_set h.2.2.2.1.1 0 a) (by decide) 1 b
theorem RowS.d0 (h : RowS w0 W g c R D gone v acc r e odd) : W.cell? ⟨D, 0, none⟩ = some (.bool gone) := (blk_cell h.2.2.1.1 0).trans rfl
theorem RowS.d1 (h : RowS w0 W g c R D gone v acc r e odd) : W.cell? ⟨D, 1, none⟩ = some v := (blk_cell h.2.2.1.1 1).trans rfl
theorem RowS.r0 (h : RowS w0 W g c R D gone v acc r e odd) : W.cell? ⟨R, 0, none⟩ = some (.bool false) := (blk_cell h.2.2.2.1.1 0).trans rfl
theorem RowS.r1 (h : RowS w0 W g c R D gone v acc r e odd) : W.cell? ⟨R, 1, none⟩ = some (.slice none 0 0) := (blk_cell h.2.2.2.1.1 1).trans rfl
end
theorem value_at {w0 w : World} {g c : Nat} {r r' : List Int} {e e' : Int} {odd odd' : Bool} {k : Int} {null : Bool} {v : S43} (hv : valL k null r e odd = (v, r', e', odd')) (hR : RdS w0 w g c r e odd) (hB : Below w0.heap.size w0 w) :
    Calls Try.prog 28 #[.pointer (some ⟨g, 0, none⟩), .agg #[.int .i64 k, .bool null]] w fun en w' => en = .returned (.agg #[.bool v.f0, .int .i64 v.f1, .string v.f2]) ∧ RdS w0 w' g c r' e' odd' ∧ Below w0.heap.size w0 w' ∧ Kept w w' (GC g c) := value_any hv hR hB
theorem row_step {l : List S39} {m i : Nat} (hm : m ≤ l.length) (hi : i < m) {x : S39} (hx : rd_T39 l (i : Int) = x) : (l.take m).drop i = x :: (l.take m).drop (i + 1) := by
  have h1 : i < (l.take m).length := by rw [List.length_take]; omega
  rw [List.drop_eq_getElem_cons h1, List.getElem_take]
  unfold rd_T39 at hx
  rw [Int.toNat_natCast, List.getD_eq_getElem?_getD, List.getElem?_eq_getElem (by omega)] at hx
  exact congrArg (· :: _) hx
theorem row_end {l : List S39} {m i : Nat} (hi : m ≤ i) : (l.take m).drop i = [] := List.drop_eq_nil_of_le (by rw [List.length_take]; omega)
theorem end_odd {gone : Bool} {acc : List S43} {r : List Int} {e : Int} {r1 : Bool} {r2 : List S43} {r3 : Int} (h : endL gone (acc, r, e, true) = (r1, r2, r3)) : false = r1 ∧ [] = r2 ∧ 4 = r3 := by
  unfold endL at h
  rw [if_pos rfl] at h
  simpa using h
theorem end_ok {gone : Bool} {acc : List S43} {r : List Int} {e : Int} {r1 : Bool} {r2 : List S43} {r3 : Int} (h : endL gone (acc, r, e, false) = (r1, r2, r3)) (hd : aDone r e = 0) : gone = r1 ∧ acc = r2 ∧ 0 = r3 := by
  unfold endL at h
  rw [if_neg (by simp), if_pos hd] at h
  simpa using h
theorem end_bad {gone : Bool} {acc : List S43} {r : List Int} {e dn : Int} {r1 : Bool} {r2 : List S43} {r3 : Int} (h : endL gone (acc, r, e, false) = (r1, r2, r3)) (hd : aDone r e = dn) (h0 : dn ≠ 0) : false = r1 ∧ [] = r2 ∧ dn = r3 := by
  unfold endL at h
  rw [if_neg (by simp), if_neg (by simpa [hd] using h0)] at h
  simpa [hd] using h
theorem rows_no {x : S39} {l : List S39} {r : List Int} {e : Int} {odd : Bool} {acc : List S43} (h : (!odd && (e == 0)) = false) : rowsL (x :: l) r e odd acc = (acc, r, e, odd) := by
  unfold rowsL
  rw [if_neg (by rw [h]; decide)]
theorem rows_on {x : S39} {l : List S39} {r r' : List Int} {e e' : Int} {odd odd' : Bool} {acc : List S43} {y : S43} (h : (!odd && (e == 0)) = true) (hv : valL x.f0 x.f1 r e odd = (y, r', e', odd')) : rowsL (x :: l) r e odd acc = rowsL l r' e' odd' (acc ++ [y]) := by
  rw [rowsL]
  rw [if_pos h, hv]
theorem right_len {l : List S39} (h : kinds_Right.f l = some true) : 0 < l.length ∧ l.length ≤ 6 := by
  unfold kinds_Right.f at h
  simp only [Option.some.injEq, Bool.and_eq_true, decide_eq_true_eq] at h
  exact ⟨h.1.1.1, h.1.1.2⟩
def DeedsRead.T11 : Bool × List (List Nat × List Nat) := (true, [([], []), ([0], [0]), ([], []), ([], []), ([2, 3], [2, 3]), ([4], [4]), ([1, 5, 4], [1, 5]), ([0, 1, 2, 3, 4, 5, 6], []), ([7, 6, 6, 0, 1, 2, 3, 4, 5, 6], [6, 7])])
theorem DeedsRead.tab11 : rtab .any (opsOf Try.f12 11) = DeedsRead.T11 := by kernel_rfl
set_option maxHeartbeats 4000000 in
set_option maxRecDepth 100000 in
theorem deeds_Read.no (A0 : Option Addr) (c0 : Nat) (l : List S39) (text : ByteArray) (r1 : Bool) (r2 : List S43) (r3 : Int) (w : World) (hr0 : Kd.C k39 w A0 l.length l) (hc0 : l.length ≤ c0) (hR : kinds_Right.f l = some false) (h : (false, [], 4) = (r1, r2, r3)) :
    Calls Try.prog 12 #[.slice A0 l.length c0, .string text] w fun e w' => ∃ v0_, e = .returned (.tuple #[.agg #[.bool r1, v0_], .int .i64 r3]) ∧ Kd.R k43 43 w' w.heap.size (fun _ => True) v0_ r2 ∧ Below w.heap.size w w' := by
  obtain ⟨rfl, rfl, rfl⟩ : false = r1 ∧ [] = r2 ∧ 4 = r3 := by simpa using h
  clear h
  have HR := Aside0.mk hR; clear hR
  have HC := Aside0.mk hr0; clear hr0
  have HC0 := Aside0.mk hc0; clear hc0
  go_enter Try.func12, Try.ntmps12
  go_wp2_with fail
  refine (kinds_Right.calls A0 c0 l false _ (Kd.C_alloc HC.out _) HC0.out HR.out).mono ?_; rintro e w1 ⟨rfl, hb1⟩
  have hB1 := below_then (below_alloc (Below.refl w.heap.size w) (.cells #[.bool false, .slice none 0 0] 26)) (below_alloc (Below.refl w.heap.size w) (.cells #[.bool false, .slice none 0 0] 26)).size hb1
  have hR0 : w1.heap[w.heap.size]? = some (.cells #[.bool false, .slice none 0 0] 26 (0, 0)) := (hb1.block _ (by simp)).trans (heap_alloc_new w _)
  have q4 : w1.cell? ⟨w.heap.size, 0, none⟩ = some (.bool false) := (blk_cell hR0 0).trans rfl
  have q5 : w1.cell? ⟨w.heap.size, 1, none⟩ = some (.slice none 0 0) := (blk_cell hR0 1).trans rfl
  have q6 := blk_frozen hR0 0
  have q7 := blk_frozen hR0 1
  have HB1 := Aside0.mk hB1; clear hB1 hb1 hR0
  go_wp2
  refine bodyPost_ret (v := .tuple #[.agg #[.bool false, .slice none 0 0], .int .i64 4]) ?_ rfl ⟨_, rfl, Kd.R_nil _ _ _ _ _, below_set (below_set HB1.out (Nat.le_refl _)) (Nat.le_refl _)⟩
  simp [results, Try.results12, go_sem, *]
set_option maxHeartbeats 16000000 in
set_option maxRecDepth 100000 in
theorem deeds_Read.yes (A0 : Option Addr) (c0 : Nat) (l : List S39) (text : ByteArray) (r1 : Bool) (r2 : List S43) (r3 : Int) (w : World) (hr0 : Kd.C k39 w A0 l.length l) (hc0 : l.length ≤ c0) (hR : kinds_Right.f l = some true) (hs : text.size ≤ 4611686018427387904) (h : readL l (bytesOf text) = (r1, r2, r3)) :
    Calls Try.prog 12 #[.slice A0 l.length c0, .string text] w fun e w' => ∃ v0_, e = .returned (.tuple #[.agg #[.bool r1, v0_], .int .i64 r3]) ∧ Kd.R k43 43 w' w.heap.size (fun _ => True) v0_ r2 ∧ Below w.heap.size w w' := by
  have HLN := Aside0.mk (right_len hR)
  obtain ⟨ad, hA, -, -⟩ := at_T39 hr0 0 (by omega) (by have := HLN.out; omega)
  cases hA
  unfold readL at h
  obtain ⟨⟨b, r0, e0⟩, ht⟩ : ∃ z, aByte (bytesOf text) 0 = z := ⟨_, rfl⟩
  rw [ht] at h
  simp only at h
  obtain ⟨gone, hgone⟩ : ∃ z, (b == 1) = z := ⟨_, rfl⟩
  obtain ⟨odd0, hodd⟩ : ∃ z, decide (1 < b) = z := ⟨_, rfl⟩
  rw [hgone, hodd] at h
  have HT := Aside0.mk ht; have HG := Aside0.mk hgone; have HO := Aside0.mk hodd
  clear ht hgone hodd
  have HR := Aside0.mk hr0; have HRT := Aside0.mk hR; have HC0 := Aside0.mk hc0; have HS_ := Aside0.mk hs; have HQ := Aside0.mk h
  clear hr0 hR hs h
  go_enter Try.func12, Try.ntmps12
  go_wp2_with fail
  refine (kinds_Right.calls (some ad) c0 l true _ (Kd.C_alloc HR.out _) HC0.out HRT.out).mono ?_; rintro e w1 ⟨rfl, hb1⟩
  have hB1 := below_then (below_alloc (Below.refl w.heap.size w) (.cells #[.bool false, .slice none 0 0] 26)) (below_alloc (Below.refl w.heap.size w) (.cells #[.bool false, .slice none 0 0] 26)).size hb1
  have hR0 : w1.heap[w.heap.size]? = some (.cells #[.bool false, .slice none 0 0] 26 (0, 0)) := (hb1.block _ (by simp)).trans (heap_alloc_new w _)
  have HB1 := Aside0.mk hB1; have HR0 := Aside0.mk hR0; clear hB1 hb1 hR0
  go_wp2_with fail
  refine (from_any (w0 := w) text HS_.out HB1.out).mono ?_; rintro e w2 ⟨c, rfl, hc, hcw, hb2, hn2⟩
  have HR2 := Aside0.mk ((hn2.block _ (blk_lt HR0.out)).trans HR0.out); have HC2 := Aside0.mk hc; have HB2 := Aside0.mk hb2; clear hc hcw hb2 hn2 HB1 HR0
  go_wp2_with (first | ((with_reducible refine gate_dst (N := 17) rfl ?_); refine box_event ?hg (N := 17) ?hd (cs := #[.pointer (some ⟨c, 0, none⟩), .bool false]) (t := 56) ?hr ?_; (case hd => rfl); (case hg => rfl); (case hr => first | (go_simp; done) | (go_simp; rfl)); intro g hdg w3 hd0 hb3; have HDG := Aside0.mk hdg; clear hdg))
  have HR3 := Aside0.mk ((hb3.block _ (blk_lt HR2.out)).trans HR2.out)
  have HB3 := Aside0.mk (below_then HB2.out HB2.out.size hb3)
  have HRD := Aside0.mk (show RdS w w3 g c (bytesOf text) 0 false from ⟨hd0, by have := HB2.out.size; have := HDG.out; omega, HC2.out.below hb3⟩)
  clear hd0 hb3 HDG HC2 HR2 HB2
  go_wp2_with fail
  refine (truth_any HT.out HRD.out HB3.out).mono ?_; rintro e w4 ⟨rfl, hr4, hb4, hk4⟩
  rw [Bool.false_or, HO.out] at hr4
  rw [HG.out]
  have HR4 := Aside0.mk (blk_kept HR3.out hk4 (fun x => x.elim (blk_ne HR3.out HRD.out.1 (by decide)) (blk_ne HR3.out HRD.out.2.2.1.1 (by decide))))
  have HRD4 := Aside0.mk hr4; have HB4 := Aside0.mk hb4; clear hr4 hb4 hk4 HR3 HB3 HRD
  have HS : ∀ gn : Bool, Aside0 (RowS w (w4.alloc (.cells #[.bool gn, .slice none 0 0] 26)) g c w.heap.size w4.heap.size gn (.slice none 0 0) [] r0 e0 odd0) := fun gn =>
    have ha := below_alloc (Below.refl w4.heap.size w4) (.cells #[.bool gn, .slice none 0 0] 26)
    ⟨HRD4.out.below ha, below_then HB4.out HB4.out.size ha, ⟨heap_alloc_new w4 _, HB4.out.size⟩, ⟨(ha.block _ (blk_lt HR4.out)).trans HR4.out, Nat.le_refl _⟩, (fun e => by have := blk_lt HR4.out; omega), Kd.R_nil _ _ _ _ _⟩
  have l1 := HLN.out.1; have l2 := HLN.out.2
  cases gone
  · replace HS := HS false
    rw [if_neg (by decide)] at HQ
    have p1 : (1 ≤ c0) = True := eq_true (by omega)
    have p2 : ((1 : Int) ≤ (c0 : Int)) = True := eq_true (by omega)
    clear hc0
    go_wp2_with fail
    generalize w4.heap.size = D at *
    go_loopg [27] l.length (fun gk u wx => ∃ (i : Nat) (v : Value) (acc : List S43) (r : List Int) (e : Int) (odd : Bool), i ≤ l.length ∧ gk = l.length - i ∧ u = .int .i64 (i : Int) ∧ acc.length ≤ i ∧ Aside0 (RowS w wx g c w.heap.size D false v acc r e odd) ∧ Aside0 (endL false (rowsL ((l.take l.length).drop i) r e odd acc) = (r1, r2, r3)))
    case atStart => exact ⟨0, .slice none 0 0, [], r0, e0, odd0, by omega, by omega, rfl, by simp, HS, ⟨by rw [List.drop_zero]; exact HQ.out⟩⟩
    case round =>
      clear HS HQ
      obtain ⟨i, v, acc, r, e, odd, hi, rfl, rfl, hal, HS, HQ⟩ := hrel
      obtain ⟨Av, cv, rfl⟩ := Kd.R_slice HS.out.2.2.2.2.2
      by_cases hlt : i < l.length
      · obtain ⟨g1, hg1⟩ : ∃ g1, l.length - i = g1 + 1 := ⟨l.length - i - 1, by omega⟩
        have k1 : decide ((i : Int) < (l.length : Int)) = true := decide_eq_true (by omega)
        have k2 : decide (i < l.length) = true := decide_eq_true hlt
        obtain ⟨ad', hA, hx0, hx1⟩ := at_T39 (Kd.C_below HR.out HS.out.2.1) (i : Int) (by omega) (by have := HLN.out; omega)
        rw [Int.toNat_natCast] at hx0 hx1
        cases hA
        have i1 : (0 : Int) ≤ (i : Int) := by omega
        have i2 : (i : Int) < (l.length : Int) := by omega
        replace i1 := eq_true i1; replace i2 := eq_true i2
        obtain ⟨x, hx⟩ : ∃ x, rd_T39 l (i : Int) = x := ⟨_, rfl⟩
        have hq := HQ.out
        rw [row_step (by have := HLN.out; omega) hlt hx] at hq
        rw [hx] at hx0 hx1
        have HX := Aside0.mk hx; clear hx
        clear HQ
        obtain ⟨f, hf⟩ : ∃ f, (!odd && (e == 0)) = f := ⟨_, rfl⟩
        have HF := Aside0.mk hf
        have hcp := below_alloc (Below.refl wr.heap.size wr) (.cells #[.int .i64 x.f0, .bool x.f1] 39)
        cases f
        · rw [rows_no hf] at hq
          have HQ := Aside0.mk hq; clear hq hf
          have HCP := Aside0.mk hcp; clear hcp
          go_wp2_with fail
          refine (fine_any HF.out (HS.out.below HCP.out).1).mono ?_; rintro e1 w2 ⟨rfl, rfl⟩
          have HS := Aside0.mk (HS.out.below HCP.out)
          clear HCP
          generalize World.alloc wr _ = w2 at HS ⊢
          clear hx0 hx1
          cases odd
          · obtain ⟨dn, hdn⟩ : ∃ dn, aDone r e = dn := ⟨_, rfl⟩
            have HDN := Aside0.mk hdn; clear hdn
            have q0 := HS.out.1.c0
            have q1 := HS.out.1.c1
            have q2 := HS.out.d0
            have q3 := HS.out.d1
            have q4 := HS.out.r0
            have q5 := HS.out.r1
            have q6 := blk_frozen HS.out.2.2.2.1.1 0
            have q7 := blk_frozen HS.out.2.2.2.1.1 1
            go_wp2_with fail
            refine (done_any HS.out.1.2.2 HS.out.2.1).mono ?_; rintro e1 w7 ⟨rfl, hc7, hb7, hk7⟩
            rw [HDN.out]
            have HS7 := Aside0.mk (HS.out.val (Kept.gc (g := g) hk7) (HS.out.1.on hk7 hc7) hb7)
            clear hc7 hb7 hk7
            clear q0 q1 q2 q3 q4 q5 q6 q7
            by_cases hz : dn = 0
            · subst hz
              obtain ⟨rfl, rfl, rfl⟩ := end_ok HQ.out HDN.out
              have q0 := HS7.out.1.c0
              have q1 := HS7.out.1.c1
              have q2 := HS7.out.d0
              have q3 := HS7.out.d1
              have q4 := HS7.out.r0
              have q5 := HS7.out.r1
              have q6 := blk_frozen HS7.out.2.2.2.1.1 0
              have q7 := blk_frozen HS7.out.2.2.2.1.1 1
              go_wp2
              refine bodyPost_ret (v := .tuple #[.agg #[.bool false, .slice Av acc.length cv], .int .i64 0]) ?_ rfl ⟨_, rfl, HS7.out.good _ _, HS7.out.bad _ _⟩
              simp [results, Try.results12, go_sem, *]
            · obtain ⟨rfl, rfl, rfl⟩ := end_bad HQ.out HDN.out hz
              have hz1 : (dn != 0) = true := bne_iff_ne.mpr hz
              have hz2 : (dn == 0) = false := beq_eq_false_iff_ne.mpr hz
              have HZ := Aside0.mk hz; clear hz
              have q0 := HS7.out.1.c0
              have q1 := HS7.out.1.c1
              have q2 := HS7.out.d0
              have q3 := HS7.out.d1
              have q4 := HS7.out.r0
              have q5 := HS7.out.r1
              have q6 := blk_frozen HS7.out.2.2.2.1.1 0
              have q7 := blk_frozen HS7.out.2.2.2.1.1 1
              go_wp2_with fail
              refine (done_any HS7.out.1.2.2 HS7.out.2.1).mono ?_; rintro e1 w8 ⟨rfl, hc8, hb8, hk8⟩
              rw [HDN.out]
              have HS8 := Aside0.mk (HS7.out.val (Kept.gc (g := g) hk8) (HS7.out.1.on hk8 hc8) hb8)
              clear hc8 hb8 hk8
              clear q0 q1 q2 q3 q4 q5 q6 q7
              have q0 := HS8.out.1.c0
              have q1 := HS8.out.1.c1
              have q2 := HS8.out.d0
              have q3 := HS8.out.d1
              have q4 := HS8.out.r0
              have q5 := HS8.out.r1
              have q6 := blk_frozen HS8.out.2.2.2.1.1 0
              have q7 := blk_frozen HS8.out.2.2.2.1.1 1
              go_wp2
              refine bodyPost_ret (v := .tuple #[.agg #[.bool false, .slice none 0 0], .int .i64 dn]) ?_ rfl ⟨_, rfl, Kd.R_nil _ _ _ _ _, HS8.out.bad _ _⟩
              simp [results, Try.results12, go_sem, *]
          · obtain ⟨rfl, rfl, rfl⟩ := end_odd HQ.out
            have q0 := HS.out.1.c0
            have q1 := HS.out.1.c1
            have q2 := HS.out.d0
            have q3 := HS.out.d1
            have q4 := HS.out.r0
            have q5 := HS.out.r1
            have q6 := blk_frozen HS.out.2.2.2.1.1 0
            have q7 := blk_frozen HS.out.2.2.2.1.1 1
            go_wp2
            refine bodyPost_ret (v := .tuple #[.agg #[.bool false, .slice none 0 0], .int .i64 4]) ?_ rfl ⟨_, rfl, Kd.R_nil _ _ _ _ _, HS.out.bad _ _⟩
            simp [results, Try.results12, go_sem, *]
        · obtain ⟨⟨y, r', e', odd'⟩, hv⟩ : ∃ z, valL x.f0 x.f1 r e odd = z := ⟨_, rfl⟩
          rw [rows_on hf hv] at hq
          have HV := Aside0.mk hv; have HQ := Aside0.mk hq; clear hq hv hf
          have HCP := Aside0.mk hcp; clear hcp
          go_wp2_with fail
          refine (fine_any HF.out (HS.out.below HCP.out).1).mono ?_; rintro e1 w2 ⟨rfl, rfl⟩
          have hS := HS.out.below HCP.out
          have hy := heap_alloc_new wr (.cells #[.int .i64 x.f0, .bool x.f1] 39)
          clear HCP hx0 hx1 HS
          obtain ⟨n, hn⟩ : ∃ n, wr.heap.size = n := ⟨_, rfl⟩
          rw [hn] at hy ⊢
          generalize World.alloc wr _ = w2 at hS hy ⊢
          have hy0 : w2.cell? ⟨n, 0, none⟩ = some (.int .i64 x.f0) := (blk_cell hy 0).trans rfl
          have hy1 : w2.cell? ⟨n, 1, none⟩ = some (.bool x.f1) := (blk_cell hy 1).trans rfl
          clear hy hn
          go_wp2_with fail
          refine start_ (n := 9) (S := fun w' => True) (ds := []) #[false, false, false, false, false, false, false, false, false] (by kernel_rfl) rfl rfl trivial (fun hHeld => ?_)
          refine with_tab DeedsRead.tab11 (fun HT_ => ?_)
          have hS := hS.drew
          have hy0 : World.cell? (World.drew _) _ = _ := hy0
          have hy1 : World.cell? (World.drew _) _ = _ := hy1
          generalize World.drew _ = w4 at hS hy0 hy1 hHeld ⊢
          refine pure_ (i := 0) (N := (some 34)) (v := ?_) (a' := ?_) #[true, false, false, false, false, false, false, false, false] rfl rfl (any_of HT_.out (by kernel_rfl)) (fun _ _ _ h => h) (Or.inl ⟨by rfl, ?_⟩) ?_ ?_
          rotate_left
          · intro w'
            go_simp
            with_reducible rfl
          rotate_left
          · simp only [Act.put, List.setIfInBounds_toArray, List.set_cons_zero, List.set_cons_succ, i64_w, i32_w]
            rfl
          refine pure_ (i := 2) (N := (some 36)) (v := ?_) (a' := ?_) #[true, false, true, false, false, false, false, false, false] rfl rfl (any_of HT_.out (by kernel_rfl)) (fun _ _ _ h => h) (Or.inl ⟨by rfl, ?_⟩) ?_ ?_
          rotate_left
          · intro w'
            go_simp
            with_reducible rfl
          rotate_left
          · simp only [Act.put, List.setIfInBounds_toArray, List.set_cons_zero, List.set_cons_succ, i64_w, i32_w]
            rfl
          refine two_ (i := 1) (j := 3) (Ni := (some 35)) (Nj := (some 37)) #[true, true, true, false, false, false, false, false, false] #[true, false, true, true, false, false, false, false, false] rfl rfl rfl rfl (two_of HT_.out (by kernel_rfl)) (by decide) (by decide) (fun K hK => ?_) (fun K hK => ?_)
          · skip
            have hcell := hS.d1
            refine value_ (w1 := ?_) (v := ?_) (by rfl) rfl ?_ ?_
            rotate_left 2
            · go_simp
              constructor
              · rfl
              · rfl
            refine hK.out _ _ trivial (fun hHeld => ?_)
            clear hK K
            refine norm_ (a' := ?_) ?_ ?_
            rotate_left
            · show Act.put _ (some 35) _ = _
              simp only [Act.put, List.setIfInBounds_toArray, List.set_cons_zero, List.set_cons_succ, i64_w, i32_w]
              rfl
            refine one_ (i := 3) (N := (some 37)) #[true, true, true, true, false, false, false, false, false] rfl rfl (one_of HT_.out (by kernel_rfl)) (by decide) (fun K hK => ?_)
            refine value_ (w1 := ?_) (v := ?_) (by rfl) rfl ?_ ?_
            rotate_left 2
            · go_simp
              constructor
              · rfl
              · rfl
            refine hK.out _ _ trivial (fun hHeld => ?_)
            clear hK K
            refine norm_ (a' := ?_) ?_ ?_
            rotate_left
            · show Act.put _ (some 37) _ = _
              simp only [Act.put, List.setIfInBounds_toArray, List.set_cons_zero, List.set_cons_succ, i64_w, i32_w]
              rfl
            refine one_ (i := 4) (N := (some 38)) #[true, true, true, true, true, false, false, false, false] rfl rfl (one_of HT_.out (by kernel_rfl)) (by decide) (fun K hK => ?_)
            refine goes_ Try.func28 (by kernel_rfl) rfl #[.pointer (some ⟨g, 0, none⟩), .agg #[.int .i64 x.f0, .bool x.f1]] (by rfl) rfl rfl (by first | rfl | (simp only [List.map_toArray, List.map_cons, List.map_nil]; rfl)) ?_
            refine (value_at HV.out hS.1 hS.2.1).mono ?_
            rintro en w5 ⟨rfl, hr5, hb5, hk5⟩
            refine ⟨_, rfl, ?_⟩
            replace hS := hS.val hk5 hr5 hb5
            clear hr5 hb5 hk5 hy0 hy1
            refine hK.out _ _ trivial (fun hHeld => ?_)
            clear hK K
            refine norm_ (a' := ?_) ?_ ?_
            rotate_left
            · show Act.put _ (some 38) _ = _
              simp only [Act.put, List.setIfInBounds_toArray, List.set_cons_zero, List.set_cons_succ, i64_w, i32_w]
              rfl
            refine one_ (i := 5) (N := (some 39)) #[true, true, true, true, true, true, false, false, false] rfl rfl (one_of HT_.out (by kernel_rfl)) (by decide) (fun K hK => ?_)
            refine value_ (w1 := ?_) (v := ?_) (by rfl) rfl ?_ ?_
            rotate_left 2
            · go_simp
              constructor
              · rfl
              · rfl
            refine hK.out _ _ trivial (fun hHeld => ?_)
            clear hK K
            refine norm_ (a' := ?_) ?_ ?_
            rotate_left
            · show Act.put _ (some 39) _ = _
              simp only [Act.put, List.setIfInBounds_toArray, List.set_cons_zero, List.set_cons_succ, i64_w, i32_w]
              rfl
            refine one_ (i := 6) (N := (some 40)) #[true, true, true, true, true, true, true, false, false] rfl rfl (one_of HT_.out (by kernel_rfl)) (by decide) (fun K hK => ?_)
            refine Kd.R_append_step k43 (w0 := w) w.heap.size (by rfl) (.tmp 35) (.tmp 39) 24 43 (.agg #[.bool false, .int .i64 0, .string ⟨#[]⟩]) 32 rfl Try.underlying24 info43 rfl (by decide) (by omega) (.slice Av acc.length cv) acc y [.bool y.f0, .int .i64 y.f1, .string y.f2] (fun _ => True) (fun _ => False) rfl rfl (k43_mkM _ _ _ y) (fun _ h => h.elim) (fun _ _ => trivial) hS.2.2.2.2.2 hS.2.1 hS.2.1.size (by omega) ?_
            intro v1 w6 ho6 hb6 hg6 _
            obtain ⟨A6, c6, hv1⟩ := Kd.R_slice ho6
            rw [show (acc ++ [y]).length = acc.length + 1 by simp] at hv1
            subst hv1
            have hD6 := blk_grown hS.2.2.1.1 hg6 hS.dne
            have hd6 : w6.cell? ⟨D, 1, none⟩ = some (.slice Av acc.length cv) := (blk_cell hD6 1).trans rfl
            have hf6 := blk_frozen hD6 1
            have hS6 := hS.app hg6 ho6 hb6
            refine hK.out _ _ trivial (fun hHeld => ?_)
            clear hK K
            refine norm_ (a' := ?_) ?_ ?_
            rotate_left
            · show Act.put _ (some 40) _ = _
              simp only [Act.put, List.setIfInBounds_toArray, List.set_cons_zero, List.set_cons_succ, i64_w, i32_w]
              rfl
            refine pure_ (i := 7) (N := (some 41)) (v := ?_) (a' := ?_) #[true, true, true, true, true, true, true, true, false] rfl rfl (any_of HT_.out (by kernel_rfl)) (fun _ _ _ h => h) (Or.inl ⟨by rfl, ?_⟩) ?_ ?_
            rotate_left
            · intro w'
              go_simp
              with_reducible rfl
            rotate_left
            · simp only [Act.put, List.setIfInBounds_toArray, List.set_cons_zero, List.set_cons_succ, i64_w, i32_w]
              rfl
            refine one_ (i := 8) (N := none) #[true, true, true, true, true, true, true, true, true] rfl rfl (one_of HT_.out (by kernel_rfl)) (by decide) (fun K hK => ?_)
            refine skip_ (w1 := ?_) (by rfl) rfl ?_ ?_
            rotate_left
            · go_simp
              rfl
            refine hK.out _ _ trivial (fun hHeld => ?_)
            clear hK K
            refine done_ (done_of HT_.out (by kernel_rfl)) ?_
            go_wp2_with fail
            go_roundg g1
            case measure => omega
            case rel => exact ⟨i + 1, _, acc ++ [y], r', e', odd', by omega, by omega, by go_num, by simp; omega, ⟨hS6⟩, HQ⟩
          · skip
            refine value_ (w1 := ?_) (v := ?_) (by rfl) rfl ?_ ?_
            rotate_left 2
            · go_simp
              constructor
              · rfl
              · rfl
            refine hK.out _ _ trivial (fun hHeld => ?_)
            clear hK K
            refine norm_ (a' := ?_) ?_ ?_
            rotate_left
            · show Act.put _ (some 37) _ = _
              simp only [Act.put, List.setIfInBounds_toArray, List.set_cons_zero, List.set_cons_succ, i64_w, i32_w]
              rfl
            refine two_ (i := 1) (j := 4) (Ni := (some 35)) (Nj := (some 38)) #[true, true, true, true, false, false, false, false, false] #[true, false, true, true, true, false, false, false, false] rfl rfl rfl rfl (two_of HT_.out (by kernel_rfl)) (by decide) (by decide) (fun K hK => ?_) (fun K hK => ?_)
            · skip
              have hcell := hS.d1
              refine value_ (w1 := ?_) (v := ?_) (by rfl) rfl ?_ ?_
              rotate_left 2
              · go_simp
                constructor
                · rfl
                · rfl
              refine hK.out _ _ trivial (fun hHeld => ?_)
              clear hK K
              refine norm_ (a' := ?_) ?_ ?_
              rotate_left
              · show Act.put _ (some 35) _ = _
                simp only [Act.put, List.setIfInBounds_toArray, List.set_cons_zero, List.set_cons_succ, i64_w, i32_w]
                rfl
              refine one_ (i := 4) (N := (some 38)) #[true, true, true, true, true, false, false, false, false] rfl rfl (one_of HT_.out (by kernel_rfl)) (by decide) (fun K hK => ?_)
              refine goes_ Try.func28 (by kernel_rfl) rfl #[.pointer (some ⟨g, 0, none⟩), .agg #[.int .i64 x.f0, .bool x.f1]] (by rfl) rfl rfl (by first | rfl | (simp only [List.map_toArray, List.map_cons, List.map_nil]; rfl)) ?_
              refine (value_at HV.out hS.1 hS.2.1).mono ?_
              rintro en w5 ⟨rfl, hr5, hb5, hk5⟩
              refine ⟨_, rfl, ?_⟩
              replace hS := hS.val hk5 hr5 hb5
              clear hr5 hb5 hk5 hy0 hy1
              refine hK.out _ _ trivial (fun hHeld => ?_)
              clear hK K
              refine norm_ (a' := ?_) ?_ ?_
              rotate_left
              · show Act.put _ (some 38) _ = _
                simp only [Act.put, List.setIfInBounds_toArray, List.set_cons_zero, List.set_cons_succ, i64_w, i32_w]
                rfl
              refine one_ (i := 5) (N := (some 39)) #[true, true, true, true, true, true, false, false, false] rfl rfl (one_of HT_.out (by kernel_rfl)) (by decide) (fun K hK => ?_)
              refine value_ (w1 := ?_) (v := ?_) (by rfl) rfl ?_ ?_
              rotate_left 2
              · go_simp
                constructor
                · rfl
                · rfl
              refine hK.out _ _ trivial (fun hHeld => ?_)
              clear hK K
              refine norm_ (a' := ?_) ?_ ?_
              rotate_left
              · show Act.put _ (some 39) _ = _
                simp only [Act.put, List.setIfInBounds_toArray, List.set_cons_zero, List.set_cons_succ, i64_w, i32_w]
                rfl
              refine one_ (i := 6) (N := (some 40)) #[true, true, true, true, true, true, true, false, false] rfl rfl (one_of HT_.out (by kernel_rfl)) (by decide) (fun K hK => ?_)
              refine Kd.R_append_step k43 (w0 := w) w.heap.size (by rfl) (.tmp 35) (.tmp 39) 24 43 (.agg #[.bool false, .int .i64 0, .string ⟨#[]⟩]) 32 rfl Try.underlying24 info43 rfl (by decide) (by omega) (.slice Av acc.length cv) acc y [.bool y.f0, .int .i64 y.f1, .string y.f2] (fun _ => True) (fun _ => False) rfl rfl (k43_mkM _ _ _ y) (fun _ h => h.elim) (fun _ _ => trivial) hS.2.2.2.2.2 hS.2.1 hS.2.1.size (by omega) ?_
              intro v1 w6 ho6 hb6 hg6 _
              obtain ⟨A6, c6, hv1⟩ := Kd.R_slice ho6
              rw [show (acc ++ [y]).length = acc.length + 1 by simp] at hv1
              subst hv1
              have hD6 := blk_grown hS.2.2.1.1 hg6 hS.dne
              have hd6 : w6.cell? ⟨D, 1, none⟩ = some (.slice Av acc.length cv) := (blk_cell hD6 1).trans rfl
              have hf6 := blk_frozen hD6 1
              have hS6 := hS.app hg6 ho6 hb6
              refine hK.out _ _ trivial (fun hHeld => ?_)
              clear hK K
              refine norm_ (a' := ?_) ?_ ?_
              rotate_left
              · show Act.put _ (some 40) _ = _
                simp only [Act.put, List.setIfInBounds_toArray, List.set_cons_zero, List.set_cons_succ, i64_w, i32_w]
                rfl
              refine pure_ (i := 7) (N := (some 41)) (v := ?_) (a' := ?_) #[true, true, true, true, true, true, true, true, false] rfl rfl (any_of HT_.out (by kernel_rfl)) (fun _ _ _ h => h) (Or.inl ⟨by rfl, ?_⟩) ?_ ?_
              rotate_left
              · intro w'
                go_simp
                with_reducible rfl
              rotate_left
              · simp only [Act.put, List.setIfInBounds_toArray, List.set_cons_zero, List.set_cons_succ, i64_w, i32_w]
                rfl
              refine one_ (i := 8) (N := none) #[true, true, true, true, true, true, true, true, true] rfl rfl (one_of HT_.out (by kernel_rfl)) (by decide) (fun K hK => ?_)
              refine skip_ (w1 := ?_) (by rfl) rfl ?_ ?_
              rotate_left
              · go_simp
                rfl
              refine hK.out _ _ trivial (fun hHeld => ?_)
              clear hK K
              refine done_ (done_of HT_.out (by kernel_rfl)) ?_
              go_wp2_with fail
              go_roundg g1
              case measure => omega
              case rel => exact ⟨i + 1, _, acc ++ [y], r', e', odd', by omega, by omega, by go_num, by simp; omega, ⟨hS6⟩, HQ⟩
            · skip
              refine goes_ Try.func28 (by kernel_rfl) rfl #[.pointer (some ⟨g, 0, none⟩), .agg #[.int .i64 x.f0, .bool x.f1]] (by rfl) rfl rfl (by first | rfl | (simp only [List.map_toArray, List.map_cons, List.map_nil]; rfl)) ?_
              refine (value_at HV.out hS.1 hS.2.1).mono ?_
              rintro en w5 ⟨rfl, hr5, hb5, hk5⟩
              refine ⟨_, rfl, ?_⟩
              replace hS := hS.val hk5 hr5 hb5
              clear hr5 hb5 hk5 hy0 hy1
              refine hK.out _ _ trivial (fun hHeld => ?_)
              clear hK K
              refine norm_ (a' := ?_) ?_ ?_
              rotate_left
              · show Act.put _ (some 38) _ = _
                simp only [Act.put, List.setIfInBounds_toArray, List.set_cons_zero, List.set_cons_succ, i64_w, i32_w]
                rfl
              refine two_ (i := 1) (j := 5) (Ni := (some 35)) (Nj := (some 39)) #[true, true, true, true, true, false, false, false, false] #[true, false, true, true, true, true, false, false, false] rfl rfl rfl rfl (two_of HT_.out (by kernel_rfl)) (by decide) (by decide) (fun K hK => ?_) (fun K hK => ?_)
              · skip
                have hcell := hS.d1
                refine value_ (w1 := ?_) (v := ?_) (by rfl) rfl ?_ ?_
                rotate_left 2
                · go_simp
                  constructor
                  · rfl
                  · rfl
                refine hK.out _ _ trivial (fun hHeld => ?_)
                clear hK K
                refine norm_ (a' := ?_) ?_ ?_
                rotate_left
                · show Act.put _ (some 35) _ = _
                  simp only [Act.put, List.setIfInBounds_toArray, List.set_cons_zero, List.set_cons_succ, i64_w, i32_w]
                  rfl
                refine one_ (i := 5) (N := (some 39)) #[true, true, true, true, true, true, false, false, false] rfl rfl (one_of HT_.out (by kernel_rfl)) (by decide) (fun K hK => ?_)
                refine value_ (w1 := ?_) (v := ?_) (by rfl) rfl ?_ ?_
                rotate_left 2
                · go_simp
                  constructor
                  · rfl
                  · rfl
                refine hK.out _ _ trivial (fun hHeld => ?_)
                clear hK K
                refine norm_ (a' := ?_) ?_ ?_
                rotate_left
                · show Act.put _ (some 39) _ = _
                  simp only [Act.put, List.setIfInBounds_toArray, List.set_cons_zero, List.set_cons_succ, i64_w, i32_w]
                  rfl
                refine one_ (i := 6) (N := (some 40)) #[true, true, true, true, true, true, true, false, false] rfl rfl (one_of HT_.out (by kernel_rfl)) (by decide) (fun K hK => ?_)
                refine Kd.R_append_step k43 (w0 := w) w.heap.size (by rfl) (.tmp 35) (.tmp 39) 24 43 (.agg #[.bool false, .int .i64 0, .string ⟨#[]⟩]) 32 rfl Try.underlying24 info43 rfl (by decide) (by omega) (.slice Av acc.length cv) acc y [.bool y.f0, .int .i64 y.f1, .string y.f2] (fun _ => True) (fun _ => False) rfl rfl (k43_mkM _ _ _ y) (fun _ h => h.elim) (fun _ _ => trivial) hS.2.2.2.2.2 hS.2.1 hS.2.1.size (by omega) ?_
                intro v1 w6 ho6 hb6 hg6 _
                obtain ⟨A6, c6, hv1⟩ := Kd.R_slice ho6
                rw [show (acc ++ [y]).length = acc.length + 1 by simp] at hv1
                subst hv1
                have hD6 := blk_grown hS.2.2.1.1 hg6 hS.dne
                have hd6 : w6.cell? ⟨D, 1, none⟩ = some (.slice Av acc.length cv) := (blk_cell hD6 1).trans rfl
                have hf6 := blk_frozen hD6 1
                have hS6 := hS.app hg6 ho6 hb6
                refine hK.out _ _ trivial (fun hHeld => ?_)
                clear hK K
                refine norm_ (a' := ?_) ?_ ?_
                rotate_left
                · show Act.put _ (some 40) _ = _
                  simp only [Act.put, List.setIfInBounds_toArray, List.set_cons_zero, List.set_cons_succ, i64_w, i32_w]
                  rfl
                refine pure_ (i := 7) (N := (some 41)) (v := ?_) (a' := ?_) #[true, true, true, true, true, true, true, true, false] rfl rfl (any_of HT_.out (by kernel_rfl)) (fun _ _ _ h => h) (Or.inl ⟨by rfl, ?_⟩) ?_ ?_
                rotate_left
                · intro w'
                  go_simp
                  with_reducible rfl
                rotate_left
                · simp only [Act.put, List.setIfInBounds_toArray, List.set_cons_zero, List.set_cons_succ, i64_w, i32_w]
                  rfl
                refine one_ (i := 8) (N := none) #[true, true, true, true, true, true, true, true, true] rfl rfl (one_of HT_.out (by kernel_rfl)) (by decide) (fun K hK => ?_)
                refine skip_ (w1 := ?_) (by rfl) rfl ?_ ?_
                rotate_left
                · go_simp
                  rfl
                refine hK.out _ _ trivial (fun hHeld => ?_)
                clear hK K
                refine done_ (done_of HT_.out (by kernel_rfl)) ?_
                go_wp2_with fail
                go_roundg g1
                case measure => omega
                case rel => exact ⟨i + 1, _, acc ++ [y], r', e', odd', by omega, by omega, by go_num, by simp; omega, ⟨hS6⟩, HQ⟩
              · skip
                refine value_ (w1 := ?_) (v := ?_) (by rfl) rfl ?_ ?_
                rotate_left 2
                · go_simp
                  constructor
                  · rfl
                  · rfl
                refine hK.out _ _ trivial (fun hHeld => ?_)
                clear hK K
                refine norm_ (a' := ?_) ?_ ?_
                rotate_left
                · show Act.put _ (some 39) _ = _
                  simp only [Act.put, List.setIfInBounds_toArray, List.set_cons_zero, List.set_cons_succ, i64_w, i32_w]
                  rfl
                refine one_ (i := 1) (N := (some 35)) #[true, true, true, true, true, true, false, false, false] rfl rfl (one_of HT_.out (by kernel_rfl)) (by decide) (fun K hK => ?_)
                have hcell := (hS.below (below_alloc (Below.refl _ _) (.cells #[.bool y.f0, .int .i64 y.f1, .string y.f2] 43))).d1
                refine value_ (w1 := ?_) (v := ?_) (by rfl) rfl ?_ ?_
                rotate_left 2
                · go_simp
                  constructor
                  · rfl
                  · rfl
                refine hK.out _ _ trivial (fun hHeld => ?_)
                clear hK K
                refine norm_ (a' := ?_) ?_ ?_
                rotate_left
                · show Act.put _ (some 35) _ = _
                  simp only [Act.put, List.setIfInBounds_toArray, List.set_cons_zero, List.set_cons_succ, i64_w, i32_w]
                  rfl
                refine one_ (i := 6) (N := (some 40)) #[true, true, true, true, true, true, true, false, false] rfl rfl (one_of HT_.out (by kernel_rfl)) (by decide) (fun K hK => ?_)
                refine Kd.R_append_step k43 (w0 := w) w.heap.size (by rfl) (.tmp 35) (.tmp 39) 24 43 (.agg #[.bool false, .int .i64 0, .string ⟨#[]⟩]) 32 rfl Try.underlying24 info43 rfl (by decide) (by omega) (.slice Av acc.length cv) acc y [.bool y.f0, .int .i64 y.f1, .string y.f2] (fun _ => True) (fun _ => False) rfl rfl (k43_mkM _ _ _ y) (fun _ h => h.elim) (fun _ _ => trivial) hS.2.2.2.2.2 hS.2.1 hS.2.1.size (by omega) ?_
                intro v1 w6 ho6 hb6 hg6 _
                obtain ⟨A6, c6, hv1⟩ := Kd.R_slice ho6
                rw [show (acc ++ [y]).length = acc.length + 1 by simp] at hv1
                subst hv1
                have hD6 := blk_grown hS.2.2.1.1 hg6 hS.dne
                have hd6 : w6.cell? ⟨D, 1, none⟩ = some (.slice Av acc.length cv) := (blk_cell hD6 1).trans rfl
                have hf6 := blk_frozen hD6 1
                have hS6 := hS.app hg6 ho6 hb6
                refine hK.out _ _ trivial (fun hHeld => ?_)
                clear hK K
                refine norm_ (a' := ?_) ?_ ?_
                rotate_left
                · show Act.put _ (some 40) _ = _
                  simp only [Act.put, List.setIfInBounds_toArray, List.set_cons_zero, List.set_cons_succ, i64_w, i32_w]
                  rfl
                refine pure_ (i := 7) (N := (some 41)) (v := ?_) (a' := ?_) #[true, true, true, true, true, true, true, true, false] rfl rfl (any_of HT_.out (by kernel_rfl)) (fun _ _ _ h => h) (Or.inl ⟨by rfl, ?_⟩) ?_ ?_
                rotate_left
                · intro w'
                  go_simp
                  with_reducible rfl
                rotate_left
                · simp only [Act.put, List.setIfInBounds_toArray, List.set_cons_zero, List.set_cons_succ, i64_w, i32_w]
                  rfl
                refine one_ (i := 8) (N := none) #[true, true, true, true, true, true, true, true, true] rfl rfl (one_of HT_.out (by kernel_rfl)) (by decide) (fun K hK => ?_)
                refine skip_ (w1 := ?_) (by rfl) rfl ?_ ?_
                rotate_left
                · go_simp
                  rfl
                refine hK.out _ _ trivial (fun hHeld => ?_)
                clear hK K
                refine done_ (done_of HT_.out (by kernel_rfl)) ?_
                go_wp2_with fail
                go_roundg g1
                case measure => omega
                case rel => exact ⟨i + 1, _, acc ++ [y], r', e', odd', by omega, by omega, by go_num, by simp; omega, ⟨hS6⟩, HQ⟩
      · have k1 : decide ((i : Int) < (l.length : Int)) = false := decide_eq_false (by omega)
        have k2 : decide (i < l.length) = false := decide_eq_false hlt
        have hq := HQ.out
        rw [row_end (by omega)] at hq
        have HQ : Aside0 (endL false (acc, r, e, odd) = (r1, r2, r3)) := ⟨hq⟩
        clear hq hlt hi
        cases odd
        · obtain ⟨dn, hdn⟩ : ∃ dn, aDone r e = dn := ⟨_, rfl⟩
          have HDN := Aside0.mk hdn; clear hdn
          have q0 := HS.out.1.c0
          have q1 := HS.out.1.c1
          have q2 := HS.out.d0
          have q3 := HS.out.d1
          have q4 := HS.out.r0
          have q5 := HS.out.r1
          have q6 := blk_frozen HS.out.2.2.2.1.1 0
          have q7 := blk_frozen HS.out.2.2.2.1.1 1
          go_wp2_with fail
          refine (done_any HS.out.1.2.2 HS.out.2.1).mono ?_; rintro e1 w7 ⟨rfl, hc7, hb7, hk7⟩
          rw [HDN.out]
          have HS7 := Aside0.mk (HS.out.val (Kept.gc (g := g) hk7) (HS.out.1.on hk7 hc7) hb7)
          clear hc7 hb7 hk7
          clear q0 q1 q2 q3 q4 q5 q6 q7
          by_cases hz : dn = 0
          · subst hz
            obtain ⟨rfl, rfl, rfl⟩ := end_ok HQ.out HDN.out
            have q0 := HS7.out.1.c0
            have q1 := HS7.out.1.c1
            have q2 := HS7.out.d0
            have q3 := HS7.out.d1
            have q4 := HS7.out.r0
            have q5 := HS7.out.r1
            have q6 := blk_frozen HS7.out.2.2.2.1.1 0
            have q7 := blk_frozen HS7.out.2.2.2.1.1 1
            go_wp2
            refine bodyPost_ret (v := .tuple #[.agg #[.bool false, .slice Av acc.length cv], .int .i64 0]) ?_ rfl ⟨_, rfl, HS7.out.good _ _, HS7.out.bad _ _⟩
            simp [results, Try.results12, go_sem, *]
          · obtain ⟨rfl, rfl, rfl⟩ := end_bad HQ.out HDN.out hz
            have hz1 : (dn != 0) = true := bne_iff_ne.mpr hz
            have hz2 : (dn == 0) = false := beq_eq_false_iff_ne.mpr hz
            have HZ := Aside0.mk hz; clear hz
            have q0 := HS7.out.1.c0
            have q1 := HS7.out.1.c1
            have q2 := HS7.out.d0
            have q3 := HS7.out.d1
            have q4 := HS7.out.r0
            have q5 := HS7.out.r1
            have q6 := blk_frozen HS7.out.2.2.2.1.1 0
            have q7 := blk_frozen HS7.out.2.2.2.1.1 1
            go_wp2_with fail
            refine (done_any HS7.out.1.2.2 HS7.out.2.1).mono ?_; rintro e1 w8 ⟨rfl, hc8, hb8, hk8⟩
            rw [HDN.out]
            have HS8 := Aside0.mk (HS7.out.val (Kept.gc (g := g) hk8) (HS7.out.1.on hk8 hc8) hb8)
            clear hc8 hb8 hk8
            clear q0 q1 q2 q3 q4 q5 q6 q7
            have q0 := HS8.out.1.c0
            have q1 := HS8.out.1.c1
            have q2 := HS8.out.d0
            have q3 := HS8.out.d1
            have q4 := HS8.out.r0
            have q5 := HS8.out.r1
            have q6 := blk_frozen HS8.out.2.2.2.1.1 0
            have q7 := blk_frozen HS8.out.2.2.2.1.1 1
            go_wp2
            refine bodyPost_ret (v := .tuple #[.agg #[.bool false, .slice none 0 0], .int .i64 dn]) ?_ rfl ⟨_, rfl, Kd.R_nil _ _ _ _ _, HS8.out.bad _ _⟩
            simp [results, Try.results12, go_sem, *]
        · obtain ⟨rfl, rfl, rfl⟩ := end_odd HQ.out
          have q0 := HS.out.1.c0
          have q1 := HS.out.1.c1
          have q2 := HS.out.d0
          have q3 := HS.out.d1
          have q4 := HS.out.r0
          have q5 := HS.out.r1
          have q6 := blk_frozen HS.out.2.2.2.1.1 0
          have q7 := blk_frozen HS.out.2.2.2.1.1 1
          go_wp2
          refine bodyPost_ret (v := .tuple #[.agg #[.bool false, .slice none 0 0], .int .i64 4]) ?_ rfl ⟨_, rfl, Kd.R_nil _ _ _ _ _, HS.out.bad _ _⟩
          simp [results, Try.results12, go_sem, *]
  · replace HS := HS true
    rw [if_pos rfl] at HQ
    have p1 : (1 ≤ c0) = True := eq_true (by omega)
    have p2 : ((1 : Int) ≤ (c0 : Int)) = True := eq_true (by omega)
    clear hc0
    go_wp2_with fail
    generalize w4.heap.size = D at *
    go_loopg [27] 1 (fun gk u wx => ∃ (i : Nat) (v : Value) (acc : List S43) (r : List Int) (e : Int) (odd : Bool), i ≤ 1 ∧ gk = 1 - i ∧ u = .int .i64 (i : Int) ∧ acc.length ≤ i ∧ Aside0 (RowS w wx g c w.heap.size D true v acc r e odd) ∧ Aside0 (endL true (rowsL ((l.take 1).drop i) r e odd acc) = (r1, r2, r3)))
    case atStart => exact ⟨0, .slice none 0 0, [], r0, e0, odd0, by omega, by omega, rfl, by simp, HS, ⟨by rw [List.drop_zero]; exact HQ.out⟩⟩
    case round =>
      clear HS HQ
      obtain ⟨i, v, acc, r, e, odd, hi, rfl, rfl, hal, HS, HQ⟩ := hrel
      obtain ⟨Av, cv, rfl⟩ := Kd.R_slice HS.out.2.2.2.2.2
      by_cases hlt : i < 1
      · obtain ⟨g1, hg1⟩ : ∃ g1, 1 - i = g1 + 1 := ⟨1 - i - 1, by omega⟩
        have k1 : decide ((i : Int) < (1 : Int)) = true := decide_eq_true (by omega)
        have k2 : decide (i < 1) = true := decide_eq_true hlt
        obtain ⟨ad', hA, hx0, hx1⟩ := at_T39 (Kd.C_below HR.out HS.out.2.1) (i : Int) (by omega) (by have := HLN.out; omega)
        rw [Int.toNat_natCast] at hx0 hx1
        cases hA
        have i1 : (0 : Int) ≤ (i : Int) := by omega
        have i2 : (i : Int) < (1 : Int) := by omega
        replace i1 := eq_true i1; replace i2 := eq_true i2
        obtain ⟨x, hx⟩ : ∃ x, rd_T39 l (i : Int) = x := ⟨_, rfl⟩
        have hq := HQ.out
        rw [row_step (by have := HLN.out; omega) hlt hx] at hq
        rw [hx] at hx0 hx1
        have HX := Aside0.mk hx; clear hx
        clear HQ
        obtain ⟨f, hf⟩ : ∃ f, (!odd && (e == 0)) = f := ⟨_, rfl⟩
        have HF := Aside0.mk hf
        have hcp := below_alloc (Below.refl wr.heap.size wr) (.cells #[.int .i64 x.f0, .bool x.f1] 39)
        cases f
        · rw [rows_no hf] at hq
          have HQ := Aside0.mk hq; clear hq hf
          have HCP := Aside0.mk hcp; clear hcp
          go_wp2_with fail
          refine (fine_any HF.out (HS.out.below HCP.out).1).mono ?_; rintro e1 w2 ⟨rfl, rfl⟩
          have HS := Aside0.mk (HS.out.below HCP.out)
          clear HCP
          generalize World.alloc wr _ = w2 at HS ⊢
          clear hx0 hx1
          cases odd
          · obtain ⟨dn, hdn⟩ : ∃ dn, aDone r e = dn := ⟨_, rfl⟩
            have HDN := Aside0.mk hdn; clear hdn
            have q0 := HS.out.1.c0
            have q1 := HS.out.1.c1
            have q2 := HS.out.d0
            have q3 := HS.out.d1
            have q4 := HS.out.r0
            have q5 := HS.out.r1
            have q6 := blk_frozen HS.out.2.2.2.1.1 0
            have q7 := blk_frozen HS.out.2.2.2.1.1 1
            go_wp2_with fail
            refine (done_any HS.out.1.2.2 HS.out.2.1).mono ?_; rintro e1 w7 ⟨rfl, hc7, hb7, hk7⟩
            rw [HDN.out]
            have HS7 := Aside0.mk (HS.out.val (Kept.gc (g := g) hk7) (HS.out.1.on hk7 hc7) hb7)
            clear hc7 hb7 hk7
            clear q0 q1 q2 q3 q4 q5 q6 q7
            by_cases hz : dn = 0
            · subst hz
              obtain ⟨rfl, rfl, rfl⟩ := end_ok HQ.out HDN.out
              have q0 := HS7.out.1.c0
              have q1 := HS7.out.1.c1
              have q2 := HS7.out.d0
              have q3 := HS7.out.d1
              have q4 := HS7.out.r0
              have q5 := HS7.out.r1
              have q6 := blk_frozen HS7.out.2.2.2.1.1 0
              have q7 := blk_frozen HS7.out.2.2.2.1.1 1
              go_wp2
              refine bodyPost_ret (v := .tuple #[.agg #[.bool true, .slice Av acc.length cv], .int .i64 0]) ?_ rfl ⟨_, rfl, HS7.out.good _ _, HS7.out.bad _ _⟩
              simp [results, Try.results12, go_sem, *]
            · obtain ⟨rfl, rfl, rfl⟩ := end_bad HQ.out HDN.out hz
              have hz1 : (dn != 0) = true := bne_iff_ne.mpr hz
              have hz2 : (dn == 0) = false := beq_eq_false_iff_ne.mpr hz
              have HZ := Aside0.mk hz; clear hz
              have q0 := HS7.out.1.c0
              have q1 := HS7.out.1.c1
              have q2 := HS7.out.d0
              have q3 := HS7.out.d1
              have q4 := HS7.out.r0
              have q5 := HS7.out.r1
              have q6 := blk_frozen HS7.out.2.2.2.1.1 0
              have q7 := blk_frozen HS7.out.2.2.2.1.1 1
              go_wp2_with fail
              refine (done_any HS7.out.1.2.2 HS7.out.2.1).mono ?_; rintro e1 w8 ⟨rfl, hc8, hb8, hk8⟩
              rw [HDN.out]
              have HS8 := Aside0.mk (HS7.out.val (Kept.gc (g := g) hk8) (HS7.out.1.on hk8 hc8) hb8)
              clear hc8 hb8 hk8
              clear q0 q1 q2 q3 q4 q5 q6 q7
              have q0 := HS8.out.1.c0
              have q1 := HS8.out.1.c1
              have q2 := HS8.out.d0
              have q3 := HS8.out.d1
              have q4 := HS8.out.r0
              have q5 := HS8.out.r1
              have q6 := blk_frozen HS8.out.2.2.2.1.1 0
              have q7 := blk_frozen HS8.out.2.2.2.1.1 1
              go_wp2
              refine bodyPost_ret (v := .tuple #[.agg #[.bool false, .slice none 0 0], .int .i64 dn]) ?_ rfl ⟨_, rfl, Kd.R_nil _ _ _ _ _, HS8.out.bad _ _⟩
              simp [results, Try.results12, go_sem, *]
          · obtain ⟨rfl, rfl, rfl⟩ := end_odd HQ.out
            have q0 := HS.out.1.c0
            have q1 := HS.out.1.c1
            have q2 := HS.out.d0
            have q3 := HS.out.d1
            have q4 := HS.out.r0
            have q5 := HS.out.r1
            have q6 := blk_frozen HS.out.2.2.2.1.1 0
            have q7 := blk_frozen HS.out.2.2.2.1.1 1
            go_wp2
            refine bodyPost_ret (v := .tuple #[.agg #[.bool false, .slice none 0 0], .int .i64 4]) ?_ rfl ⟨_, rfl, Kd.R_nil _ _ _ _ _, HS.out.bad _ _⟩
            simp [results, Try.results12, go_sem, *]
        · obtain ⟨⟨y, r', e', odd'⟩, hv⟩ : ∃ z, valL x.f0 x.f1 r e odd = z := ⟨_, rfl⟩
          rw [rows_on hf hv] at hq
          have HV := Aside0.mk hv; have HQ := Aside0.mk hq; clear hq hv hf
          have HCP := Aside0.mk hcp; clear hcp
          go_wp2_with fail
          refine (fine_any HF.out (HS.out.below HCP.out).1).mono ?_; rintro e1 w2 ⟨rfl, rfl⟩
          have hS := HS.out.below HCP.out
          have hy := heap_alloc_new wr (.cells #[.int .i64 x.f0, .bool x.f1] 39)
          clear HCP hx0 hx1 HS
          obtain ⟨n, hn⟩ : ∃ n, wr.heap.size = n := ⟨_, rfl⟩
          rw [hn] at hy ⊢
          generalize World.alloc wr _ = w2 at hS hy ⊢
          have hy0 : w2.cell? ⟨n, 0, none⟩ = some (.int .i64 x.f0) := (blk_cell hy 0).trans rfl
          have hy1 : w2.cell? ⟨n, 1, none⟩ = some (.bool x.f1) := (blk_cell hy 1).trans rfl
          clear hy hn
          go_wp2_with fail
          refine start_ (n := 9) (S := fun w' => True) (ds := []) #[false, false, false, false, false, false, false, false, false] (by kernel_rfl) rfl rfl trivial (fun hHeld => ?_)
          refine with_tab DeedsRead.tab11 (fun HT_ => ?_)
          have hS := hS.drew
          have hy0 : World.cell? (World.drew _) _ = _ := hy0
          have hy1 : World.cell? (World.drew _) _ = _ := hy1
          generalize World.drew _ = w4 at hS hy0 hy1 hHeld ⊢
          refine pure_ (i := 0) (N := (some 34)) (v := ?_) (a' := ?_) #[true, false, false, false, false, false, false, false, false] rfl rfl (any_of HT_.out (by kernel_rfl)) (fun _ _ _ h => h) (Or.inl ⟨by rfl, ?_⟩) ?_ ?_
          rotate_left
          · intro w'
            go_simp
            with_reducible rfl
          rotate_left
          · simp only [Act.put, List.setIfInBounds_toArray, List.set_cons_zero, List.set_cons_succ, i64_w, i32_w]
            rfl
          refine pure_ (i := 2) (N := (some 36)) (v := ?_) (a' := ?_) #[true, false, true, false, false, false, false, false, false] rfl rfl (any_of HT_.out (by kernel_rfl)) (fun _ _ _ h => h) (Or.inl ⟨by rfl, ?_⟩) ?_ ?_
          rotate_left
          · intro w'
            go_simp
            with_reducible rfl
          rotate_left
          · simp only [Act.put, List.setIfInBounds_toArray, List.set_cons_zero, List.set_cons_succ, i64_w, i32_w]
            rfl
          refine two_ (i := 1) (j := 3) (Ni := (some 35)) (Nj := (some 37)) #[true, true, true, false, false, false, false, false, false] #[true, false, true, true, false, false, false, false, false] rfl rfl rfl rfl (two_of HT_.out (by kernel_rfl)) (by decide) (by decide) (fun K hK => ?_) (fun K hK => ?_)
          · skip
            have hcell := hS.d1
            refine value_ (w1 := ?_) (v := ?_) (by rfl) rfl ?_ ?_
            rotate_left 2
            · go_simp
              constructor
              · rfl
              · rfl
            refine hK.out _ _ trivial (fun hHeld => ?_)
            clear hK K
            refine norm_ (a' := ?_) ?_ ?_
            rotate_left
            · show Act.put _ (some 35) _ = _
              simp only [Act.put, List.setIfInBounds_toArray, List.set_cons_zero, List.set_cons_succ, i64_w, i32_w]
              rfl
            refine one_ (i := 3) (N := (some 37)) #[true, true, true, true, false, false, false, false, false] rfl rfl (one_of HT_.out (by kernel_rfl)) (by decide) (fun K hK => ?_)
            refine value_ (w1 := ?_) (v := ?_) (by rfl) rfl ?_ ?_
            rotate_left 2
            · go_simp
              constructor
              · rfl
              · rfl
            refine hK.out _ _ trivial (fun hHeld => ?_)
            clear hK K
            refine norm_ (a' := ?_) ?_ ?_
            rotate_left
            · show Act.put _ (some 37) _ = _
              simp only [Act.put, List.setIfInBounds_toArray, List.set_cons_zero, List.set_cons_succ, i64_w, i32_w]
              rfl
            refine one_ (i := 4) (N := (some 38)) #[true, true, true, true, true, false, false, false, false] rfl rfl (one_of HT_.out (by kernel_rfl)) (by decide) (fun K hK => ?_)
            refine goes_ Try.func28 (by kernel_rfl) rfl #[.pointer (some ⟨g, 0, none⟩), .agg #[.int .i64 x.f0, .bool x.f1]] (by rfl) rfl rfl (by first | rfl | (simp only [List.map_toArray, List.map_cons, List.map_nil]; rfl)) ?_
            refine (value_at HV.out hS.1 hS.2.1).mono ?_
            rintro en w5 ⟨rfl, hr5, hb5, hk5⟩
            refine ⟨_, rfl, ?_⟩
            replace hS := hS.val hk5 hr5 hb5
            clear hr5 hb5 hk5 hy0 hy1
            refine hK.out _ _ trivial (fun hHeld => ?_)
            clear hK K
            refine norm_ (a' := ?_) ?_ ?_
            rotate_left
            · show Act.put _ (some 38) _ = _
              simp only [Act.put, List.setIfInBounds_toArray, List.set_cons_zero, List.set_cons_succ, i64_w, i32_w]
              rfl
            refine one_ (i := 5) (N := (some 39)) #[true, true, true, true, true, true, false, false, false] rfl rfl (one_of HT_.out (by kernel_rfl)) (by decide) (fun K hK => ?_)
            refine value_ (w1 := ?_) (v := ?_) (by rfl) rfl ?_ ?_
            rotate_left 2
            · go_simp
              constructor
              · rfl
              · rfl
            refine hK.out _ _ trivial (fun hHeld => ?_)
            clear hK K
            refine norm_ (a' := ?_) ?_ ?_
            rotate_left
            · show Act.put _ (some 39) _ = _
              simp only [Act.put, List.setIfInBounds_toArray, List.set_cons_zero, List.set_cons_succ, i64_w, i32_w]
              rfl
            refine one_ (i := 6) (N := (some 40)) #[true, true, true, true, true, true, true, false, false] rfl rfl (one_of HT_.out (by kernel_rfl)) (by decide) (fun K hK => ?_)
            refine Kd.R_append_step k43 (w0 := w) w.heap.size (by rfl) (.tmp 35) (.tmp 39) 24 43 (.agg #[.bool false, .int .i64 0, .string ⟨#[]⟩]) 32 rfl Try.underlying24 info43 rfl (by decide) (by omega) (.slice Av acc.length cv) acc y [.bool y.f0, .int .i64 y.f1, .string y.f2] (fun _ => True) (fun _ => False) rfl rfl (k43_mkM _ _ _ y) (fun _ h => h.elim) (fun _ _ => trivial) hS.2.2.2.2.2 hS.2.1 hS.2.1.size (by omega) ?_
            intro v1 w6 ho6 hb6 hg6 _
            obtain ⟨A6, c6, hv1⟩ := Kd.R_slice ho6
            rw [show (acc ++ [y]).length = acc.length + 1 by simp] at hv1
            subst hv1
            have hD6 := blk_grown hS.2.2.1.1 hg6 hS.dne
            have hd6 : w6.cell? ⟨D, 1, none⟩ = some (.slice Av acc.length cv) := (blk_cell hD6 1).trans rfl
            have hf6 := blk_frozen hD6 1
            have hS6 := hS.app hg6 ho6 hb6
            refine hK.out _ _ trivial (fun hHeld => ?_)
            clear hK K
            refine norm_ (a' := ?_) ?_ ?_
            rotate_left
            · show Act.put _ (some 40) _ = _
              simp only [Act.put, List.setIfInBounds_toArray, List.set_cons_zero, List.set_cons_succ, i64_w, i32_w]
              rfl
            refine pure_ (i := 7) (N := (some 41)) (v := ?_) (a' := ?_) #[true, true, true, true, true, true, true, true, false] rfl rfl (any_of HT_.out (by kernel_rfl)) (fun _ _ _ h => h) (Or.inl ⟨by rfl, ?_⟩) ?_ ?_
            rotate_left
            · intro w'
              go_simp
              with_reducible rfl
            rotate_left
            · simp only [Act.put, List.setIfInBounds_toArray, List.set_cons_zero, List.set_cons_succ, i64_w, i32_w]
              rfl
            refine one_ (i := 8) (N := none) #[true, true, true, true, true, true, true, true, true] rfl rfl (one_of HT_.out (by kernel_rfl)) (by decide) (fun K hK => ?_)
            refine skip_ (w1 := ?_) (by rfl) rfl ?_ ?_
            rotate_left
            · go_simp
              rfl
            refine hK.out _ _ trivial (fun hHeld => ?_)
            clear hK K
            refine done_ (done_of HT_.out (by kernel_rfl)) ?_
            go_wp2_with fail
            go_roundg g1
            case measure => omega
            case rel => exact ⟨i + 1, _, acc ++ [y], r', e', odd', by omega, by omega, by go_num, by simp; omega, ⟨hS6⟩, HQ⟩
          · skip
            refine value_ (w1 := ?_) (v := ?_) (by rfl) rfl ?_ ?_
            rotate_left 2
            · go_simp
              constructor
              · rfl
              · rfl
            refine hK.out _ _ trivial (fun hHeld => ?_)
            clear hK K
            refine norm_ (a' := ?_) ?_ ?_
            rotate_left
            · show Act.put _ (some 37) _ = _
              simp only [Act.put, List.setIfInBounds_toArray, List.set_cons_zero, List.set_cons_succ, i64_w, i32_w]
              rfl
            refine two_ (i := 1) (j := 4) (Ni := (some 35)) (Nj := (some 38)) #[true, true, true, true, false, false, false, false, false] #[true, false, true, true, true, false, false, false, false] rfl rfl rfl rfl (two_of HT_.out (by kernel_rfl)) (by decide) (by decide) (fun K hK => ?_) (fun K hK => ?_)
            · skip
              have hcell := hS.d1
              refine value_ (w1 := ?_) (v := ?_) (by rfl) rfl ?_ ?_
              rotate_left 2
              · go_simp
                constructor
                · rfl
                · rfl
              refine hK.out _ _ trivial (fun hHeld => ?_)
              clear hK K
              refine norm_ (a' := ?_) ?_ ?_
              rotate_left
              · show Act.put _ (some 35) _ = _
                simp only [Act.put, List.setIfInBounds_toArray, List.set_cons_zero, List.set_cons_succ, i64_w, i32_w]
                rfl
              refine one_ (i := 4) (N := (some 38)) #[true, true, true, true, true, false, false, false, false] rfl rfl (one_of HT_.out (by kernel_rfl)) (by decide) (fun K hK => ?_)
              refine goes_ Try.func28 (by kernel_rfl) rfl #[.pointer (some ⟨g, 0, none⟩), .agg #[.int .i64 x.f0, .bool x.f1]] (by rfl) rfl rfl (by first | rfl | (simp only [List.map_toArray, List.map_cons, List.map_nil]; rfl)) ?_
              refine (value_at HV.out hS.1 hS.2.1).mono ?_
              rintro en w5 ⟨rfl, hr5, hb5, hk5⟩
              refine ⟨_, rfl, ?_⟩
              replace hS := hS.val hk5 hr5 hb5
              clear hr5 hb5 hk5 hy0 hy1
              refine hK.out _ _ trivial (fun hHeld => ?_)
              clear hK K
              refine norm_ (a' := ?_) ?_ ?_
              rotate_left
              · show Act.put _ (some 38) _ = _
                simp only [Act.put, List.setIfInBounds_toArray, List.set_cons_zero, List.set_cons_succ, i64_w, i32_w]
                rfl
              refine one_ (i := 5) (N := (some 39)) #[true, true, true, true, true, true, false, false, false] rfl rfl (one_of HT_.out (by kernel_rfl)) (by decide) (fun K hK => ?_)
              refine value_ (w1 := ?_) (v := ?_) (by rfl) rfl ?_ ?_
              rotate_left 2
              · go_simp
                constructor
                · rfl
                · rfl
              refine hK.out _ _ trivial (fun hHeld => ?_)
              clear hK K
              refine norm_ (a' := ?_) ?_ ?_
              rotate_left
              · show Act.put _ (some 39) _ = _
                simp only [Act.put, List.setIfInBounds_toArray, List.set_cons_zero, List.set_cons_succ, i64_w, i32_w]
                rfl
              refine one_ (i := 6) (N := (some 40)) #[true, true, true, true, true, true, true, false, false] rfl rfl (one_of HT_.out (by kernel_rfl)) (by decide) (fun K hK => ?_)
              refine Kd.R_append_step k43 (w0 := w) w.heap.size (by rfl) (.tmp 35) (.tmp 39) 24 43 (.agg #[.bool false, .int .i64 0, .string ⟨#[]⟩]) 32 rfl Try.underlying24 info43 rfl (by decide) (by omega) (.slice Av acc.length cv) acc y [.bool y.f0, .int .i64 y.f1, .string y.f2] (fun _ => True) (fun _ => False) rfl rfl (k43_mkM _ _ _ y) (fun _ h => h.elim) (fun _ _ => trivial) hS.2.2.2.2.2 hS.2.1 hS.2.1.size (by omega) ?_
              intro v1 w6 ho6 hb6 hg6 _
              obtain ⟨A6, c6, hv1⟩ := Kd.R_slice ho6
              rw [show (acc ++ [y]).length = acc.length + 1 by simp] at hv1
              subst hv1
              have hD6 := blk_grown hS.2.2.1.1 hg6 hS.dne
              have hd6 : w6.cell? ⟨D, 1, none⟩ = some (.slice Av acc.length cv) := (blk_cell hD6 1).trans rfl
              have hf6 := blk_frozen hD6 1
              have hS6 := hS.app hg6 ho6 hb6
              refine hK.out _ _ trivial (fun hHeld => ?_)
              clear hK K
              refine norm_ (a' := ?_) ?_ ?_
              rotate_left
              · show Act.put _ (some 40) _ = _
                simp only [Act.put, List.setIfInBounds_toArray, List.set_cons_zero, List.set_cons_succ, i64_w, i32_w]
                rfl
              refine pure_ (i := 7) (N := (some 41)) (v := ?_) (a' := ?_) #[true, true, true, true, true, true, true, true, false] rfl rfl (any_of HT_.out (by kernel_rfl)) (fun _ _ _ h => h) (Or.inl ⟨by rfl, ?_⟩) ?_ ?_
              rotate_left
              · intro w'
                go_simp
                with_reducible rfl
              rotate_left
              · simp only [Act.put, List.setIfInBounds_toArray, List.set_cons_zero, List.set_cons_succ, i64_w, i32_w]
                rfl
              refine one_ (i := 8) (N := none) #[true, true, true, true, true, true, true, true, true] rfl rfl (one_of HT_.out (by kernel_rfl)) (by decide) (fun K hK => ?_)
              refine skip_ (w1 := ?_) (by rfl) rfl ?_ ?_
              rotate_left
              · go_simp
                rfl
              refine hK.out _ _ trivial (fun hHeld => ?_)
              clear hK K
              refine done_ (done_of HT_.out (by kernel_rfl)) ?_
              go_wp2_with fail
              go_roundg g1
              case measure => omega
              case rel => exact ⟨i + 1, _, acc ++ [y], r', e', odd', by omega, by omega, by go_num, by simp; omega, ⟨hS6⟩, HQ⟩
            · skip
              refine goes_ Try.func28 (by kernel_rfl) rfl #[.pointer (some ⟨g, 0, none⟩), .agg #[.int .i64 x.f0, .bool x.f1]] (by rfl) rfl rfl (by first | rfl | (simp only [List.map_toArray, List.map_cons, List.map_nil]; rfl)) ?_
              refine (value_at HV.out hS.1 hS.2.1).mono ?_
              rintro en w5 ⟨rfl, hr5, hb5, hk5⟩
              refine ⟨_, rfl, ?_⟩
              replace hS := hS.val hk5 hr5 hb5
              clear hr5 hb5 hk5 hy0 hy1
              refine hK.out _ _ trivial (fun hHeld => ?_)
              clear hK K
              refine norm_ (a' := ?_) ?_ ?_
              rotate_left
              · show Act.put _ (some 38) _ = _
                simp only [Act.put, List.setIfInBounds_toArray, List.set_cons_zero, List.set_cons_succ, i64_w, i32_w]
                rfl
              refine two_ (i := 1) (j := 5) (Ni := (some 35)) (Nj := (some 39)) #[true, true, true, true, true, false, false, false, false] #[true, false, true, true, true, true, false, false, false] rfl rfl rfl rfl (two_of HT_.out (by kernel_rfl)) (by decide) (by decide) (fun K hK => ?_) (fun K hK => ?_)
              · skip
                have hcell := hS.d1
                refine value_ (w1 := ?_) (v := ?_) (by rfl) rfl ?_ ?_
                rotate_left 2
                · go_simp
                  constructor
                  · rfl
                  · rfl
                refine hK.out _ _ trivial (fun hHeld => ?_)
                clear hK K
                refine norm_ (a' := ?_) ?_ ?_
                rotate_left
                · show Act.put _ (some 35) _ = _
                  simp only [Act.put, List.setIfInBounds_toArray, List.set_cons_zero, List.set_cons_succ, i64_w, i32_w]
                  rfl
                refine one_ (i := 5) (N := (some 39)) #[true, true, true, true, true, true, false, false, false] rfl rfl (one_of HT_.out (by kernel_rfl)) (by decide) (fun K hK => ?_)
                refine value_ (w1 := ?_) (v := ?_) (by rfl) rfl ?_ ?_
                rotate_left 2
                · go_simp
                  constructor
                  · rfl
                  · rfl
                refine hK.out _ _ trivial (fun hHeld => ?_)
                clear hK K
                refine norm_ (a' := ?_) ?_ ?_
                rotate_left
                · show Act.put _ (some 39) _ = _
                  simp only [Act.put, List.setIfInBounds_toArray, List.set_cons_zero, List.set_cons_succ, i64_w, i32_w]
                  rfl
                refine one_ (i := 6) (N := (some 40)) #[true, true, true, true, true, true, true, false, false] rfl rfl (one_of HT_.out (by kernel_rfl)) (by decide) (fun K hK => ?_)
                refine Kd.R_append_step k43 (w0 := w) w.heap.size (by rfl) (.tmp 35) (.tmp 39) 24 43 (.agg #[.bool false, .int .i64 0, .string ⟨#[]⟩]) 32 rfl Try.underlying24 info43 rfl (by decide) (by omega) (.slice Av acc.length cv) acc y [.bool y.f0, .int .i64 y.f1, .string y.f2] (fun _ => True) (fun _ => False) rfl rfl (k43_mkM _ _ _ y) (fun _ h => h.elim) (fun _ _ => trivial) hS.2.2.2.2.2 hS.2.1 hS.2.1.size (by omega) ?_
                intro v1 w6 ho6 hb6 hg6 _
                obtain ⟨A6, c6, hv1⟩ := Kd.R_slice ho6
                rw [show (acc ++ [y]).length = acc.length + 1 by simp] at hv1
                subst hv1
                have hD6 := blk_grown hS.2.2.1.1 hg6 hS.dne
                have hd6 : w6.cell? ⟨D, 1, none⟩ = some (.slice Av acc.length cv) := (blk_cell hD6 1).trans rfl
                have hf6 := blk_frozen hD6 1
                have hS6 := hS.app hg6 ho6 hb6
                refine hK.out _ _ trivial (fun hHeld => ?_)
                clear hK K
                refine norm_ (a' := ?_) ?_ ?_
                rotate_left
                · show Act.put _ (some 40) _ = _
                  simp only [Act.put, List.setIfInBounds_toArray, List.set_cons_zero, List.set_cons_succ, i64_w, i32_w]
                  rfl
                refine pure_ (i := 7) (N := (some 41)) (v := ?_) (a' := ?_) #[true, true, true, true, true, true, true, true, false] rfl rfl (any_of HT_.out (by kernel_rfl)) (fun _ _ _ h => h) (Or.inl ⟨by rfl, ?_⟩) ?_ ?_
                rotate_left
                · intro w'
                  go_simp
                  with_reducible rfl
                rotate_left
                · simp only [Act.put, List.setIfInBounds_toArray, List.set_cons_zero, List.set_cons_succ, i64_w, i32_w]
                  rfl
                refine one_ (i := 8) (N := none) #[true, true, true, true, true, true, true, true, true] rfl rfl (one_of HT_.out (by kernel_rfl)) (by decide) (fun K hK => ?_)
                refine skip_ (w1 := ?_) (by rfl) rfl ?_ ?_
                rotate_left
                · go_simp
                  rfl
                refine hK.out _ _ trivial (fun hHeld => ?_)
                clear hK K
                refine done_ (done_of HT_.out (by kernel_rfl)) ?_
                go_wp2_with fail
                go_roundg g1
                case measure => omega
                case rel => exact ⟨i + 1, _, acc ++ [y], r', e', odd', by omega, by omega, by go_num, by simp; omega, ⟨hS6⟩, HQ⟩
              · skip
                refine value_ (w1 := ?_) (v := ?_) (by rfl) rfl ?_ ?_
                rotate_left 2
                · go_simp
                  constructor
                  · rfl
                  · rfl
                refine hK.out _ _ trivial (fun hHeld => ?_)
                clear hK K
                refine norm_ (a' := ?_) ?_ ?_
                rotate_left
                · show Act.put _ (some 39) _ = _
                  simp only [Act.put, List.setIfInBounds_toArray, List.set_cons_zero, List.set_cons_succ, i64_w, i32_w]
                  rfl
                refine one_ (i := 1) (N := (some 35)) #[true, true, true, true, true, true, false, false, false] rfl rfl (one_of HT_.out (by kernel_rfl)) (by decide) (fun K hK => ?_)
                have hcell := (hS.below (below_alloc (Below.refl _ _) (.cells #[.bool y.f0, .int .i64 y.f1, .string y.f2] 43))).d1
                refine value_ (w1 := ?_) (v := ?_) (by rfl) rfl ?_ ?_
                rotate_left 2
                · go_simp
                  constructor
                  · rfl
                  · rfl
                refine hK.out _ _ trivial (fun hHeld => ?_)
                clear hK K
                refine norm_ (a' := ?_) ?_ ?_
                rotate_left
                · show Act.put _ (some 35) _ = _
                  simp only [Act.put, List.setIfInBounds_toArray, List.set_cons_zero, List.set_cons_succ, i64_w, i32_w]
                  rfl
                refine one_ (i := 6) (N := (some 40)) #[true, true, true, true, true, true, true, false, false] rfl rfl (one_of HT_.out (by kernel_rfl)) (by decide) (fun K hK => ?_)
                refine Kd.R_append_step k43 (w0 := w) w.heap.size (by rfl) (.tmp 35) (.tmp 39) 24 43 (.agg #[.bool false, .int .i64 0, .string ⟨#[]⟩]) 32 rfl Try.underlying24 info43 rfl (by decide) (by omega) (.slice Av acc.length cv) acc y [.bool y.f0, .int .i64 y.f1, .string y.f2] (fun _ => True) (fun _ => False) rfl rfl (k43_mkM _ _ _ y) (fun _ h => h.elim) (fun _ _ => trivial) hS.2.2.2.2.2 hS.2.1 hS.2.1.size (by omega) ?_
                intro v1 w6 ho6 hb6 hg6 _
                obtain ⟨A6, c6, hv1⟩ := Kd.R_slice ho6
                rw [show (acc ++ [y]).length = acc.length + 1 by simp] at hv1
                subst hv1
                have hD6 := blk_grown hS.2.2.1.1 hg6 hS.dne
                have hd6 : w6.cell? ⟨D, 1, none⟩ = some (.slice Av acc.length cv) := (blk_cell hD6 1).trans rfl
                have hf6 := blk_frozen hD6 1
                have hS6 := hS.app hg6 ho6 hb6
                refine hK.out _ _ trivial (fun hHeld => ?_)
                clear hK K
                refine norm_ (a' := ?_) ?_ ?_
                rotate_left
                · show Act.put _ (some 40) _ = _
                  simp only [Act.put, List.setIfInBounds_toArray, List.set_cons_zero, List.set_cons_succ, i64_w, i32_w]
                  rfl
                refine pure_ (i := 7) (N := (some 41)) (v := ?_) (a' := ?_) #[true, true, true, true, true, true, true, true, false] rfl rfl (any_of HT_.out (by kernel_rfl)) (fun _ _ _ h => h) (Or.inl ⟨by rfl, ?_⟩) ?_ ?_
                rotate_left
                · intro w'
                  go_simp
                  with_reducible rfl
                rotate_left
                · simp only [Act.put, List.setIfInBounds_toArray, List.set_cons_zero, List.set_cons_succ, i64_w, i32_w]
                  rfl
                refine one_ (i := 8) (N := none) #[true, true, true, true, true, true, true, true, true] rfl rfl (one_of HT_.out (by kernel_rfl)) (by decide) (fun K hK => ?_)
                refine skip_ (w1 := ?_) (by rfl) rfl ?_ ?_
                rotate_left
                · go_simp
                  rfl
                refine hK.out _ _ trivial (fun hHeld => ?_)
                clear hK K
                refine done_ (done_of HT_.out (by kernel_rfl)) ?_
                go_wp2_with fail
                go_roundg g1
                case measure => omega
                case rel => exact ⟨i + 1, _, acc ++ [y], r', e', odd', by omega, by omega, by go_num, by simp; omega, ⟨hS6⟩, HQ⟩
      · have k1 : decide ((i : Int) < (1 : Int)) = false := decide_eq_false (by omega)
        have k2 : decide (i < 1) = false := decide_eq_false hlt
        have hq := HQ.out
        rw [row_end (by omega)] at hq
        have HQ : Aside0 (endL true (acc, r, e, odd) = (r1, r2, r3)) := ⟨hq⟩
        clear hq hlt hi
        cases odd
        · obtain ⟨dn, hdn⟩ : ∃ dn, aDone r e = dn := ⟨_, rfl⟩
          have HDN := Aside0.mk hdn; clear hdn
          have q0 := HS.out.1.c0
          have q1 := HS.out.1.c1
          have q2 := HS.out.d0
          have q3 := HS.out.d1
          have q4 := HS.out.r0
          have q5 := HS.out.r1
          have q6 := blk_frozen HS.out.2.2.2.1.1 0
          have q7 := blk_frozen HS.out.2.2.2.1.1 1
          go_wp2_with fail
          refine (done_any HS.out.1.2.2 HS.out.2.1).mono ?_; rintro e1 w7 ⟨rfl, hc7, hb7, hk7⟩
          rw [HDN.out]
          have HS7 := Aside0.mk (HS.out.val (Kept.gc (g := g) hk7) (HS.out.1.on hk7 hc7) hb7)
          clear hc7 hb7 hk7
          clear q0 q1 q2 q3 q4 q5 q6 q7
          by_cases hz : dn = 0
          · subst hz
            obtain ⟨rfl, rfl, rfl⟩ := end_ok HQ.out HDN.out
            have q0 := HS7.out.1.c0
            have q1 := HS7.out.1.c1
            have q2 := HS7.out.d0
            have q3 := HS7.out.d1
            have q4 := HS7.out.r0
            have q5 := HS7.out.r1
            have q6 := blk_frozen HS7.out.2.2.2.1.1 0
            have q7 := blk_frozen HS7.out.2.2.2.1.1 1
            go_wp2
            refine bodyPost_ret (v := .tuple #[.agg #[.bool true, .slice Av acc.length cv], .int .i64 0]) ?_ rfl ⟨_, rfl, HS7.out.good _ _, HS7.out.bad _ _⟩
            simp [results, Try.results12, go_sem, *]
          · obtain ⟨rfl, rfl, rfl⟩ := end_bad HQ.out HDN.out hz
            have hz1 : (dn != 0) = true := bne_iff_ne.mpr hz
            have hz2 : (dn == 0) = false := beq_eq_false_iff_ne.mpr hz
            have HZ := Aside0.mk hz; clear hz
            have q0 := HS7.out.1.c0
            have q1 := HS7.out.1.c1
            have q2 := HS7.out.d0
            have q3 := HS7.out.d1
            have q4 := HS7.out.r0
            have q5 := HS7.out.r1
            have q6 := blk_frozen HS7.out.2.2.2.1.1 0
            have q7 := blk_frozen HS7.out.2.2.2.1.1 1
            go_wp2_with fail
            refine (done_any HS7.out.1.2.2 HS7.out.2.1).mono ?_; rintro e1 w8 ⟨rfl, hc8, hb8, hk8⟩
            rw [HDN.out]
            have HS8 := Aside0.mk (HS7.out.val (Kept.gc (g := g) hk8) (HS7.out.1.on hk8 hc8) hb8)
            clear hc8 hb8 hk8
            clear q0 q1 q2 q3 q4 q5 q6 q7
            have q0 := HS8.out.1.c0
            have q1 := HS8.out.1.c1
            have q2 := HS8.out.d0
            have q3 := HS8.out.d1
            have q4 := HS8.out.r0
            have q5 := HS8.out.r1
            have q6 := blk_frozen HS8.out.2.2.2.1.1 0
            have q7 := blk_frozen HS8.out.2.2.2.1.1 1
            go_wp2
            refine bodyPost_ret (v := .tuple #[.agg #[.bool false, .slice none 0 0], .int .i64 dn]) ?_ rfl ⟨_, rfl, Kd.R_nil _ _ _ _ _, HS8.out.bad _ _⟩
            simp [results, Try.results12, go_sem, *]
        · obtain ⟨rfl, rfl, rfl⟩ := end_odd HQ.out
          have q0 := HS.out.1.c0
          have q1 := HS.out.1.c1
          have q2 := HS.out.d0
          have q3 := HS.out.d1
          have q4 := HS.out.r0
          have q5 := HS.out.r1
          have q6 := blk_frozen HS.out.2.2.2.1.1 0
          have q7 := blk_frozen HS.out.2.2.2.1.1 1
          go_wp2
          refine bodyPost_ret (v := .tuple #[.agg #[.bool false, .slice none 0 0], .int .i64 4]) ?_ rfl ⟨_, rfl, Kd.R_nil _ _ _ _ _, HS.out.bad _ _⟩
          simp [results, Try.results12, go_sem, *]
def deeds_Read.f (l : List S39) (text : ByteArray) : Option (Bool × List S43 × Int) := if kinds_Right.f l = some true then (if text.size ≤ 4611686018427387904 then some (readL l (bytesOf text)) else none) else some (false, [], 4)
theorem deeds_Read.calls (A0 : Option Addr) (c0 : Nat) (l : List S39) (text : ByteArray) (r1 : Bool) (r2 : List S43) (r3 : Int) (w : World) (hr0 : Kd.C k39 w A0 l.length l) (hc0 : l.length ≤ c0) (h : deeds_Read.f l text = some (r1, r2, r3)) :
    Calls Try.prog 12 #[.slice A0 l.length c0, .string text] w fun e w' => ∃ v0_, e = .returned (.tuple #[.agg #[.bool r1, v0_], .int .i64 r3]) ∧ Kd.R k43 43 w' w.heap.size (fun _ => True) v0_ r2 ∧ Below w.heap.size w w' := by
  unfold deeds_Read.f at h
  split at h
  · rename_i hR
    split at h
    · rename_i hs
      exact deeds_Read.yes A0 c0 l text r1 r2 r3 w hr0 hc0 hR hs (Option.some.inj h)
    · exact absurd h (by simp)
  · rename_i hR
    refine deeds_Read.no A0 c0 l text r1 r2 r3 w hr0 hc0 ?_ (Option.some.inj h)
    unfold kinds_Right.f at hR ⊢
    simpa using hR
end Go.Proofs.Ytpbeppmldckjlaa.G
