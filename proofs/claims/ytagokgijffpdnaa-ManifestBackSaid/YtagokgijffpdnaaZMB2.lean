import Derived.Test.YtagokgijffpdnaaZG19
namespace Go.Proofs.Ytagokgijffpdnaa.G
open Go.RowKit Go.Proofs.YtagokgijffpdnaaQ Go.Proofs.YtagokgijffpdnaaW.PrintWords Go.Proofs.YtagokgijffpdnaaW.PrintLast Go.Proofs.YtagokgijffpdnaaW.PrintMore
set_option linter.unusedVariables false
set_option linter.unusedSimpArgs false
def frms (l : List ByteArray) : List Int := (l.map bytesOf).flatMap frm
theorem frms_snoc (l : List ByteArray) (s : ByteArray) : frms (l ++ [s]) = frms l ++ frm (bytesOf s) := by simp [frms]
theorem frms_len (l : List ByteArray) : (frms l).length = (l.map fun s => s.size + 8).sum := by
 induction l with
 | nil => rfl
 | cons s l ih =>
  have : frms (s :: l) = frm (bytesOf s) ++ frms l := rfl
  rw [this, List.length_append, frm_len, bytesOf_size, ih, List.map_cons, List.sum_cons]
theorem frms_Bs (l : List ByteArray) : Bs (frms l) := by
 intro y hy
 obtain ⟨x, hx, hy⟩ := List.mem_flatMap.1 hy
 obtain ⟨s, _, rfl⟩ := List.mem_map.1 hx
 exact frm_Bs (Bs.bytesOf s) y hy
theorem frms_take (l : List ByteArray) (i : Nat) : (frms (l.take i)).length ≤ (frms l).length := by
 have : frms l = frms (l.take i) ++ frms (l.drop i) := by unfold frms; rw [← List.flatMap_append, ← List.map_append, List.take_append_drop]
 rw [this, List.length_append]; omega
theorem map_back (l : List ByteArray) : (l.map bytesOf).map strOfNums = l := by
 rw [List.map_map]
 have : (strOfNums ∘ bytesOf) = id := by funext s; exact strOfNums_bytesOf s
 rw [this, List.map_id]
theorem take_succ' {l : List ByteArray} {i : Nat} (h : i < l.length) : l.take (i + 1) = l.take i ++ [l[i]] := by
 rw [List.take_add_one, List.getElem?_eq_getElem h]; rfl
def fE (l : List ByteArray) (i : Nat) : Nat := (frms (l.take i)).length
theorem fE_zero (l : List ByteArray) : fE l 0 = 0 := rfl
theorem fE_succ {l : List ByteArray} {i : Nat} (h : i < l.length) : fE l (i + 1) = fE l i + l[i].size + 8 := by
 unfold fE
 rw [take_succ' h, frms_snoc, List.length_append, frm_len, bytesOf_size]; omega
theorem fE_le (l : List ByteArray) (i : Nat) : fE l i ≤ (frms l).length := frms_take l i
theorem torn_scan {l : List ByteArray} (h : ∀ x ∈ l, x.size ≤ 1048576) {K m : Nat} (hm : m ≤ l.length) (h1 : fE l m ≤ K) (hK : K ≤ (frms l).length) (h2 : m < l.length → K < fE l (m + 1)) :
  told K [] (scan ((frms l).take K)) = (l.take m, (fE l m : Int), 0) := by
 have e1 : frms l = frms (l.take m) ++ frms (l.drop m) := by unfold frms; rw [← List.flatMap_append, ← List.map_append, List.take_append_drop]
 have e2 : (frms l).take K = frms (l.take m) ++ (frms (l.drop m)).take (K - fE l m) := by rw [e1]; exact take_app_ge h1
 have hp : frI ((frms (l.drop m)).take (K - fE l m)) = .part := by
  by_cases c : m < l.length
  ·have e3 : frms (l.drop m) = frm (bytesOf l[m]) ++ frms (l.drop (m + 1)) := by rw [List.drop_eq_getElem_cons c]; rfl
   rw [e3]
   have := h2 c
   rw [fE_succ c] at this
   exact frI_cut (Bs.bytesOf _) (by rw [bytesOf_size]; exact h _ (List.getElem_mem c)) _ (by rw [bytesOf_size]; omega)
  ·rw [List.drop_eq_nil_of_le (by omega), show frms [] = [] from rfl, List.take_nil]; rfl
 have hs := scan_frms ((l.take m).map bytesOf) (fun t ht => by
  obtain ⟨s, hs, rfl⟩ := List.mem_map.1 ht
  exact ⟨Bs.bytesOf s, by rw [bytesOf_size]; exact h s (List.mem_of_mem_take hs)⟩) (q := (frms (l.drop m)).take (K - fE l m)) ((frms_Bs _).take _)
 rw [scan_part hp] at hs
 have hq : ((frms (l.drop m)).take (K - fE l m)).length = K - fE l m := by
  rw [List.length_take]
  have : (frms l).length = fE l m + (frms (l.drop m)).length := by rw [e1, List.length_append]; rfl
  omega
 have e4 : frms (l.take m) = ((l.take m).map bytesOf).flatMap frm := rfl
 rw [e2, e4, hs]
 simp only [Option.map_some, told, List.nil_append, List.append_nil, map_back, hq]
 congr 3; omega
theorem fE_mono {l : List ByteArray} {i j : Nat} (h : i ≤ j) (hj : j ≤ l.length) : fE l i ≤ fE l j := by
 induction j with
 | zero =>
  have h0 : i = 0 := by omega
  rw [h0]
  exact Nat.le_refl _
 | succ j ih =>
  by_cases e : i = j + 1
  ·rw [e]
   exact Nat.le_refl _
  ·have := ih (by omega) (by omega)
   rw [fE_succ (show j < l.length by omega)]; omega
theorem fE_which (l : List ByteArray) (K : Nat) : ∀ (d i : Nat), i + d = l.length → fE l i ≤ K → ∃ m, i ≤ m ∧ m ≤ l.length ∧ fE l m ≤ K ∧ (m < l.length → K < fE l (m + 1)) := by
 intro d
 induction d with
 | zero => intro i hi hK; exact ⟨i, Nat.le_refl _, by omega, hK, fun h => by omega⟩
 | succ d ih =>
  intro i hi hK
  by_cases c : fE l (i + 1) ≤ K
  ·obtain ⟨m, h1, h2, h3, h4⟩ := ih (i + 1) (by omega) c
   exact ⟨m, by omega, h2, h3, h4⟩
  ·exact ⟨i, Nat.le_refl _, by omega, hK, fun _ => by omega⟩
def ends (l : List ByteArray) (i : Nat) : List Int := (List.range i).map fun j => ((fE l (j + 1) : Nat) : Int)
theorem ends_len (l : List ByteArray) (i : Nat) : (ends l i).length = i := by simp [ends]
theorem ends_succ (l : List ByteArray) (i : Nat) : ends l (i + 1) = ends l i ++ [((fE l (i + 1) : Nat) : Int)] := by simp [ends, List.range_succ]
theorem ends_rd {l : List ByteArray} {n i : Nat} (h : i < n) : rd (ends l n) (i : Int) = ((fE l (i + 1) : Nat) : Int) := by
 unfold rd ends
 rw [Int.toNat_natCast, List.getD_eq_getElem?_getD, List.getElem?_map, List.getElem?_range h]; rfl
abbrev St := List SP × Int × Int
def edOf (e : SE) : List Int := editB e.f0 e.f1 e.f2 e.f3
def txt (es : List SE) : List ByteArray := es.map fun e => strOfNums (edOf e)
def ap (s : St) (e : SE) : List SP × Int × Int × Int := applyL s.1 s.2.1 s.2.2 e.f0 e.f1 e.f2 e.f3
def step (s : St) (e : SE) : St := ((ap s e).1, (ap s e).2.1, (ap s e).2.2.1)
def z0 : St := ([], 0, 0)
def stL (es : List SE) : St := es.foldl step z0
def okL : St → List SE → Prop
 | _, [] => True
 | s, e :: t => rightB e.f0 e.f1 e.f2 e.f3 = true ∧ (ap s e).2.2.2 = 0 ∧ okL (step s e) t
theorem okL_app : ∀ (s : St) (l m : List SE), okL s (l ++ m) ↔ okL s l ∧ okL (l.foldl step s) m
 | s, [], m => by simp [okL]
 | s, e :: l, m => by
  rw [List.cons_append, okL, okL, okL_app (step s e) l m, List.foldl_cons]
  constructor
  ·rintro ⟨a, b, c, d⟩; exact ⟨⟨a, b, c⟩, d⟩
  ·rintro ⟨⟨a, b, c⟩, d⟩; exact ⟨a, b, c, d⟩
theorem okL_right : ∀ (s : St) (l : List SE), okL s l → ∀ e ∈ l, rightB e.f0 e.f1 e.f2 e.f3 = true
 | s, x :: l, h, e, he => by
  rcases List.mem_cons.1 he with rfl | he
  ·exact h.1
  ·exact okL_right _ l h.2.2 e he
theorem ap_eq {s : St} {e : SE} (h : (ap s e).2.2.2 = 0) : ap s e = ((step s e).1, (step s e).2.1, (step s e).2.2, 0) := by
 unfold step
 rw [← h]
theorem inv_fold : ∀ (l : List SE) (s : St) (n : Nat), Inv s.1 s.2.1 s.2.2 n → okL s l → Inv (l.foldl step s).1 (l.foldl step s).2.1 (l.foldl step s).2.2 (n + 1000 * l.length)
 | [], s, n, h, _ => by simpa using h
 | e :: l, s, n, h, ho => by
  have h1 := (h.step (ap_eq ho.2.1)).1
  have h2 := inv_fold l (step s e) (n + 1000) h1 ho.2.2
  rw [List.foldl_cons, List.length_cons, show n + 1000 * (l.length + 1) = n + 1000 + 1000 * l.length by omega]
  exact h2
theorem inv_stL {l : List SE} (h : okL z0 l) : Inv (stL l).1 (stL l).2.1 (stL l).2.2 (1000 * l.length) := by
 have := inv_fold l z0 0 (Inv.nil 0) h
 rwa [Nat.zero_add] at this
theorem stL_snoc (l : List SE) (e : SE) : stL (l ++ [e]) = step (stL l) e := by simp [stL]
theorem txt_snoc (l : List SE) (e : SE) : txt (l ++ [e]) = txt l ++ [strOfNums (edOf e)] := by simp [txt]
theorem txt_len (l : List SE) : (txt l).length = l.length := by simp [txt]
theorem txt_take (l : List SE) (i : Nat) : (txt l).take i = txt (l.take i) := by simp [txt, List.map_take]
theorem edOf_len {e : SE} (h : rightB e.f0 e.f1 e.f2 e.f3 = true) : (edOf e).length ≤ 300000 := editB_len h
theorem edOf_Bs {e : SE} (h : rightB e.f0 e.f1 e.f2 e.f3 = true) (hO : OkE e) : Bs (edOf e) := editB_Bs h hO.2.1.2
theorem txt_size {l : List SE} (h : okL z0 l) : ∀ x ∈ txt l, x.size ≤ 300000 := by
 intro x hx
 obtain ⟨e, he, rfl⟩ := List.mem_map.1 hx
 rw [size_strOfNums]
 exact edOf_len (okL_right _ _ h e he)
theorem sum_le : ∀ (l : List ByteArray), (∀ x ∈ l, x.size ≤ 300000) → (l.map fun s => s.size + 8).sum ≤ 300008 * l.length
 | [], _ => by simp
 | x :: l, h => by
  have h1 := h x (by simp)
  have h2 := sum_le l (fun y hy => h y (by simp [hy]))
  rw [List.map_cons, List.sum_cons, List.length_cons]; omega
theorem frms_le {l : List SE} (h : okL z0 l) (hl : l.length ≤ 50) : (frms (txt l)).length ≤ 15000400 := by
 have := sum_le (txt l) (txt_size h)
 rw [frms_len]
 rw [txt_len] at this; omega
def stsL (l : List SE) (n : Nat) : List S26 := (List.range n).map fun j => ⟨(stL (l.take (j + 1))).1, (stL (l.take (j + 1))).2.1, (stL (l.take (j + 1))).2.2⟩
theorem stsL_len (l : List SE) (n : Nat) : (stsL l n).length = n := by simp [stsL]
theorem stsL_rd {l : List SE} {n i : Nat} (h : i < n) : rd_T26 (stsL l n) (i : Int) = ⟨(stL (l.take (i + 1))).1, (stL (l.take (i + 1))).2.1, (stL (l.take (i + 1))).2.2⟩ := by
 unfold rd_T26 stsL
 rw [Int.toNat_natCast, List.getD_eq_getElem?_getD, List.getElem?_map, List.getElem?_range h]; rfl
theorem stsL_succ (l : List SE) (n : Nat) : stsL l (n + 1) = stsL l n ++ [⟨(stL (l.take (n + 1))).1, (stL (l.take (n + 1))).2.1, (stL (l.take (n + 1))).2.2⟩] := by simp [stsL, List.range_succ]
theorem readL_some {l : List SE} (h : okL z0 l) (hl : l.length ≤ 50) (hO : ∀ e ∈ l, OkE e) {m : Nat} (hm : m ≤ l.length) : ∀ (d j : Nat), j + d = m → readL ((txt (l.take m)).drop j) (stL (l.take j)).1 (stL (l.take j)).2.1 (stL (l.take j)).2.2 = some ((stL (l.take m)).1, (stL (l.take m)).2.1, (stL (l.take m)).2.2, 0) := by
 intro d
 induction d with
 | zero =>
  intro j hj
  obtain rfl : j = m := by omega
  rw [List.drop_eq_nil_of_le (by rw [txt_len, List.length_take]; omega)]
  rfl
 | succ d ih =>
  intro j hj
  have hjl : j < l.length := by omega
  have e0 : (txt (l.take m)).drop j = strOfNums (edOf l[j]) :: (txt (l.take m)).drop (j + 1) := by
   rw [List.drop_eq_getElem_cons (show j < (txt (l.take m)).length by rw [txt_len, List.length_take]; omega)]
   congr 1
   simp [txt]
  have hsp : l = l.take j ++ (l[j] :: l.drop (j + 1)) := by rw [← List.drop_eq_getElem_cons hjl, List.take_append_drop]
  have h2 := h
  rw [hsp, okL_app] at h2
  have hI := inv_stL h2.1
  have hr : rightB (l[j]).f0 (l[j]).f1 (l[j]).f2 (l[j]).f3 = true := h2.2.1
  have he : (ap (stL (l.take j)) l[j]).2.2.2 = 0 := h2.2.2.1
  have hOe := hO l[j] (List.getElem_mem hjl)
  have hst : stL (l.take (j + 1)) = step (stL (l.take j)) l[j] := by
   rw [List.take_add_one, List.getElem?_eq_getElem hjl]
   exact stL_snoc _ _
  have hlen := hI.len
  rw [List.length_take] at hlen
  have hA : manifest_Apply.f (stL (l.take j)).1 (stL (l.take j)).2.1 (stL (l.take j)).2.2 (l[j]).f0 (l[j]).f1 (l[j]).f2 (l[j]).f3 = some (ap (stL (l.take j)) l[j]) := by
   unfold manifest_Apply.f
   rw [if_pos ⟨hI.wf, by omega⟩]; rfl
  have hE : editL (bytesOf (strOfNums (edOf l[j]))) = ((l[j]).f0, (l[j]).f1, (l[j]).f2, (l[j]).f3, true) := by
   rw [bytesOf_strOfNums (edOf_Bs hr hOe)]
   exact editL_enc hr hOe.2.1.2
  have hz := edOf_len hr
  have hi := ih (j + 1) (by omega)
  rw [hst] at hi
  rw [e0]
  unfold readL
  rw [if_pos (by rw [size_strOfNums]; omega), hE]
  simp only
  rw [if_pos trivial, hA, Option.bind_some, if_pos he]
  exact hi
theorem Read_part {l : List SE} (h : okL z0 l) (hl : l.length ≤ 50) (hO : ∀ e ∈ l, OkE e) {K m : Nat} (hm : m ≤ l.length) (h1 : fE (txt l) m ≤ K) (hK : K ≤ (frms (txt l)).length) (h2 : m < l.length → K < fE (txt l) (m + 1))
  {s : ByteArray} (hs : bytesOf s = (frms (txt l)).take K) {k : Nat} (hk : 20000000 ≤ k) : manifest_Read.f k s = some ((stL (l.take m)).1, (stL (l.take m)).2.1, (stL (l.take m)).2.2, 0) := by
 have hf := frms_le h hl
 have hsz : s.size = K := by rw [size_eq, hs, List.length_take]; omega
 have ht := torn_scan (l := txt l) (fun x hx => by have := txt_size h x hx; omega) (K := K) (m := m) (by rw [txt_len]; exact hm) h1 hK (fun q => h2 (by rw [txt_len] at q; exact q))
 unfold manifest_Read.f
 rw [Scan_f (by omega) (by omega), hs, hsz, ht, Option.bind_some]
 simp only
 rw [if_pos trivial, txt_take]
 have := readL_some h hl hO hm m 0 (by omega)
 rw [List.drop_zero] at this
 exact this
theorem Back_l1 {l : List SE} (h : okL z0 l) (hl : l.length ≤ 50) (hO : ∀ e ∈ l, OkE e) {K m : Nat} (hm : m ≤ l.length) (h1 : fE (txt l) m ≤ K) (hK : K ≤ (frms (txt l)).length) (h2 : m < l.length → K < fE (txt l) (m + 1)) : ∀ (d i k : Nat), i + d = l.length → 20000010 + d ≤ k →
  mbk.l1 k (strOfNums (frms (txt l))) (ends (txt l) l.length) (stsL l l.length) (K : Int) 0 (i : Int) (stL l).1 (stL l).2.1 (stL l).2.2 (stL (l.take m)).1 (stL (l.take m)).2.1 (stL (l.take m)).2.2 (stL (l.take (min i m))).1 (stL (l.take (min i m))).2.1 (stL (l.take (min i m))).2.2 = some true := by
 intro d
 induction d with
 | zero =>
  intro i k hi hk
  obtain ⟨k, rfl⟩ : ∃ m, k = m + 1 := ⟨k - 1, by omega⟩
  have hmin : min i m = m := by omega
  have hf := fE_le (txt l) l.length
  have hw : manifest_Read.f k (strOfNums (frms (txt l))) = some ((stL l).1, (stL l).2.1, (stL l).2.2, 0) := by
   have := Read_part h hl hO (K := (frms (txt l)).length) (m := l.length) (Nat.le_refl _) hf (Nat.le_refl _) (fun q => absurd q (Nat.lt_irrefl _)) (s := strOfNums (frms (txt l))) (by rw [bytesOf_strOfNums (frms_Bs _), List.take_length]) (k := k) (by omega)
   rwa [List.take_length] at this
  have hI1 := (inv_stL h).len
  have hp : okL z0 (l.take m) := by
   have h3 := h
   rw [← List.take_append_drop m l, okL_app] at h3
   exact h3.1
  have hI2 := (inv_stL hp).len
  rw [List.length_take] at hI2
  rw [mbk.l1, ends_len, if_neg (by omega), hw, Option.bind_some, if_pos rfl, hmin, Same_self (by omega) (by omega), Option.bind_some, if_pos rfl]
  simp only
  rw [if_pos trivial, Same_self (by omega) (by omega), Option.bind_some]
 | succ d ih =>
  intro i k hi hk
  obtain ⟨k, rfl⟩ : ∃ m, k = m + 1 := ⟨k - 1, by omega⟩
  have e : wrap64 ((i : Int) + 1) = ((i + 1 : Nat) : Int) := by rw [w64 (by omega) (by omega)]; omega
  have hil : i < l.length := by omega
  have hi2 := ih (i + 1) k (by omega) (by omega)
  rw [mbk.l1, ends_len, stsL_len, if_pos (by omega), if_pos (by omega), ends_rd hil, e]
  by_cases c : i < m
  ·have h3 := fE_mono (l := txt l) (show i + 1 ≤ m by omega) (by rw [txt_len]; exact hm)
   have hmin : min (i + 1) m = i + 1 := by omega
   rw [if_pos (by omega), if_pos (by omega), stsL_rd hil]
   rw [hmin] at hi2
   exact hi2
  ·have h3 := fE_mono (l := txt l) (show m + 1 ≤ i + 1 by omega) (by rw [txt_len]; omega)
   have h4 := h2 (by omega)
   have hmin : min (i + 1) m = min i m := by omega
   rw [if_neg (by omega)]
   rw [hmin] at hi2
   exact hi2
theorem cut_f (cut : Int) (L : Nat) (hL : L ≤ 15000400) : ∃ K : Nat, K ≤ L ∧ IntKind.u64.wrap (wrap64 ((L : Int) + 1)) = ((L + 1 : Nat) : Int) ∧ wrap64 (Int.tmod (IntKind.u64.wrap cut) ((L + 1 : Nat) : Int)) = (K : Int) := by
 have hw : 0 ≤ IntKind.u64.wrap cut := by simp [IntKind.wrap, IntKind.bits, IntKind.signed]; omega
 refine ⟨(IntKind.u64.wrap cut % ((L + 1 : Nat) : Int)).toNat, ?_, ?_, ?_⟩
 ·have := Int.emod_lt_of_pos (IntKind.u64.wrap cut) (show (0 : Int) < ((L + 1 : Nat) : Int) by omega)
  omega
 ·rw [w64 (by omega) (by omega), show ((L : Int) + 1) = ((L + 1 : Nat) : Int) by omega]
  exact wu64 (by omega) (by omega)
 ·have h1 := Int.emod_lt_of_pos (IntKind.u64.wrap cut) (show (0 : Int) < ((L + 1 : Nat) : Int) by omega)
  have h2 := Int.emod_nonneg (IntKind.u64.wrap cut) (show ((L + 1 : Nat) : Int) ≠ 0 by omega)
  rw [Int.tmod_eq_emod_of_nonneg hw]
  generalize IntKind.u64.wrap cut % ((L + 1 : Nat) : Int) = x at *
  rw [w64 (by omega) (by omega)]
  omega
theorem Back_j2 {l : List SE} (h : okL z0 l) (hl : l.length ≤ 50) (hO : ∀ e ∈ l, OkE e) (cut : Int) {k : Nat} (hk : 20000100 ≤ k) :
  mbk.j2 k cut (strOfNums (frms (txt l))) (ends (txt l) l.length) (stsL l l.length) (stL l).1 (stL l).2.1 (stL l).2.2 = some true := by
 obtain ⟨k, rfl⟩ : ∃ m, k = m + 1 := ⟨k - 1, by omega⟩
 have hf := frms_le h hl
 have hsz : Aside0 ((strOfNums (frms (txt l))).size = (frms (txt l)).length) := ⟨size_strOfNums _⟩
 obtain ⟨K, hKL, e1, e2⟩ := cut_f cut (frms (txt l)).length hf
 have E1 := Aside0.mk e1; clear e1
 have E2 := Aside0.mk e2; clear e2
 obtain ⟨m, -, hm, h1, h2⟩ := fE_which (txt l) K (txt l).length 0 (by omega) (by rw [fE_zero]; omega)
 rw [txt_len] at hm h2
 have hR := Read_part h hl hO (K := K) (m := m) hm h1 hKL h2 (s := (strOfNums (frms (txt l))).extract 0 K) (by rw [bytesOf_extract, List.drop_zero, bytesOf_strOfNums (frms_Bs _)]) (k := k) (by omega)
 have HR := Aside0.mk hR; clear hR
 have hL1 := Back_l1 h hl hO (K := K) (m := m) hm h1 hKL h2 l.length 0 k (by omega) (by omega)
 have HL1 := Aside0.mk hL1; clear hL1
 rw [mbk.j2, hsz.out, E1.out, if_neg (by omega), E2.out, if_pos (by omega), if_pos (by omega), Int.toNat_natCast, HR.out, Option.bind_some]
 have hL1 := HL1.out
 rw [show min 0 m = 0 by omega, List.take_zero] at hL1
 exact hL1
end Go.Proofs.Ytagokgijffpdnaa.G
namespace Go.Proofs.Ytagokgijffpdnaa.G
open Go.RowKit Go.Proofs.YtagokgijffpdnaaQ Go.Proofs.YtagokgijffpdnaaW.PrintWords Go.Proofs.YtagokgijffpdnaaW.PrintLast Go.Proofs.YtagokgijffpdnaaW.PrintMore
set_option linter.unusedVariables false
set_option linter.unusedSimpArgs false
theorem fE_app (l : List ByteArray) (m : List ByteArray) {i : Nat} (h : i ≤ l.length) : fE (l ++ m) i = fE l i := by
 unfold fE
 rw [List.take_append_of_le_length h]
theorem ends_app (l m : List ByteArray) {n : Nat} (h : n ≤ l.length) : ends (l ++ m) n = ends l n := by
 unfold ends
 refine List.map_congr_left fun j hj => ?_
 rw [fE_app l m (by have := List.mem_range.1 hj; omega)]
theorem stsL_app (l m : List SE) {n : Nat} (h : n ≤ l.length) : stsL (l ++ m) n = stsL l n := by
 unfold stsL
 refine List.map_congr_left fun j hj => ?_
 rw [List.take_append_of_le_length (by have := List.mem_range.1 hj; omega)]
theorem Back_l0 (es : List SE) (hO : ∀ e ∈ es, OkE e) (cut : Int) : ∀ (d i k : Nat), i + d = 50 → i ≤ es.length → okL z0 (es.take i) → 20000200 + 2 * d ≤ k →
  mbk.l0 k es cut (strOfNums (frms (txt (es.take i)))) (ends (txt (es.take i)) i) (stsL (es.take i) i) (i : Int) (stL (es.take i)).1 (stL (es.take i)).2.1 (stL (es.take i)).2.2 = some true := by
 intro d
 induction d with
 | zero =>
  intro i k hi hil ho hk
  obtain ⟨k, rfl⟩ : ∃ m, k = m + 2 := ⟨k - 2, by omega⟩
  have hlen : (es.take i).length = i := by rw [List.length_take]; omega
  have hJ := Back_j2 ho (by omega) (fun e he => hO e (List.mem_of_mem_take he)) cut (k := k) (by omega)
  rw [hlen] at hJ
  have hD : decide ((i : Int) < 50) = false := decide_eq_false (by omega)
  rw [mbk.l0, hD]
  split
  ·rw [mbk.j1, if_neg (by decide)]; exact hJ
  ·rw [mbk.j1, if_neg (by decide)]; exact hJ
 | succ d ih =>
  intro i k hi hil ho hk
  obtain ⟨k, rfl⟩ : ∃ m, k = m + 2 := ⟨k - 2, by omega⟩
  have hlen : (es.take i).length = i := by rw [List.length_take]; omega
  have hJ := Back_j2 ho (by omega) (fun e he => hO e (List.mem_of_mem_take he)) cut (k := k) (by omega)
  rw [hlen] at hJ
  have HJ := Aside0.mk hJ; clear hJ
  have hD : decide ((i : Int) < 50) = true := decide_eq_true (by omega)
  rw [mbk.l0, hD]
  by_cases c : i < es.length
  ·have hrd : rd_T32 es (i : Int) = es[i] := by
    unfold rd_T32
    rw [Int.toNat_natCast, List.getD_eq_getElem?_getD, List.getElem?_eq_getElem c]; rfl
   have hOe := hO es[i] (List.getElem_mem c)
   have hW := Write_is (es[i]).f0 (es[i]).f1 (es[i]).f2 (es[i]).f3 hOe.2.1.2 (k := k) (by omega)
   have hI := inv_stL ho
   have hI2 := hI.len
   rw [hlen] at hI2
   have hA : manifest_Apply.f (stL (es.take i)).1 (stL (es.take i)).2.1 (stL (es.take i)).2.2 (es[i]).f0 (es[i]).f1 (es[i]).f2 (es[i]).f3 = some (ap (stL (es.take i)) es[i]) := by
    unfold manifest_Apply.f
    rw [if_pos ⟨hI.wf, by omega⟩]; rfl
   have EW : wrap64 ((i : Int) + 1) = ((i + 1 : Nat) : Int) := by rw [w64 (by omega) (by omega)]; omega
   have hf := frms_le ho (by omega)
   have hts : es.take (i + 1) = es.take i ++ [es[i]] := by rw [List.take_add_one, List.getElem?_eq_getElem c]; rfl
   rw [if_pos (by omega), mbk.j1, if_pos rfl, if_pos (by omega), if_pos (by omega), hrd, hW, Option.bind_some, hA, Option.bind_some]
   cases hr : rightB (es[i]).f0 (es[i]).f1 (es[i]).f2 (es[i]).f3 with
   | false =>
    have hw : writeL (es[i]).f0 (es[i]).f1 (es[i]).f2 (es[i]).f3 = (⟨#[]⟩, 1) := by unfold writeL; rw [hr]; rfl
    rw [hw]
    dsimp only
    rw [if_neg (by decide)]
    exact HJ.out
   | true =>
    have hw : writeL (es[i]).f0 (es[i]).f1 (es[i]).f2 (es[i]).f3 = (strOfNums (frm (edOf es[i])), 0) := by unfold writeL; rw [hr]; rfl
    rw [hw]
    dsimp only
    rw [if_pos rfl]
    by_cases he : (ap (stL (es.take i)) es[i]).2.2.2 = 0
    ·have hl1 : (edOf es[i]).length ≤ 300000 := edOf_len hr
     have ho2 : okL z0 (es.take (i + 1)) := by
      rw [hts, okL_app]
      exact ⟨ho, hr, he, trivial⟩
     have h3 := ih (i + 1) k (by omega) (by omega) ho2 (by omega)
     have hfl : (frm (edOf es[i])).length ≤ 300008 := by rw [frm_len]; omega
     have eS : (strOfNums (frms (txt (es.take i)))).size = (frms (txt (es.take i))).length := size_strOfNums _
     have eS2 : (strOfNums (frm (edOf es[i]))).size = (frm (edOf es[i])).length := size_strOfNums _
     have eT : strOfNums (frms (txt (es.take (i + 1)))) = strOfNums (frms (txt (es.take i))) ++ strOfNums (frm (edOf es[i])) := by
      rw [hts, txt_snoc, frms_snoc, strOfNums_append, bytesOf_strOfNums (edOf_Bs hr hOe)]
     have eE : ends (txt (es.take (i + 1))) (i + 1) = ends (txt (es.take i)) i ++ [((frms (txt (es.take i))).length : Int) + ((frm (edOf es[i])).length : Int)] := by
      have eF : fE (txt (es.take (i + 1))) (i + 1) = (frms (txt (es.take i))).length + (frm (edOf es[i])).length := by
       unfold fE
       rw [List.take_of_length_le (by rw [txt_len, List.length_take]; omega), hts, txt_snoc, frms_snoc, bytesOf_strOfNums (edOf_Bs hr hOe), List.length_append]
      rw [ends_succ, eF, hts, txt_snoc, ends_app _ _ (by rw [txt_len, hlen]; exact Nat.le_refl _), Int.natCast_add]
     have eG : stsL (es.take (i + 1)) (i + 1) = stsL (es.take i) i ++ [⟨(stL (es.take (i + 1))).1, (stL (es.take (i + 1))).2.1, (stL (es.take (i + 1))).2.2⟩] := by
      rw [stsL_succ, List.take_of_length_le (l := es.take (i + 1)) (by rw [List.length_take]; omega)]
      conv => lhs; rw [hts]
      rw [stsL_app _ _ (by omega), ← hts]
     have eU : stL (es.take (i + 1)) = step (stL (es.take i)) es[i] := by rw [hts, stL_snoc]
     rw [eT, eE, eG, eU] at h3
     have H3 := Aside0.mk h3; clear h3
     have hsum : (strOfNums (frms (txt (es.take i)))).size + (strOfNums (frm (edOf es[i]))).size ≤ 9223372036854775807 := by rw [eS, eS2]; omega
     rw [if_pos he, if_pos hsum, if_pos (by rw [ends_len]; omega), if_pos (by rw [stsL_len]; omega), EW]
     have h3 := H3.out
     have q : (((strOfNums (frms (txt (es.take i)))).size : Int) + ((strOfNums (frm (edOf es[i]))).size : Int)) = ((frms (txt (es.take i))).length : Int) + ((frm (edOf es[i])).length : Int) := by rw [eS, eS2]
     refine Eq.trans ?_ h3
     show mbk.l0 k es cut (strOfNums (frms (txt (es.take i))) ++ strOfNums (frm (edOf es[i]))) (ends (txt (es.take i)) i ++ [(((strOfNums (frms (txt (es.take i)))).size : Int) + ((strOfNums (frm (edOf es[i]))).size : Int))]) _ _ _ _ _ = _
     rw [q]
     rfl
    ·rw [if_neg he]
     exact HJ.out
  ·rw [if_neg (by omega), mbk.j1, if_neg (by decide)]; exact HJ.out
theorem Back_f (es : List SE) (hO : ∀ e ∈ es, OkE e) (cut : Int) : mbk.f 30000000 es cut = some true := by
 unfold mbk.f
 rw [lives_f (by decide), Option.bind_some, if_pos rfl]
 have h := Back_l0 es hO cut 50 0 30000000 rfl (Nat.zero_le _) trivial (by decide)
 exact h
end Go.Proofs.Ytagokgijffpdnaa.G
