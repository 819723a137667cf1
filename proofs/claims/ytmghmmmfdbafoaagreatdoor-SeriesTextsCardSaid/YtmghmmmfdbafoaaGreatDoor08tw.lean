/- Chapter 8 in plain Lean: the text of a series, the series with a text. -/
/- Chapter 8 in plain Lean: the rounds of a reading: what stands when so many lines are read. -/
import Derived.Test.YtmghmmmfdbafoaaGreatDoor08N
import Derived.Test.YtmghmmmfdbafoaaGreatDoorLi
set_option linter.unusedSimpArgs false
set_option linter.unusedVariables false
section
namespace Go.Tx
open Go.Lib
/-- The lines of a text, and what its ends cut. -/
theorem lines_cut : ∀ t : List UInt8, linesOf t = (cutAt 10 t).dropLast.map (· ++ [10]) ++ (if (cutAt 10 t).getLastD [] = [] then [] else [(cutAt 10 t).getLastD []])
  | [] => rfl
  | b :: r => by
    have ih := lines_cut r
    have hne := cut_ne 10 r
    by_cases hb : b = 10
    · subst hb
      rw [linesOf, if_pos rfl, cutAt, if_pos rfl, ih]
      obtain ⟨p, ps, hc⟩ := List.exists_cons_of_ne_nil hne
      rw [hc]
      rfl
    · rw [linesOf, if_neg hb, cutAt, if_neg hb, ih]
      obtain ⟨p, ps, hc⟩ := List.exists_cons_of_ne_nil hne
      rw [hc]
      cases ps with
      | nil =>
        by_cases hp : p = []
        · subst hp
          rfl
        · simp [hp]
      | cons q qs =>
        have e1 : (((b :: p) :: q :: qs).getLastD []) = ((p :: q :: qs).getLastD []) := rfl
        simp only [e1, List.dropLast_cons_cons, List.map_cons, List.cons_append]
theorem itoa_body_len (v : Int) (h0 : -9999999 ≤ v) (h1 : v ≤ 9999999) : (bodyOf (itoa v)).length ≤ 7 := by
  have key : ∀ (k u : Nat), u < 10 ^ (k + 1) → (decDigits u).length ≤ k + 1 := by
    intro k
    induction k with
    | zero => intro u hu; rw [dec_lt (by simpa using hu)]; simp
    | succ k ih =>
      intro u hu
      by_cases hs : u < 10
      · rw [dec_lt hs]; simp
      · rw [dec_ge hs, List.length_append]
        have := ih (u / 10) (by rw [Nat.pow_succ] at hu; omega)
        simp
        omega
  unfold itoa bodyOf
  by_cases hv : v < 0
  · rw [if_pos hv, if_pos (show (45 :: decDigits v.natAbs).head? = some 45 from rfl)]
    exact key 6 v.natAbs (by omega)
  · rw [if_neg hv]
    split
    · have := key 6 v.toNat (by omega)
      simp
      omega
    · exact key 6 v.toNat (by omega)
theorem body_le (l : List UInt8) : l.length ≤ (bodyOf l).length + 1 := by
  unfold bodyOf
  split
  · rw [List.length_drop]; omega
  · omega
theorem cut_lines (c : UInt8) : ∀ (ls : List (List UInt8)), (∀ y ∈ ls, c ∉ y) → cutAt c (ls.flatMap fun y => y ++ [c]) = ls ++ [[]]
  | [], _ => rfl
  | y :: ys, h => by
    have e : ((y :: ys).flatMap fun y => y ++ [c]) = y ++ c :: (ys.flatMap fun y => y ++ [c]) := by simp
    rw [e, cut_app c _ y (h y (by simp)), cut_lines c ys fun z hz => h z (by simp [hz])]
    rfl
end Go.Tx
namespace Go.Sr
open Go.Lib Go.Tx
def wSeries : List UInt8 := [115, 101, 114, 105, 101, 115]
def wEpoch : List UInt8 := [101, 112, 111, 99, 104]
def numsE (e : Ep) : List Int := [e.d, e.b, e.p, e.m]
/-- The line of a date. -/
def lineE (e : Ep) : List UInt8 := join (wEpoch :: (numsE e).map itoa) [32]
def lineS (nm : List UInt8) : List UInt8 := join [wSeries, nm] [32]
/-- The text of a series. -/
def fmtP (nm : List UInt8) (l : List Ep) : List UInt8 := (lineS nm :: l.map lineE).flatMap fun y => y ++ [10]
def rdH (b : List UInt8) : Option (List UInt8) :=
  match cutAt 32 b with
  | [w, n] => if w = wSeries then some n else none
  | _ => none
def rdE (b : List UInt8) : Option Ep :=
  match cutAt 32 b with
  | [w, x0, x1, x2, x3] => if w = wEpoch then
      match numD 7 x0, numD 7 x1, numD 7 x2, numD 7 x3 with
      | some v0, some v1, some v2, some v3 => some ⟨v0, v1, v2, v3⟩
      | _, _, _, _ => none
    else none
  | _ => none
/-- Lines are read; at the end nothing may stand. -/
def goP (last : List UInt8) : Nat → List UInt8 → List Ep → List (List UInt8) → Option (List UInt8 × List Ep) × Nat
  | i, nm, es, [] => if last = [] ∧ i ≠ 0 then (some (nm, es), 0) else (none, i + 1)
  | 0, _, es, b :: bs => match rdH b with
    | some n => goP last 1 n es bs
    | none => (none, 1)
  | i + 1, nm, es, b :: bs => match rdE b with
    | some e => goP last (i + 2) nm (es ++ [e]) bs
    | none => (none, i + 2)
/-- The series with a text: its name, its dates, a line, an error. -/
def prsP (t : List UInt8) : List UInt8 × List Ep × Nat × Int :=
  if 60000 < t.length then ([], [], 0, 8)
  else match goP ((cutAt 10 t).getLastD []) 0 [] [] (cutAt 10 t).dropLast with
    | (none, i) => ([], [], i, 7)
    | (some (nm, es), _) => if srE nm es = 0 then (nm, es, 0, 0) else ([], [], 0, srE nm es)
theorem name_no {nm : List UInt8} (h : nameB nm = true) (c : UInt8) (hc : c.toNat < 45) : c ∉ nm := fun hm => by
  obtain ⟨j, hj, he⟩ := List.mem_iff_getElem.1 hm
  have := (of_decide_eq_true h).2.2 j hj
  unfold okN bv at this
  rw [List.getD_eq_getElem?_getD, List.getElem?_eq_getElem hj] at this
  simp only [Option.getD_some, he] at this
  omega
theorem ep_bd {e : Ep} (h : epOk e = true) : ∀ n ∈ numsE e, -100000 ≤ n ∧ n ≤ 100000 := by
  unfold epOk at h
  simp only [Bool.and_eq_true] at h
  obtain ⟨⟨h1, h2⟩, h3, h4⟩ := h
  have h1 := rngB_true.1 h1
  have h2 := rngB_true.1 h2
  have h3 := rngB_true.1 h3
  have h4 := rngB_true.1 h4
  intro n hn
  simp only [numsE, List.mem_cons, List.not_mem_nil, or_false] at hn
  rcases hn with rfl | rfl | rfl | rfl <;> omega
theorem numD_itoa (v : Int) (h : -100000 ≤ v ∧ v ≤ 100000) : numD 7 (itoa v) = some v := by
  unfold numD
  rw [if_pos (itoa_body_len v (by omega) (by omega)), num_itoa v (by omega) (by omega)]
theorem line_cut (e : Ep) : cutAt 32 (lineE e) = wEpoch :: (numsE e).map itoa :=
  cut_join 32 _ _ fun y hy => by
    rcases List.mem_cons.1 hy with rfl | hy
    · decide
    · obtain ⟨n, _, rfl⟩ := List.mem_map.1 hy
      exact itoa_clean n 32 (by decide) (by decide)
theorem rdE_line {e : Ep} (h : epOk e = true) : rdE (lineE e) = some e := by
  have hb := ep_bd h
  unfold rdE
  rw [line_cut]
  simp only [numsE, List.map_cons, List.map_nil, if_true]
  rw [numD_itoa _ (hb _ (by simp [numsE])), numD_itoa _ (hb _ (by simp [numsE])), numD_itoa _ (hb _ (by simp [numsE])), numD_itoa _ (hb _ (by simp [numsE]))]
theorem rdH_line {nm : List UInt8} (h : nameB nm = true) : rdH (lineS nm) = some nm := by
  unfold rdH lineS
  rw [cut_join 32 _ _ fun y hy => by
    simp only [List.mem_cons, List.not_mem_nil, or_false] at hy
    rcases hy with rfl | rfl
    · decide
    · exact name_no h 32 (by decide)]
  simp
theorem line_clean {e : Ep} : (10 : UInt8) ∉ lineE e := by
  unfold lineE numsE
  have h := fun v => itoa_clean v 10 (by decide) (by decide)
  simp only [List.map_cons, List.map_nil, join_cons, joinTail, List.mem_append, List.mem_cons, List.not_mem_nil, or_false, not_or]
  simp [h, wEpoch]
theorem goP_lines {last : List UInt8} : ∀ (l : List Ep) (i : Nat) (nm : List UInt8) (es : List Ep), (∀ e ∈ l, epOk e = true) → goP [] (i + 1) nm es (l.map lineE) = (some (nm, es ++ l), 0)
  | [], i, nm, es, _ => by
    show goP [] (i + 1) nm es [] = _
    rw [goP, if_pos ⟨rfl, by omega⟩, List.append_nil]
  | e :: l, i, nm, es, h => by
    have ih := goP_lines (last := last) l (i + 1) nm (es ++ [e]) fun x hx => h x (by simp [hx])
    show goP [] (i + 1) nm es (lineE e :: l.map lineE) = _
    rw [goP, rdE_line (h e (by simp))]
    simp only
    rw [ih, List.append_assoc]
    rfl
theorem fmt_len_le {nm : List UInt8} {l : List Ep} (h : srE nm l = 0) : (fmtP nm l).length ≤ 60000 := by
  obtain ⟨hR, hn⟩ := srE_right h
  have h20 := hR.n20
  have hn12 := (of_decide_eq_true hn).2.1
  have hok : ∀ e ∈ l, epOk e = true := fun e he => by
    obtain ⟨j, hj, rfl⟩ := List.mem_iff_getElem.1 he
    have := hR.ok j hj
    unfold epE ep at this
    rw [List.getD_eq_getElem?_getD, List.getElem?_eq_getElem hj] at this
    simp only [Option.getD_some] at this
    split at this
    · omega
    · rename_i hx
      simpa using hx
  have hle : ∀ e ∈ l, (lineE e).length ≤ 100 := fun e he => by
    have hb := ep_bd (hok e he)
    have hi : ∀ v ∈ numsE e, (itoa v).length ≤ 8 := fun v hv => by
      have h1 := itoa_body_len v (by have := hb v hv; omega) (by have := hb v hv; omega)
      have h2 := body_le (itoa v)
      omega
    have a0 := hi e.d (by simp [numsE])
    have a1 := hi e.b (by simp [numsE])
    have a2 := hi e.p (by simp [numsE])
    have a3 := hi e.m (by simp [numsE])
    unfold lineE numsE
    simp only [List.map_cons, List.map_nil, join_cons, joinTail, List.flatten_cons, List.flatten_nil, List.length_append, List.length_cons, List.length_nil, wEpoch]
    omega
  have hsum : ∀ l' : List Ep, (∀ e ∈ l', (lineE e).length ≤ 100) → ((l'.map lineE).flatMap fun y => y ++ [10]).length ≤ 101 * l'.length := by
    intro l'
    induction l' with
    | nil => intro _; simp
    | cons e l' ih =>
      intro h
      have := ih fun x hx => h x (by simp [hx])
      have h1 := h e (by simp)
      simp only [List.map_cons, List.flatMap_cons, List.length_append, List.length_cons, List.length_nil]
      omega
  have := hsum l hle
  have hS : (lineS nm).length ≤ 20 := by
    unfold lineS
    simp only [List.map_cons, List.map_nil, join_cons, joinTail, List.flatten_cons, List.flatten_nil, List.length_append, List.length_cons, List.length_nil, wSeries]
    omega
  unfold fmtP
  simp only [List.flatMap_cons, List.length_append, List.length_cons, List.length_nil]
  omega
/-- What is printed is read again. -/
theorem prs_fmtP {nm : List UInt8} {l : List Ep} (h : srE nm l = 0) : prsP (fmtP nm l) = (nm, l, 0, 0) := by
  obtain ⟨hR, hn⟩ := srE_right h
  have hlen := fmt_len_le h
  have hok : ∀ e ∈ l, epOk e = true := fun e he => by
    obtain ⟨j, hj, rfl⟩ := List.mem_iff_getElem.1 he
    have := hR.ok j hj
    unfold epE ep at this
    rw [List.getD_eq_getElem?_getD, List.getElem?_eq_getElem hj] at this
    simp only [Option.getD_some] at this
    split at this
    · omega
    · rename_i hx
      simpa using hx
  have hc : cutAt 10 (fmtP nm l) = (lineS nm :: l.map lineE) ++ [[]] := cut_lines 10 _ fun y hy => by
    rcases List.mem_cons.1 hy with rfl | hy
    · unfold lineS
      simp only [join_cons, joinTail, List.mem_append, List.mem_cons, List.not_mem_nil, or_false, not_or]
      have := name_no hn 10 (by decide)
      simp [this, wSeries]
    · obtain ⟨e, _, rfl⟩ := List.mem_map.1 hy
      exact line_clean
  unfold prsP
  have hg : ((lineS nm :: l.map lineE) ++ [[]]).getLastD [] = ([] : List UInt8) := by rw [List.getLastD_concat]
  rw [if_neg (by omega), hc, List.dropLast_concat, hg]
  rw [goP, rdH_line hn]
  simp only
  rw [goP_lines (last := []) l 0 nm [] hok]
  simp [h]
end Go.Sr
end

section
namespace Go.Tx
open Go.Lib
theorem cut_clean (c : UInt8) : ∀ (l : List UInt8), ∀ p ∈ cutAt c l, c ∉ p
  | [], p, h => by
    rw [cutAt] at h
    simp at h
    subst h
    simp
  | b :: l, p, h => by
    rw [cutAt] at h
    have hne := cut_ne c l
    have ih := cut_clean c l
    split at h
    · rcases List.mem_cons.1 h with rfl | h
      · simp
      · exact ih p h
    · rename_i hb
      cases hcl : cutAt c l with
      | nil => exact absurd hcl hne
      | cons q r =>
        rw [hcl] at h ih
        simp at h
        rcases h with rfl | h
        · have := ih q (by simp)
          simp only [List.mem_cons, not_or]
          exact ⟨fun e => hb e.symm, this⟩
        · exact ih p (by simp [h])
theorem cut_le (c : UInt8) : ∀ (l p : List UInt8), p ∈ cutAt c l → p.length ≤ l.length
  | [], p, h => by
    rw [cutAt] at h
    simp at h
    subst h
    exact Nat.le_refl _
  | b :: l, p, h => by
    rw [cutAt] at h
    have hne := cut_ne c l
    have ih := cut_le c l
    split at h
    · rcases List.mem_cons.1 h with rfl | h
      · simp
      · have := ih p h
        simp; omega
    · cases hcl : cutAt c l with
      | nil => exact absurd hcl hne
      | cons q r =>
        rw [hcl] at h ih
        simp at h
        rcases h with rfl | h
        · have := ih q (by simp)
          simp; omega
        · have := ih p (by simp [h])
          simp; omega
/-- A number of at most so many digits, as the program reads it. -/
theorem numD_prog {D : Nat} (hD : D ≤ 10) {l : List UInt8} {v : Int} (h : atoiAll l = .ok v) : numD D l = if itoa v = l ∧ (bodyOf l).length ≤ D then some v else none := by
  unfold numD
  rw [← num_same]
  unfold numP
  rw [h]
  simp only
  by_cases h1 : (bodyOf l).length ≤ D
  · rw [if_pos h1]
    by_cases h2 : itoa v = l
    · rw [if_pos ⟨h2, by omega⟩, if_pos ⟨h2, h1⟩]
    · rw [if_neg (fun h => h2 h.1), if_neg (fun h => h2 h.1)]
  · rw [if_neg h1, if_neg (fun h => h1 h.2)]
theorem numD_bad {D : Nat} {l : List UInt8} (h : ∀ v, atoiAll l ≠ .ok v) : numD D l = none := by
  refine numD_no ?_
  rw [← num_same]
  unfold numP
  cases ha : atoiAll l
  · exact absurd ha (h _)
  · rfl
  · rfl
end Go.Tx
namespace Go.Sr
open Go.Lib Go.Tx
/-- The lines of a text that have an end, and what stands behind them. -/
def bsP (t : List UInt8) : List (List UInt8) := (cutAt 10 t).dropLast
def laP (t : List UInt8) : List UInt8 := (cutAt 10 t).getLastD []
theorem bs_len (t : List UInt8) : (bsP t).length ≤ t.length := by
  unfold bsP
  rw [List.length_dropLast, cut_len]
  have := List.count_le_length (a := (10 : UInt8)) (l := t)
  omega
theorem bs_sub (t : List UInt8) (k : Nat) (h : k < (bsP t).length) : ((bsP t).getD k []).length ≤ t.length := by
  refine cut_le 10 t _ ?_
  rw [List.getD_eq_getElem?_getD, List.getElem?_eq_getElem h]
  exact List.dropLast_subset _ (List.getElem_mem h)
theorem la_mem (t : List UInt8) : laP t ∈ cutAt 10 t := by
  unfold laP
  rw [List.getLastD_eq_getLast?]
  cases h : (cutAt 10 t).getLast? with
  | none => exact absurd (List.getLast?_eq_none_iff.1 h) (cut_ne 10 t)
  | some x => exact List.mem_of_getLast? h
theorem la_clean (t : List UInt8) : (10 : UInt8) ∉ laP t := cut_clean 10 t _ (la_mem t)
theorem la_le (t : List UInt8) : (laP t).length ≤ t.length := cut_le 10 t _ (la_mem t)
theorem ln_eq (t : List UInt8) : linesOf t = (bsP t).map (· ++ [10]) ++ (if laP t = [] then [] else [laP t]) := lines_cut t
theorem ln_y (t : List UInt8) (k : Nat) (h : k < (bsP t).length) : (linesOf t).getD k [] = (bsP t).getD k [] ++ [10] := by
  rw [ln_eq, List.getD_eq_getElem?_getD, List.getElem?_append_left (by simpa using h), List.getElem?_map, List.getD_eq_getElem?_getD, List.getElem?_eq_getElem h]
  rfl
theorem ln_n (t : List UInt8) (k : Nat) (h : (bsP t).length ≤ k) (hk : k < (linesOf t).length) : k = (bsP t).length ∧ (linesOf t).getD k [] = laP t ∧ laP t ≠ [] := by
  have hl := congrArg List.length (ln_eq t)
  rw [List.length_append, List.length_map] at hl
  by_cases he : laP t = []
  · rw [if_pos he] at hl
    simp at hl
    omega
  · rw [if_neg he] at hl
    simp at hl
    obtain rfl : k = (bsP t).length := by omega
    refine ⟨rfl, ?_, he⟩
    rw [ln_eq, if_neg he, List.getD_eq_getElem?_getD, List.getElem?_append_right (by simp)]
    simp
theorem ln_len (t : List UInt8) (h : (linesOf t).length = (bsP t).length) : laP t = [] := by
  have hl := congrArg List.length (ln_eq t)
  rw [List.length_append, List.length_map] at hl
  by_cases he : laP t = []
  · exact he
  · rw [if_neg he] at hl
    simp at hl
    omega
theorem ln_ge (t : List UInt8) : (bsP t).length ≤ (linesOf t).length := by
  have hl := congrArg List.length (ln_eq t)
  rw [List.length_append, List.length_map] at hl
  omega
/-- So many lines are read. -/
structure RdS (t : List UInt8) (k : Nat) (nm : List UInt8) (es : List Ep) : Prop where
  le : k ≤ (bsP t).length
  go : goP (laP t) 0 [] [] (bsP t) = goP (laP t) k nm es ((bsP t).drop k)
  len : es.length ≤ k
  z : k ≤ 1 → es = []
  nz : k = 0 → nm = []
  sz : nm.length ≤ t.length
theorem RdS.zero (t : List UInt8) : RdS t 0 [] [] := ⟨Nat.zero_le _, rfl, Nat.zero_le _, fun _ => rfl, fun _ => rfl, Nat.zero_le _⟩
theorem bs_drop {t : List UInt8} {k : Nat} (h : k < (bsP t).length) : (bsP t).drop k = (bsP t).getD k [] :: (bsP t).drop (k + 1) := by
  rw [List.drop_eq_getElem_cons h, List.getD_eq_getElem?_getD, List.getElem?_eq_getElem h]
  rfl
theorem rdH_le {b n : List UInt8} (h : rdH b = some n) : n.length ≤ b.length := by
  unfold rdH at h
  split at h
  · rename_i w n' hc
    split at h
    · cases h
      exact cut_le 32 b _ (by rw [hc]; simp)
    · cases h
  · cases h
section
variable {t nm : List UInt8} {k : Nat} {es : List Ep}
theorem RdS.head (h : RdS t 0 nm es) (hk : 0 < (bsP t).length) {n : List UInt8} (hr : rdH ((bsP t).getD 0 []) = some n) : RdS t 1 n [] := by
  have he := h.z (by omega)
  subst he
  refine ⟨hk, ?_, by simp, fun _ => rfl, (by omega), Nat.le_trans (rdH_le hr) (bs_sub t 0 hk)⟩
  rw [h.go, bs_drop hk, goP, hr]
theorem RdS.headNo (h : RdS t 0 nm es) (hk : 0 < (bsP t).length) (hr : rdH ((bsP t).getD 0 []) = none) : goP (laP t) 0 [] [] (bsP t) = (none, 1) := by
  rw [h.go, bs_drop hk, goP, hr]
theorem RdS.next (h : RdS t k nm es) (h0 : 0 < k) (hk : k < (bsP t).length) {e : Ep} (hr : rdE ((bsP t).getD k []) = some e) : RdS t (k + 1) nm (es ++ [e]) := by
  refine ⟨hk, ?_, ?_, (by omega), (by omega), h.sz⟩
  · obtain ⟨j, rfl⟩ : ∃ j, k = j + 1 := ⟨k - 1, by omega⟩
    rw [h.go, bs_drop hk, goP, hr]
  · have := h.len
    simp
    omega
theorem RdS.nextNo (h : RdS t k nm es) (h0 : 0 < k) (hk : k < (bsP t).length) (hr : rdE ((bsP t).getD k []) = none) : goP (laP t) 0 [] [] (bsP t) = (none, k + 1) := by
  obtain ⟨j, rfl⟩ : ∃ j, k = j + 1 := ⟨k - 1, by omega⟩
  rw [h.go, bs_drop hk, goP, hr]
theorem RdS.last (h : RdS t k nm es) (hk : k = (bsP t).length) (hl : laP t ≠ []) : goP (laP t) 0 [] [] (bsP t) = (none, k + 1) := by
  rw [h.go, hk, List.drop_length, goP, if_neg (fun h => hl h.1)]
theorem RdS.none (h : RdS t 0 nm es) (hk : 0 = (bsP t).length) : goP (laP t) 0 [] [] (bsP t) = (none, 1) := by
  have e : (bsP t).drop 0 = [] := List.eq_nil_of_length_eq_zero (by rw [List.length_drop]; omega)
  rw [h.go, e, goP, if_neg (fun h => h.2 rfl)]
theorem RdS.end (h : RdS t k nm es) (hk : k = (bsP t).length) (hl : laP t = []) (h0 : k ≠ 0) : goP (laP t) 0 [] [] (bsP t) = (some (nm, es), 0) := by
  rw [h.go, hk, List.drop_length, goP, if_pos ⟨hl, by omega⟩]
end
theorem prs_big {t : List UInt8} (h : 60000 < t.length) : prsP t = ([], [], 0, 8) := if_pos h
theorem prs_none {t : List UInt8} {i : Nat} (h : t.length ≤ 60000) (hg : goP (laP t) 0 [] [] (bsP t) = (none, i)) : prsP t = ([], [], i, 7) := by
  unfold prsP
  rw [if_neg (by omega)]
  show (match goP (laP t) 0 [] [] (bsP t) with | (none, i) => ([], [], i, 7) | (some (nm, es), _) => if srE nm es = 0 then (nm, es, 0, 0) else ([], [], 0, srE nm es)) = _
  rw [hg]
theorem prs_some {t nm : List UInt8} {es : List Ep} {i : Nat} (h : t.length ≤ 60000) (hg : goP (laP t) 0 [] [] (bsP t) = (some (nm, es), i)) : prsP t = if srE nm es = 0 then (nm, es, 0, 0) else ([], [], 0, srE nm es) := by
  unfold prsP
  rw [if_neg (by omega)]
  show (match goP (laP t) 0 [] [] (bsP t) with | (none, i) => ([], [], i, 7) | (some (nm, es), _) => if srE nm es = 0 then (nm, es, 0, 0) else ([], [], 0, srE nm es)) = _
  rw [hg]
/-- The text of a series that is not long is not long. -/
theorem fmt_few {nm : List UInt8} {l : List Ep} (h : srE nm l = 0) (hl : l.length ≤ 10) : (fmtP nm l).length ≤ 1000 := by
  obtain ⟨hR, hn⟩ := srE_right h
  have hn12 := (of_decide_eq_true hn).2.1
  have hle : ∀ e ∈ l, (lineE e).length ≤ 50 := fun e he => by
    obtain ⟨j, hj, rfl⟩ := List.mem_iff_getElem.1 he
    have hok : epOk l[j] = true := by
      have := hR.ok j hj
      unfold epE ep at this
      rw [List.getD_eq_getElem?_getD, List.getElem?_eq_getElem hj] at this
      simp only [Option.getD_some] at this
      split at this
      · omega
      · rename_i hx
        simpa using hx
    have hb := ep_bd hok
    have hi : ∀ v ∈ numsE l[j], (itoa v).length ≤ 8 := fun v hv => by
      have h1 := itoa_body_len v (by have := hb v hv; omega) (by have := hb v hv; omega)
      have h2 := body_le (itoa v)
      omega
    have a0 := hi l[j].d (by simp [numsE])
    have a1 := hi l[j].b (by simp [numsE])
    have a2 := hi l[j].p (by simp [numsE])
    have a3 := hi l[j].m (by simp [numsE])
    unfold lineE numsE
    simp only [List.map_cons, List.map_nil, join_cons, joinTail, List.flatten_cons, List.flatten_nil, List.length_append, List.length_cons, List.length_nil, wEpoch]
    omega
  have hsum : ∀ l' : List Ep, (∀ e ∈ l', (lineE e).length ≤ 50) → ((l'.map lineE).flatMap fun y => y ++ [10]).length ≤ 51 * l'.length := by
    intro l'
    induction l' with
    | nil => intro _; simp
    | cons e l' ih =>
      intro h
      have := ih fun x hx => h x (by simp [hx])
      have h1 := h e (by simp)
      simp only [List.map_cons, List.flatMap_cons, List.length_append, List.length_cons, List.length_nil]
      omega
  have := hsum l hle
  have hS : (lineS nm).length ≤ 20 := by
    unfold lineS
    simp only [List.map_cons, List.map_nil, join_cons, joinTail, List.flatten_cons, List.flatten_nil, List.length_append, List.length_cons, List.length_nil, wSeries]
    omega
  unfold fmtP
  simp only [List.flatMap_cons, List.length_append, List.length_cons, List.length_nil]
  omega
theorem fmt_snoc (nm : List UInt8) (l : List Ep) (e : Ep) : fmtP nm (l ++ [e]) = fmtP nm l ++ (lineE e ++ [10]) := by
  unfold fmtP
  simp
theorem fmt_zero (nm : List UInt8) : fmtP nm [] = [115, 101, 114, 105, 101, 115, 32] ++ nm ++ [10] := by
  unfold fmtP lineS
  simp [join_cons, joinTail, wSeries]
theorem fmt_pre (nm : List UInt8) (l : List Ep) (k : Nat) : (fmtP nm (l.take k)).length ≤ (fmtP nm l).length := by
  have h : fmtP nm l = fmtP nm (l.take k) ++ ((l.drop k).map lineE).flatMap fun y => y ++ [10] := by
    unfold fmtP
    rw [← List.flatMap_append, List.cons_append, ← List.map_append, List.take_append_drop]
  rw [h, List.length_append]
  omega
end Go.Sr
end
