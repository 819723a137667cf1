/- Texts in plain Lean: decimal numerals, as the program reads and writes them and as the reference does; a text cut at a byte. -/
/- Texts in plain Lean, behind Tx: what the loops of the reference hold: a number read, a number written, a text cut. -/
import Derived.Lib.ItoaNum
import Derived.Lib.AtoiAll
import Derived.Lib.SplitLaws
import Derived.Lib.Join
import Derived.Lib.Strings
import Derived.Lib.AtoiAllCases
set_option linter.unusedSimpArgs false
set_option linter.unusedVariables false
section
namespace Go.Tx
open Go.Lib
def isD (c : UInt8) : Bool := decide (48 ≤ c.toNat ∧ c.toNat ≤ 57)
theorem hd_app {r : List UInt8} (h : r ≠ []) (s : List UInt8) : (r ++ s).head? = r.head? := by
  cases r with
  | nil => exact absurd rfl h
  | cons a r => rfl
/-- What digits spell. -/
def dv (acc : Nat) : List UInt8 → Nat
  | [] => acc
  | c :: r => dv (acc * 10 + (c.toNat - 48)) r
theorem dv_snoc (c : UInt8) : ∀ (l : List UInt8) (acc : Nat), dv acc (l ++ [c]) = dv acc l * 10 + (c.toNat - 48)
  | [], _ => rfl
  | _ :: r, _ => dv_snoc c r _
theorem dig_of (d : Nat) (h : d < 10) : (UInt8.ofNat (48 + d)).toNat = 48 + d := by
  rw [UInt8.toNat_ofNat']
  omega
theorem dig_is (d : Nat) (h : d < 10) : isD (UInt8.ofNat (48 + d)) = true := by
  unfold isD
  rw [dig_of d h]
  simp
  omega
theorem of_dig (c : UInt8) (h : isD c = true) : UInt8.ofNat (48 + (c.toNat - 48)) = c := by
  have := of_decide_eq_true h
  rw [show 48 + (c.toNat - 48) = c.toNat by omega]
  simp
theorem dec_lt {u : Nat} (h : u < 10) : decDigits u = [UInt8.ofNat (48 + u)] := by rw [decDigits, dif_pos h]
theorem dec_ge {u : Nat} (h : ¬ u < 10) : decDigits u = decDigits (u / 10) ++ [UInt8.ofNat (48 + u % 10)] := by rw [decDigits, dif_neg h]
/-- The numeral of a number: its digits, what they spell, no leading zero. -/
theorem dec_facts : ∀ (k u : Nat), u ≤ k → (decDigits u ≠ [] ∧ (decDigits u).all isD = true) ∧ dv 0 (decDigits u) = u ∧ ((decDigits u).head? = some 48 → u = 0)
  | 0, u, h => by
    obtain rfl : u = 0 := by omega
    rw [dec_lt (by decide)]
    exact ⟨⟨by simp, by decide⟩, by decide, fun _ => rfl⟩
  | k + 1, u, h => by
    by_cases hu : u < 10
    · rw [dec_lt hu]
      refine ⟨⟨by simp, by rw [List.all_cons, dig_is u hu]; rfl⟩, by show 0 * 10 + ((UInt8.ofNat (48 + u)).toNat - 48) = u; rw [dig_of u hu]; omega, fun he => ?_⟩
      have : (UInt8.ofNat (48 + u)).toNat = 48 := by
        simp only [List.head?_cons, Option.some.injEq] at he
        rw [he]
        rfl
      rw [dig_of u hu] at this
      omega
    · obtain ⟨⟨h1, h2⟩, h3, h4⟩ := dec_facts k (u / 10) (by omega)
      rw [dec_ge hu]
      refine ⟨⟨by simp, by rw [List.all_append, h2, List.all_cons, dig_is (u % 10) (by omega)]; rfl⟩, ?_, fun he => ?_⟩
      · rw [dv_snoc, h3, dig_of _ (by omega)]
        omega
      · rw [hd_app h1] at he
        have := h4 he
        omega
theorem dec_of : ∀ (k : Nat) (l : List UInt8), l.length ≤ k → l ≠ [] → l.all isD = true → (l.head? = some 48 → l.length = 1) → decDigits (dv 0 l) = l
  | 0, l, h, hne, _, _ => absurd (List.eq_nil_of_length_eq_zero (by omega)) hne
  | k + 1, l, h, hne, hd, hz => by
    rcases List.eq_nil_or_concat l with e | ⟨r, c, e⟩
    · exact absurd e hne
    · rw [List.concat_eq_append] at e
      subst e
      have hc : isD c = true := by simpa using List.all_eq_true.1 hd c (by simp)
      have hcc := of_decide_eq_true hc
      by_cases hr : r = []
      · subst hr
        show decDigits (0 * 10 + (c.toNat - 48)) = [c]
        rw [Nat.zero_mul, Nat.zero_add, dec_lt (by omega), of_dig c hc]
      · have hrd : r.all isD = true := List.all_eq_true.2 fun x hx => List.all_eq_true.1 hd x (by simp [hx])
        have hlen : 1 ≤ r.length := List.length_pos_iff.2 hr
        have hh : r.head? ≠ some 48 := fun he => by
          have := hz (by rw [hd_app hr]; exact he)
          simp at this
          exact hr this
        have ih := dec_of k r (by simp at h; omega) hr hrd (fun he => absurd he hh)
        have hpos : 1 ≤ dv 0 r := by
          rcases Nat.eq_zero_or_pos (dv 0 r) with h0 | h0
          · rw [h0, dec_lt (by decide)] at ih
            rw [← ih] at hh
            exact absurd rfl hh
          · exact h0
        rw [dv_snoc, dec_ge (by omega), show (dv 0 r * 10 + (c.toNat - 48)) / 10 = dv 0 r by omega, show (dv 0 r * 10 + (c.toNat - 48)) % 10 = c.toNat - 48 by omega, ih, of_dig c hc]
theorem dv_lt : ∀ (l : List UInt8) (acc : Nat), l.all isD = true → dv acc l < (acc + 1) * 10 ^ l.length
  | [], acc, _ => by
    show acc < (acc + 1) * 10 ^ 0
    rw [Nat.pow_zero]
    omega
  | c :: r, acc, h => by
    simp only [List.all_cons, Bool.and_eq_true] at h
    have hc := of_decide_eq_true h.1
    have ih := dv_lt r (acc * 10 + (c.toNat - 48)) h.2
    show dv (acc * 10 + (c.toNat - 48)) r < _
    refine Nat.lt_of_lt_of_le ih ?_
    have e : (acc + 1) * 10 ^ (c :: r).length = ((acc + 1) * 10) * 10 ^ r.length := by
      rw [List.length_cons, Nat.pow_succ, Nat.mul_comm (10 ^ r.length) 10, Nat.mul_assoc]
    rw [e]
    exact Nat.mul_le_mul_right _ (by omega)
theorem dv_ge : ∀ (l : List UInt8) (acc : Nat), acc ≤ dv acc l
  | [], _ => Nat.le_refl _
  | c :: r, acc => by
    have := dv_ge r (acc * 10 + (c.toNat - 48))
    show acc ≤ dv (acc * 10 + (c.toNat - 48)) r
    omega
theorem parse_ok : ∀ (l : List UInt8) (acc : Nat), l.all isD = true → dv acc l < 10000000000000000000 → parseUint10 acc l = .ok (dv acc l)
  | [], _, _, _ => rfl
  | c :: r, acc, h, hl => by
    simp only [List.all_cons, Bool.and_eq_true] at h
    have hc := of_decide_eq_true h.1
    unfold dv at hl ⊢
    have := dv_ge r (acc * 10 + (c.toNat - 48))
    unfold parseUint10
    rw [if_pos hc, if_neg (by omega), if_neg (by omega)]
    exact parse_ok r _ h.2 hl

/-- The reference's reading of a number: what stands behind the sign. -/
def bodyOf (l : List UInt8) : List UInt8 := if l.head? = some 45 then l.drop 1 else l
def numR (l : List UInt8) : Option Int :=
  if bodyOf l = [] ∨ 10 < (bodyOf l).length ∨ ((bodyOf l).head? = some 48 ∧ 1 < l.length) then none
  else if (bodyOf l).all isD = true then some (if l.head? = some 45 then -(dv 0 (bodyOf l) : Int) else dv 0 (bodyOf l)) else none
/-- The program's. -/
def numP (l : List UInt8) : Option Int :=
  match atoiAll l with
  | .ok v => if itoa v = l ∧ (bodyOf l).length ≤ 10 then some v else none
  | _ => none
theorem itoa_body (v : Int) (h : (bodyOf (itoa v)).length ≤ 10) : numR (itoa v) = some v := by
  unfold itoa at *
  by_cases hv : v < 0
  · rw [if_pos hv] at h ⊢
    obtain ⟨⟨h1, h2⟩, h3, h4⟩ := dec_facts _ v.natAbs (Nat.le_refl _)
    have hb : bodyOf (45 :: decDigits v.natAbs) = decDigits v.natAbs := by simp [bodyOf]
    rw [hb] at h
    unfold numR
    rw [hb, if_neg, if_pos h2, if_pos (show (45 :: decDigits v.natAbs).head? = some 45 from rfl), h3]
    · congr 1; omega
    · rintro (a | a | ⟨a, _⟩)
      · exact h1 a
      · omega
      · have := h4 a; omega
  · rw [if_neg hv] at h ⊢
    obtain ⟨⟨h1, h2⟩, h3, h4⟩ := dec_facts _ v.toNat (Nat.le_refl _)
    have hh : (decDigits v.toNat).head? ≠ some 45 := fun he => by
      cases hd : decDigits v.toNat with
      | nil => exact h1 hd
      | cons c r =>
        rw [hd] at he h2
        simp only [List.head?_cons, Option.some.injEq] at he
        subst he
        simp only [List.all_cons, Bool.and_eq_true] at h2
        exact absurd h2.1 (by decide)
    have hb : bodyOf (decDigits v.toNat) = decDigits v.toNat := by unfold bodyOf; rw [if_neg hh]
    rw [hb] at h
    unfold numR
    rw [hb, if_neg, if_pos h2, if_neg hh, h3]
    · congr 1; omega
    · rintro (a | a | ⟨a, a'⟩)
      · exact h1 a
      · omega
      · have h0 := h4 a
        rw [h0, dec_lt (by decide)] at a'
        simp at a'
theorem numR_some {l : List UInt8} {v : Int} (h : numR l = some v) : itoa v = l ∧ (bodyOf l).length ≤ 10 ∧ atoiAll l = .ok v := by
  unfold numR at h
  split at h
  · cases h
  · rename_i hn
    simp only [not_or, not_and] at hn
    obtain ⟨n1, n2, n3⟩ := hn
    split at h
    · rename_i hd
      simp only [Option.some.injEq] at h
      have hlt := dv_lt (bodyOf l) 0 hd
      have hpow : 10 ^ (bodyOf l).length ≤ 10 ^ 10 := Nat.pow_le_pow_right (by decide) (by omega)
      have hsm : dv 0 (bodyOf l) < 10000000000 := by
        rw [Nat.zero_add, Nat.one_mul] at hlt
        exact Nat.lt_of_lt_of_le hlt hpow
      by_cases hs : l.head? = some 45
      · rw [if_pos hs] at h
        cases l with
        | nil => cases hs
        | cons c r =>
          simp only [List.head?_cons, Option.some.injEq] at hs
          subst hs
          have hb : bodyOf (45 :: r) = r := by simp [bodyOf]
          rw [hb] at h hd n1 n2 n3 hsm
          have hz : r.head? ≠ some 48 := fun he => n3 he (by simp; exact List.length_pos_iff.2 n1)
          have hdec := dec_of _ r (Nat.le_refl _) n1 hd (fun he => absurd he hz)
          have hpos : 1 ≤ dv 0 r := by
            rcases Nat.eq_zero_or_pos (dv 0 r) with h0 | h0
            · rw [h0, dec_lt (by decide)] at hdec
              rw [← hdec] at hz
              exact absurd rfl hz
            · exact h0
          refine ⟨?_, by rw [hb]; omega, ?_⟩
          · rw [← h, itoa, if_pos (by omega), show (-(dv 0 r : Int)).natAbs = dv 0 r by omega, hdec]
          · unfold atoiAll parseMag
            simp only
            rw [show (if UInt8.toNat 45 = 43 ∨ UInt8.toNat 45 = 45 then r else 45 :: r) = r from if_pos (.inr rfl), if_neg n1, parse_ok r 0 hd (by omega)]
            simp only
            rw [if_neg (fun hx => hx.1 rfl), if_neg (by omega), if_pos (show UInt8.toNat 45 = 45 from rfl), h]
      · rw [if_neg hs] at h
        have hb : bodyOf l = l := by unfold bodyOf; rw [if_neg hs]
        rw [hb] at h hd n1 n2 n3 hsm
        have hdec := dec_of _ l (Nat.le_refl _) n1 hd (fun he => by have := n3 he; have := List.length_pos_iff.2 n1; omega)
        refine ⟨?_, by rw [hb]; omega, ?_⟩
        · rw [← h, itoa, if_neg (by omega), show ((dv 0 l : Int)).toNat = dv 0 l by omega, hdec]
        · cases l with
          | nil => exact absurd rfl n1
          | cons c r =>
            simp only [List.head?_cons, Option.some.injEq] at hs
            have hc : isD c = true := by simp only [List.all_cons, Bool.and_eq_true] at hd; exact hd.1
            have hcc := of_decide_eq_true hc
            have h45 : ¬ c.toNat = 45 := by omega
            unfold atoiAll parseMag
            simp only
            rw [show (if c.toNat = 43 ∨ c.toNat = 45 then r else c :: r) = c :: r from if_neg (by omega), if_neg n1, parse_ok (c :: r) 0 hd (by omega)]
            simp only
            rw [if_neg (by omega), if_neg (by omega), if_neg h45, h]
    · cases h
/-- Both read the same numbers. -/
theorem num_same (l : List UInt8) : numP l = numR l := by
  cases hr : numR l with
  | some v =>
    obtain ⟨h1, h2, h3⟩ := numR_some hr
    unfold numP
    rw [h3]
    simp only
    rw [if_pos ⟨h1, h2⟩]
  | none =>
    unfold numP
    cases ha : atoiAll l
    · rename_i v
      simp only
      by_cases hc : itoa v = l ∧ (bodyOf l).length ≤ 10
      · have := itoa_body v (by rw [hc.1]; exact hc.2)
        rw [hc.1, hr] at this
        cases this
      · rw [if_neg hc]
    · rfl
    · rfl
/-- A small number's numeral is read back. -/
theorem num_itoa (v : Int) (h0 : -9999999999 ≤ v) (h1 : v ≤ 9999999999) : numR (itoa v) = some v := by
  refine itoa_body v ?_
  have key : ∀ (k u : Nat), u < 10 ^ (k + 1) → (decDigits u).length ≤ k + 1 := by
    intro k
    induction k with
    | zero => intro u hu; rw [dec_lt (by simpa using hu)]; simp
    | succ k ih =>
      intro u hu
      by_cases hs : u < 10
      · rw [dec_lt hs]; simp
      · rw [dec_ge hs, List.length_append]
        have := ih (u / 10) (by rw [Nat.pow_succ] at hu; omega)
        simp
        omega
  unfold itoa bodyOf
  by_cases hv : v < 0
  · rw [if_pos hv, if_pos (show (45 :: decDigits v.natAbs).head? = some 45 from rfl)]
    exact key 9 v.natAbs (by omega)
  · rw [if_neg hv]
    split
    · have := key 9 v.toNat (by omega)
      simp
      omega
    · exact key 9 v.toNat (by omega)

/-- A text cut at a byte. -/
def cutAt (c : UInt8) : List UInt8 → List (List UInt8)
  | [] => [[]]
  | b :: r => if b = c then [] :: cutAt c r else match cutAt c r with
    | [] => [[b]]
    | p :: ps => (b :: p) :: ps
theorem cut_ne (c : UInt8) (l : List UInt8) : cutAt c l ≠ [] := by
  cases l with
  | nil => simp [cutAt]
  | cons b r =>
    unfold cutAt
    split
    · simp
    · split <;> simp
theorem cut_len (c : UInt8) : ∀ l : List UInt8, (cutAt c l).length = l.count c + 1
  | [] => rfl
  | b :: r => by
    have ih := cut_len c r
    unfold cutAt
    by_cases h : b = c
    · rw [if_pos h, List.length_cons, ih, h, List.count_cons_self]
    · rw [if_neg h, List.count_cons_of_ne (by simpa using h)]
      cases hc : cutAt c r with
      | nil => exact absurd hc (cut_ne c r)
      | cons p ps => rw [hc] at ih; simpa using ih
theorem index_ne (b c : UInt8) (l : List UInt8) (h : b ≠ c) : index (b :: l) [c] = if index l [c] = -1 then -1 else index l [c] + 1 := by
  have hp : ([c] : List UInt8).isPrefixOf (b :: l) = false := by simp [List.isPrefixOf, Ne.symm h]
  rw [index, hp]
  simp
theorem index_eq (c : UInt8) (l : List UInt8) : index (c :: l) [c] = 0 := by rw [index]; simp [List.isPrefixOf]
theorem split_cut (c : UInt8) : ∀ (s : List UInt8) (k : Nat), count s [c] = k → splitK [c] 0 k s = cutAt c s
  | [], k, h => by
    rw [count_one] at h
    obtain rfl : k = 0 := by simpa using h.symm
    rfl
  | b :: l, k, h => by
    by_cases hb : b = c
    · subst hb
      rw [count_cons_eq] at h
      obtain ⟨k', rfl⟩ : ∃ k', k = k' + 1 := ⟨k - 1, by omega⟩
      have ih := split_cut b l k' (by omega)
      rw [splitK, index_eq, if_neg (by decide)]
      unfold cutAt
      rw [if_pos rfl, ← ih]
      rfl
    · rw [count_cons_ne b c l hb] at h
      have ih := split_cut c l k h
      unfold cutAt
      rw [if_neg hb, ← ih]
      cases k with
      | zero => rfl
      | succ k' =>
        have hne : index l [c] ≠ -1 := fun he => by rw [count_miss he] at h; omega
        have hge := index_ge l [c]
        obtain ⟨j, hj⟩ : ∃ j : Nat, index l [c] = j := ⟨(index l [c]).toNat, by omega⟩
        rw [splitK, splitK, index_ne b c l hb, if_neg hne, hj]
        have e1 : ((j : Int) + 1).toNat = j + 1 := by omega
        have e2 : (((j : Int) + 1) == -1) = false := by rw [beq_eq_false_iff_ne]; omega
        have e3 : ((j : Int) == -1) = false := by rw [beq_eq_false_iff_ne]; omega
        rw [e1, e2, e3]
        simp
theorem cut_app (c : UInt8) (r : List UInt8) : ∀ x : List UInt8, c ∉ x → cutAt c (x ++ c :: r) = x :: cutAt c r
  | [], _ => by
    show cutAt c (c :: r) = _
    rw [cutAt, if_pos rfl]
  | b :: x, h => by
    have ih := cut_app c r x (fun hx => h (by simp [hx]))
    have hb : b ≠ c := fun e => h (by simp [e])
    show cutAt c (b :: (x ++ c :: r)) = _
    rw [cutAt, if_neg hb, ih]
theorem cut_one (c : UInt8) : ∀ x : List UInt8, c ∉ x → cutAt c x = [x]
  | [], _ => rfl
  | b :: x, h => by
    have ih := cut_one c x (fun hx => h (by simp [hx]))
    have hb : b ≠ c := fun e => h (by simp [e])
    rw [cutAt, if_neg hb, ih]
/-- What is joined at a byte is cut into its pieces. -/
theorem cut_join (c : UInt8) : ∀ (x : List UInt8) (xs : List (List UInt8)), (∀ y ∈ x :: xs, c ∉ y) → cutAt c (join (x :: xs) [c]) = x :: xs
  | x, [], h => by
    rw [join_one]
    exact cut_one c x (h x (by simp))
  | x, y :: ys, h => by
    have ih := cut_join c y ys (fun z hz => h z (by simp at hz ⊢; rcases hz with h | h <;> simp [h]))
    have e : join (x :: y :: ys) [c] = x ++ c :: join (y :: ys) [c] := by
      rw [join_cons, join_cons]
      simp [joinTail]
    rw [e, cut_app c _ x (h x (by simp)), ih]
theorem itoa_clean (v : Int) (c : UInt8) (hc : isD c = false) (h : c ≠ 45) : c ∉ itoa v := by
  unfold itoa
  have key : ∀ u, c ∉ decDigits u := fun u hx => by
    have := List.all_eq_true.1 (dec_facts _ u (Nat.le_refl _)).1.2 c hx
    rw [hc] at this
    cases this
  split
  · intro hx
    rcases List.mem_cons.1 hx with e | e
    · exact h e
    · exact key _ e
  · exact key _
end Go.Tx
end

section
namespace Go.Tx
open Go.Lib
theorem trim_body (l : List UInt8) : trimPrefix l [45] = bodyOf l := by
  unfold trimPrefix hasPrefix bodyOf
  cases l with
  | nil => rfl
  | cons c r =>
    by_cases h : c = 45
    · simp [List.isPrefixOf, h]
    · simp [List.isPrefixOf, h, Ne.symm h]
/-- What the program's reading of a number gives: the number, or what stands beside the error. -/
def numV (l : List UInt8) : Int :=
  match atoiAll l with
  | .ok v => v
  | .range => atoiSat l
  | _ => 0
theorem numP_ok {l : List UInt8} {v : Int} (h : atoiAll l = .ok v) : (numP l).isSome = (decide (itoa v = l) && decide ((trimPrefix l [45]).length ≤ 10)) := by
  unfold numP
  rw [h, trim_body]
  simp only
  split
  · rename_i hh
    simp [hh]
  · rename_i hh
    simp only [Option.isSome_none]
    symm
    rw [Bool.and_eq_false_iff]
    by_cases h1 : itoa v = l
    · exact .inr (by simpa [h1] using hh)
    · exact .inl (by simpa using h1)
theorem numP_syn {l : List UInt8} (h : ∀ v, atoiAll l ≠ .ok v) : (numP l).isSome = false := by
  unfold numP
  split
  · rename_i h'
    exact absurd h' (h _)
  · rfl
theorem numP_ran {l : List UInt8} (h : atoiAll l = .range) : (numP l).isSome = false := by unfold numP; rw [h]; rfl
theorem numP_V {l : List UInt8} {v : Int} (h : numR l = some v) : numV l = v := by
  have := (numR_some h).2.2
  unfold numV
  rw [this]
end Go.Tx
end
