/- Texts in plain Lean: decimal numerals, as the program reads and writes them and as the reference does; a text cut at a byte. -/
/- Texts in plain Lean, behind Tx: what the loops of the reference hold: a number read, a number written, a text cut. -/
import Derived.Lib.ItoaNum
import Derived.Lib.AtoiAll
import Derived.Lib.SplitLaws
import Derived.Lib.Join
import Derived.Lib.Strings
import Derived.Lib.AtoiAllCases
set_option linter.unusedSimpArgs false
set_option linter.unusedVariables false
section
namespace Go.Tx
open Go.Lib
def isD (c : UInt8) : Bool := decide (48 ≤ c.toNat ∧ c.toNat ≤ 57)
theorem hd_app {r : List UInt8} (h : r ≠ []) (s : List UInt8) : (r ++ s).head? = r.head? := by
  cases r with
  | nil => exact absurd rfl h
  | cons a r => rfl
/-- What digits spell. -/
def dv (acc : Nat) : List UInt8 → Nat
  | [] => acc
  | c :: r => dv (acc * 10 + (c.toNat - 48)) r
theorem dv_snoc (c : UInt8) : ∀ (l : List UInt8) (acc : Nat), dv acc (l ++ [c]) = dv acc l * 10 + (c.toNat - 48)
  | [], _ => rfl
  | _ :: r, _ => dv_snoc c r _
theorem dig_of (d : Nat) (h : d < 10) : (UInt8.ofNat (48 + d)).toNat = 48 + d := by
  rw [UInt8.toNat_ofNat']
  omega
theorem dig_is (d : Nat) (h : d < 10) : isD (UInt8.ofNat (48 + d)) = true := by
  unfold isD
  rw [dig_of d h]
  simp
  omega
theorem of_dig (c : UInt8) (h : isD c = true) : UInt8.ofNat (48 + (c.toNat - 48)) = c := by
  have := of_decide_eq_true h
  rw [show 48 + (c.toNat - 48) = c.toNat by omega]
  simp
theorem dec_lt {u : Nat} (h : u < 10) : decDigits u = [UInt8.ofNat (48 + u)] := by rw [decDigits, dif_pos h]
theorem dec_ge {u : Nat} (h : ¬ u < 10) : decDigits u = decDigits (u / 10) ++ [UInt8.ofNat (48 + u % 10)] := by rw [decDigits, dif_neg h]
/-- The numeral of a number: its digits, what they spell, no leading zero. -/
theorem dec_facts : ∀ (k u : Nat), u ≤ k → (decDigits u ≠ [] ∧ (decDigits u).all isD = true) ∧ dv 0 (decDigits u) = u ∧ ((decDigits u).head? = some 48 → u = 0)
  | 0, u, h => by
    obtain rfl : u = 0 := by omega
    rw [dec_lt (by decide)]
    exact ⟨⟨by simp, by decide⟩, by decide, fun _ => rfl⟩
  | k + 1, u, h => by
    by_cases hu : u < 10
    · rw [dec_lt hu]
      refine ⟨⟨by simp, by rw [List.all_cons, dig_is u hu]; rfl⟩, by show 0 * 10 + ((UInt8.ofNat (48 + u)).toNat - 48) = u; rw [dig_of u hu]; omega, fun he => ?_⟩
      have : (UInt8.ofNat (48 + u)).toNat = 48 := by
        simp only [List.head?_cons, Option.some.injEq] at he
        rw [he]
        rfl
      rw [dig_of u hu] at this
      omega
    · obtain ⟨⟨h1, h2⟩, h3, h4⟩ := dec_facts k (u / 10) (by omega)
      rw [dec_ge hu]
      refine ⟨⟨by simp, by rw [List.all_append, h2, List.all_cons, dig_is (u % 10) (by omega)]; rfl⟩, ?_, fun he => ?_⟩
      · rw [dv_snoc, h3, dig_of _ (by omega)]
        omega
      · rw [hd_app h1] at he
        have := h4 he
        omega
theorem dec_of : ∀ (k : Nat) (l : List UInt8), l.length ≤ k → l ≠ [] → l.all isD = true → (l.head? = some 48 → l.length = 1) → decDigits (dv 0 l) = l
  | 0, l, h, hne, _, _ => absurd (List.eq_nil_of_length_eq_zero (by omega)) hne
  | k + 1, l, h, hne, hd, hz => by
    rcases List.eq_nil_or_concat l with e | ⟨r, c, e⟩
    · exact absurd e hne
    · rw [List.concat_eq_append] at e
      subst e
      have hc : isD c = true := by simpa using List.all_eq_true.1 hd c (by simp)
      have hcc := of_decide_eq_true hc
      by_cases hr : r = []
      · subst hr
        show decDigits (0 * 10 + (c.toNat - 48)) = [c]
        rw [Nat.zero_mul, Nat.zero_add, dec_lt (by omega), of_dig c hc]
      · have hrd : r.all isD = true := List.all_eq_true.2 fun x hx => List.all_eq_true.1 hd x (by simp [hx])
        have hlen : 1 ≤ r.length := List.length_pos_iff.2 hr
        have hh : r.head? ≠ some 48 := fun he => by
          have := hz (by rw [hd_app hr]; exact he)
          simp at this
          exact hr this
        have ih := dec_of k r (by simp at h; omega) hr hrd (fun he => absurd he hh)
        have hpos : 1 ≤ dv 0 r := by
          rcases Nat.eq_zero_or_pos (dv 0 r) with h0 | h0
          · rw [h0, dec_lt (by decide)] at ih
            rw [← ih] at hh
            exact absurd rfl hh
          · exact h0
        rw [dv_snoc, dec_ge (by omega), show (dv 0 r * 10 + (c.toNat - 48)) / 10 = dv 0 r by omega, show (dv 0 r * 10 + (c.toNat - 48)) % 10 = c.toNat - 48 by omega, ih, of_dig c hc]
theorem dv_lt : ∀ (l : List UInt8) (acc : Nat), l.all isD = true → dv acc l < (acc + 1) * 10 ^ l.length
  | [], acc, _ => by
    show acc < (acc + 1) * 10 ^ 0
    rw [Nat.pow_zero]
    omega
  | c :: r, acc, h => by
    simp only [List.all_cons, Bool.and_eq_true] at h
    have hc := of_decide_eq_true h.1
    have ih := dv_lt r (acc * 10 + (c.toNat - 48)) h.2
    show dv (acc * 10 + (c.toNat - 48)) r < _
    refine Nat.lt_of_lt_of_le ih ?_
    have e : (acc + 1) * 10 ^ (c :: r).length = ((acc + 1) * 10) * 10 ^ r.length := by
      rw [List.length_cons, Nat.pow_succ, Nat.mul_comm (10 ^ r.length) 10, Nat.mul_assoc]
    rw [e]
    exact Nat.mul_le_mul_right _ (by omega)
theorem dv_ge : ∀ (l : List UInt8) (acc : Nat), acc ≤ dv acc l
  | [], _ => Nat.le_refl _
  | c :: r, acc => by
    have := dv_ge r (acc * 10 + (c.toNat - 48))
    show acc ≤ dv (acc * 10 + (c.toNat - 48)) r
    omega
theorem parse_ok : ∀ (l : List UInt8) (acc : Nat), l.all isD = true → dv acc l < 10000000000000000000 → parseUint10 acc l = .ok (dv acc l)
  | [], _, _, _ => rfl
  | c :: r, acc, h, hl => by
    simp only [List.all_cons, Bool.and_eq_true] at h
    have hc := of_decide_eq_true h.1
    unfold dv at hl ⊢
    have := dv_ge r (acc * 10 + (c.toNat - 48))
    unfold parseUint10
    rw [if_pos hc, if_neg (by omega), if_neg (by omega)]
    exact parse_ok r _ h.2 hl

/-- The reference's reading of a number: what stands behind the sign. -/
def bodyOf (l : List UInt8) : List UInt8 := if l.head? = some 45 then l.drop 1 else l
def numR (l : List UInt8) : Option Int :=
  if bodyOf l = [] ∨ 10 < (bodyOf l).length ∨ ((bodyOf l).head? = some 48 ∧ 1 < l.length) then none
  else if (bodyOf l).all isD = true then some (if l.head? = some 45 then -(dv 0 (bodyOf l) : Int) else dv 0 (bodyOf l)) else none
/-- The program's. -/
def numP (l : List UInt8) : Option Int :=
  match atoiAll l with
  | .ok v => if itoa v = l ∧ (bodyOf l).length ≤ 10 then some v else none
  | _ => none
theorem itoa_body (v : Int) (h : (bodyOf (itoa v)).length ≤ 10) : numR (itoa v) = some v := by
  unfold itoa at *
  by_cases hv : v < 0
  · rw [if_pos hv] at h ⊢
    obtain ⟨⟨h1, h2⟩, h3, h4⟩ := dec_facts _ v.natAbs (Nat.le_refl _)
    have hb : bodyOf (45 :: decDigits v.natAbs) = decDigits v.natAbs := by simp [bodyOf]
    rw [hb] at h
    unfold numR
    rw [hb, if_neg, if_pos h2, if_pos (show (45 :: decDigits v.natAbs).head? = some 45 from rfl), h3]
    · congr 1; omega
    · rintro (a | a | ⟨a, _⟩)
      · exact h1 a
      · omega
      · have := h4 a; omega
  · rw [if_neg hv] at h ⊢
    obtain ⟨⟨h1, h2⟩, h3, h4⟩ := dec_facts _ v.toNat (Nat.le_refl _)
    have hh : (decDigits v.toNat).head? ≠ some 45 := fun he => by
      cases hd : decDigits v.toNat with
      | nil => exact h1 hd
      | cons c r =>
        rw [hd] at he h2
        simp only [List.head?_cons, Option.some.injEq] at he
        subst he
        simp only [List.all_cons, Bool.and_eq_true] at h2
        exact absurd h2.1 (by decide)
    have hb : bodyOf (decDigits v.toNat) = decDigits v.toNat := by unfold bodyOf; rw [if_neg hh]
    rw [hb] at h
    unfold numR
    rw [hb, if_neg, if_pos h2, if_neg hh, h3]
    · congr 1; omega
    · rintro (a | a | ⟨a, a'⟩)
      · exact h1 a
      · omega
      · have h0 := h4 a
        rw [h0, dec_lt (by decide)] at a'
        simp at a'
theorem numR_some {l : List UInt8} {v : Int} (h : numR l = some v) : itoa v = l ∧ (bodyOf l).length ≤ 10 ∧ atoiAll l = .ok v := by
  unfold numR at h
  split at h
  · cases h
  · rename_i hn
    simp only [not_or, not_and] at hn
    obtain ⟨n1, n2, n3⟩ := hn
    split at h
    · rename_i hd
      simp only [Option.some.injEq] at h
      have hlt := dv_lt (bodyOf l) 0 hd
      have hpow : 10 ^ (bodyOf l).length ≤ 10 ^ 10 := Nat.pow_le_pow_right (by decide) (by omega)
      have hsm : dv 0 (bodyOf l) < 10000000000 := by
        rw [Nat.zero_add, Nat.one_mul] at hlt
        exact Nat.lt_of_lt_of_le hlt hpow
      by_cases hs : l.head? = some 45
      · rw [if_pos hs] at h
        cases l with
        | nil => cases hs
        | cons c r =>
          simp only [List.head?_cons, Option.some.injEq] at hs
          subst hs
          have hb : bodyOf (45 :: r) = r := by simp [bodyOf]
          rw [hb] at h hd n1 n2 n3 hsm
          have hz : r.head? ≠ some 48 := fun he => n3 he (by simp; exact List.length_pos_iff.2 n1)
          have hdec := dec_of _ r (Nat.le_refl _) n1 hd (fun he => absurd he hz)
          have hpos : 1 ≤ dv 0 r := by
            rcases Nat.eq_zero_or_pos (dv 0 r) with h0 | h0
            · rw [h0, dec_lt (by decide)] at hdec
              rw [← hdec] at hz
              exact absurd rfl hz
            · exact h0
          refine ⟨?_, by rw [hb]; omega, ?_⟩
          · rw [← h, itoa, if_pos (by omega), show (-(dv 0 r : Int)).natAbs = dv 0 r by omega, hdec]
          · unfold atoiAll parseMag
            simp only
            rw [show (if UInt8.toNat 45 = 43 ∨ UInt8.toNat 45 = 45 then r else 45 :: r) = r from if_pos (.inr rfl), if_neg n1, parse_ok r 0 hd (by omega)]
            simp only
            rw [if_neg (fun hx => hx.1 rfl), if_neg (by omega), if_pos (show UInt8.toNat 45 = 45 from rfl), h]
      · rw [if_neg hs] at h
        have hb : bodyOf l = l := by unfold bodyOf; rw [if_neg hs]
        rw [hb] at h hd n1 n2 n3 hsm
        have hdec := dec_of _ l (Nat.le_refl _) n1 hd (fun he => by have := n3 he; have := List.length_pos_iff.2 n1; omega)
        refine ⟨?_, by rw [hb]; omega, ?_⟩
        · rw [← h, itoa, if_neg (by omega), show ((dv 0 l : Int)).toNat = dv 0 l by omega, hdec]
        · cases l with
          | nil => exact absurd rfl n1
          | cons c r =>
            simp only [List.head?_cons, Option.some.injEq] at hs
            have hc : isD c = true := by simp only [List.all_cons, Bool.and_eq_true] at hd; exact hd.1
            have hcc := of_decide_eq_true hc
            have h45 : ¬ c.toNat = 45 := by omega
            unfold atoiAll parseMag
            simp only
            rw [show (if c.toNat = 43 ∨ c.toNat = 45 then r else c :: r) = c :: r from if_neg (by omega), if_neg n1, parse_ok (c :: r) 0 hd (by omega)]
            simp only
            rw [if_neg (by omega), if_neg (by omega), if_neg h45, h]
    · cases h
/-- Both read the same numbers. -/
theorem num_same (l : List UInt8) : numP l = numR l := by
  cases hr : numR l with
  | some v =>
    obtain ⟨h1, h2, h3⟩ := numR_some hr
    unfold numP
    rw [h3]
    simp only
    rw [if_pos ⟨h1, h2⟩]
  | none =>
    unfold numP
    cases ha : atoiAll l
    · rename_i v
      simp only
      by_cases hc : itoa v = l ∧ (bodyOf l).length ≤ 10
      · have := itoa_body v (by rw [hc.1]; exact hc.2)
        rw [hc.1, hr] at this
        cases this
      · rw [if_neg hc]
    · rfl
    · rfl
/-- A small number's numeral is read back. -/
theorem num_itoa (v : Int) (h0 : -9999999999 ≤ v) (h1 : v ≤ 9999999999) : numR (itoa v) = some v := by
  refine itoa_body v ?_
  have key : ∀ (k u : Nat), u < 10 ^ (k + 1) → (decDigits u).length ≤ k + 1 := by
    intro k
    induction k with
    | zero => intro u hu; rw [dec_lt (by simpa using hu)]; simp
    | succ k ih =>
      intro u hu
      by_cases hs : u < 10
      · rw [dec_lt hs]; simp
      · rw [dec_ge hs, List.length_append]
        have := ih (u / 10) (by rw [Nat.pow_succ] at hu; omega)
        simp
        omega
  unfold itoa bodyOf
  by_cases hv : v < 0
  · rw [if_pos hv, if_pos (show (45 :: decDigits v.natAbs).head? = some 45 from rfl)]
    exact key 9 v.natAbs (by omega)
  · rw [if_neg hv]
    split
    · have := key 9 v.toNat (by omega)
      simp
      omega
    · exact key 9 v.toNat (by omega)

/-- A text cut at a byte. -/
def cutAt (c : UInt8) : List UInt8 → List (List UInt8)
  | [] => [[]]
  | b :: r => if b = c then [] :: cutAt c r else match cutAt c r with
    | [] => [[b]]
    | p :: ps => (b :: p) :: ps
theorem cut_ne (c : UInt8) (l : List UInt8) : cutAt c l ≠ [] := by
  cases l with
  | nil => simp [cutAt]
  | cons b r =>
    unfold cutAt
    split
    · simp
    · split <;> simp
theorem cut_len (c : UInt8) : ∀ l : List UInt8, (cutAt c l).length = l.count c + 1
  | [] => rfl
  | b :: r => by
    have ih := cut_len c r
    unfold cutAt
    by_cases h : b = c
    · rw [if_pos h, List.length_cons, ih, h, List.count_cons_self]
    · rw [if_neg h, List.count_cons_of_ne (by simpa using h)]
      cases hc : cutAt c r with
      | nil => exact absurd hc (cut_ne c r)
      | cons p ps => rw [hc] at ih; simpa using ih
theorem index_ne (b c : UInt8) (l : List UInt8) (h : b ≠ c) : index (b :: l) [c] = if index l [c] = -1 then -1 else index l [c] + 1 := by
  have hp : ([c] : List UInt8).isPrefixOf (b :: l) = false := by simp [List.isPrefixOf, Ne.symm h]
  rw [index, hp]
  simp
theorem index_eq (c : UInt8) (l : List UInt8) : index (c :: l) [c] = 0 := by rw [index]; simp [List.isPrefixOf]
theorem split_cut (c : UInt8) : ∀ (s : List UInt8) (k : Nat), count s [c] = k → splitK [c] 0 k s = cutAt c s
  | [], k, h => by
    rw [count_one] at h
    obtain rfl : k = 0 := by simpa using h.symm
    rfl
  | b :: l, k, h => by
    by_cases hb : b = c
    · subst hb
      rw [count_cons_eq] at h
      obtain ⟨k', rfl⟩ : ∃ k', k = k' + 1 := ⟨k - 1, by omega⟩
      have ih := split_cut b l k' (by omega)
      rw [splitK, index_eq, if_neg (by decide)]
      unfold cutAt
      rw [if_pos rfl, ← ih]
      rfl
    · rw [count_cons_ne b c l hb] at h
      have ih := split_cut c l k h
      unfold cutAt
      rw [if_neg hb, ← ih]
      cases k with
      | zero => rfl
      | succ k' =>
        have hne : index l [c] ≠ -1 := fun he => by rw [count_miss he] at h; omega
        have hge := index_ge l [c]
        obtain ⟨j, hj⟩ : ∃ j : Nat, index l [c] = j := ⟨(index l [c]).toNat, by omega⟩
        rw [splitK, splitK, index_ne b c l hb, if_neg hne, hj]
        have e1 : ((j : Int) + 1).toNat = j + 1 := by omega
        have e2 : (((j : Int) + 1) == -1) = false := by rw [beq_eq_false_iff_ne]; omega
        have e3 : ((j : Int) == -1) = false := by rw [beq_eq_false_iff_ne]; omega
        rw [e1, e2, e3]
        simp
theorem cut_app (c : UInt8) (r : List UInt8) : ∀ x : List UInt8, c ∉ x → cutAt c (x ++ c :: r) = x :: cutAt c r
  | [], _ => by
    show cutAt c (c :: r) = _
    rw [cutAt, if_pos rfl]
  | b :: x, h => by
    have ih := cut_app c r x (fun hx => h (by simp [hx]))
    have hb : b ≠ c := fun e => h (by simp [e])
    show cutAt c (b :: (x ++ c :: r)) = _
    rw [cutAt, if_neg hb, ih]
theorem cut_one (c : UInt8) : ∀ x : List UInt8, c ∉ x → cutAt c x = [x]
  | [], _ => rfl
  | b :: x, h => by
    have ih := cut_one c x (fun hx => h (by simp [hx]))
    have hb : b ≠ c := fun e => h (by simp [e])
    rw [cutAt, if_neg hb, ih]
/-- What is joined at a byte is cut into its pieces. -/
theorem cut_join (c : UInt8) : ∀ (x : List UInt8) (xs : List (List UInt8)), (∀ y ∈ x :: xs, c ∉ y) → cutAt c (join (x :: xs) [c]) = x :: xs
  | x, [], h => by
    rw [join_one]
    exact cut_one c x (h x (by simp))
  | x, y :: ys, h => by
    have ih := cut_join c y ys (fun z hz => h z (by simp at hz ⊢; rcases hz with h | h <;> simp [h]))
    have e : join (x :: y :: ys) [c] = x ++ c :: join (y :: ys) [c] := by
      rw [join_cons, join_cons]
      simp [joinTail]
    rw [e, cut_app c _ x (h x (by simp)), ih]
theorem itoa_clean (v : Int) (c : UInt8) (hc : isD c = false) (h : c ≠ 45) : c ∉ itoa v := by
  unfold itoa
  have key : ∀ u, c ∉ decDigits u := fun u hx => by
    have := List.all_eq_true.1 (dec_facts _ u (Nat.le_refl _)).1.2 c hx
    rw [hc] at this
    cases this
  split
  · intro hx
    rcases List.mem_cons.1 hx with e | e
    · exact h e
    · exact key _ e
  · exact key _
/-- Digits that are laid from the right. -/
theorem dec_step (u : Nat) (h : 0 < u) (s : List UInt8) : decDigits u ++ s = (if u / 10 = 0 then [] else decDigits (u / 10)) ++ (UInt8.ofNat (48 + u % 10) :: s) := by
  by_cases hu : u < 10
  · rw [if_pos (by omega), dec_lt hu, show u % 10 = u by omega]
    rfl
  · rw [if_neg (by omega), dec_ge hu]
    simp
end Go.Tx
end

section
namespace Go.Tx
open Go.Lib
theorem drop_cons {l : List UInt8} {k : Nat} (h : k < l.length) : l.drop k = l.getD k 0 :: l.drop (k + 1) := by
  rw [List.drop_eq_getElem_cons h, List.getD_eq_getElem?_getD, List.getElem?_eq_getElem h]
  rfl
/-- Where the digits begin. -/
def atR (l : List UInt8) (a : Nat) : Prop := (a = 1 ∧ 0 < l.length ∧ l.getD 0 0 = 45) ∨ (a = 0 ∧ (l.length = 0 ∨ l.getD 0 0 ≠ 45))
theorem head_at {l : List UInt8} {a : Nat} (h : atR l a) : (l.head? = some 45 ↔ a = 1) ∧ bodyOf l = l.drop a := by
  have key : l.head? = some 45 ↔ a = 1 := by
    cases l with
    | nil => rcases h with ⟨_, h, _⟩ | ⟨rfl, _⟩ <;> simp at *
    | cons x r =>
      rcases h with ⟨rfl, _, h⟩ | ⟨rfl, h⟩
      · simpa using h
      · simpa using h
  refine ⟨key, ?_⟩
  unfold bodyOf
  rcases h with ⟨rfl, _⟩ | ⟨rfl, _⟩
  · rw [if_pos (key.2 rfl)]
  · rw [if_neg (fun hh => by have := key.1 hh; omega)]
    rfl
theorem head_drop {l : List UInt8} {a : Nat} (h : a < l.length) : (l.drop a).head? = some (l.getD a 0) := by
  rw [drop_cons h]
  rfl
theorem numR_1 {l : List UInt8} {a : Nat} (h : atR l a) (hl : l.length = a) : numR l = none := by
  unfold numR
  rw [(head_at h).2, if_pos (.inl (List.drop_of_length_le (by omega)))]
theorem numR_3 {l : List UInt8} {a : Nat} (h : atR l a) (ha : a < l.length) (h0 : l.getD a 0 = 48) (h1 : 1 < l.length) : numR l = none := by
  unfold numR
  rw [(head_at h).2, if_pos (.inr (.inr ⟨by rw [head_drop ha, h0], h1⟩))]
theorem numR_4 {l : List UInt8} {a : Nat} (h : atR l a) (k : Nat) (ha : a ≤ k) (hk : k < l.length) (hd : isD (l.getD k 0) = false) : numR l = none := by
  unfold numR
  rw [(head_at h).2]
  split
  · rfl
  · rw [if_neg]
    intro hh
    have := List.all_eq_true.1 hh (l.getD k 0) (by
      refine List.mem_of_getElem? (i := k - a) ?_
      rw [List.getElem?_drop, show a + (k - a) = k by omega, List.getD_eq_getElem?_getD, List.getElem?_eq_getElem hk]
      rfl)
    rw [hd] at this
    cases this
theorem numR_5 {l : List UInt8} {a : Nat} (h : atR l a) (ha : a < l.length) (h1 : l.length - a ≤ 10) (h0 : ¬ (l.getD a 0 = 48 ∧ 1 < l.length)) (hd : ∀ k, a ≤ k → k < l.length → isD (l.getD k 0) = true) :
    numR l = some (if a = 1 then -(dv 0 (l.drop a) : Int) else dv 0 (l.drop a)) := by
  obtain ⟨h2, h3⟩ := head_at h
  unfold numR
  rw [h3, if_neg, if_pos]
  · by_cases h4 : a = 1
    · rw [if_pos (h2.2 h4), if_pos h4]
    · rw [if_neg (fun hh => h4 (h2.1 hh)), if_neg h4]
  · refine List.all_eq_true.2 fun c hc => ?_
    obtain ⟨i, hi, rfl⟩ := List.mem_iff_getElem.1 hc
    have hi' : a + i < l.length := by rw [List.length_drop] at hi; omega
    have := hd (a + i) (by omega) hi'
    rw [List.getD_eq_getElem?_getD, List.getElem?_eq_getElem hi'] at this
    rw [List.getElem_drop]
    exact this
  · rintro (h4 | h4 | ⟨h4, h5⟩)
    · have := congrArg List.length h4
      rw [List.length_drop] at this
      simp at this
      omega
    · rw [List.length_drop] at h4
      omega
    · rw [head_drop ha] at h4
      exact h0 ⟨Option.some.inj h4, h5⟩
/-- What the digits from a up to k spell. -/
def dvT (l : List UInt8) (a k : Nat) : Nat := dv 0 ((l.drop a).take (k - a))
theorem dvT_0 (l : List UInt8) (a : Nat) : dvT l a a = 0 := by unfold dvT; rw [Nat.sub_self]; rfl
theorem dvT_succ {l : List UInt8} {a k : Nat} (ha : a ≤ k) (hk : k < l.length) : dvT l a (k + 1) = dvT l a k * 10 + ((l.getD k 0).toNat - 48) := by
  unfold dvT
  rw [show k + 1 - a = (k - a) + 1 by omega, List.take_add_one, List.getElem?_drop, show a + (k - a) = k by omega, List.getElem?_eq_getElem hk, Option.toList_some, dv_snoc, List.getD_eq_getElem?_getD, List.getElem?_eq_getElem hk]
  rfl
theorem dvT_end {l : List UInt8} {a : Nat} : dvT l a l.length = dv 0 (l.drop a) := by
  unfold dvT
  rw [List.take_of_length_le (by rw [List.length_drop]; exact Nat.le_refl _)]
theorem dvT_lt {l : List UInt8} {a k : Nat} (hk : k ≤ l.length) (hd : ∀ j, a ≤ j → j < k → isD (l.getD j 0) = true) : dvT l a k < 10 ^ (k - a) := by
  have := dv_lt ((l.drop a).take (k - a)) 0 (by
    refine List.all_eq_true.2 fun c hc => ?_
    obtain ⟨i, hi, rfl⟩ := List.mem_iff_getElem.1 hc
    rw [List.length_take, List.length_drop] at hi
    have hi' : a + i < l.length := by omega
    have := hd (a + i) (by omega) (by omega)
    rw [List.getD_eq_getElem?_getD, List.getElem?_eq_getElem hi'] at this
    rw [List.getElem_take, List.getElem_drop]
    exact this)
  rw [List.length_take, List.length_drop] at this
  unfold dvT
  refine Nat.lt_of_lt_of_le this ?_
  rw [Nat.zero_add, Nat.one_mul]
  exact Nat.pow_le_pow_right (by decide) (by omega)
theorem dvT_10 {l : List UInt8} {a k : Nat} (hk : k ≤ l.length) (h10 : l.length - a ≤ 10) (hd : ∀ j, a ≤ j → j < k → isD (l.getD j 0) = true) : dvT l a k < 10000000000 := by
  refine Nat.lt_of_lt_of_le (dvT_lt hk hd) ?_
  exact Nat.le_trans (Nat.pow_le_pow_right (by decide) (show k - a ≤ 10 by omega)) (by decide)
/-- A text cut: the next piece, the last one. -/
theorem cut_at {c : UInt8} {l : List UInt8} {a i : Nat} (ha : a ≤ i) (hi : i < l.length) (hc : l.getD i 0 = c) (hn : ∀ j, a ≤ j → j < i → l.getD j 0 ≠ c) :
    cutAt c (l.drop a) = (l.drop a).take (i - a) :: cutAt c (l.drop (i + 1)) := by
  have e : l.drop a = (l.drop a).take (i - a) ++ c :: l.drop (i + 1) := by
    have h1 : (l.drop a).drop (i - a) = c :: l.drop (i + 1) := by
      rw [List.drop_drop, show a + (i - a) = i by omega, drop_cons hi, hc]
    rw [← h1, List.take_append_drop]
  have hno : c ∉ (l.drop a).take (i - a) := fun hm => by
    obtain ⟨j, hj, he⟩ := List.mem_iff_getElem.1 hm
    rw [List.length_take, List.length_drop] at hj
    rw [List.getElem_take, List.getElem_drop] at he
    refine hn (a + j) (by omega) (by omega) ?_
    rw [List.getD_eq_getElem?_getD, List.getElem?_eq_getElem (show a + j < l.length by omega)]
    exact he
  have := cut_app c (l.drop (i + 1)) _ hno
  rw [← e] at this
  exact this
theorem cut_end {c : UInt8} {l : List UInt8} {a : Nat} (hn : ∀ j, a ≤ j → j < l.length → l.getD j 0 ≠ c) : cutAt c (l.drop a) = [l.drop a] := by
  refine cut_one c _ fun hm => ?_
  obtain ⟨j, hj, he⟩ := List.mem_iff_getElem.1 hm
  rw [List.length_drop] at hj
  rw [List.getElem_drop] at he
  refine hn (a + j) (by omega) (by omega) ?_
  rw [List.getD_eq_getElem?_getD, List.getElem?_eq_getElem (show a + j < l.length by omega)]
  exact he
/-- The digits laid so far. -/
def decS (u : Nat) (acc : List UInt8) : List UInt8 := if u = 0 then acc else decDigits u ++ acc
theorem decS_step {u : Nat} (h : u ≠ 0) (acc : List UInt8) : decS u acc = decS (u / 10) (UInt8.ofNat (48 + u % 10) :: acc) := by
  unfold decS
  rw [if_neg h, dec_step u (by omega)]
  split <;> simp
theorem decS_end {n : Int} (h : n ≠ 0) : itoa n = (if n < 0 then [45] else []) ++ decS n.natAbs [] := by
  unfold itoa decS
  by_cases hn : n < 0
  · rw [if_pos hn, if_pos hn, if_neg (by omega)]
    simp
  · rw [if_neg hn, if_neg hn, if_neg (by omega), show n.toNat = n.natAbs by omega]
    simp
theorem itoa_0 : itoa 0 = [48] := by
  unfold itoa
  rw [if_neg (by decide)]
  exact dec_lt (by decide)
theorem trim_body (l : List UInt8) : trimPrefix l [45] = bodyOf l := by
  unfold trimPrefix hasPrefix bodyOf
  cases l with
  | nil => rfl
  | cons c r =>
    by_cases h : c = 45
    · simp [List.isPrefixOf, h]
    · simp [List.isPrefixOf, h, Ne.symm h]
/-- A part of a text. -/
theorem extract_mk (s : ByteArray) (a b : Nat) : s.extract a b = ⟨((s.data.toList.drop a).take (b - a)).toArray⟩ := by
  apply ByteArray.ext
  rw [ByteArray.data_extract]
  apply Array.ext'
  simp
end Go.Tx
end
