/- Chapter 6: the errors of a net, as the reference meets them (plain). -/
import Derived.Test.YtmohcmghbfhdlaaGreatQy
import Derived.Test.YtmohcmghbfhdlaaGreatQd
section
set_option linter.unusedSimpArgs false
set_option linter.unusedVariables false
namespace Go.Me
open Go.Ab Go.Proofs.YtmohcmghbfhdlaaGreat
set_option maxRecDepth 100000
theorem rgB_no {n a b : Int} (h : rgB n a b = false) : ¬ (a ≤ n ∧ n ≤ b) := of_decide_eq_false h
theorem rgB_ye {n a b : Int} (h : rgB n a b = true) : a ≤ n ∧ n ≤ b := of_decide_eq_true h
theorem lk_ge (ts : List T3) (k : Nat) (e : IE) : -1 ≤ lk (lf ts k) e := by
  by_cases h : e ∈ (lf ts k).map (·.1)
  · have := (lf_ix k _ (lk_mem h)).1
    simp only at this
    omega
  · rw [lk_not h]
    omega
theorem trS_pos {l : List Pn} {t : T3} : trS l t = 1 ↔ 0 < cr (pt l t.1.toNat) (pt l t.2.1.toNat) (pt l t.2.2.toNat) := by
  unfold trS sgn
  repeat' split
  all_goals omega
section
variable {l : List Pn} {ts : List T3} {k : Nat}
theorem rn_of {e : Int} (h0 : cpB l = 0) (h80 : ts.length ≤ 80) (hk : k < ts.length) (hj : ∀ j, j < k → trK l ts j = 0) (he : trK l ts k = e) (hne : e ≠ 0) : netI l ts = k ∧ netE l ts = e := by
  have := netE_t h0 h80 hk hj (by rw [he]; exact hne)
  rw [he] at this
  exact ⟨this.2, this.1⟩
theorem rn_6 (h0 : cpB l = 0) (h80 : ts.length ≤ 80) (hk : k < ts.length) (hj : ∀ j, j < k → trK l ts j = 0) (h : ¬ inR l.length (tr ts k)) : netI l ts = k ∧ netE l ts = 6 :=
  rn_of h0 h80 hk hj (by unfold trK trE; rw [if_neg h]) (by decide)
theorem rn_9 (h0 : cpB l = 0) (h80 : ts.length ≤ 80) (hk : k < ts.length) (hj : ∀ j, j < k → trK l ts j = 0) (h : inR l.length (tr ts k)) (h2 : ordB ts k) : netI l ts = k ∧ netE l ts = 9 :=
  rn_of h0 h80 hk hj (by unfold trK trE; rw [if_pos h, if_pos h2]) (by decide)
theorem ordB_not (h1 : (tr ts k).1 < (tr ts k).2.1) (h2 : (tr ts k).1 < (tr ts k).2.2) (h3 : 0 < k → bfB (tr ts (k - 1)) (tr ts k) = true) : ¬ ordB ts k := by
  unfold ordB
  rintro (h | h | ⟨h, h4⟩)
  · omega
  · omega
  · have := of_decide_eq_true (h3 h)
    rw [cmp3_anti] at this
    omega
theorem ordB_bf (h : 0 < k) (h2 : bfB (tr ts (k - 1)) (tr ts k) = false) : ordB ts k := by
  refine .inr (.inr ⟨h, ?_⟩)
  have := of_decide_eq_false h2
  rw [cmp3_anti] at this
  omega
theorem rn_13 (h0 : cpB l = 0) (h80 : ts.length ≤ 80) (hk : k < ts.length) (hj : ∀ j, j < k → trK l ts j = 0) (h : inR l.length (tr ts k)) (h2 : ¬ ordB ts k) (h3 : cr (pt l (tr ts k).1.toNat) (pt l (tr ts k).2.1.toNat) (pt l (tr ts k).2.2.toNat) ≤ 0) : netI l ts = k ∧ netE l ts = 13 :=
  rn_of h0 h80 hk hj (by unfold trK trE; rw [if_pos h, if_neg h2, if_pos (fun h4 => by have := trS_pos.1 h4; omega)]) (by decide)
theorem rn_28 (h0 : cpB l = 0) (h80 : ts.length ≤ 80) (hk : k < ts.length) (hj : ∀ j, j < k → trK l ts j = 0) (h : inR l.length (tr ts k)) (h2 : ¬ ordB ts k) (h3 : 0 < cr (pt l (tr ts k).1.toNat) (pt l (tr ts k).2.1.toNat) (pt l (tr ts k).2.2.toNat)) (h4 : 0 ≤ lk (lf ts k) ((tr ts k).1, (tr ts k).2.1) ∨ 0 ≤ lk (lf ts k) ((tr ts k).2.1, (tr ts k).2.2) ∨ 0 ≤ lk (lf ts k) ((tr ts k).2.2, (tr ts k).1)) : netI l ts = k ∧ netE l ts = 28 :=
  rn_of h0 h80 hk hj (by unfold trK trE; rw [if_pos h, if_neg h2, if_neg (fun h5 => h5 (trS_pos.2 h3)), if_pos (by omega)]) (by decide)
theorem rn_0 (h : inR l.length (tr ts k)) (h2 : ¬ ordB ts k) (h3 : 0 < cr (pt l (tr ts k).1.toNat) (pt l (tr ts k).2.1.toNat) (pt l (tr ts k).2.2.toNat)) (h4 : lk (lf ts k) ((tr ts k).1, (tr ts k).2.1) < 0) (h5 : lk (lf ts k) ((tr ts k).2.1, (tr ts k).2.2) < 0) (h6 : lk (lf ts k) ((tr ts k).2.2, (tr ts k).1) < 0) : trK l ts k = 0 := by
  have a1 := lk_ge ts k ((tr ts k).1, (tr ts k).2.1)
  have a2 := lk_ge ts k ((tr ts k).2.1, (tr ts k).2.2)
  have a3 := lk_ge ts k ((tr ts k).2.2, (tr ts k).1)
  unfold trK trE
  rw [if_pos h, if_neg h2, if_neg (fun h5 => h5 (trS_pos.2 h3)), if_neg (by omega)]
theorem lf_tri {p : IE × Int} : ∀ n, p ∈ lf ts n ↔ ∃ j : Nat, j < n ∧ p.2 = j ∧ isE (tr ts j) p.1
  | 0 => by
    unfold lf
    constructor
    · intro h; cases h
    · rintro ⟨j, h, _⟩; omega
  | n + 1 => by
    unfold lf
    simp only [List.mem_append, List.mem_singleton]
    rw [lf_tri n]
    unfold isE
    constructor
    · rintro (((⟨j, h1, h2, h3⟩ | h) | h) | h)
      · exact ⟨j, by omega, h2, h3⟩
      · exact ⟨n, by omega, by rw [h], .inl (by rw [h])⟩
      · exact ⟨n, by omega, by rw [h], .inr (.inl (by rw [h]))⟩
      · exact ⟨n, by omega, by rw [h], .inr (.inr (by rw [h]))⟩
    · rintro ⟨j, h1, h2, h3⟩
      rcases Nat.lt_or_eq_of_le (Nat.le_of_lt_succ h1) with h4 | rfl
      · exact .inl (.inl (.inl ⟨j, h4, h2, h3⟩))
      · rcases h3 with h3 | h3 | h3
        · exact .inl (.inl (.inr (Prod.ext h3 h2)))
        · exact .inl (.inr (Prod.ext h3 h2))
        · exact .inr (Prod.ext h3 h2)
def bdO (l : List Pn) (ts : List T3) (a b : Int) : Prop := lk (lfA ts) (b, a) < 0 → bdB l a.toNat b.toNat = true
theorem rn_25 (h0 : cpB l = 0) (h80 : ts.length ≤ 80) (hall : ∀ j, j < ts.length → trK l ts j = 0) (hk : k < ts.length) {a b : Int} (he : isE (tr ts k) (a, b)) (h1 : lk (lfA ts) (b, a) < 0) (h2 : bdB l a.toNat b.toNat = false) : netI l ts = 0 ∧ netE l ts = 25 := by
  have hm : ((a, b), (k : Int)) ∈ lfA ts := (lf_tri _).2 ⟨k, hk, rfl, he⟩
  have hg := lk_ge ts ts.length (b, a)
  have := netE_o h0 h80 hall (opB_yes hm (by show lk (lfA ts) (b, a) = -1; unfold lfA at *; omega) h2)
  exact ⟨this.2, this.1⟩
theorem rn_op (h : ∀ j, j < ts.length → bdO l ts (tr ts j).1 (tr ts j).2.1 ∧ bdO l ts (tr ts j).2.1 (tr ts j).2.2 ∧ bdO l ts (tr ts j).2.2 (tr ts j).1) : opB l ts = false :=
  opB_no fun p hp h1 => by
    obtain ⟨j, hj, _, h3⟩ := (lf_tri _).1 hp
    obtain ⟨a1, a2, a3⟩ := h j hj
    rcases h3 with h3 | h3 | h3
    · rw [h3] at h1 ⊢
      exact a1 (by simp only at h1; omega)
    · rw [h3] at h1 ⊢
      exact a2 (by simp only at h1; omega)
    · rw [h3] at h1 ⊢
      exact a3 (by simp only at h1; omega)
theorem rn_14 (h0 : cpB l = 0) (h80 : ts.length ≤ 80) (hall : ∀ j, j < ts.length → trK l ts j = 0) (ho : opB l ts = false) (h : ts.length = 0 ∨ arT l ts ts.length ≠ arS l (hl l) (hl l).length) : netI l ts = 0 ∧ netE l ts = 14 := by
  have hg : gpB l ts = true := by
    unfold gpB
    rcases h with h | h
    · rw [decide_eq_true h]
      simp
    · rw [decide_eq_true h]
      simp
  have := netE_g h0 h80 hall ho hg
  exact ⟨this.2, this.1⟩
def usK (ts : List T3) (i : Int) : Nat → Bool
  | 0 => false
  | k + 1 => usK ts i k || hsB (tr ts k) i
theorem usK_true {i : Int} : ∀ n, usK ts i n = true ↔ i ∈ us ts n
  | 0 => by unfold usK us; simp
  | n + 1 => by
    unfold usK us
    rw [Bool.or_eq_true, usK_true n, insL_mem, insL_mem, insL_mem]
    unfold hsB
    rw [decide_eq_true_iff, or_assoc, or_assoc]
    constructor
    · rintro (h | h | h | h)
      · exact .inl h
      · exact .inr (.inl h.symm)
      · exact .inr (.inr (.inl h.symm))
      · exact .inr (.inr (.inr h.symm))
    · rintro (h | h | h | h)
      · exact .inl h
      · exact .inr (.inl h.symm)
      · exact .inr (.inr (.inl h.symm))
      · exact .inr (.inr (.inr h.symm))
theorem rn_us (h0 : cpB l = 0) (h80 : ts.length ≤ 80) (hall : ∀ j, j < ts.length → trK l ts j = 0) (ho : opB l ts = false) {i : Nat} (hi : i < l.length) (h : usK ts i ts.length = false) : netI l ts = 0 ∧ netE l ts = 14 := by
  have hg : gpB l ts = true := by
    unfold gpB
    have : (us ts ts.length).length ≠ l.length := fun he => by
      have := (usK_true _).2 ((us_full hall).1 he i hi)
      rw [h] at this
      cases this
    rw [decide_eq_true this]
    simp
  have := netE_g h0 h80 hall ho hg
  exact ⟨this.2, this.1⟩
theorem rn_ok (h0 : cpB l = 0) (h80 : ts.length ≤ 80) (hall : ∀ j, j < ts.length → trK l ts j = 0) (ho : opB l ts = false) (h1 : 0 < ts.length) (h2 : arT l ts ts.length = arS l (hl l) (hl l).length) (h3 : ∀ i : Nat, i < l.length → usK ts i ts.length = true) : netI l ts = 0 ∧ netE l ts = 0 := by
  have hg : gpB l ts = false := by
    unfold gpB
    rw [decide_eq_false (by omega), decide_eq_false (by rw [h2]; simp), decide_eq_false]
    · rfl
    · rw [Classical.not_not]
      exact (us_full hall).2 fun i hi => (usK_true _).1 (h3 i hi)
  have hR : NetR l ts := ⟨h0, h80, hall, ho, hg⟩
  exact ⟨netI_0 (netE_0.2 hR), netE_0.2 hR⟩
end
end Go.Me
end
/- Chapter 6: the reference's check of a net whose lists lie in blocks. -/
section
set_option linter.unusedSimpArgs false
set_option linter.unusedVariables false
section
namespace Go.Proofs.YtmohcmghbfhdlaaGreat
open Go Go.RowKit Go.Ab Go.Me
set_option maxRecDepth 100000
set_option maxHeartbeats 8000000
attribute [local irreducible] OQ OW AL AW AF SW
theorem Border_z {m : Mem} {b n c : Nat} {blk : Blk} (l : List Pn) (hok : ∀ k, k < l.length → (pt l k).Ok) (x y : Int) (hx : 0 ≤ x ∧ x ≤ (l.length : Int) - 1) (hy : 0 ≤ y ∧ y ≤ (l.length : Int) - 1) (hb : m.at b = some blk) (hc : blk.cells = flatP l) (hn : l.length = n) (hl : l.length ≤ 1000000) (ho : blk.obj = Ob.plain) : PCalls Tryz.prog 76 [.slice (some ⟨b, 0, none⟩) n c, .int .i64 x, .int .i64 y] m (.bool (bdB l x.toNat y.toNat)) := by
  have h := Border_q (c := c) l hok x.toNat y.toNat (by omega) (by omega) hb hc hn hl ho
  rw [Int.toNat_of_nonneg hx.1, Int.toNat_of_nonneg hy.1] at h
  exact h
theorem rCheckNet_b (l : List Pn) (ts : List T3) (c c2 : Nat) (h0 : cpB l = 0) (h1 : 0 < ts.length) (h80 : ts.length ≤ 80) : PCalls Tryz.prog 29 [.agg #[.slice (some ⟨0, 0, none⟩) l.length c, .slice (some ⟨1, 0, none⟩) ts.length c2]] [some ⟨flatP l, false, 0⟩, some ⟨flatT ts, false, 0⟩] (.tuple #[.int .i64 (netI l ts), .int .i64 (netE l ts)]) := by
  obtain ⟨h40, hok, hap⟩ := cp_ok h0
  have hcp := fun (m : Mem) (blk : Blk) (h1 : m.at 0 = some blk) (h2 : blk.cells = flatP l) (h3 : blk.obj = Ob.plain) => rCheckPoints_q (c := c) l h1 h2 rfl (by omega) h3
  rw [h0] at hcp
  have hld := fun (k : Nat) (hk : k < l.length) (r : Mem) => flatP_ld (m := some ⟨flatP l, false, 0⟩ :: r) (b := 0) (l := l) rfl rfl k hk
  have hldT := fun (k : Nat) (hk : k < ts.length) (a : Option Blk) (r : Mem) => flatT_ld (m := a :: some ⟨flatT ts, false, 0⟩ :: r) (b := 1) (ts := ts) rfl rfl k hk
  · have hw := fun (x : Int) (m : Mem) => rWithin_q x 0 ((l.length : Int) - 1) m
    have hbf := fun (k : Nat) (m : Mem) => before_q (tr ts ((k : Int) - 1).toNat) (tr ts k) m
    have hA := fun (a b d : Int) (ha : 0 ≤ a ∧ a ≤ (l.length : Int) - 1) (hb : 0 ≤ b ∧ b ≤ (l.length : Int) - 1) (hd : 0 ≤ d ∧ d ≤ (l.length : Int) - 1) (m : Mem) => Area_q (hok a.toNat (by omega)) (hok b.toNat (by omega)) (hok d.toNat (by omega)) m
    have hh := fun (n : Nat) (hn : n ≤ ts.length) (a b : Int) (m : Mem) (blk : Blk) (h1 : m.at 1 = some blk) (h2 : blk.cells = flatT ts) (h3 : blk.obj = Ob.plain) => has_q (c := c2) ts hn (by omega) a b h1 h2 h3
    have hhA : ∀ (a b : Int) (m : Mem) (blk : Blk) (h1 : m.at 1 = some blk) (h2 : blk.cells = flatT ts) (h3 : blk.obj = Ob.plain), PCalls Tryz.prog 75 [.slice (some ⟨1, 0, none⟩) ts.length c2, .int .i64 a, .int .i64 b] m (.int .i64 (lk (lfA ts) (a, b))) := fun a b m blk h1 h2 h3 => hh ts.length (Nat.le_refl _) a b m blk h1 h2 h3
    have hbo := fun (x y : Int) (hx : 0 ≤ x ∧ x ≤ (l.length : Int) - 1) (hy : 0 ≤ y ∧ y ≤ (l.length : Int) - 1) (m : Mem) (blk : Blk) (h1 : m.at 0 = some blk) (h2 : blk.cells = flatP l) (h3 : blk.obj = Ob.plain) => Border_z (c := c) l hok x y hx hy h1 h2 rfl (by omega) h3
    have hHA := fun (m : Mem) (blk : Blk) (h1 : m.at 0 = some blk) (h2 : blk.cells = flatP l) (h3 : blk.obj = Ob.plain) => HullArea_q (c := c) l h0 h1 h2 rfl h3
    have hHs := fun (k : Nat) (hk : k < ts.length) (n : Int) (c : Nat) (m : Mem) (blk : Blk) (h1 : m.at 1 = some blk) (h2 : blk.cells = flatT ts) (h3 : blk.obj = Ob.plain) => Has_q (c := c) ts hk n (by omega) h1 h2 h3
    have hrt : ∀ {x : Int}, rgB x 0 ((l.length : Int) - 1) = true → 0 ≤ x ∧ x ≤ (l.length : Int) - 1 := fun h => rgB_ye h
    have hcb : ∀ a b d : Int, 0 ≤ a ∧ a ≤ (l.length : Int) - 1 → 0 ≤ b ∧ b ≤ (l.length : Int) - 1 → 0 ≤ d ∧ d ≤ (l.length : Int) - 1 → -800000000 ≤ cr (pt l a.toNat) (pt l b.toNat) (pt l d.toNat) ∧ cr (pt l a.toNat) (pt l b.toNat) (pt l d.toNat) ≤ 800000000 := fun a b d ha hb hd => by
      have := cr_bd (hok a.toNat (by omega)) (hok b.toNat (by omega)) (hok d.toNat (by omega))
      unfold cr
      omega
    have hab := fun k (hj : ∀ j, j < k → trK l ts j = 0) => arT_bd (l := l) (ts := ts) hok k hj
    have has : ∀ k, arT l ts (k + 1) = arT l ts k + cr (pt l (tr ts k).1.toNat) (pt l (tr ts k).2.1.toNat) (pt l (tr ts k).2.2.toNat) := fun k => by
      show arT l ts k + arS l _ 3 = _
      rw [arS_3]
    have ht1 : ∀ k : Nat, ((k : Int) - 1).toNat = k - 1 := fun k => by omega
    have F6 : ∀ k, k < ts.length → (∀ j, j < k → trK l ts j = 0) → (rgB (tr ts k).1 0 ((l.length : Int) - 1) = false ∨ rgB (tr ts k).2.1 0 ((l.length : Int) - 1) = false ∨ rgB (tr ts k).2.2 0 ((l.length : Int) - 1) = false) → netI l ts = k ∧ netE l ts = 6 := fun k hk hj h => rn_6 h0 h80 hk hj (fun h2 => by
      unfold inR at h2
      rcases h with h | h | h
      · exact rgB_no h h2.1
      · exact rgB_no h h2.2.1
      · exact rgB_no h h2.2.2)
    have F9 : ∀ k, k < ts.length → (∀ j, j < k → trK l ts j = 0) → (0 ≤ (tr ts k).1 ∧ (tr ts k).1 ≤ (l.length : Int) - 1) → (0 ≤ (tr ts k).2.1 ∧ (tr ts k).2.1 ≤ (l.length : Int) - 1) → (0 ≤ (tr ts k).2.2 ∧ (tr ts k).2.2 ≤ (l.length : Int) - 1) → ((tr ts k).2.1 ≤ (tr ts k).1 ∨ (tr ts k).2.2 ≤ (tr ts k).1) → netI l ts = k ∧ netE l ts = 9 := fun k hk hj a b d h => rn_9 h0 h80 hk hj ⟨a, b, d⟩ (by unfold ordB; omega)
    have F9b : ∀ k, k < ts.length → (∀ j, j < k → trK l ts j = 0) → (0 ≤ (tr ts k).1 ∧ (tr ts k).1 ≤ (l.length : Int) - 1) → (0 ≤ (tr ts k).2.1 ∧ (tr ts k).2.1 ≤ (l.length : Int) - 1) → (0 ≤ (tr ts k).2.2 ∧ (tr ts k).2.2 ≤ (l.length : Int) - 1) → 0 < k → bfB (tr ts ((k : Int) - 1).toNat) (tr ts k) = false → netI l ts = k ∧ netE l ts = 9 := fun k hk hj a b d h h2 => rn_9 h0 h80 hk hj ⟨a, b, d⟩ (ordB_bf h (by rw [← ht1]; exact h2))
    have F13 : ∀ k, k < ts.length → (∀ j, j < k → trK l ts j = 0) → (0 ≤ (tr ts k).1 ∧ (tr ts k).1 ≤ (l.length : Int) - 1) → (0 ≤ (tr ts k).2.1 ∧ (tr ts k).2.1 ≤ (l.length : Int) - 1) → (0 ≤ (tr ts k).2.2 ∧ (tr ts k).2.2 ≤ (l.length : Int) - 1) → (tr ts k).1 < (tr ts k).2.1 → (tr ts k).1 < (tr ts k).2.2 → (0 < k → bfB (tr ts ((k : Int) - 1).toNat) (tr ts k) = true) → cr (pt l (tr ts k).1.toNat) (pt l (tr ts k).2.1.toNat) (pt l (tr ts k).2.2.toNat) ≤ 0 → netI l ts = k ∧ netE l ts = 13 := fun k hk hj a b d h h2 h3 h4 => rn_13 h0 h80 hk hj ⟨a, b, d⟩ (ordB_not h h2 (by rw [← ht1]; exact h3)) h4
    have F28 : ∀ k, k < ts.length → (∀ j, j < k → trK l ts j = 0) → (0 ≤ (tr ts k).1 ∧ (tr ts k).1 ≤ (l.length : Int) - 1) → (0 ≤ (tr ts k).2.1 ∧ (tr ts k).2.1 ≤ (l.length : Int) - 1) → (0 ≤ (tr ts k).2.2 ∧ (tr ts k).2.2 ≤ (l.length : Int) - 1) → (tr ts k).1 < (tr ts k).2.1 → (tr ts k).1 < (tr ts k).2.2 → (0 < k → bfB (tr ts ((k : Int) - 1).toNat) (tr ts k) = true) → 0 < cr (pt l (tr ts k).1.toNat) (pt l (tr ts k).2.1.toNat) (pt l (tr ts k).2.2.toNat) → (0 ≤ lk (lf ts k) ((tr ts k).1, (tr ts k).2.1) ∨ 0 ≤ lk (lf ts k) ((tr ts k).2.1, (tr ts k).2.2) ∨ 0 ≤ lk (lf ts k) ((tr ts k).2.2, (tr ts k).1)) → netI l ts = k ∧ netE l ts = 28 := fun k hk hj a b d h h2 h3 h4 h5 => rn_28 h0 h80 hk hj ⟨a, b, d⟩ (ordB_not h h2 (by rw [← ht1]; exact h3)) h4 h5
    have F0 : ∀ k, (0 ≤ (tr ts k).1 ∧ (tr ts k).1 ≤ (l.length : Int) - 1) → (0 ≤ (tr ts k).2.1 ∧ (tr ts k).2.1 ≤ (l.length : Int) - 1) → (0 ≤ (tr ts k).2.2 ∧ (tr ts k).2.2 ≤ (l.length : Int) - 1) → (tr ts k).1 < (tr ts k).2.1 → (tr ts k).1 < (tr ts k).2.2 → (0 < k → bfB (tr ts ((k : Int) - 1).toNat) (tr ts k) = true) → 0 < cr (pt l (tr ts k).1.toNat) (pt l (tr ts k).2.1.toNat) (pt l (tr ts k).2.2.toNat) → lk (lf ts k) ((tr ts k).1, (tr ts k).2.1) < 0 → lk (lf ts k) ((tr ts k).2.1, (tr ts k).2.2) < 0 → lk (lf ts k) ((tr ts k).2.2, (tr ts k).1) < 0 → trK l ts k = 0 := fun k a b d h h2 h3 h4 h5 h6 h7 => rn_0 ⟨a, b, d⟩ (ordB_not h h2 (by rw [← ht1]; exact h3)) h4 h5 h6 h7
    have hin : ∀ k, trK l ts k = 0 → (0 ≤ (tr ts k).1 ∧ (tr ts k).1 ≤ (l.length : Int) - 1) ∧ (0 ≤ (tr ts k).2.1 ∧ (tr ts k).2.1 ≤ (l.length : Int) - 1) ∧ (0 ≤ (tr ts k).2.2 ∧ (tr ts k).2.2 ≤ (l.length : Int) - 1) := fun k h => (trK_0 h).1
    have F25 : ∀ k, (∀ j, j < ts.length → trK l ts j = 0) → k < ts.length → ((lk (lfA ts) ((tr ts k).2.1, (tr ts k).1) < 0 ∧ bdB l (tr ts k).1.toNat (tr ts k).2.1.toNat = false) ∨ (lk (lfA ts) ((tr ts k).2.2, (tr ts k).2.1) < 0 ∧ bdB l (tr ts k).2.1.toNat (tr ts k).2.2.toNat = false) ∨ (lk (lfA ts) ((tr ts k).1, (tr ts k).2.2) < 0 ∧ bdB l (tr ts k).2.2.toNat (tr ts k).1.toNat = false)) → netI l ts = 0 ∧ netE l ts = 25 := fun k hall hk h => by
      rcases h with h | h | h
      · exact rn_25 h0 h80 hall hk (.inl rfl) h.1 h.2
      · exact rn_25 h0 h80 hall hk (.inr (.inl rfl)) h.1 h.2
      · exact rn_25 h0 h80 hall hk (.inr (.inr rfl)) h.1 h.2
    have F14 : (∀ j, j < ts.length → trK l ts j = 0) → opB l ts = false → arT l ts ts.length ≠ arS l (hl l) (hl l).length → netI l ts = 0 ∧ netE l ts = 14 := fun hall ho h => rn_14 h0 h80 hall ho (.inr h)
    have Fus : (∀ j, j < ts.length → trK l ts j = 0) → opB l ts = false → ∀ i : Nat, i < l.length → usK ts i ts.length = false → netI l ts = 0 ∧ netE l ts = 14 := fun hall ho i hi h => rn_us h0 h80 hall ho hi h
    have Fok : (∀ j, j < ts.length → trK l ts j = 0) → opB l ts = false → arT l ts ts.length = arS l (hl l) (hl l).length → (∀ i : Nat, i < l.length → usK ts i ts.length = true) → netI l ts = 0 ∧ netE l ts = 0 := fun hall ho h h3 => rn_ok h0 h80 hall ho h1 h h3
    have hop := @rn_op l ts
    have hu1 : ∀ (i : Int) (k : Nat), usK ts i k = true → usK ts i (k + 1) = true := fun i k h => by
      show (usK ts i k || _) = true
      rw [h]; rfl
    have hu2 : ∀ (i : Int) (k : Nat), usK ts i k = false → usK ts i (k + 1) = hsB (tr ts k) i := fun i k h => by
      show (usK ts i k || _) = _
      rw [h, Bool.false_or]
    have hz0 : arT l ts 0 = 0 := rfl
    generalize cpA l = A0 at *
    generalize netE l ts = E0 at *
    generalize netI l ts = I0 at *
    generalize arS l (hl l) (hl l).length = AS at *
    refine PCalls.enJ 205 Tryz.func29 rfl (ro2p _ _ rfl rfl) rfl (fun E hE => ?_)
    repeat' (first | with_reducible (first | refine Then.n ?_ | refine Then.r ?_ | refine Then.x ?_ | refine InB.n ?_ | refine InB.r ?_ | refine InB.hit ?_ | refine InB.miss (by decide) ?_) | ((with_reducible refine AL.on ?_); first | (refine AL.gd rfl ?_; first | (refine AL.gskip rfl rfl ?_; (refine AL.nm ?_)) | (refine AL.gs1 rfl rfl (fun hc => ?_) (fun hc => ?_) <;> (try replace hc := nc hc) <;> first | (exfalso; first | contradiction | (first | omega | (simp at hc; done)); done) | (refine AL.nm ?_)) | (refine AL.gs0 rfl rfl (fun hc => ?_) (fun hc => ?_) <;> (try replace hc := nc hc) <;> first | (exfalso; first | contradiction | (first | omega | (simp at hc; done)); done) | (refine AL.nm ?_))) | ((first | ((with_reducible refine AL.k_move ?_); first | (refine AL.q rfl (OQ.move wl) ?_)) | ((with_reducible refine AL.k_assign ?_); first | (refine AL.q rfl (OQ.assign wl) ?_)) | ((with_reducible refine AL.k_load ?_); first | (refine AL.q rfl (OQ.load1 (ty := 22) rfl kr (by first | (first | exact hldT _ (by omega) _ _ | exact hld _ (by omega) _) | (conv => lhs; whnf))) ?_) | (refine AL.q rfl (OQ.load1 (ty := 23) rfl kr (by first | (first | exact hldT _ (by omega) _ _ | exact hld _ (by omega) _) | (conv => lhs; whnf))) ?_) | refine AL.q rfl (OQ.loadN (ty := 62) (n := 3) rfl kr kr (by first | (first | exact hldT _ (by omega) _ _ | exact hld _ (by omega) _) | rfl)) ?_) | ((with_reducible refine AL.k_binOp ?_); first | refine AL.q rfl (OQ.neq rfl rfl) ?_ | refine AL.q rfl (OQ.gtr rfl rfl) ?_ | refine AL.q rfl (OQ.lss rfl rfl) ?_ | refine AL.q rfl (OQ.addi rfl rfl (by omega)) ?_ | refine AL.q rfl (OQ.add rfl rfl) ?_ | refine AL.q rfl (OQ.leq rfl rfl) ?_ | refine AL.q rfl (OQ.geq rfl rfl) ?_ | refine AL.q rfl (OQ.eql rfl rfl) ?_) | ((with_reducible refine AL.k_call ?_); first | refine AL.q rfl (OQ.lenS (xt := 23) (r := (none, 3, true)) rfl kr) ?_ | refine AL.q rfl (OQ.lenS (xt := 22) (r := (none, 2, true)) rfl kr) ?_) | ((with_reducible refine AL.k_pick ?_); first | (refine AL.q rfl (OQ.pickT rfl (by with_reducible rfl) wl) ?_) | (refine AL.q rfl (OQ.pickF rfl (by with_reducible rfl) wl) ?_)) | ((with_reducible refine AL.k_unOp ?_); first | refine AL.q rfl (OQ.not rfl) ?_) | ((with_reducible refine AL.k_extract ?_); first | refine AL.q rfl (OQ.extract rfl rfl) ?_) | refine AL.q rfl (by first | exact OQ.sliceTo (ty := 23) (k := k) (z := 3) (g := true) rfl kr rfl (.inl rfl) rfl rfl (by omega) | exact OQ.sliceA (ty := 62) (n := 3) (z := 1) (g := false) (l := 0) (h := 3) rfl kr rfl rfl rfl rfl (by decide) (by decide) (by decide)) ?_); (refine AL.nm ?_)) | ((first | ((with_reducible refine AL.k_fieldAddr ?_); first | refine AL.q rfl (OQ.fieldA (ty := 25) (i := 0) (n := 1) (off := 0) (g := false) rfl kr (by decide)) ?_ | refine AL.q rfl (OQ.fieldA (ty := 25) (i := 1) (n := 1) (off := 1) (g := false) rfl kr (by decide)) ?_) | ((with_reducible refine AL.k_indexAddr ?_); first | refine AL.q rfl (OQ.idxAddr (ty := 23) (z := 3) (g := true) rfl rfl kr (by first | omega | decide) (by first | omega | decide)) ?_) | ((with_reducible refine AL.k_call ?_); first | refine AL.pcall (g := 59) rfl kr rfl ((by exact hcp _ _ rfl rfl rfl)) ?_ | refine AL.pcall (g := 69) rfl kr rfl (hw _ _) ?_ | refine AL.pcall (g := 73) rfl kr rfl ((by exact hbf _ _)) ?_ | refine AL.pcall (g := 74) rfl kr rfl ((by exact hA _ _ _ (by omega) (by omega) (by omega) _)) ?_ | refine AL.pcall (g := 75) rfl kr rfl ((by first | exact hh k (by omega) _ _ _ _ rfl rfl rfl | exact hhA _ _ _ _ rfl rfl rfl)) ?_ | refine AL.pcall (g := 76) rfl kr rfl ((by exact hbo _ _ (by omega) (by omega) _ _ rfl rfl rfl)) ?_ | refine AL.pcall (g := 77) rfl kr rfl ((by exact hHA _ _ rfl rfl rfl)) ?_ | refine AL.pcall (g := 78) rfl kr rfl ((by exact hHs _ (by omega) _ _ _ _ rfl rfl rfl)) ?_)); (refine AL.nm ?_)) | ((first | ((with_reducible refine AL.k_alloc ?_); first | refine AL.w rfl (OW.alloc (ty := 62) (z := [.int .i64 0, .int .i64 0, .int .i64 0]) kr rfl) ?_) | ((with_reducible refine AL.k_store ?_); first | (refine AL.w rfl (OW.store (ty := 62) (n := 3) rfl wl rfl rfl kr rfl rfl (by decide) rfl (Nat.le_of_ble_eq_true rfl) (by intro r h; cases h)) ?_)) | ((with_reducible refine AL.k_box ?_); first | (refine AL.w rfl (OW.box wl (by intro r h; cases h)) ?_))); (refine AL.nm ?_); (refine AL.nM ?_)) | (refine AL.bs rfl (fun hc => ?_) (fun hc => ?_) <;> (fail_if_success (with_reducible exact lit_no hc)) <;> (try replace hc := nc hc) <;> first | (exfalso; first | contradiction | (first | omega | (simp at hc; done)); done) | (refine AL.nm ?_)) | refine AL.nil ?_) | ((with_reducible refine AW.on ?_); first | refine AW.seq ?_ | refine AW.skip ?_ | refine AW.exit ?_ | refine AW.ret ?_ | ((refine AW.block (id := 0) ?_); (refine AW.fk [1, 6, 7] ?_); (refine AW.loop (fun n' t' m => ∃ k : Nat, n' = ts.length - k ∧ k ≤ ts.length ∧ (∀ j, j < k → trK l ts j = 0) ∧ t' = [jk, .pointer (some ⟨2, 0, none⟩), jk, jk, jk, jk, .int .i64 (arT l ts k), .int .i64 (k), jk, jk, jk, jk, jk, jk, jk, jk, jk, jk, jk, jk, jk, jk, jk, jk, jk, jk, jk, jk, jk, jk, jk, jk, jk, jk, jk, jk, jk, jk, jk, jk, jk, jk, jk, jk, jk, jk, jk, jk, jk, jk, jk, jk, jk, jk, jk, jk, jk, jk, jk, jk, jk, jk, jk, jk, jk, jk, jk, jk, jk, jk, jk, jk, jk, jk, jk, jk, jk, jk, jk, jk, jk, jk, jk, jk, jk, jk, jk, jk, jk, jk, jk, jk, jk, jk, jk, jk, jk, jk, jk, jk, jk, jk, jk, jk, jk, jk, jk, jk, jk, jk, jk, jk, jk, jk, jk, jk, jk, jk, jk, jk, jk, jk, jk, jk, jk, jk, jk, jk, jk, jk, jk, jk, jk, jk, jk, jk, jk, jk, jk, jk, jk, jk, jk, jk, jk, jk, jk, jk, jk, jk, jk, jk, jk, jk, jk, jk, jk, jk, jk, jk, jk, jk, jk, jk, jk, jk, jk, jk, jk, jk, jk, jk, jk, jk, jk, jk, jk, jk, jk, jk, jk, jk, jk, jk, jk, jk, jk, jk, jk, jk, jk, jk, jk, jk, jk, jk, jk, jk, jk, jk, jk, jk, jk, jk, jk, jk] ∧ m = [some ⟨flatP l, false, 0⟩, some ⟨flatT ts, false, 0⟩, some ⟨[.slice (some ⟨0, 0, none⟩) l.length c, .slice (some ⟨1, 0, none⟩) ts.length c2], true, 0⟩]) (ts.length) (by exact ⟨0, rfl, Nat.zero_le _, fun j h => absurd h (by omega), by rw [hz0]; rfl, rfl⟩) ?_); (rintro n' t' m ⟨k, rfl, hk, hj, rfl, rfl⟩)) | (refine AW.block (id := 2) ?_; refine AW.unroll 4 ?_) | (refine AW.block (id := 4) ?_; refine AW.unroll 4 ?_) | ((refine AW.block (id := 6) ?_); (refine AW.fk [1, 6, 12] ?_); (refine AW.loop (fun n' t' m => ∃ k4 : Nat, n' = ts.length - k4 ∧ k4 ≤ ts.length ∧ (∀ j, j < ts.length → trK l ts j = 0) ∧ (∀ j, j < k4 → bdO l ts (tr ts j).1 (tr ts j).2.1 ∧ bdO l ts (tr ts j).2.1 (tr ts j).2.2 ∧ bdO l ts (tr ts j).2.2 (tr ts j).1) ∧ t' = [jk, .pointer (some ⟨2, 0, none⟩), jk, jk, jk, jk, .int .i64 (arT l ts ts.length), jk, jk, jk, jk, jk, .int .i64 (k4), jk, jk, jk, jk, jk, jk, jk, jk, jk, jk, jk, jk, jk, jk, jk, jk, jk, jk, jk, jk, jk, jk, jk, jk, jk, jk, jk, jk, jk, jk, jk, jk, jk, jk, jk, jk, jk, jk, jk, jk, jk, jk, jk, jk, jk, jk, jk, jk, jk, jk, jk, jk, jk, jk, jk, jk, jk, jk, jk, jk, jk, jk, jk, jk, jk, jk, jk, jk, jk, jk, jk, jk, jk, jk, jk, jk, jk, jk, jk, jk, jk, jk, jk, jk, jk, jk, jk, jk, jk, jk, jk, jk, jk, jk, jk, jk, jk, jk, jk, jk, jk, jk, jk, jk, jk, jk, jk, jk, jk, jk, jk, jk, jk, jk, jk, jk, jk, jk, jk, jk, jk, jk, jk, jk, jk, jk, jk, jk, jk, jk, jk, jk, jk, jk, jk, jk, jk, jk, jk, jk, jk, jk, jk, jk, jk, jk, jk, jk, jk, jk, jk, jk, jk, jk, jk, jk, jk, jk, jk, jk, jk, jk, jk, jk, jk, jk, jk, jk, jk, jk, jk, jk, jk, jk, jk, jk, jk, jk, jk, jk, jk, jk, jk, jk, jk, jk, jk, jk, jk, jk, jk, jk, jk] ∧ m = [some ⟨flatP l, false, 0⟩, some ⟨flatT ts, false, 0⟩, some ⟨[.slice (some ⟨0, 0, none⟩) l.length c, .slice (some ⟨1, 0, none⟩) ts.length c2], true, 0⟩]) (ts.length) (by (obtain rfl : k = ts.length := (by omega); exact ⟨0, rfl, Nat.zero_le _, hj, fun j h => absurd h (by omega), rfl, rfl⟩)) ?_); (rintro n' t' m ⟨k4, rfl, hk4, hall, hb4, rfl, rfl⟩)) | (refine AW.block (id := 8) ?_; refine AW.unroll 4 ?_) | ((refine AW.block (id := 10) ?_); (refine AW.fk [1, 17] ?_); (refine AW.loop (fun n' t' m => ∃ k6 : Nat, n' = l.length - k6 ∧ k6 ≤ l.length ∧ opB l ts = false ∧ (∀ i : Nat, i < k6 → usK ts i ts.length = true) ∧ t' = [jk, .pointer (some ⟨2, 0, none⟩), jk, jk, jk, jk, jk, jk, jk, jk, jk, jk, jk, jk, jk, jk, jk, .int .i64 (k6), jk, jk, jk, jk, jk, jk, jk, jk, jk, jk, jk, jk, jk, jk, jk, jk, jk, jk, jk, jk, jk, jk, jk, jk, jk, jk, jk, jk, jk, jk, jk, jk, jk, jk, jk, jk, jk, jk, jk, jk, jk, jk, jk, jk, jk, jk, jk, jk, jk, jk, jk, jk, jk, jk, jk, jk, jk, jk, jk, jk, jk, jk, jk, jk, jk, jk, jk, jk, jk, jk, jk, jk, jk, jk, jk, jk, jk, jk, jk, jk, jk, jk, jk, jk, jk, jk, jk, jk, jk, jk, jk, jk, jk, jk, jk, jk, jk, jk, jk, jk, jk, jk, jk, jk, jk, jk, jk, jk, jk, jk, jk, jk, jk, jk, jk, jk, jk, jk, jk, jk, jk, jk, jk, jk, jk, jk, jk, jk, jk, jk, jk, jk, jk, jk, jk, jk, jk, jk, jk, jk, jk, jk, jk, jk, jk, jk, jk, jk, jk, jk, jk, jk, jk, jk, jk, jk, jk, jk, jk, jk, jk, jk, jk, jk, jk, jk, jk, jk, jk, jk, jk, jk, jk, jk, jk, jk, jk, jk, jk, jk, jk, jk, jk, jk, jk, jk, jk, jk] ∧ m = [some ⟨flatP l, false, 0⟩, some ⟨flatT ts, false, 0⟩, some ⟨[.slice (some ⟨0, 0, none⟩) l.length c, .slice (some ⟨1, 0, none⟩) ts.length c2], true, 0⟩]) (l.length) (by (obtain rfl : k4 = ts.length := (by omega); exact ⟨0, rfl, Nat.zero_le _, hop hb4, fun j h => absurd h (by omega), rfl, rfl⟩)) ?_); (rintro n' t' m ⟨k6, rfl, hk6, hopB, hu6, rfl, rfl⟩)) | ((refine AW.block (id := 12) ?_); (refine AW.fk [1, 17, 18, 19] ?_); (refine AW.loop (fun n' t' m => ∃ k7 : Nat, n' = ts.length - k7 ∧ k7 ≤ ts.length ∧ t' = [jk, .pointer (some ⟨2, 0, none⟩), jk, jk, jk, jk, jk, jk, jk, jk, jk, jk, jk, jk, jk, jk, jk, .int .i64 (k6), .bool (usK ts k6 k7), .int .i64 (k7), jk, jk, jk, jk, jk, jk, jk, jk, jk, jk, jk, jk, jk, jk, jk, jk, jk, jk, jk, jk, jk, jk, jk, jk, jk, jk, jk, jk, jk, jk, jk, jk, jk, jk, jk, jk, jk, jk, jk, jk, jk, jk, jk, jk, jk, jk, jk, jk, jk, jk, jk, jk, jk, jk, jk, jk, jk, jk, jk, jk, jk, jk, jk, jk, jk, jk, jk, jk, jk, jk, jk, jk, jk, jk, jk, jk, jk, jk, jk, jk, jk, jk, jk, jk, jk, jk, jk, jk, jk, jk, jk, jk, jk, jk, jk, jk, jk, jk, jk, jk, jk, jk, jk, jk, jk, jk, jk, jk, jk, jk, jk, jk, jk, jk, jk, jk, jk, jk, jk, jk, jk, jk, jk, jk, jk, jk, jk, jk, jk, jk, jk, jk, jk, jk, jk, jk, jk, jk, jk, jk, jk, jk, jk, jk, jk, jk, jk, jk, jk, jk, jk, jk, jk, jk, jk, jk, jk, jk, jk, jk, jk, jk, jk, jk, jk, jk, jk, jk, jk, jk, jk, jk, jk, jk, jk, jk, jk, jk, jk, jk, jk, jk, jk, jk, jk, jk] ∧ m = [some ⟨flatP l, false, 0⟩, some ⟨flatT ts, false, 0⟩, some ⟨[.slice (some ⟨0, 0, none⟩) l.length c, .slice (some ⟨1, 0, none⟩) ts.length c2], true, 0⟩]) (ts.length) (by exact ⟨0, rfl, Nat.zero_le _, rfl, rfl⟩) ?_); (rintro n' t' m ⟨k7, rfl, hk7, rfl, rfl⟩)) | refine AW.block ?_ | (refine AW.drawF (id := 14) 7 #[0, 1, 3, 0, 8, 24, 56, 127, 255] kr kr ?_; (conv => (arg 8; simp only [List.take_succ_cons, List.take_zero]))) | (refine AW.drawF (id := 16) 23 #[0, 1, 0, 4, 15, 31, 63, 127, 63, 319, 1023, 2047, 4095, 8191, 16383, 32767, 65535, 131071, 65535, 327679, 1048575, 2097151, 65535, 8388607, 16777215, 33554431, 67108863] kr kr ?_; (conv => (arg 8; simp only [List.take_succ_cons, List.take_zero])); ((have q1 := hrt (x := (tr ts k).1) (by assumption); have q2 := hrt (x := (tr ts k).2.1) (by assumption); have q3 := hrt (x := (tr ts k).2.2) (by assumption)))) | (refine AW.drawF (id := 18) 18 #[0, 1, 0, 4, 15, 31, 0, 64, 0, 256, 960, 1984, 0, 4096, 0, 16384, 61440, 126976, 262143, 524287] kr kr ?_; (conv => (arg 8; simp only [List.take_succ_cons, List.take_zero]))) | (refine AW.drawF (id := 24) 12 #[0, 1, 0, 7, 0, 16, 48, 0, 128, 384, 896, 1920, 4095, 8191] kr kr ?_; (conv => (arg 8; simp only [List.take_succ_cons, List.take_zero]))) | (refine AW.drawF (id := 34) 9 #[0, 1, 3, 0, 8, 24, 56, 120, 7, 511] kr kr ?_; (conv => (arg 8; simp only [List.take_succ_cons, List.take_zero]))) | (refine AW.region (id := 26) ?_; ((have q4 := hcb _ _ _ q1 q2 q3; have q5 := hab k hj))) | (refine AW.region (id := 30) ?_; ((have q1 := (hin k4 (hall k4 (by omega))).1; have q2 := (hin k4 (hall k4 (by omega))).2.1; have q3 := (hin k4 (hall k4 (by omega))).2.2))) | refine AW.region ?_ | (refine AW.conds rfl (fun hc => ?_) (fun hc => ?_) <;> (try replace hc := nc hc) <;> first | (exfalso; first | contradiction | (first | omega | (simp at hc; done)); done) | skip)) | ((with_reducible refine AF.on ?_); first | (refine AF.q 0 (SW.skip rfl rfl) ?_; (conv => (arg 9; try tactic => exact nrmF)); (conv => (arg 11; try simp only [List.nil_append, List.cons_append]))) | ((first | refine AF.q 0 (SW.no1 rfl rfl (by with_reducible rfl)) ?_ | refine AF.q 0 (SW.no0 rfl rfl (by with_reducible rfl)) ?_); (conv => (arg 9; try tactic => exact nrmF)); (conv => (arg 11; try simp only [List.nil_append, List.cons_append]))) | ((first | ((with_reducible refine AF.k_move ?_); first | (refine AF.q 0 (SW.q (OQ.move wl) rfl) ?_) | (refine AF.q 0 (SW.yes (SW.q (OQ.move wl) rfl) rfl rfl (by with_reducible rfl)) ?_)) | ((with_reducible refine AF.k_assign ?_); first | (refine AF.q 0 (SW.q (OQ.assign wl) rfl) ?_)) | ((with_reducible refine AF.k_load ?_); first | (refine AF.ql rfl (SW.q (OQ.load1 (ty := 3) rfl kr (by first | (first | exact hldT _ (by omega) _ _ | exact hld _ (by omega) _) | (conv => lhs; whnf))) rfl) ?_) | (refine AF.ql rfl (SW.q (OQ.load1 (ty := 22) rfl kr (by first | (first | exact hldT _ (by omega) _ _ | exact hld _ (by omega) _) | (conv => lhs; whnf))) rfl) ?_) | (refine AF.ql rfl (SW.yes (SW.q (OQ.load1 (ty := 3) rfl kr (by first | (first | exact hldT _ (by omega) _ _ | exact hld _ (by omega) _) | (conv => lhs; whnf))) rfl) rfl rfl (by with_reducible rfl)) ?_) | (refine AF.ql rfl (SW.yes (SW.q (OQ.load1 (ty := 23) rfl kr (by first | (first | exact hldT _ (by omega) _ _ | exact hld _ (by omega) _) | (conv => lhs; whnf))) rfl) rfl rfl (by with_reducible rfl)) ?_) | refine AF.ql rfl (SW.yes (SW.q (OQ.loadN (ty := 62) (n := 3) rfl kr kr (by first | (first | exact hldT _ (by omega) _ _ | exact hld _ (by omega) _) | rfl)) rfl) rfl rfl (by with_reducible rfl)) ?_ | refine AF.ql rfl (SW.q (OQ.loadN (ty := 65) (n := 2) rfl kr kr (by first | (first | exact hldT _ (by omega) _ _ | exact hld _ (by omega) _) | rfl)) rfl) ?_ | (refine AF.ql rfl (SW.q (OQ.load1 (ty := 23) rfl kr (by first | (first | exact hldT _ (by omega) _ _ | exact hld _ (by omega) _) | (conv => lhs; whnf))) rfl) ?_)) | ((with_reducible refine AF.k_binOp ?_); first | refine AF.q 0 (SW.q (OQ.subi rfl rfl (by omega)) rfl) ?_ | refine AF.q 0 (SW.q (OQ.sub rfl rfl) rfl) ?_ | refine AF.q 0 (SW.q (OQ.geq rfl rfl) rfl) ?_ | refine AF.q 0 (SW.yes (SW.q (OQ.geq rfl rfl) rfl) rfl rfl (by with_reducible rfl)) ?_ | refine AF.q 0 (SW.yes (SW.q (OQ.gtr rfl rfl) rfl) rfl rfl (by with_reducible rfl)) ?_ | refine AF.q 0 (SW.yes (SW.q (OQ.subi rfl rfl (by omega)) rfl) rfl rfl (by with_reducible rfl)) ?_ | refine AF.q 0 (SW.yes (SW.q (OQ.sub rfl rfl) rfl) rfl rfl (by with_reducible rfl)) ?_ | refine AF.q 0 (SW.q (OQ.addi rfl rfl (by omega)) rfl) ?_ | refine AF.q 0 (SW.q (OQ.add rfl rfl) rfl) ?_ | refine AF.q 0 (SW.q (OQ.rem rfl rfl (by omega)) rfl) ?_) | ((with_reducible refine AF.k_indexAddr ?_); first | refine AF.q 0 (SW.q (OQ.idxPtr (ty := 62) (n := 1) (l := 3) (g := false) rfl rfl kr (by first | omega | decide) (by first | omega | decide)) rfl) ?_ | refine AF.q 0 (SW.yes (SW.q (OQ.idxPtr (ty := 62) (n := 1) (l := 3) (g := false) rfl rfl kr (by first | omega | decide) (by first | omega | decide)) rfl) rfl rfl (by with_reducible rfl)) ?_ | refine AF.q 0 (SW.yes (SW.q (OQ.idxAddr (ty := 23) (z := 3) (g := true) rfl rfl kr (by first | omega | decide) (by first | omega | decide)) rfl) rfl rfl (by with_reducible rfl)) ?_ | refine AF.q 0 (SW.q (OQ.idxAddr (ty := 22) (z := 2) (g := true) rfl rfl kr (by first | omega | decide) (by first | omega | decide)) rfl) ?_) | ((with_reducible refine AF.k_fieldAddr ?_); first | refine AF.q 0 (SW.q (OQ.fieldA (ty := 25) (i := 0) (n := 1) (off := 0) (g := false) rfl kr (by decide)) rfl) ?_ | refine AF.q 0 (SW.yes (SW.q (OQ.fieldA (ty := 25) (i := 1) (n := 1) (off := 1) (g := false) rfl kr (by decide)) rfl) rfl rfl (by with_reducible rfl)) ?_ | refine AF.q 0 (SW.q (OQ.fieldA (ty := 25) (i := 1) (n := 1) (off := 1) (g := false) rfl kr (by decide)) rfl) ?_) | ((with_reducible refine AF.k_call ?_); first | refine AF.q 0 (SW.q (OQ.lenS (xt := 22) (r := (none, 2, true)) rfl kr) rfl) ?_) | ((with_reducible refine AF.k_pick ?_); first | (refine AF.q 0 (SW.q (OQ.pickT rfl (by with_reducible rfl) wl) rfl) ?_) | (refine AF.q 0 (SW.q (OQ.pickF rfl (by with_reducible rfl) wl) rfl) ?_)) | refine AF.q 2 (SW.q (by first | exact OQ.sliceTo (ty := 23) (k := k) (z := 3) (g := true) rfl kr rfl (.inl rfl) rfl rfl (by omega) | exact OQ.sliceA (ty := 62) (n := 3) (z := 1) (g := false) (l := 0) (h := 3) rfl kr rfl rfl rfl rfl (by decide) (by decide) (by decide)) rfl) ?_); (conv => (arg 9; try tactic => exact nrmF)); (conv => (arg 11; try simp only [List.nil_append, List.cons_append]))) | (refine AF.bs rfl (fun hc => ?_) (fun hc => ?_) <;> (fail_if_success (with_reducible exact lit_no hc)) <;> (try replace hc := nc hc) <;> first | (exfalso; first | contradiction | (first | omega | (simp at hc; done)); done) | skip) | (refine AF.gs1 rfl rfl (fun hc => ?_) (fun hc => ?_) <;> (fail_if_success (with_reducible exact lit_no hc)) <;> (try replace hc := nc hc) <;> first | (exfalso; first | contradiction | (first | omega | (simp at hc; done)); done) | skip) | (refine AF.gs0 rfl rfl (fun hc => ?_) (fun hc => ?_) <;> (fail_if_success (with_reducible exact lit_no hc)) <;> (try replace hc := nc hc) <;> first | (exfalso; first | contradiction | (first | omega | (simp at hc; done)); done) | skip) | (refine AF.nil ?_ kr; (conv => (arg 4; simp only [List.drop_succ_cons, List.drop_zero, List.drop_nil])))) | with_reducible refine AR.s ?_ | ((with_reducible refine AR.out ?_); first | omega | (simp at hc; done); done) | ((with_reducible refine ex_on ?_); first | ((refine ⟨ts.length - (k + 1), [jk, .pointer (some ⟨2, 0, none⟩), jk, jk, jk, jk, .int .i64 (arT l ts (k + 1)), .int .i64 (k + 1), jk, jk, jk, jk, jk, jk, jk, jk, jk, jk, jk, jk, jk, jk, jk, jk, jk, jk, jk, jk, jk, jk, jk, jk, jk, jk, jk, jk, jk, jk, jk, jk, jk, jk, jk, jk, jk, jk, jk, jk, jk, jk, jk, jk, jk, jk, jk, jk, jk, jk, jk, jk, jk, jk, jk, jk, jk, jk, jk, jk, jk, jk, jk, jk, jk, jk, jk, jk, jk, jk, jk, jk, jk, jk, jk, jk, jk, jk, jk, jk, jk, jk, jk, jk, jk, jk, jk, jk, jk, jk, jk, jk, jk, jk, jk, jk, jk, jk, jk, jk, jk, jk, jk, jk, jk, jk, jk, jk, jk, jk, jk, jk, jk, jk, jk, jk, jk, jk, jk, jk, jk, jk, jk, jk, jk, jk, jk, jk, jk, jk, jk, jk, jk, jk, jk, jk, jk, jk, jk, jk, jk, jk, jk, jk, jk, jk, jk, jk, jk, jk, jk, jk, jk, jk, jk, jk, jk, jk, jk, jk, jk, jk, jk, jk, jk, jk, jk, jk, jk, jk, jk, jk, jk, jk, jk, jk, jk, jk, jk, jk, jk, jk, jk, jk, jk, jk, jk, jk, jk, jk, jk, jk, jk, jk, jk, jk, jk, jk], [some ⟨flatP l, false, 0⟩, some ⟨flatT ts, false, 0⟩, some ⟨[.slice (some ⟨0, 0, none⟩) l.length c, .slice (some ⟨1, 0, none⟩) ts.length c2], true, 0⟩], by omega, ?_, k + 1, rfl, by omega, fun j h => (by rcases Nat.lt_or_eq_of_le (Nat.le_of_lt_succ h) with h | rfl; (exact hj j h); exact F0 j q1 q2 q3 (by omega) (by omega) (by first | exact fun _ => ‹_› | (intro _; omega)) (by omega) (by omega) (by omega) (by omega)), rfl, rfl⟩; rw [has k]; exact Wk.keep 3 [] (by rw [hE]; exact Nat.le_of_ble_eq_true rfl) rfl rfl (by repeat (first | exact RenT.nil | refine RenT.jk ?_ | refine RenT.val (by first | rfl | with_reducible assumption | (simp only [rn3, rn2, rn1, kσ]; done)) (by first | rfl | assumption | (simp [ok3, ok2, ok1]; done)) ?_)) ⟨⟨_, rfl, rfl, rfl, .inl ⟨rfl, flatP_scal l⟩⟩, ⟨_, rfl, rfl, rfl, .inl ⟨rfl, flatT_scal ts⟩⟩, ⟨_, rfl, rfl, rfl, .inr ⟨rfl, rfl⟩⟩, trivial⟩)) | ((refine ⟨ts.length - (k4 + 1), [jk, .pointer (some ⟨2, 0, none⟩), jk, jk, jk, jk, .int .i64 (arT l ts ts.length), jk, jk, jk, jk, jk, .int .i64 (k4 + 1), jk, jk, jk, jk, jk, jk, jk, jk, jk, jk, jk, jk, jk, jk, jk, jk, jk, jk, jk, jk, jk, jk, jk, jk, jk, jk, jk, jk, jk, jk, jk, jk, jk, jk, jk, jk, jk, jk, jk, jk, jk, jk, jk, jk, jk, jk, jk, jk, jk, jk, jk, jk, jk, jk, jk, jk, jk, jk, jk, jk, jk, jk, jk, jk, jk, jk, jk, jk, jk, jk, jk, jk, jk, jk, jk, jk, jk, jk, jk, jk, jk, jk, jk, jk, jk, jk, jk, jk, jk, jk, jk, jk, jk, jk, jk, jk, jk, jk, jk, jk, jk, jk, jk, jk, jk, jk, jk, jk, jk, jk, jk, jk, jk, jk, jk, jk, jk, jk, jk, jk, jk, jk, jk, jk, jk, jk, jk, jk, jk, jk, jk, jk, jk, jk, jk, jk, jk, jk, jk, jk, jk, jk, jk, jk, jk, jk, jk, jk, jk, jk, jk, jk, jk, jk, jk, jk, jk, jk, jk, jk, jk, jk, jk, jk, jk, jk, jk, jk, jk, jk, jk, jk, jk, jk, jk, jk, jk, jk, jk, jk, jk, jk, jk, jk, jk, jk, jk, jk, jk, jk, jk, jk, jk], [some ⟨flatP l, false, 0⟩, some ⟨flatT ts, false, 0⟩, some ⟨[.slice (some ⟨0, 0, none⟩) l.length c, .slice (some ⟨1, 0, none⟩) ts.length c2], true, 0⟩], by omega, ?_, k4 + 1, rfl, by omega, hall, fun j h => (by rcases Nat.lt_or_eq_of_le (Nat.le_of_lt_succ h) with h | rfl; (exact hb4 j h); exact ⟨by first | exact fun _ => ‹_› | (intro _; omega), by first | exact fun _ => ‹_› | (intro _; omega), by first | exact fun _ => ‹_› | (intro _; omega)⟩), rfl, rfl⟩; exact Wk.keep 3 [] (by rw [hE]; exact Nat.le_of_ble_eq_true rfl) rfl rfl (by repeat (first | exact RenT.nil | refine RenT.jk ?_ | refine RenT.val (by first | rfl | with_reducible assumption | (simp only [rn3, rn2, rn1, kσ]; done)) (by first | rfl | assumption | (simp [ok3, ok2, ok1]; done)) ?_)) ⟨⟨_, rfl, rfl, rfl, .inl ⟨rfl, flatP_scal l⟩⟩, ⟨_, rfl, rfl, rfl, .inl ⟨rfl, flatT_scal ts⟩⟩, ⟨_, rfl, rfl, rfl, .inr ⟨rfl, rfl⟩⟩, trivial⟩)) | ((obtain rfl : k7 = ts.length := (by omega); refine ⟨l.length - (k6 + 1), _, _, by omega, ?_, k6 + 1, rfl, by omega, hopB, fun j h => (by rcases Nat.lt_or_eq_of_le (Nat.le_of_lt_succ h) with h | rfl; (exact hu6 j h); assumption), rfl, rfl⟩; exact Wk.fk [1, 17] rfl)) | (first | (rw [← hu2 (k6 : Int) k7 (by assumption)]; refine ⟨ts.length - (k7 + 1), [jk, .pointer (some ⟨2, 0, none⟩), jk, jk, jk, jk, jk, jk, jk, jk, jk, jk, jk, jk, jk, jk, jk, .int .i64 (k6), .bool (usK ts k6 (k7 + 1)), .int .i64 (k7 + 1), jk, jk, jk, jk, jk, jk, jk, jk, jk, jk, jk, jk, jk, jk, jk, jk, jk, jk, jk, jk, jk, jk, jk, jk, jk, jk, jk, jk, jk, jk, jk, jk, jk, jk, jk, jk, jk, jk, jk, jk, jk, jk, jk, jk, jk, jk, jk, jk, jk, jk, jk, jk, jk, jk, jk, jk, jk, jk, jk, jk, jk, jk, jk, jk, jk, jk, jk, jk, jk, jk, jk, jk, jk, jk, jk, jk, jk, jk, jk, jk, jk, jk, jk, jk, jk, jk, jk, jk, jk, jk, jk, jk, jk, jk, jk, jk, jk, jk, jk, jk, jk, jk, jk, jk, jk, jk, jk, jk, jk, jk, jk, jk, jk, jk, jk, jk, jk, jk, jk, jk, jk, jk, jk, jk, jk, jk, jk, jk, jk, jk, jk, jk, jk, jk, jk, jk, jk, jk, jk, jk, jk, jk, jk, jk, jk, jk, jk, jk, jk, jk, jk, jk, jk, jk, jk, jk, jk, jk, jk, jk, jk, jk, jk, jk, jk, jk, jk, jk, jk, jk, jk, jk, jk, jk, jk, jk, jk, jk, jk, jk, jk, jk, jk, jk, jk, jk], _, by omega, ?_, k7 + 1, rfl, by omega, rfl, rfl⟩; exact Wk.fk [1, 17, 18, 19] rfl) | (refine ⟨ts.length - (k7 + 1), [jk, .pointer (some ⟨2, 0, none⟩), jk, jk, jk, jk, jk, jk, jk, jk, jk, jk, jk, jk, jk, jk, jk, .int .i64 (k6), .bool true, .int .i64 (k7 + 1), jk, jk, jk, jk, jk, jk, jk, jk, jk, jk, jk, jk, jk, jk, jk, jk, jk, jk, jk, jk, jk, jk, jk, jk, jk, jk, jk, jk, jk, jk, jk, jk, jk, jk, jk, jk, jk, jk, jk, jk, jk, jk, jk, jk, jk, jk, jk, jk, jk, jk, jk, jk, jk, jk, jk, jk, jk, jk, jk, jk, jk, jk, jk, jk, jk, jk, jk, jk, jk, jk, jk, jk, jk, jk, jk, jk, jk, jk, jk, jk, jk, jk, jk, jk, jk, jk, jk, jk, jk, jk, jk, jk, jk, jk, jk, jk, jk, jk, jk, jk, jk, jk, jk, jk, jk, jk, jk, jk, jk, jk, jk, jk, jk, jk, jk, jk, jk, jk, jk, jk, jk, jk, jk, jk, jk, jk, jk, jk, jk, jk, jk, jk, jk, jk, jk, jk, jk, jk, jk, jk, jk, jk, jk, jk, jk, jk, jk, jk, jk, jk, jk, jk, jk, jk, jk, jk, jk, jk, jk, jk, jk, jk, jk, jk, jk, jk, jk, jk, jk, jk, jk, jk, jk, jk, jk, jk, jk, jk, jk, jk, jk, jk, jk, jk, jk, jk], _, by omega, ?_, k7 + 1, rfl, by omega, by first | (rw [hu1 (k6 : Int) k7 (by assumption)]; done) | (rw [hu1 (k6 : Int) k7 (by assumption)]; rfl), rfl⟩; exact Wk.fk [1, 17, 18, 19] rfl))) | ((with_reducible refine FinJ.on ?_); first | (have q := F6 k (by omega) hj (by first | exact .inl ‹_› | exact .inr (.inl ‹_›) | exact .inr (.inr ‹_›)); rw [q.1, q.2]; first | exact FinJ.ret (.tmp wl (.tmp wl .nil)) (jle_flat rfl) | exact FinJ.end (.tmp wl (.tmp wl .nil)) (jle_flat rfl)) | (have q := F9 k (by omega) hj q1 q2 q3 (by omega); rw [q.1, q.2]; first | exact FinJ.ret (.tmp wl (.tmp wl .nil)) (jle_flat rfl) | exact FinJ.end (.tmp wl (.tmp wl .nil)) (jle_flat rfl)) | (have q := F9b k (by omega) hj q1 q2 q3 (by omega) ‹_›; rw [q.1, q.2]; first | exact FinJ.ret (.tmp wl (.tmp wl .nil)) (jle_flat rfl) | exact FinJ.end (.tmp wl (.tmp wl .nil)) (jle_flat rfl)) | (have q := F13 k (by omega) hj q1 q2 q3 (by omega) (by omega) (by first | exact fun _ => ‹_› | (intro _; omega)) (by omega); rw [q.1, q.2]; first | exact FinJ.ret (.tmp wl (.tmp wl .nil)) (jle_flat rfl) | exact FinJ.end (.tmp wl (.tmp wl .nil)) (jle_flat rfl)) | (have q := F28 k (by omega) hj q1 q2 q3 (by omega) (by omega) (by first | exact fun _ => ‹_› | (intro _; omega)) (by omega) (by omega); rw [q.1, q.2]; first | exact FinJ.ret (.tmp wl (.tmp wl .nil)) (jle_flat rfl) | exact FinJ.end (.tmp wl (.tmp wl .nil)) (jle_flat rfl)) | (have q := F25 k4 hall (by omega) (by first | exact .inl ⟨by omega, ‹_›⟩ | exact .inr (.inl ⟨by omega, ‹_›⟩) | exact .inr (.inr ⟨by omega, ‹_›⟩)); rw [q.1, q.2]; first | exact FinJ.ret (.tmp wl (.tmp wl .nil)) (jle_flat rfl) | exact FinJ.end (.tmp wl (.tmp wl .nil)) (jle_flat rfl)) | (obtain rfl : k7 = ts.length := (by omega); have q := Fus hall hopB k6 (by omega) ‹_›; rw [q.1, q.2]; first | exact FinJ.ret (.tmp wl (.tmp wl .nil)) (jle_flat rfl) | exact FinJ.end (.tmp wl (.tmp wl .nil)) (jle_flat rfl)) | (obtain rfl : k6 = l.length := (by omega); have q := Fok hall hopB (by omega) hu6; rw [q.1, q.2]; first | exact FinJ.ret (.tmp wl (.tmp wl .nil)) (jle_flat rfl) | exact FinJ.end (.tmp wl (.tmp wl .nil)) (jle_flat rfl)) | (obtain rfl : k4 = ts.length := (by omega); have q := F14 hall (hop hb4) (by omega); rw [q.1, q.2]; first | exact FinJ.ret (.tmp wl (.tmp wl .nil)) (jle_flat rfl) | exact FinJ.end (.tmp wl (.tmp wl .nil)) (jle_flat rfl))))
end Go.Proofs.YtmohcmghbfhdlaaGreat
end
end
