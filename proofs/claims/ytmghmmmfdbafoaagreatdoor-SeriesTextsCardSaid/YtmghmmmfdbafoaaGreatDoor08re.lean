/- Chapter 8: a line of a series, as the program reads it and as the plain text says. -/
import Derived.Test.YtmghmmmfdbafoaaGreatDoor08rd
import Derived.Test.YtmghmmmfdbafoaaGreatDoor08tw
set_option linter.unusedSimpArgs false
set_option linter.unusedVariables false
namespace Go.Proofs.YtmghmmmfdbafoaaGreatDoor
open Go Go.RowKit Go.Ab Go.Sr Go.Lib Go.Tx
set_option maxRecDepth 100000
set_option maxHeartbeats 2000000
theorem beq_tx (a b : List UInt8) : ((tx a).toList == (tx b).toList) = decide (a = b) := by
  rw [ByteArray.toList_eq, ByteArray.toList_eq, tx_list, tx_list]
  by_cases h : a = b <;> simp [h]
section
variable {N0 : Nat} {W0 : World}
theorem spl_of (L : Lw N0 W0) (l : List UInt8) (hl : l.length ≤ 1000000) : Spl N0 W0 (tx l) (cutAt 32 l).length ((cutAt 32 l).map fun l => .string (tx l)) := fun m => L.split m l hl
/-- A word: good or not. -/
theorem word_of (L : Lw N0 W0) (p : List UInt8) (hl : p.length ≤ 1000000) : (∃ v, numD 7 p = some v ∧ WdG N0 W0 (tx p) v) ∨ (numD 7 p = none ∧ (WdE N0 W0 (tx p) ∨ WdB N0 W0 (tx p))) := by
  by_cases hv : ∃ v, atoiAll p = .ok v
  · obtain ⟨v, hv⟩ := hv
    have hn := numD_prog (D := 7) (by decide) hv
    obtain ⟨b0, b1⟩ := atoiAll_bounds hv
    by_cases hc : itoa v = p ∧ (bodyOf p).length ≤ 7
    · rw [if_pos hc] at hn
      refine .inl ⟨v, hn, tx (bodyOf p), fun m => L.atoiY m p v hl hv, fun m => ?_, fun m => L.trim m p, hc.2⟩
      have := L.itoa v m b0 b1
      rwa [hc.1] at this
    · rw [if_neg hc] at hn
      refine .inr ⟨hn, .inr ⟨v, tx (itoa v), tx (bodyOf p), fun m => L.atoiY m p v hl hv, fun m => L.itoa v m b0 b1, fun m => L.trim m p, ?_⟩⟩
      rw [beq_tx, tx_size]
      by_cases h1 : itoa v = p
      · exact .inr (Nat.lt_of_not_le fun h2 => hc ⟨h1, h2⟩)
      · exact .inl (decide_eq_false h1)
  · have hno : ∀ v, atoiAll p ≠ .ok v := fun v h => hv ⟨v, h⟩
    exact .inr ⟨numD_bad hno, .inl (L.atoiN p hl hno)⟩
theorem read_hn (L : Lw N0 W0) (l : List UInt8) (hl : l.length ≤ 1000000) (h : rdH l = none) : PCallsW N0 W0 Tryz.prog 27 [junk, .string (tx l), .bool true] [] (.bool false) := by
  have HS := spl_of L l hl
  obtain ⟨q0, qs, hc⟩ := List.exists_cons_of_ne_nil (cut_ne 32 l)
  rw [hc] at HS
  refine read_h (q0 := tx q0) (R := qs.map fun l => .string (tx l)) HS (by simp) ?_
  rw [show serB = tx wSeries from rfl, beq_tx]
  by_cases hq : q0 = wSeries
  · refine .inr fun hlen => ?_
    match qs, hlen with
    | [n], _ =>
      unfold rdH at h
      rw [hc] at h
      simp only [hq, if_true] at h
      cases h
  · exact .inl (decide_eq_false hq)
theorem read_hs (L : Lw N0 W0) (l : List UInt8) (hl : l.length ≤ 1000000) {n : List UInt8} (h : rdH l = some n) (n0 : ByteArray) : ACallsW N0 W0 Tryz.prog 27 [.pointer (some ⟨0, 0, none⟩), .string (tx l), .bool true] [some ⟨[.string n0, .slice none 0 0], true, 0⟩] (.bool true) [some ⟨[.string (tx n), .slice none 0 0], true, 0⟩] := by
  have HS := spl_of L l hl
  unfold rdH at h
  split at h
  · rename_i w n' hc
    split at h
    · rename_i hw
      cases h
      rw [hc] at HS
      subst hw
      exact read_hy (q1 := tx n) HS n0
    · cases h
  · cases h
theorem read_en (L : Lw N0 W0) (l : List UInt8) (hl : l.length ≤ 1000000) (h : rdE l = none) : PCallsW N0 W0 Tryz.prog 27 [junk, .string (tx l), .bool false] [] (.bool false) := by
  have HS := spl_of L l hl
  have hsub := cut_le 32 l
  obtain ⟨q0, qs, hc⟩ := List.exists_cons_of_ne_nil (cut_ne 32 l)
  rw [hc] at HS hsub
  by_cases hq : q0 = wEpoch ∧ qs.length = 4
  · obtain ⟨hq, hlen⟩ := hq
    match qs, hlen with
    | [x0, x1, x2, x3], _ =>
      subst hq
      unfold rdE at h
      rw [hc] at h
      simp only [if_true] at h
      have hx : ∀ x ∈ [x0, x1, x2, x3], x.length ≤ 1000000 := fun x hx => Nat.le_trans (hsub x (List.mem_cons_of_mem _ hx)) hl
      rcases word_of L x0 (hx _ (by simp)) with ⟨v0, e0, g0⟩ | ⟨e0, g0⟩
      · rcases word_of L x1 (hx _ (by simp)) with ⟨v1, e1, g1⟩ | ⟨e1, g1⟩
        · rcases word_of L x2 (hx _ (by simp)) with ⟨v2, e2, g2⟩ | ⟨e2, g2⟩
          · rcases word_of L x3 (hx _ (by simp)) with ⟨v3, e3, g3⟩ | ⟨e3, g3⟩
            · rw [e0, e1, e2, e3] at h
              cases h
            · exact read_w HS (v0 := v0) (v1 := v1) (v2 := v2) (.inr (.inr (.inr ⟨⟨g0, g1, g2⟩, g3⟩)))
          · exact read_w HS (v0 := v0) (v1 := v1) (v2 := 0) (.inr (.inr (.inl ⟨⟨g0, g1⟩, g2⟩)))
        · exact read_w HS (v0 := v0) (v1 := 0) (v2 := 0) (.inr (.inl ⟨g0, g1⟩))
      · exact read_w HS (v0 := 0) (v1 := 0) (v2 := 0) (.inl g0)
  · refine read_l (q0 := tx q0) (R := qs.map fun l => .string (tx l)) HS (by simp) ?_
    rw [show epoB = tx wEpoch from rfl, beq_tx]
    by_cases hq0 : q0 = wEpoch
    · exact .inr fun hlen => hq ⟨hq0, by simpa using hlen⟩
    · exact .inl (decide_eq_false hq0)
/-- The words of a good line. -/
theorem line_words (L : Lw N0 W0) (l : List UInt8) (hl : l.length ≤ 1000000) {e : Ep} (h : rdE l = some e) : ∃ p0 p1 p2 p3, Spl N0 W0 (tx l) 5 [.string epoB, .string p0, .string p1, .string p2, .string p3] ∧ WdG N0 W0 p0 e.d ∧ WdG N0 W0 p1 e.b ∧ WdG N0 W0 p2 e.p ∧ WdG N0 W0 p3 e.m := by
  have HS := spl_of L l hl
  have hsub := cut_le 32 l
  have good : ∀ (x : List UInt8) (v : Int), x ∈ cutAt 32 l → numD 7 x = some v → WdG N0 W0 (tx x) v := fun x v hx hv => by
    rcases word_of L x (Nat.le_trans (hsub x hx) hl) with ⟨v', e', g⟩ | ⟨e', g⟩
    · rw [hv] at e'
      cases e'
      exact g
    · rw [hv] at e'
      cases e'
  unfold rdE at h
  split at h
  · rename_i w x0 x1 x2 x3 hc
    rw [hc] at HS good
    split at h
    · rename_i hw
      subst hw
      split at h
      · rename_i v0 v1 v2 v3 e0 e1 e2 e3
        cases h
        exact ⟨tx x0, tx x1, tx x2, tx x3, HS, good x0 _ (by simp) e0, good x1 _ (by simp) e1, good x2 _ (by simp) e2, good x3 _ (by simp) e3⟩
      · cases h
    · cases h
  · cases h
end
end Go.Proofs.YtmghmmmfdbafoaaGreatDoor
