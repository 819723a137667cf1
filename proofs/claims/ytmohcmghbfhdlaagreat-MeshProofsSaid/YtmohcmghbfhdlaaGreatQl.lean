/- Chapter 6: the reference's hull of points that are not on a line. -/
import Derived.Test.YtmohcmghbfhdlaaGreatQd
import Derived.Test.YtmohcmghbfhdlaaGreatQk
import Derived.Test.YtmohcmghbfhdlaaGreatQj
section
set_option linter.unusedSimpArgs false
set_option linter.unusedVariables false
section
namespace Go.Me
open Go.Ab
def fsK (l : List Pn) : Nat → Nat
 | 0 => 0
 | k + 1 => if (pt l k).x < (pt l (fsK l k)).x ∨ ((pt l k).x = (pt l (fsK l k)).x ∧ (pt l k).y < (pt l (fsK l k)).y) then k else fsK l k
theorem fsK_lt {l : List Pn} (h : 0 < l.length) : ∀ k, k ≤ l.length → fsK l k < l.length := by
 intro k
 induction k with
 | zero => intro _; exact h
 | succ k ih =>
  intro hk
  unfold fsK
  split
  ·omega
  ·exact ih (by omega)
theorem fsK_min {l : List Pn} : ∀ k, ∀ i, i < k → ¬ lexLt (pt l i) (pt l (fsK l k)) := by
 intro k
 induction k with
 | zero => intro i h; omega
 | succ k ih =>
  intro i hi
  have ih := ih i
  unfold fsK
  unfold lexLt at *
  split
  ·rcases Nat.lt_or_eq_of_le (Nat.le_of_lt_succ hi) with h | rfl
   ·have := ih h
    omega
   ·omega
  ·rcases Nat.lt_or_eq_of_le (Nat.le_of_lt_succ hi) with h | rfl
   ·exact ih h
   ·omega
def nxI (l : List Pn) (a : Nat) : Nat → Int
 | 0 => -1
 | k + 1 => if k ≠ a ∧ bdB l a k = true ∧ (nxI l a k < 0 ∨ sgB (pt l (nxI l a k).toNat) (pt l a) (pt l k) = true) then k else nxI l a k
theorem nxI_bd (l : List Pn) (a : Nat) : ∀ k : Nat, -1 ≤ nxI l a k ∧ nxI l a k < k := by
 intro k
 induction k with
 | zero => unfold nxI; omega
 | succ k ih =>
  unfold nxI
  split <;> omega
theorem nxI_eq (l : List Pn) (a : Nat) : ∀ k : Nat, (nextTo l a k = none ∧ nxI l a k = -1) ∨ ∃ j : Nat, nextTo l a k = some j ∧ nxI l a k = j := by
 intro k
 induction k with
 | zero => exact .inl ⟨rfl, rfl⟩
 | succ k ih =>
  have key : (k ≠ a ∧ bdB l a k = true ∧ (nxI l a k < 0 ∨ sgB (pt l (nxI l a k).toNat) (pt l a) (pt l k) = true)) ↔ (Cand l a k ∧ ∀ j, nextTo l a k = some j → OnSeg (pt l j) (pt l a) (pt l k)) := by
   rw [bdB_true, sgB_true]
   unfold Cand
   rcases ih with ⟨h1, h2⟩ | ⟨j, h1, h2⟩
   ·rw [h1, h2]
    constructor
    ·rintro ⟨g1, g2, _⟩
     exact ⟨⟨g1, g2⟩, fun j h => by cases h⟩
    ·rintro ⟨⟨g1, g2⟩, _⟩
     exact ⟨g1, g2, .inl (by decide)⟩
   ·rw [h1, h2]
    constructor
    ·rintro ⟨g1, g2, g3⟩
     refine ⟨⟨g1, g2⟩, fun j' h => ?_⟩
     cases h
     rcases g3 with g3 | g3
     ·omega
     ·simpa using g3
    ·rintro ⟨⟨g1, g2⟩, g3⟩
     exact ⟨g1, g2, .inr (by simpa using g3 j rfl)⟩
  unfold nxI nextTo nextStep
  by_cases hc : Cand l a k ∧ ∀ j, nextTo l a k = some j → OnSeg (pt l j) (pt l a) (pt l k)
  ·rw [if_pos hc, if_pos (key.2 hc)]
   exact .inr ⟨k, rfl, rfl⟩
  ·rw [if_neg hc, if_neg (fun h => hc (key.1 h))]
   exact ih
theorem nxI_some {l : List Pn} {a b k : Nat} (h : nextTo l a k = some b) : nxI l a k = b := by
 rcases nxI_eq l a k with ⟨h1, _⟩ | ⟨j, h1, h2⟩
 ·rw [h1] at h; cases h
 ·rw [h1] at h
  cases h
  exact h2
def capK : Nat → Nat
 | 0 => 1
 | _ + 1 => INF
structure Ring (l : List Pn) (H : List Nat) (f : Nat) : Prop where
 len : 3 ≤ H.length
 le : H.length ≤ l.length
 zero : ot H 0 = f
 bd : ∀ k, k < H.length → ot H k < l.length
 next : ∀ k, k + 1 < H.length → nxI l (ot H k) l.length = ot H (k + 1) ∧ ot H (k + 1) ≠ f
 last : nxI l (ot H (H.length - 1)) l.length = f
theorem ring_of {l : List Pn} (hok : ∀ k, k < l.length → (pt l k).Ok) (hap : Apart l) (hfl : flK l (l.length - 2) = false) : Ring l (hullI l (ordL l)) (fsK l l.length) := by
 have hs := ordL_sorted hap
 have hB : ∀ p ∈ l, -10000 ≤ p.y ∧ p.y ≤ 10000 := fun p hp => by
  obtain ⟨i, hi, rfl⟩ := mem_pt hp
  exact ⟨(hok i hi).y0, (hok i hi).y1⟩
 have hnf : ¬ FlatR l := fun h => by
  rw [← flK_flat] at h
  rw [h] at hfl
  cases hfl
 obtain ⟨h1, h2, h3, h4, h5, h6⟩ := hull_ok hB hap hs (not_flatR hnf)
 have hl0 : 0 < l.length := by omega
 have hget : ∀ k, k < (hullI l (ordL l)).length → (hullI l (ordL l))[k]? = some (ot (hullI l (ordL l)) k) := fun k hk => ot_lt hk
 have hbd : ∀ k, k < (hullI l (ordL l)).length → ot (hullI l (ordL l)) k < l.length := fun k hk =>
  (hs.mem _).1 (hullI_sub l _ _ (List.mem_of_getElem? (hget k hk)))
 have hh : (ordL l).head? = some (ot (hullI l (ordL l)) 0) := by rw [← h3, List.head?_eq_getElem?]; exact hget 0 (by omega)
 obtain ⟨f1, f2⟩ := first_least hs hh
 have hf : ot (hullI l (ordL l)) 0 = fsK l l.length := by
  rcases f2 (fsK l l.length) (fsK_lt hl0 _ (Nat.le_refl _)) with h | h
  ·exact h.symm
  ·exact absurd h (fsK_min l.length _ f1)
 refine ⟨h1, h2, hf, hbd, fun k hk => ⟨nxI_some (h4 k _ _ (hget k (by omega)) (hget (k + 1) hk)), ?_⟩, ?_⟩
 ·rw [← hf]
  exact h6 (k + 1) _ _ (by omega) (hget (k + 1) hk) hh
 ·rw [← hf]
  exact nxI_some (h5 _ _ (by rw [List.getLast?_eq_getElem?]; exact hget _ (by omega)) hh)
theorem flatO_snoc (A : List Nat) (k : Nat) (h : k < A.length) : flatO (A.take k) ++ [.int .i64 (ot A k)] = flatO (A.take (k + 1)) := by
 unfold flatO
 rw [List.take_add_one, ot_lt h, List.map_append]
 rfl
end Go.Me
namespace Go.Proofs.YtmohcmghbfhdlaaGreat
open Go Go.RowKit Go.Ab Go.Me
set_option maxRecDepth 100000
set_option maxHeartbeats 4000000
attribute [local irreducible] OQ OW AL AW AF SW
theorem rHull_c (l : List Pn) (hok : ∀ k, k < l.length → (pt l k).Ok) (H : List Nat) (hR : Ring l H (fsK l l.length)) (c z : Nat) (hl : l.length ≤ 1000) (hf : flK l (l.length - 2) = false) :
  ACalls Tryz.prog 60 [.slice (some ⟨0, 0, none⟩) l.length c] [some ⟨flatP l, false, z⟩] (.slice (some ⟨1, 0, none⟩) H.length INF) [some ⟨flatP l, false, z⟩, some ⟨flatO H, true, 1⟩] := by
 have hld := fun (k : Nat) (hk : k < l.length) (r : Mem) => flatP_ld (m := some ⟨flatP l, false, z⟩ :: r) (b := 0) (l := l) rfl rfl k hk
 have hg := flatP_get l
 have hld0 := hld 0
 have hld1 := hld 1
 have ht := fun (n : Nat) (h2 : 2 ≤ n) (hn : n < l.length) (m : Mem) => rTurn_q (hok 0 (by omega)) (hok 1 (by omega)) (hok n hn) m
 have hFt : ∀ k, flK l k = true → flK l (k + 1) = decide (sgn (cr (pt l 0) (pt l 1) (pt l (k + 2))) = 0) := fun k h => by
  show (flK l k && _) = _
  rw [h, Bool.true_and]
 have hFf : ∀ k, flK l k = false → flK l (k + 1) = false := fun k h => by
  show (flK l k && _) = _
  rw [h, Bool.false_and]
 have hF0 : flK l 0 = true := rfl
 generalize flK l = F at *
 have hf0 : fsK l 0 = 0 := rfl
 have hfy : ∀ k, ((pt l k).x < (pt l (fsK l k)).x ∨ ((pt l k).x = (pt l (fsK l k)).x ∧ (pt l k).y < (pt l (fsK l k)).y)) → fsK l (k + 1) = k := fun k h => if_pos h
 have hfn : ∀ k, ¬ ((pt l k).x < (pt l (fsK l k)).x ∨ ((pt l k).x = (pt l (fsK l k)).x ∧ (pt l k).y < (pt l (fsK l k)).y)) → fsK l (k + 1) = fsK l k := fun k h => if_neg h
 have hl3 : 3 ≤ l.length := Nat.le_trans hR.len hR.le
 have hfb := fun k hk => fsK_lt (l := l) (by omega) k hk
 generalize fsK l = S at *
 have hb := fun (a k : Nat) (ha : a < l.length) (hk : k < l.length) (m : Mem) (b : Nat) (blk : Blk) (h1 : m.at b = some blk) (h2 : blk.cells = flatP l) (h3 : blk.obj = Ob.plain) => Border_q (c := c) l hok a k ha hk h1 h2 rfl (by omega) h3
 have hsg := fun (a b d : Nat) (ha : a < l.length) (hb : b < l.length) (hd : d < l.length) (m : Mem) => onSegment_q (hok a ha) (hok b hb) (hok d hd) m
 have hn0 : ∀ a, nxI l a 0 = -1 := fun a => rfl
 have hny : ∀ a k, k ≠ a → bdB l a k = true → (nxI l a k < 0 ∨ sgB (pt l (nxI l a k).toNat) (pt l a) (pt l k) = true) → nxI l a (k + 1) = k := fun a k h1 h2 h3 => if_pos ⟨h1, h2, h3⟩
 have hnn : ∀ a k, ¬ (k ≠ a ∧ bdB l a k = true ∧ (nxI l a k < 0 ∨ sgB (pt l (nxI l a k).toNat) (pt l a) (pt l k) = true)) → nxI l a (k + 1) = nxI l a k := fun a k h => if_neg h
 have hnb := fun a k => nxI_bd l a k
 obtain ⟨r1, r2, r3, r4, r5, r6⟩ := hR
 have hsn := flatO_snoc H
 have htl : H.take H.length = H := List.take_length
 have hsc := fun k => flatO_scal (H.take k)
 have hfl : ∀ k, k ≤ H.length → (flatO (H.take k)).length = k := fun k hk => by rw [flatO_len, List.length_take]; omega
 have hat : ∀ k, k < H.length → (flatO (H.take (k + 1)))[((k : Int) + 1 - 1).toNat]? = some (.int .i64 (ot H k)) := fun k hk => by
  rw [show ((k : Int) + 1 - 1).toNat = k by omega, flatO_get _ _ (by rw [List.length_take]; omega)]
  congr 3
  unfold ot
  rw [List.getD_eq_getElem?_getD, List.getD_eq_getElem?_getD, List.getElem?_take_of_lt (by omega)]
 generalize bdB l = B at *
 generalize nxI l = N at *
 have hH1 : flatO (H.take 1) = [.int .i64 (S l.length)] := by rw [← hsn 0 (by omega), r3]; rfl
 have hL : ∀ k, k + 1 = H.length → N (ot H k) l.length = S l.length := fun k hk => by rw [← hk] at r6; exact r6
 have hat2 : ∀ k, k < H.length → (flatO (H.take (k + 1)))[(((k + 1 : Nat) : Int) - 1).toNat]? = some (.int .i64 (ot H k)) := fun k hk => by
  rw [show (((k + 1 : Nat) : Int) - 1).toNat = ((k : Int) + 1 - 1).toNat by omega]
  exact hat k hk
 refine ACalls.en 138 Tryz.func60 rfl rfl (fun E hE => ?_)
 repeat' (first | with_reducible (first | refine Then.n ?_ | refine Then.r ?_ | refine Then.x ?_ | refine InB.n ?_ | refine InB.r ?_ | refine InB.hit ?_) | ((with_reducible refine AL.on ?_); first | (refine AL.gd rfl ?_; first | (refine AL.gskip rfl rfl ?_; refine AL.nm ?_) | (refine AL.gs1 rfl rfl (fun hc => ?_) (fun hc => ?_) <;> (try replace hc := nc hc) <;> first | (exfalso; contradiction) | refine AL.nm ?_) | (refine AL.gs0 rfl rfl (fun hc => ?_) (fun hc => ?_) <;> (try replace hc := nc hc) <;> first | (exfalso; first | contradiction | (first | omega | (exfalso; simp_all; done)); done) | refine AL.nm ?_)) | ((first | refine AL.mv ?_ | refine AL.as ?_ | ((with_reducible refine AL.k_binOp ?_); first | refine AL.g (OQ.lss rfl rfl) ?_ | refine AL.g (OQ.eql rfl rfl) ?_ | refine AL.g (OQ.addi rfl rfl (by omega)) ?_ | refine AL.g (OQ.subi rfl rfl (by omega)) ?_ | refine AL.g (OQ.gtr rfl rfl) ?_) | ((with_reducible refine AL.k_load ?_); (refine AL.g (OQ.load1 (ty := 3) rfl kr (by (exact hat _ (by omega)))) ?_)) | ((with_reducible refine AL.k_call ?_); first | refine AL.g (OQ.lenS (xt := 22) (r := (none, 2, true)) rfl kr) ?_ | refine AL.g (OQ.lenS (xt := 26) (r := (none, 1, false)) rfl kr) ?_) | ((with_reducible refine AL.k_pick ?_); first | refine AL.pT ?_ | refine AL.pF ?_)); refine AL.nm ?_) | ((first | ((with_reducible refine AL.k_indexAddr ?_); (refine AL.g (OQ.idxAddr (ty := 26) (z := 1) (g := false) rfl rfl kr (by omega) (by omega)) ?_)) | ((with_reducible refine AL.k_call ?_); first | refine AL.pcall (g := 84) rfl kr rfl ((by exact ht (k + 2) (by omega) (by omega) _)) ?_ | refine AL.pcall (g := 120) rfl kr rfl ((by exact hsg _ _ _ (by omega) (by omega) (by omega) _)) ?_)); refine AL.nm ?_) | ((first | ((with_reducible refine AL.k_call ?_); (refine AL.w rfl (by exact OW.appendL (e := 3) (z := 1) (zs := [.int .i64 0]) (by' := 8) rfl rfl kr kr kr rfl kr (by decide) rfl rfl rfl (by decide) (by (rw [hfl _ (by omega)]; omega)) rfl rfl (by omega) (by omega)) ?_)) | ((with_reducible refine AL.k_buildSlice ?_); refine AL.w rfl (OW.buildSl (ty := 26) (zs := [.int .i64 0]) (n := 1) (g := false) kr kr rfl rfl rfl (by decide) (by decide) rfl rfl) ?_)); refine AL.nm ?_; refine AL.nM ?_) | refine AL.nil ?_) | ((with_reducible refine AW.on ?_); first | refine AW.seq ?_ | refine AW.skip ?_ | refine AW.exit ?_ | refine AW.ret ?_ | ((refine AW.block (id := 0) ?_); (refine AW.fk [0, 3, 4] ?_); (refine AW.loop (fun n' t' m => ∃ k : Nat, n' = l.length - 2 - k ∧ (k = 0 ∨ k + 2 ≤ l.length) ∧ t' = (mtz 139 0 [(0, .slice (some ⟨0, 0, none⟩) l.length c), (3, .bool (F k)), (4, .int .i64 (((k + 2 : Nat) : Int)))]) ∧ m = [some ⟨flatP l, false, z⟩]) (l.length - 2) (by exact ⟨0, rfl, .inl rfl, by rw [hF0]; rfl, rfl⟩) ?_); (rintro n' t' m ⟨k, rfl, hk, rfl, rfl⟩); (refine AW.nT ?_)) | ((refine AW.block (id := 2) ?_); (refine AW.fk [0, 5, 6] ?_); (refine AW.loop (fun n' t' m => ∃ k : Nat, n' = l.length - k ∧ k ≤ l.length ∧ t' = (mtz 139 0 [(0, .slice (some ⟨0, 0, none⟩) l.length c), (5, .int .i64 (S k)), (6, .int .i64 (k))]) ∧ m = [some ⟨flatP l, false, z⟩]) (l.length) (by exact ⟨0, rfl, Nat.zero_le _, by rw [hf0]; rfl, rfl⟩) ?_); (rintro n' t' m ⟨k, rfl, hk, rfl, rfl⟩); (refine AW.nT ?_)) | ((refine AW.block (id := 4) ?_); (refine AW.fk [0, 5, 7] ?_); (refine AW.loop (fun n' t' m => ∃ k : Nat, n' = H.length - k ∧ k < H.length ∧ t' = (mtz 139 0 [(0, .slice (some ⟨0, 0, none⟩) l.length c), (5, .int .i64 (S l.length)), (7, .slice (some ⟨1, 0, none⟩) (k + 1) (capK k))]) ∧ m = [some ⟨flatP l, false, z⟩, some ⟨flatO (H.take (k + 1)), true, 1⟩]) (H.length) (by exact ⟨0, rfl, by omega, rfl, by rw [hH1]; rfl⟩) ?_); (rintro n' t' m ⟨k, rfl, hk, rfl, rfl⟩); (refine AW.nT ?_)) | ((refine AW.block (id := 6) ?_); (refine AW.fk [0, 5, 7, 8, 9, 10] ?_); (refine AW.loop (fun n' t' m => ∃ j : Nat, n' = l.length - j ∧ j ≤ l.length ∧ t' = (mtz 139 0 [(0, .slice (some ⟨0, 0, none⟩) l.length c), (5, .int .i64 (S l.length)), (7, .slice (some ⟨1, 0, none⟩) (k + 1) (capK k)), (8, .int .i64 (ot H k)), (9, .int .i64 (N (ot H k) j)), (10, .int .i64 (j))]) ∧ m = [some ⟨flatP l, false, z⟩, some ⟨flatO (H.take (k + 1)), true, 1⟩]) (l.length) (by exact ⟨0, rfl, Nat.zero_le _, by rw [hn0]; rfl, rfl⟩) ?_); (rintro n' t' m ⟨j, rfl, hj, rfl, rfl⟩); (refine AW.nT ?_)) | refine AW.block ?_ | (refine AW.drawF (id := 5) 12 #[0, 1, 3, 7, 15, 3, 35, 99, 3, 3, 771, 1795, 4095, 8191, 16383, 32767] kr kr ?_; (conv => (arg 8; simp only [List.take_succ_cons, List.take_zero]))) | (refine AW.drawF (id := 12) 34 #[0, 0, 3, 7, 15, 0, 0, 96, 224, 480, 1023, 2047, 4095, 4095, 16383, 32767, 65535, 4095, 4095, 397311, 921599, 1970175, 4194303, 8388607, 16777215, 16777215, 67108863, 134217727, 268435455, 16777215, 16777215, 1627389951, 3774873599, 8069840895, 17179869183, 34359738367, 68719476735] kr kr ?_; (conv => (arg 8; simp only [List.take_succ_cons, List.take_zero]))) | (refine AW.drawF (id := 20) 25 #[0, 0, 3, 7, 15, 15, 15, 127, 255, 511, 1023, 2047, 4095, 8191, 8191, 32767, 65535, 8191, 8191, 401407, 925695, 8191, 8191, 6299647, 14688255, 33554431, 67108863, 134217727] kr kr ?_; (conv => (arg 8; simp only [List.take_succ_cons, List.take_zero])); ((have hq := hnb (ot H k) j; have hr := r4 k hk))) | (refine AW.region (id := 6) ?_; ((obtain rfl : k = l.length - 2 := (by omega)))) | (refine AW.region (id := 14) ?_; ((obtain rfl : k = l.length := (by omega); have hf1 := hfb l.length (Nat.le_refl _)))) | (refine AW.region (id := 22) ?_; ((obtain rfl : j = l.length := (by omega); rcases Nat.lt_or_eq_of_le (show k + 1 ≤ H.length by omega) with hk2 | hk2; (have hq2 := (r5 k hk2).2; rw [(r5 k hk2).1]; skip); skip))) | refine AW.region ?_ | (refine AW.conds rfl (fun hc => ?_) (fun hc => ?_) <;> (try replace hc := nc hc) <;> first | (exfalso; first | contradiction | (first | omega | (exfalso; simp_all; done)); done) | skip)) | ((with_reducible refine AF.on ?_); first | (refine AF.q 0 (SW.skip rfl rfl) ?_; refine AF.nm ?_) | ((first | refine AF.q 0 (SW.no1 rfl rfl (by with_reducible rfl)) ?_ | refine AF.q 0 (SW.no0 rfl rfl (by with_reducible rfl)) ?_); refine AF.nm ?_) | ((first | ((with_reducible refine AF.k_move ?_); first | (refine AF.q 0 (SW.q (OQ.move wl) rfl) ?_) | (refine AF.q 0 (SW.yes (SW.q (OQ.move wl) rfl) rfl rfl (by with_reducible rfl)) ?_)) | ((with_reducible refine AF.k_binOp ?_); first | refine AF.q 0 (SW.q (OQ.lss rfl rfl) rfl) ?_ | refine AF.q 0 (SW.yes (SW.q (OQ.eql rfl rfl) rfl) rfl rfl (by with_reducible rfl)) ?_ | refine AF.q 0 (SW.q (OQ.neq rfl rfl) rfl) ?_ | refine AF.q 0 (SW.yes (SW.q (OQ.lss rfl rfl) rfl) rfl rfl (by with_reducible rfl)) ?_) | ((with_reducible refine AF.k_indexAddr ?_); first | (refine AF.q 0 (SW.yes (SW.q (OQ.idxAddr (ty := 22) (z := 2) (g := true) rfl rfl kr (by omega) (by first | omega | (have h0 := hfb k (by omega); omega))) rfl) rfl rfl (by with_reducible rfl)) ?_) | (refine AF.q 0 (SW.q (OQ.idxAddr (ty := 22) (z := 2) (g := true) rfl rfl kr (by omega) (by first | omega | (have h0 := hfb k (by omega); omega))) rfl) ?_)) | ((with_reducible refine AF.k_load ?_); first | refine AF.ql rfl (SW.yes (SW.q (OQ.loadN (ty := 65) (n := 2) rfl kr kr (by (first | exact hld0 (by omega) _ | exact hld1 (by omega) _ | exact hld _ (by omega) _))) rfl) rfl rfl (by with_reducible rfl)) ?_ | (refine AF.ql rfl (SW.q (OQ.load1 (ty := 3) rfl kr (by (first | exact (hg _ (by first | omega | exact hfb _ (by omega))).1 | exact (hg _ (by first | omega | exact hfb _ (by omega))).2))) rfl) ?_) | (refine AF.ql rfl (SW.yes (SW.q (OQ.load1 (ty := 3) rfl kr (by (first | exact (hg _ (by first | omega | exact hfb _ (by omega))).1 | exact (hg _ (by first | omega | exact hfb _ (by omega))).2))) rfl) rfl rfl (by with_reducible rfl)) ?_)) | ((with_reducible refine AF.k_call ?_); refine AF.q 2 (SW.yes (SW.pcall (g := 76) rfl kr rfl ((by exact hb _ _ (by omega) (by omega) _ 0 _ rfl rfl rfl)) rfl) rfl rfl (by with_reducible rfl)) ?_) | ((with_reducible refine AF.k_pick ?_); first | (refine AF.q 0 (SW.q (OQ.pickT rfl (by with_reducible rfl) wl) rfl) ?_) | (refine AF.q 0 (SW.q (OQ.pickF rfl (by with_reducible rfl) wl) rfl) ?_)) | ((with_reducible refine AF.k_fieldAddr ?_); first | refine AF.q 0 (SW.q (OQ.fieldA (ty := 65) (i := 0) (n := 1) (off := 0) (g := false) rfl kr (by decide)) rfl) ?_ | refine AF.q 0 (SW.yes (SW.q (OQ.fieldA (ty := 65) (i := 0) (n := 1) (off := 0) (g := false) rfl kr (by decide)) rfl) rfl rfl (by with_reducible rfl)) ?_ | refine AF.q 0 (SW.yes (SW.q (OQ.fieldA (ty := 65) (i := 1) (n := 1) (off := 1) (g := false) rfl kr (by decide)) rfl) rfl rfl (by with_reducible rfl)) ?_)); refine AF.nm ?_) | (refine AF.gs1 rfl rfl (fun hc => ?_) (fun hc => ?_) <;> (fail_if_success (with_reducible exact lit_no hc)) <;> (try replace hc := nc hc) <;> skip) | (refine AF.gs0 rfl rfl (fun hc => ?_) (fun hc => ?_) <;> (fail_if_success (with_reducible exact lit_no hc)) <;> (try replace hc := nc hc) <;> skip) | refine AF.nl ?_) | ((with_reducible refine ex_on ?_); first | ((refine ⟨l.length - 2 - (k + 1), _, _, by omega, ?_, k + 1, rfl, by omega, rfl, rfl⟩; first | (rw [hFt k ‹_›]; exact Wk.fk [0, 3, 4] rfl) | (rw [hFf k ‹_›]; exact Wk.fk [0, 3, 4] rfl))) | ((refine ⟨l.length - (k + 1), _, _, by omega, ?_, k + 1, rfl, by omega, rfl, rfl⟩; first | (rw [hfy k (by omega)]; exact Wk.fk [0, 5, 6] rfl) | (rw [hfn k (by omega)]; exact Wk.fk [0, 5, 6] rfl))) | ((refine ⟨H.length - (k + 1), _, _, by omega, ?_, k + 1, rfl, by omega, rfl, rfl⟩; have hs2 := hsc (k + 1 + 1); rw [← hsn (k + 1) (by omega)] at hs2 ⊢; exact Wk.keep 1 [3] (Nat.le_of_eq hE) rfl rfl (by repeat (first | exact RenT.nil | refine RenT.jk ?_ | refine RenT.val (by rfl) (by rfl) ?_)) ⟨kl rfl (flatP_scal l), ⟨_, rfl, rfl, rfl, .inl ⟨rfl, hs2⟩⟩, trivial⟩)) | ((refine ⟨l.length - (j + 1), _, _, by omega, ?_, j + 1, rfl, by omega, rfl, rfl⟩; first | (rw [hny (ot H k) j (by omega) (by assumption) (by first | exact .inl ‹_› | exact .inr ‹_›)]; exact Wk.fk [0, 5, 7, 8, 9, 10] rfl) | (rw [hnn (ot H k) j (by rintro ⟨h1, h2, h3 | h3⟩ <;> first | omega | simp_all)]; exact Wk.fk [0, 5, 7, 8, 9, 10] rfl)))) | ((with_reducible refine FinA.on ?_); (have hq3 := hL k hk2; obtain ⟨k', rfl⟩ : ∃ k', k = k' + 1 := ⟨k - 1, by omega⟩; rw [show H.take (k' + 1 + 1) = H by rw [hk2]; exact htl, ← hk2]; refine FinA.keep 2 [] (.inl rfl) (.tmp wl .nil) ?_ rfl (by rw [hE]; exact (by decide : 1 ≤ 2)) rfl rfl ⟨kl rfl (flatP_scal l), kl rfl (flatO_scal _), trivial⟩; rfl)))
end Go.Proofs.YtmohcmghbfhdlaaGreat
end
end
/- Chapter 6: Hull (the program's), for all points. -/
section
set_option linter.unusedSimpArgs false
set_option linter.unusedVariables false
section
namespace Go.Me
open Go.Ab
theorem cp_ok {l : List Pn} (h : cpB l = 0) : l.length ≤ 40 ∧ (∀ k, k < l.length → (pt l k).Ok) ∧ Apart l := by
 have h40 : ¬ 40 < l.length := fun h2 => by
  unfold cpB at h
  rw [if_pos h2] at h
  cases h
 have hN : ∀ n, cpN l n = -1 → ∀ j, j < n → ptE l j = 0 := by
  intro n
  induction n with
  | zero => intro _ j hj; omega
  | succ n ih =>
   intro h1 j hj
   unfold cpN at h1
   by_cases h2 : cpN l n = -1
   ·rw [if_neg (fun h3 => h3 h2)] at h1
    rcases Nat.lt_or_eq_of_le (Nat.le_of_lt_succ hj) with h3 | rfl
    ·exact ih h2 j h3
    ·apply Classical.byContradiction
     intro h4
     rw [if_pos h4] at h1
     omega
   ·rw [if_pos h2] at h1
    exact absurd h1 h2
 have hc : cpN l l.length = -1 := by
  unfold cpB at h
  rw [if_neg h40] at h
  apply Classical.byContradiction
  intro h1
  rw [if_neg h1] at h
  have h2 : ∀ n, cpN l n ≠ -1 → 0 ≤ cpN l n ∧ (cpN l n).toNat < n ∧ ptE l (cpN l n).toNat ≠ 0 := by
   intro n
   induction n with
   | zero => intro h; exact absurd rfl h
   | succ n ih =>
    intro h3
    unfold cpN at h3 ⊢
    by_cases h4 : cpN l n ≠ -1
    ·have := ih h4
     rw [if_pos h4]
     exact ⟨this.1, by omega, this.2.2⟩
    ·rw [if_neg h4] at h3 ⊢
     by_cases h5 : ptE l n ≠ 0
     ·rw [if_pos h5]
      exact ⟨by omega, by omega, by simpa using h5⟩
     ·rw [if_neg h5] at h3
      exact absurd rfl h3
  exact (h2 l.length h1).2.2 h
 have hp := hN l.length hc
 have hok : ∀ k, k < l.length → okP (pt l k) = true ∧ idxP l (pt l k) k = -1 := fun k hk => by
  have := hp k hk
  unfold ptE at this
  cases ho : okP (pt l k) with
  | false => rw [ho, if_pos rfl] at this; cases this
  | true =>
   rw [ho, if_neg (by decide)] at this
   refine ⟨rfl, ?_⟩
   apply Classical.byContradiction
   intro h1
   rw [if_neg h1] at this
   cases this
 have hne : ∀ i j, i < j → j < l.length → pt l i ≠ pt l j := fun i j hij hj e => by
  have h1 := (hok j hj).2
  have h2 : ∀ n, i < n → idxP l (pt l j) n ≠ -1 := by
   intro n
   induction n with
   | zero => intro h; omega
   | succ n ih =>
    intro hn h3
    unfold idxP at h3
    by_cases h4 : idxP l (pt l j) n ≠ -1
    ·rw [if_pos h4] at h3
     exact h4 h3
    ·rw [if_neg h4] at h3
     rcases Nat.lt_or_eq_of_le (Nat.le_of_lt_succ hn) with h5 | rfl
     ·exact h4 (ih h5)
     ·rw [if_pos (by rw [e])] at h3
      omega
  exact h2 j hij h1
 refine ⟨by omega, fun k hk => okP_ok (hok k hk).1, fun i j hi hj e => ?_⟩
 rcases Nat.lt_trichotomy i j with h1 | h1 | h1
 ·exact absurd e (hne i j h1 hj)
 ·exact h1
 ·exact absurd e.symm (hne j i h1 hi)
end Go.Me
namespace Go.Proofs.YtmohcmghbfhdlaaGreat
open Go Go.RowKit Go.Ab Go.Me
set_option maxRecDepth 100000
set_option maxHeartbeats 4000000
attribute [local irreducible] OQ OW AL AW AF SW
end Go.Proofs.YtmohcmghbfhdlaaGreat
end
end
/- Chapter 6: Hull of both sides, for all right points. -/
section
set_option linter.unusedSimpArgs false
set_option linter.unusedVariables false
section
namespace Go.Me
open Go.Ab
def hl (l : List Pn) : List Nat := hullI l (ordL l)
theorem hl_ring {l : List Pn} (h0 : cpB l = 0) (hf : flK l (l.length - 2) = false) : Ring l (hl l) (fsK l l.length) :=
 have ⟨_, hok, hap⟩ := cp_ok h0
 ring_of hok hap hf
theorem hl_flat {l : List Pn} (h0 : cpB l = 0) (hf : flK l (l.length - 2) = true) : (hl l).length ≤ 2 :=
 have ⟨_, _, hap⟩ := cp_ok h0
 hull_flat hap (ordL_sorted hap) (flK_flat.1 hf)
end Go.Me
namespace Go.Proofs.YtmohcmghbfhdlaaGreat
open Go Go.RowKit Go.Ab Go.Me
set_option maxRecDepth 100000
set_option maxHeartbeats 4000000
attribute [local irreducible] OQ OW AL AW AF SW
theorem hull_q {m : Mem} {b n c : Nat} {blk : Blk} (l : List Pn) (h0 : cpB l = 0) (h2 : 2 ≤ n) (hb : m.at b = some blk) (hc : blk.cells = flatP l) (hn : l.length = n) (ho : blk.obj = Ob.plain := by rfl) :
  ACalls Tryz.prog 122 [.slice (some ⟨b, 0, none⟩) n c] m (.slice (some ⟨m.length, 0, none⟩) (hl l).length INF) (m ++ [some ⟨flatO (hl l), true, 1⟩]) := by
 subst hn
 obtain ⟨h40, hok, hap⟩ := cp_ok h0
 have h := ACalls.viaS (m := m) (args := [.slice (some ⟨b, 0, none⟩) l.length c]) (v := .slice (some ⟨m.length, 0, none⟩) (hl l).length INF) [b] [] [some ⟨flatO (hl l), true, 1⟩] (hull_c l hok hap h2 (by omega) c blk.esz) ⟨bS hb ho hc (flatP_scal _), trivial⟩ (by simp) ⟨⟨_, rfl, rfl⟩, ⟨rfl, rfl, rfl, .inl ⟨rfl, flatO_scal _⟩⟩, trivial⟩ rfl rfl rfl rfl
 exact h
theorem Hull_y0 (l : List Pn) (c z : Nat) (h0 : cpB l = 0) (hf : flK l (l.length - 2) = false) (hz : z = 0 ∨ z = 2) :
  ACalls Tryz.prog 61 [.slice (some ⟨0, 0, none⟩) l.length c] [some ⟨flatP l, false, z⟩] (.tuple #[.slice (some ⟨1, 0, none⟩) (hl l).length INF, .int .i64 0]) [some ⟨flatP l, false, z⟩, some ⟨flatO (hl l), true, 1⟩] := by
 obtain ⟨h40, hok, hap⟩ := cp_ok h0
 have hR := hl_ring h0 hf
 have hl3 := hR.len
 have hln := hR.le
 have hp := fun (m : Mem) (b : Nat) (blk : Blk) (h1 : m.at b = some blk) (h2 : blk.cells = flatP l) (h3 : blk.esz = 0 ∨ blk.esz = 2) (h4 : blk.obj = Ob.plain) => CheckPoints_q (c := c) l h1 h2 rfl (by omega) h3 h4
 rw [h0] at hp
 have hh := fun (m : Mem) (b : Nat) (blk : Blk) (h1 : m.at b = some blk) (h2 : blk.cells = flatP l) (h4 : blk.obj = Ob.plain) => hull_q (c := c) l h0 (by omega) h1 h2 rfl h4
 clear hR
 generalize cpA l = A0 at *
 generalize hl l = H at *
 refine ACalls.en 20 Tryz.func61 rfl rfl (fun E hE => ?_)
 repeat' (first | with_reducible (refine Then.n ?_) | ((with_reducible refine AL.on ?_); first | ((first | refine AL.as ?_ | refine AL.mv ?_ | ((with_reducible refine AL.k_call ?_); refine AL.g (OQ.lenS (xt := 26) (r := (none, 1, false)) rfl kr) ?_) | refine AL.et ?_ | ((with_reducible refine AL.k_binOp ?_); first | refine AL.g (OQ.neq rfl rfl) ?_ | refine AL.g (OQ.lss rfl rfl) ?_)); refine AL.nm ?_) | ((refine AL.pcall (g := 121) rfl kr rfl ((by exact hp _ 0 _ rfl rfl hz rfl)) ?_); refine AL.nm ?_) | ((refine AL.acall (g := 122) rfl kr rfl ((by exact hh _ 0 _ rfl rfl rfl)) ?_); refine AL.nm ?_; refine AL.nM ?_) | refine AL.nil ?_) | ((with_reducible refine AW.on ?_); first | refine AW.seq ?_ | refine AW.skip ?_ | refine AW.ret ?_ | refine AW.region ?_ | (refine AW.conds rfl (fun hc => ?_) (fun hc => ?_) <;> (try replace hc := nc hc) <;> first | (exfalso; first | contradiction | (omega); done) | skip)) | ((with_reducible refine FinA.on ?_); (refine FinA.keep 2 [] (.inl rfl) (.tmp wl (.tmp wl .nil)) ?_ rfl (by rw [hE]; exact (by decide : 1 ≤ 2)) rfl rfl ⟨kl rfl (flatP_scal l), kl rfl (flatO_scal _), trivial⟩; rfl)))
theorem Hull_y {m : Mem} {b n c : Nat} {blk : Blk} (l : List Pn) (h0 : cpB l = 0) (hf : flK l (l.length - 2) = false) (hb : m.at b = some blk) (hc : blk.cells = flatP l) (hn : l.length = n) (hz : blk.esz = 0 ∨ blk.esz = 2) (ho : blk.obj = Ob.plain := by rfl) :
  ACalls Tryz.prog 61 [.slice (some ⟨b, 0, none⟩) n c] m (.tuple #[.slice (some ⟨m.length, 0, none⟩) (hl l).length INF, .int .i64 0]) (m ++ [some ⟨flatO (hl l), true, 1⟩]) := by
 subst hn
 have h := ACalls.viaS (m := m) (args := [.slice (some ⟨b, 0, none⟩) l.length c]) (v := .tuple #[.slice (some ⟨m.length, 0, none⟩) (hl l).length INF, .int .i64 0]) [b] [] [some ⟨flatO (hl l), true, 1⟩] (Hull_y0 l c blk.esz h0 hf hz) ⟨bS hb ho hc (flatP_scal _), trivial⟩ (by simp) ⟨⟨_, rfl, rfl⟩, ⟨rfl, rfl, rfl, .inl ⟨rfl, flatO_scal _⟩⟩, trivial⟩ rfl rfl rfl rfl
 exact h
theorem rHull_y {m : Mem} {b n c : Nat} {blk : Blk} (l : List Pn) (h0 : cpB l = 0) (hf : flK l (l.length - 2) = false) (hb : m.at b = some blk) (hc : blk.cells = flatP l) (hn : l.length = n) (ho : blk.obj = Ob.plain := by rfl) :
  ACalls Tryz.prog 60 [.slice (some ⟨b, 0, none⟩) n c] m (.slice (some ⟨m.length, 0, none⟩) (hl l).length INF) (m ++ [some ⟨flatO (hl l), true, 1⟩]) := by
 subst hn
 obtain ⟨h40, hok, hap⟩ := cp_ok h0
 have h := ACalls.viaS (m := m) (args := [.slice (some ⟨b, 0, none⟩) l.length c]) (v := .slice (some ⟨m.length, 0, none⟩) (hl l).length INF) [b] [] [some ⟨flatO (hl l), true, 1⟩] (rHull_c l hok (hl l) (hl_ring h0 hf) c blk.esz (by omega) hf) ⟨bS hb ho hc (flatP_scal _), trivial⟩ (by simp) ⟨⟨_, rfl, rfl⟩, ⟨rfl, rfl, rfl, .inl ⟨rfl, flatO_scal _⟩⟩, trivial⟩ rfl rfl rfl rfl
 exact h
end Go.Proofs.YtmohcmghbfhdlaaGreat
end
end
/- Chapter 6: the opening of wrong nets. -/
section
set_option linter.unusedSimpArgs false
set_option linter.unusedVariables false
section
namespace Go.Me
open Go.Ab Go.Proofs.YtmohcmghbfhdlaaGreat
def fstN (f : Nat → Int) : Nat → Int
 | 0 => -1
 | k + 1 => if fstN f k ≠ -1 then fstN f k else if f k ≠ 0 then k else -1
theorem fstN_no {f : Nat → Int} : ∀ n : Nat, (∀ j, j < n → f j = 0) → fstN f n = -1 := by
 intro n
 induction n with
 | zero => intro _; rfl
 | succ n ih =>
  intro h
  unfold fstN
  rw [if_neg (fun h2 => h2 (ih fun j hj => h j (by omega))), if_neg (fun h2 => h2 (h n (by omega)))]
theorem fstN_yes {f : Nat → Int} {k : Nat} (hk : ∀ j, j < k → f j = 0) (he : f k ≠ 0) : ∀ n : Nat, k < n → fstN f n = k := by
 intro n
 induction n with
 | zero => intro h; omega
 | succ n ih =>
  intro h
  rcases Nat.lt_or_eq_of_le (Nat.le_of_lt_succ h) with h | rfl
  ·have := ih h
   unfold fstN
   rw [this, if_pos (by omega)]
  ·unfold fstN
   rw [if_neg (fun h2 => h2 (fstN_no k hk)), if_pos he]
def lfA (ts : List T3) : List (IE × Int) := lf ts ts.length
def opB (l : List Pn) (ts : List T3) : Bool := (lfA ts).any fun p => decide (lk (lfA ts) (p.1.2, p.1.1) = -1) && !bdB l p.1.1.toNat p.1.2.toNat
def gpB (l : List Pn) (ts : List T3) : Bool := decide (ts.length = 0) || decide (arT l ts ts.length ≠ arS l (hl l) (hl l).length) || decide ((us ts ts.length).length ≠ l.length)
def netE (l : List Pn) (ts : List T3) : Int :=
 if cpB l ≠ 0 then cpB l else if 80 < ts.length then 8 else if fstN (trK l ts) ts.length ≠ -1 then trK l ts (fstN (trK l ts) ts.length).toNat else if opB l ts = true then 25 else if gpB l ts = true then 14 else 0
def netI (l : List Pn) (ts : List T3) : Int :=
 if cpB l ≠ 0 then 0 else if 80 < ts.length then 0 else if fstN (trK l ts) ts.length ≠ -1 then fstN (trK l ts) ts.length else 0
abbrev mpU (u : List Int) : Blk := @Blk.mk [] true 0 ⟨some (.map (mpE encI (u.map fun k => (k, Value.bool true))) (u.map fun k => (k, Value.bool true)).length)⟩
theorem lf_succ (ts : List T3) (k : Nat) : lf ts (k + 1) = lf ts k ++ [(((tr ts k).1, (tr ts k).2.1), (k : Int))] ++ [(((tr ts k).2.1, (tr ts k).2.2), (k : Int))] ++ [(((tr ts k).2.2, (tr ts k).1), (k : Int))] := rfl
theorem shp_map {κ : Type} {enc : κ → Value} {σ : Nat → Nat} {n : Nat} {A B : List (κ × Value)} (h : A = B) : (mpL enc A).shp = Blk.shpR σ n (mpL enc B) := by subst h; rfl
structure Rnd3 (ts : List T3) (k : Nat) : Prop where
 a1 : ∀ p ∈ lfV (lf ts k), okE p.1
 a2 : ∀ p ∈ lfV (lf ts k) ++ [(((tr ts k).1, (tr ts k).2.1), Value.int .i64 (k : Int))], okE p.1
 a3 : ∀ p ∈ lfV (lf ts k) ++ [(((tr ts k).1, (tr ts k).2.1), Value.int .i64 (k : Int))] ++ [(((tr ts k).2.1, (tr ts k).2.2), Value.int .i64 (k : Int))], okE p.1
 b1 : ((tr ts k).1, (tr ts k).2.1) ∉ (lfV (lf ts k)).map (·.1)
 b2 : ((tr ts k).2.1, (tr ts k).2.2) ∉ (lfV (lf ts k) ++ [(((tr ts k).1, (tr ts k).2.1), Value.int .i64 (k : Int))]).map (·.1)
 b3 : ((tr ts k).2.2, (tr ts k).1) ∉ (lfV (lf ts k) ++ [(((tr ts k).1, (tr ts k).2.1), Value.int .i64 (k : Int))] ++ [(((tr ts k).2.1, (tr ts k).2.2), Value.int .i64 (k : Int))]).map (·.1)
 o1 : okE ((tr ts k).1, (tr ts k).2.1)
 o2 : okE ((tr ts k).2.1, (tr ts k).2.2)
 o3 : okE ((tr ts k).2.2, (tr ts k).1)
 c : lfV (lf ts k) ++ [(((tr ts k).1, (tr ts k).2.1), Value.int .i64 (k : Int))] ++ [(((tr ts k).2.1, (tr ts k).2.2), Value.int .i64 (k : Int))] ++ [(((tr ts k).2.2, (tr ts k).1), Value.int .i64 (k : Int))] = lfV (lf ts (k + 1))
theorem rnd3 {l : List Pn} {ts : List T3} {k : Nat} (hl : l.length ≤ 1000) (h : LfOk l.length (lf ts k)) (he : trK l ts k = 0) : Rnd3 ts k := by
 obtain ⟨h1, h2, h3, h4⟩ := lf_step h he
 have e1 : lfV (lf ts k) ++ [(((tr ts k).1, (tr ts k).2.1), Value.int .i64 (k : Int))] = lfV (lf ts k ++ [(((tr ts k).1, (tr ts k).2.1), (k : Int))]) := by rw [lfV_app]; rfl
 have e2 : lfV (lf ts k) ++ [(((tr ts k).1, (tr ts k).2.1), Value.int .i64 (k : Int))] ++ [(((tr ts k).2.1, (tr ts k).2.2), Value.int .i64 (k : Int))] = lfV (lf ts k ++ [(((tr ts k).1, (tr ts k).2.1), (k : Int))] ++ [(((tr ts k).2.1, (tr ts k).2.2), (k : Int))]) := by rw [lfV_app, lfV_app]; rfl
 have e3 : lfV (lf ts k) ++ [(((tr ts k).1, (tr ts k).2.1), Value.int .i64 (k : Int))] ++ [(((tr ts k).2.1, (tr ts k).2.2), Value.int .i64 (k : Int))] ++ [(((tr ts k).2.2, (tr ts k).1), Value.int .i64 (k : Int))] = lfV (lf ts (k + 1)) := by rw [lf_succ, lfV_app, lfV_app, lfV_app]; rfl
 have hall := h4.okE hl
 have hA : ∀ X : List (IE × Int), (∀ p ∈ X, p ∈ lf ts (k + 1)) → ∀ p ∈ lfV X, okE p.1 := fun X hX p hp => by
  obtain ⟨q, hq, rfl⟩ := List.mem_map.1 hp
  exact hall q (hX q hq)
 have hin : ∀ q, q ∈ lf ts (k + 1) ↔ ((q ∈ lf ts k ∨ q = (((tr ts k).1, (tr ts k).2.1), (k : Int))) ∨ q = (((tr ts k).2.1, (tr ts k).2.2), (k : Int))) ∨ q = (((tr ts k).2.2, (tr ts k).1), (k : Int)) := fun q => by
  rw [lf_succ]
  simp only [List.mem_append, List.mem_singleton]
 refine ⟨hA _ fun p hp => (hin p).2 (.inl (.inl (.inl hp))), ?_, ?_, by rw [lfV_keys]; exact h1, by rw [e1, lfV_keys]; exact h2, by rw [e2, lfV_keys]; exact h3, hall (((tr ts k).1, (tr ts k).2.1), (k : Int)) ((hin _).2 (.inl (.inl (.inr rfl)))), hall (((tr ts k).2.1, (tr ts k).2.2), (k : Int)) ((hin _).2 (.inl (.inr rfl))), hall (((tr ts k).2.2, (tr ts k).1), (k : Int)) ((hin _).2 (.inr rfl)), e3⟩
 ·rw [e1]
  refine hA _ fun p hp => (hin p).2 (.inl (.inl ?_))
  simpa only [List.mem_append, List.mem_singleton] using hp
 ·rw [e2]
  refine hA _ fun p hp => (hin p).2 (.inl ?_)
  simpa only [List.mem_append, List.mem_singleton] using hp
theorem hl_lt {l : List Pn} (h : cpB l = 0) : ∀ k, k < (hl l).length → ot (hl l) k < l.length := fun k hk =>
 ((ordL_sorted (cp_ok h).2.2).mem _).1 (hullI_sub l _ _ (List.mem_of_getElem? (ot_lt hk)))
end Go.Me
namespace Go.Proofs.YtmohcmghbfhdlaaGreat
open Go Go.RowKit Go.Ab Go.Me
set_option maxRecDepth 100000
set_option maxHeartbeats 4000000
attribute [local irreducible] OQ OW AL AW AF SW
theorem open_c (l : List Pn) (ts : List T3) (c c2 z z1 : Nat) (hz : z = 0 ∨ z = 2) (hl : l.length ≤ 1000000) (he : cpB l ≠ 0) : PCalls Tryz.prog 71 [.agg #[.slice (some ⟨0, 0, none⟩) l.length c, .slice (some ⟨1, 0, none⟩) ts.length c2]] [some ⟨flatP l, false, z⟩, some ⟨flatT ts, false, z1⟩] (.tuple #[.pointer none, .int .i64 0, .int .i64 (cpB l)]) := by
 have hp := fun (m : Mem) (b : Nat) (blk : Blk) (h1 : m.at b = some blk) (h2 : blk.cells = flatP l) (h3 : blk.esz = 0 ∨ blk.esz = 2) (h4 : blk.obj = Ob.plain) => CheckPoints_q (c := c) l h1 h2 rfl hl h3 h4
 generalize cpA l = A0 at *
 generalize cpB l = B0 at *
 refine PCalls.en 164 Tryz.func71 rfl (ro2p _ _ rfl rfl) rfl (fun E => ?_)
 repeat' (first | with_reducible (first | refine Then.n ?_ | refine Then.r ?_) | ((with_reducible refine AL.on ?_); first | ((first | refine AL.mv ?_ | refine AL.as ?_ | ((with_reducible refine AL.k_load ?_); (refine AL.g (OQ.load1 (ty := 22) rfl kr wl) ?_)) | ((with_reducible refine AL.k_fieldAddr ?_); refine AL.g (OQ.fieldA (ty := 25) (i := 0) (n := 1) (off := 0) (g := false) rfl kr (by decide)) ?_) | ((with_reducible refine AL.k_binOp ?_); refine AL.g (OQ.neq rfl rfl) ?_) | refine AL.et ?_); refine AL.nm ?_) | ((((with_reducible refine AL.k_call ?_); refine AL.pcall (g := 121) rfl kr rfl ((by exact hp _ 0 _ rfl rfl hz rfl)) ?_)); refine AL.nm ?_) | ((refine AL.bx ?_); refine AL.nm ?_; refine AL.nM ?_) | refine AL.nil ?_) | ((with_reducible refine AW.on ?_); first | refine AW.seq ?_ | refine AW.ret ?_ | refine AW.region ?_ | (refine AW.conds rfl (fun hc => ?_) (fun hc => ?_) <;> (try replace hc := nc hc) <;> first | (exfalso; contradiction) | skip)) | ((with_reducible refine FinP.on ?_); (refine FinP.ret (.tmp wl (.tmp wl (.tmp wl .nil))) ?_ rfl); (try simp only [pack, List.drop, List.take]); all_goals (rfl)))
end Go.Proofs.YtmohcmghbfhdlaaGreat
end
end
/- Chapter 6: the opening of nets that are not right. -/
section
set_option linter.unusedSimpArgs false
set_option linter.unusedVariables false
section
namespace Go.Me
open Go.Ab Go.Proofs.YtmohcmghbfhdlaaGreat
theorem le_nodup {α : Type} [BEq α] [LawfulBEq α] : ∀ (l ps : List α), l.Nodup → (∀ y ∈ l, y ∈ ps) → l.length ≤ ps.length
 | [], _, _, _ => Nat.zero_le _
 | x :: l, ps, hn, h => by
  have hx := h x (by simp)
  have hn' := List.nodup_cons.1 hn
  have := le_nodup l (ps.erase x) hn'.2 fun y hy => (List.mem_erase_of_ne (fun e => hn'.1 (by rw [← e]; exact hy))).2 (h y (List.mem_cons_of_mem _ hy))
  rw [List.length_erase_of_mem hx] at this
  have : 0 < ps.length := List.length_pos_of_mem hx
  simp only [List.length_cons]
  omega
theorem seen_le {n : Nat} {seen : List Nat} (hn : seen.Nodup) (h : ∀ j ∈ seen, j < n) : seen.length ≤ n := by
 have := le_nodup seen (List.range n) hn fun y hy => List.mem_range.2 (h y hy)
 rwa [List.length_range] at this
theorem seen_snoc {j : Nat} {seen : List Nat} (hn : seen.Nodup) (hj : j ∉ seen) : (seen ++ [j]).Nodup := by
 rw [List.nodup_append]
 refine ⟨hn, by simp, fun a ha b hb e => ?_⟩
 rw [List.mem_singleton] at hb
 subst hb
 subst e
 exact hj ha
theorem tri_bd {l : List Pn} {ts : List T3} {k : Nat} (hok : ∀ k, k < l.length → (pt l k).Ok) (h : trK l ts k = 0) : -800000000 ≤ arS l [(tr ts k).1.toNat, (tr ts k).2.1.toNat, (tr ts k).2.2.toNat] 3 ∧ arS l [(tr ts k).1.toNat, (tr ts k).2.1.toNat, (tr ts k).2.2.toNat] 3 ≤ 800000000 := by
 obtain ⟨h1, _⟩ := trK_0 h
 unfold inR at h1
 rw [arS_3]
 have := cr_bd (hok (tr ts k).1.toNat (by omega)) (hok (tr ts k).2.1.toNat (by omega)) (hok (tr ts k).2.2.toNat (by omega))
 unfold cr
 omega
theorem arT_bd {l : List Pn} {ts : List T3} (hok : ∀ k, k < l.length → (pt l k).Ok) : ∀ k, (∀ j, j < k → trK l ts j = 0) → -(800000000 * (k : Int)) ≤ arT l ts k ∧ arT l ts k ≤ 800000000 * (k : Int)
 | 0, _ => by unfold arT; omega
 | k + 1, h => by
  have := arT_bd hok k fun j hj => h j (by omega)
  have := tri_bd hok (h k (by omega))
  unfold arT
  omega
theorem lfV_get {n : Nat} {L : List (IE × Int)} (h : LfOk n L) {j : Nat} {kk : IE} {v : Value} (hj : (lfV L)[j]? = some (kk, v)) : j < L.length ∧ (∃ i : Int, v = .int .i64 i ∧ (kk, i) ∈ L) ∧ (0 ≤ kk.1 ∧ kk.1 < n) ∧ (0 ≤ kk.2 ∧ kk.2 < n) := by
 unfold lfV at hj
 rw [List.getElem?_map] at hj
 cases hq : L[j]? with
 | none => rw [hq] at hj; cases hj
 | some p =>
  rw [hq] at hj
  cases hj
  have hm := List.mem_of_getElem? hq
  have := h.rng p hm
  exact ⟨(List.getElem?_eq_some_iff.1 hq).1, ⟨p.2, rfl, hm⟩, this.1, this.2.1⟩
theorem lfV_flat (L : List (IE × Int)) : ∀ p ∈ lfV L, Ab.flat1 p.2 = true := fun p hp => by
 obtain ⟨q, _, rfl⟩ := List.mem_map.1 hp
 rfl
theorem lfV_len (L : List (IE × Int)) : (lfV L).length = L.length := List.length_map _
theorem opB_yes {l : List Pn} {ts : List T3} {kk : IE} {i : Int} (hm : (kk, i) ∈ lfA ts) (h1 : lk (lfA ts) (kk.2, kk.1) = -1) (h2 : bdB l kk.1.toNat kk.2.toNat = false) : opB l ts = true := by
 unfold opB
 rw [List.any_eq_true]
 exact ⟨_, hm, by simp only; rw [h1, h2]; rfl⟩
theorem opB_no {l : List Pn} {ts : List T3} (h : ∀ p ∈ lfA ts, lk (lfA ts) (p.1.2, p.1.1) = -1 → bdB l p.1.1.toNat p.1.2.toNat = true) : opB l ts = false := by
 unfold opB
 rw [List.any_eq_false]
 intro p hp h2
 rw [Bool.and_eq_true, decide_eq_true_iff] at h2
 have := h p hp h2.1
 rw [this] at h2
 cases h2.2
end Go.Me
end
section
namespace Go.Me
open Go.Ab Go.Proofs.YtmohcmghbfhdlaaGreat
theorem hl_le {l : List Pn} (h : cpB l = 0) : (hl l).length ≤ 1000 := by
 have h40 := (cp_ok h).1
 have e : (hl l).length = _ := congrArg List.length (hullI_ou l (ordL l))
 have h1 := ouK_le (l := l) (o := ordL l) (ordL l).length
 have h2 := ouK_le (l := l) (o := (ordL l).reverse) (ordL l).length
 rw [List.length_reverse] at h2
 rw [ordL_len] at h1 h2
 rw [e, List.length_append, List.length_take, List.length_take, ordL_len]
 omega
theorem two_of {l : List Pn} {ts : List T3} (hall : ∀ j, j < ts.length → trK l ts j = 0) (h : 0 < ts.length) : 2 ≤ l.length := by
 obtain ⟨h1, h2, _⟩ := trK_0 (hall 0 h)
 unfold inR at h1
 unfold ordB at h2
 omega
end Go.Me
end
end
/- Chapter 6: the opening of nets with a wrong triangle. -/
section
set_option linter.unusedSimpArgs false
set_option linter.unusedVariables false
section
namespace Go.Proofs.YtmohcmghbfhdlaaGreat
open Go Go.RowKit Go.Ab Go.Me
set_option maxRecDepth 100000
set_option maxHeartbeats 4000000
attribute [local irreducible] OQ OW AL AW AF SW
theorem open_t (l : List Pn) (ts : List T3) (c c2 z z1 : Nat) (hz : z = 0 ∨ z = 2) (h0 : cpB l = 0) (h80 : ts.length ≤ 80) (i : Nat) (hi : i < ts.length) (hji : ∀ j, j < i → trK l ts j = 0) (hti : trK l ts i ≠ 0) :
  PCalls Tryz.prog 71 [.agg #[.slice (some ⟨0, 0, none⟩) l.length c, .slice (some ⟨1, 0, none⟩) ts.length c2]] [some ⟨flatP l, false, z⟩, some ⟨flatT ts, false, z1⟩] (.tuple #[.pointer none, .int .i64 i, .int .i64 (trK l ts i)]) := by
 obtain ⟨h40, hok, hap⟩ := cp_ok h0
 have hp := fun (m : Mem) (b : Nat) (blk : Blk) (h1 : m.at b = some blk) (h2 : blk.cells = flatP l) (h3 : blk.esz = 0 ∨ blk.esz = 2) (h4 : blk.obj = Ob.plain) => CheckPoints_q (c := c) l h1 h2 rfl (by omega) h3 h4
 rw [h0] at hp
 have hlf := fun (k : Nat) (hj : ∀ j, j < k → trK l ts j = 0) => lf_ok (l := l) (ts := ts) k hj
 have hte : ∀ (k : Nat) (hk : k < ts.length) (hj : ∀ j, j < k → trK l ts j = 0) (m : Mem) (A B N : Blk) (own : Bool) (h1 : m.at 0 = some A) (h2 : A.cells = flatP l) (h3 : m.at 1 = some B) (h4 : B.cells = flatT ts) (h5 : m.at 4 = some N) (h6 : N.cells = [.slice (some ⟨0, 0, none⟩) l.length c, .slice (some ⟨1, 0, none⟩) ts.length c2, .slice none 0 0, .map (some 3)]) (h7 : m.at 3 = some (mpX (lf ts k) own 0)) (o1 : A.obj = Ob.plain) (o2 : B.obj = Ob.plain) (o3 : N.obj = Ob.plain), PCalls Tryz.prog 127 [.pointer (some ⟨4, 0, none⟩), .int .i64 k] m (.int .i64 (trK l ts k)) := fun k hk hj m A B N own h1 h2 h3 h4 h5 h6 h7 o1 o2 o3 => triangleErr_q l ts (lf ts k) hok (by omega) (by omega) (hlf k hj).nd ((hlf k hj).okE (by omega)) hk h1 h2 h3 h4 h5 h6 h7 o1 o2 o3
 have hr3 := fun (k : Nat) (hj : ∀ j, j < k → trK l ts j = 0) (he : trK l ts k = 0) => rnd3 (l := l) (by omega) (hlf k hj) he
 have hun := us_nodup ts
 have hrd := fun (a b d : Int) (m : Mem) => around_q a b d m
 have h3t : ∀ k, trK l ts k = 0 → (0 ≤ (tr ts k).1 ∧ (tr ts k).1 < l.length) ∧ (0 ≤ (tr ts k).2.1 ∧ (tr ts k).2.1 < l.length) ∧ (0 ≤ (tr ts k).2.2 ∧ (tr ts k).2.2 < l.length) := fun k he => by
  have := (trK_0 he).1
  unfold inR at this
  omega
 have hare : ∀ (k : Nat) (he : trK l ts k = 0) (m : Mem) (b d : Nat) (blk blk2 : Blk) (h1 : m.at b = some blk) (h2 : blk.cells = flatP l) (h3 : m.at d = some blk2) (h4 : blk2.cells = [.int .i64 (tr ts k).1, .int .i64 (tr ts k).2.1, .int .i64 (tr ts k).2.2]) (o1 : blk.obj = Ob.plain) (o2 : blk2.obj = Ob.plain), PCalls Tryz.prog 129 [.slice (some ⟨b, 0, none⟩) l.length c, .slice (some ⟨d, 0, none⟩) 3 3] m (.int .i64 (arS l [(tr ts k).1.toNat, (tr ts k).2.1.toNat, (tr ts k).2.2.toNat] 3)) := fun k he m b d blk blk2 h1 h2 h3 h4 o1 o2 => by
  have hq := h3t k he
  exact area_q l [(tr ts k).1.toNat, (tr ts k).2.1.toNat, (tr ts k).2.2.toNat] hok (fun j hj => by
   match j, hj with
   | 0, _ => show (tr ts k).1.toNat < _; omega
   | 1, _ => show (tr ts k).2.1.toNat < _; omega
   | 2, _ => show (tr ts k).2.2.toNat < _; omega
   | j + 3, hj => simp at hj; omega) (by simp) h1 h2 rfl h3 (by rw [h4]; show _ = [Value.int .i64 (((tr ts k).1.toNat : Nat) : Int), Value.int .i64 (((tr ts k).2.1.toNat : Nat) : Int), Value.int .i64 (((tr ts k).2.2.toNat : Nat) : Int)]; rw [Int.toNat_of_nonneg hq.1.1, Int.toNat_of_nonneg hq.2.1.1, Int.toNat_of_nonneg hq.2.2.1]) rfl o1 o2
 have htb := fun (k : Nat) (he : trK l ts k = 0) => tri_bd (l := l) (ts := ts) (k := k) hok he
 have hab := fun (k : Nat) (hj : ∀ j, j < k → trK l ts j = 0) => arT_bd (l := l) (ts := ts) hok k hj
 refine PCalls.enJ 164 Tryz.func71 rfl (ro2p _ _ rfl rfl) rfl (fun E hE => ?_)
 repeat' (first | with_reducible (first | refine Then.n ?_ | refine Then.r ?_ | refine Then.x ?_ | refine InB.n ?_ | refine InB.r ?_ | refine InB.hit ?_) | ((with_reducible refine AL.on ?_); first | ((first | refine AL.mv ?_ | refine AL.as ?_ | ((with_reducible refine AL.k_load ?_); first | (refine AL.g (OQ.load1 (ty := 22) rfl kr (by (conv => lhs; whnf))) ?_) | (refine AL.g (OQ.load1 (ty := 23) rfl kr (by (conv => lhs; whnf))) ?_) | refine AL.g (OQ.loadN (ty := 25) (n := 2) rfl kr kr (by rfl)) ?_ | refine AL.g (OQ.loadN (ty := 62) (n := 3) rfl kr kr (by first | (exact flatT_ld rfl rfl _ (by omega)) | rfl)) ?_ | (refine AL.g (OQ.load1 (ty := 3) rfl kr (by (conv => lhs; whnf))) ?_)) | ((with_reducible refine AL.k_call ?_); refine AL.g (OQ.lenS (xt := 23) (r := (none, 3, true)) rfl kr) ?_) | ((with_reducible refine AL.k_binOp ?_); first | refine AL.g (OQ.neq rfl rfl) ?_ | refine AL.g (OQ.gtr rfl rfl) ?_ | refine AL.g (OQ.lss rfl rfl) ?_ | refine AL.g (OQ.addi rfl rfl (by omega)) ?_) | refine AL.et ?_ | ((with_reducible refine AL.k_index ?_); refine AL.g (OQ.idxArrL (ty := 170) (n := 2) (l := 3) rfl rfl kr (by omega) (by omega) rfl) ?_)); refine AL.nm ?_) | ((first | ((with_reducible refine AL.k_call ?_); first | refine AL.pcall (g := 121) rfl kr rfl ((by exact hp _ 0 _ rfl rfl hz rfl)) ?_ | refine AL.pcall (g := 127) rfl kr rfl ((by exact hte k (by omega) hj _ _ _ _ _ rfl rfl rfl rfl rfl rfl rfl rfl rfl rfl)) ?_ | refine AL.pcall (g := 128) rfl kr rfl (hrd _ _ _ _) ?_) | ((with_reducible refine AL.k_fieldAddr ?_); first | refine AL.g (OQ.fieldA (ty := 25) (i := 0) (n := 1) (off := 0) (g := false) rfl kr (by decide)) ?_ | refine AL.g (OQ.fieldA (ty := 25) (i := 1) (n := 1) (off := 1) (g := false) rfl kr (by decide)) ?_) | ((with_reducible refine AL.k_indexAddr ?_); first | refine AL.g (OQ.idxAddr (ty := 23) (z := 3) (g := true) rfl rfl kr (by omega) (by omega)) ?_ | refine AL.g (OQ.idxPtr (ty := 52) (n := 1) (l := 2) (g := false) rfl rfl kr (by omega) (by omega)) ?_) | ((with_reducible refine AL.k_build ?_); refine AL.g (OQ.buildS (ty := 110) (zs := [.slice none 0 0, .slice none 0 0, .slice none 0 0, .map none]) (pls := [(0, 2), (2, 1), (3, 1)]) kr rfl kr rfl rfl rfl) ?_)); refine AL.nm ?_) | ((first | ((with_reducible refine AL.k_store ?_); first | (refine AL.w rfl (OW.store (ty := 62) (n := 3) rfl wl rfl rfl kr rfl rfl (by decide) rfl (Nat.le_of_ble_eq_true rfl) (by intro r h; cases h)) ?_) | (refine AL.w rfl (OW.store (ty := 52) (n := 2) rfl wl rfl rfl kr rfl rfl (by decide) rfl (Nat.le_of_ble_eq_true rfl) (by intro r h; cases h)) ?_)) | ((with_reducible refine AL.k_alloc ?_); first | refine AL.w rfl (OW.alloc (ty := 62) (z := [.int .i64 0, .int .i64 0, .int .i64 0]) kr rfl) ?_ | refine AL.w rfl (OW.alloc (ty := 52) (z := [.int .i64 0, .int .i64 0]) kr rfl) ?_) | refine AL.bx ?_ | refine AL.w rfl OW.makeMap ?_ | refine AL.w rfl (by first | exact OW.mupdN (enc := encE) (k := ((tr ts k).1, (tr ts k).2.1)) KE hs3.o1 hs3.a1 rfl rfl rfl Tryz.underlying108 rfl hs3.b1 rfl | exact OW.mupdN (enc := encE) (k := ((tr ts k).2.1, (tr ts k).2.2)) KE hs3.o2 hs3.a2 rfl rfl rfl Tryz.underlying108 rfl hs3.b2 rfl | exact OW.mupdN (enc := encE) (k := ((tr ts k).2.2, (tr ts k).1)) KE hs3.o3 hs3.a3 rfl rfl rfl Tryz.underlying108 rfl hs3.b3 rfl | exact OW.mins (enc := encI) (l := us ts k) (k := (tr ts k).1) (v := .bool true) KI trivial (fun _ _ => trivial) rfl rfl rfl Tryz.underlying107 rfl (hun k) rfl | exact OW.mins (enc := encI) (l := insL (us ts k) (tr ts k).1) (k := (tr ts k).2.1) (v := .bool true) KI trivial (fun _ _ => trivial) rfl rfl rfl Tryz.underlying107 rfl (insL_nodup (hun k)) rfl | exact OW.mins (enc := encI) (l := insL (insL (us ts k) (tr ts k).1) (tr ts k).2.1) (k := (tr ts k).2.2) (v := .bool true) KI trivial (fun _ _ => trivial) rfl rfl rfl Tryz.underlying107 rfl (insL_nodup (insL_nodup (hun k))) rfl) ?_); refine AL.nm ?_; refine AL.nM ?_) | refine AL.nil ?_) | ((with_reducible refine AW.on ?_); first | refine AW.seq ?_ | refine AW.skip ?_ | refine AW.exit ?_ | refine AW.ret ?_ | ((refine AW.block (id := 0) ?_); (refine AW.fk [1, 7, 8, 9, 36, 37, 38] ?_); (refine AW.loop (fun n' t' m => ∃ k : Nat, n' = ts.length - k ∧ k ≤ ts.length ∧ (∀ j, j < k → trK l ts j = 0) ∧ t' = (mtz 165 0 [(1, .pointer (some ⟨2, 0, none⟩)), (7, .pointer (some ⟨4, 0, none⟩)), (8, .int .i64 (arT l ts k)), (9, .map (some 5)), (36, .slice (some ⟨1, 0, none⟩) ts.length c2), (37, .int .i64 (ts.length)), (38, .int .i64 (k))]) ∧ m = [some ⟨flatP l, false, z⟩, some ⟨flatT ts, false, z1⟩, some ⟨[.slice (some ⟨0, 0, none⟩) l.length c, .slice (some ⟨1, 0, none⟩) ts.length c2], true, 0⟩, some (mpX (lf ts k) true 0), some ⟨[.slice (some ⟨0, 0, none⟩) l.length c, .slice (some ⟨1, 0, none⟩) ts.length c2, .slice none 0 0, .map (some 3)], true, 0⟩, some (mpU (us ts k))]) (ts.length) (by exact ⟨0, rfl, Nat.zero_le _, fun j h => absurd h (by omega), rfl, rfl⟩) ?_); (rintro n' t' m ⟨k, rfl, hk, hj, rfl, rfl⟩); (refine AW.nT ?_)) | (refine AW.block (id := 2) ?_; refine AW.unroll 4 ?_) | refine AW.block ?_ | (refine AW.drawF (id := 18) 6 #[0, 1, 3, 7, 0, 0, 63] kr kr ?_; (conv => (arg 8; simp only [List.take_succ_cons, List.take_zero]))) | (refine AW.drawF (id := 21) 5 #[0, 0, 2, 0, 14, 31, 63] kr kr ?_; (conv => (arg 8; simp only [List.take_succ_cons, List.take_zero])); ((have hq1 := htb k ‹_›; have hq2 := hab k hj))) | (refine AW.region (id := 15) ?_; ((have hs3 := hr3 k hj ‹_›; have ht3 := h3t k ‹_›))) | refine AW.region ?_ | (refine AW.conds rfl (fun hc => ?_) (fun hc => ?_) <;> (try replace hc := nc hc) <;> first | (exfalso; first | contradiction | (first | omega | (exact absurd (hj i (by omega)) hti)); done) | skip)) | ((with_reducible refine AF.on ?_); first | ((first | ((with_reducible refine AF.k_move ?_); (refine AF.q 0 (SW.q (OQ.move wl) rfl) ?_)) | ((with_reducible refine AF.k_load ?_); first | (refine AF.ql rfl (SW.q (OQ.load1 (ty := 108) rfl kr (by (conv => lhs; whnf))) rfl) ?_) | refine AF.ql rfl (SW.q (OQ.loadN (ty := 52) (n := 2) rfl kr kr (by rfl)) rfl) ?_ | (refine AF.ql rfl (SW.q (OQ.load1 (ty := 22) rfl kr (by (conv => lhs; whnf))) rfl) ?_)) | ((with_reducible refine AF.k_call ?_); refine AF.q 2 (SW.pcall (g := 129) rfl kr rfl ((by exact hare k ‹_› _ 0 6 _ _ rfl rfl rfl rfl rfl rfl)) rfl) ?_) | ((with_reducible refine AF.k_fieldAddr ?_); first | refine AF.q 0 (SW.q (OQ.fieldA (ty := 110) (i := 2) (n := 1) (off := 3) (g := false) rfl kr (by decide)) rfl) ?_ | refine AF.q 0 (SW.q (OQ.fieldA (ty := 25) (i := 0) (n := 1) (off := 0) (g := false) rfl kr (by decide)) rfl) ?_) | refine AF.q 2 (SW.q (OQ.nilCheck rfl) rfl) ?_ | refine AF.q 2 (SW.q (by exact OQ.sliceA (ty := 62) (n := 3) (z := 1) (g := false) (l := 0) (h := 3) rfl kr rfl rfl rfl rfl (by decide) (by decide) (by decide)) rfl) ?_); refine AF.nm ?_) | refine AF.nl ?_) | with_reducible refine AR.s ?_ | ((with_reducible refine ex_on ?_); (refine ⟨ts.length - (k + 1), [jk, .pointer (some ⟨2, 0, none⟩), jk, jk, jk, jk, jk, .pointer (some ⟨4, 0, none⟩), .int .i64 (arT l ts (k + 1)), .map (some 5), jk, jk, jk, jk, jk, jk, jk, jk, jk, jk, jk, jk, jk, jk, jk, jk, jk, jk, jk, jk, jk, jk, jk, jk, jk, jk, .slice (some ⟨1, 0, none⟩) ts.length c2, .int .i64 (ts.length), .int .i64 (((k + 1 : Nat) : Int)), jk, jk, jk, jk, jk, jk, jk, jk, jk, jk, jk, jk, jk, jk, jk, jk, jk, jk, jk, jk, jk, jk, jk, jk, jk, jk, jk, jk, jk, jk, jk, jk, jk, jk, jk, jk, jk, jk, jk, jk, jk, jk, jk, jk, jk, jk, jk, jk, jk, jk, jk, jk, jk, jk, jk, jk, jk, jk, jk, jk, jk, jk, jk, jk, jk, jk, jk, jk, jk, jk, jk, jk, jk, jk, jk, jk, jk, jk, jk, jk, jk, jk, jk, jk, jk, jk, jk, jk, jk, jk, jk, jk, jk, jk, jk, jk, jk, jk, jk, jk, jk, jk, jk, jk, jk, jk, jk, jk, jk, jk, jk, jk, jk, jk, jk, jk, jk, jk, jk, jk, jk, jk, jk, jk, jk, jk], [some ⟨flatP l, false, z⟩, some ⟨flatT ts, false, z1⟩, some ⟨[.slice (some ⟨0, 0, none⟩) l.length c, .slice (some ⟨1, 0, none⟩) ts.length c2], true, 0⟩, some (mpX (lf ts (k + 1)) true 0), some ⟨[.slice (some ⟨0, 0, none⟩) l.length c, .slice (some ⟨1, 0, none⟩) ts.length c2, .slice none 0 0, .map (some 3)], true, 0⟩, some (mpU (us ts (k + 1)))], by omega, ?_, k + 1, rfl, by omega, fun j h => (by rcases Nat.lt_or_eq_of_le (Nat.le_of_lt_succ h) with h | rfl; (exact hj j h); assumption), rfl, rfl⟩; exact Wk.keep 6 [] (by rw [hE]; exact (by decide : 2 ≤ 6)) rfl rfl (by repeat (first | exact RenT.nil | refine RenT.jk ?_ | refine RenT.val (by rfl) (by rfl) ?_)) ⟨kl rfl (flatP_scal l), kl rfl (flatT_scal ts), ki rfl, ⟨_, rfl, rfl, shp_map hs3.c, .inl ⟨rfl, rfl⟩⟩, ki rfl, kl rfl rfl, trivial⟩)) | ((with_reducible refine FinJ.on ?_); (have hki : k = i := (by rcases Nat.lt_trichotomy k i with h | h | h; (exact absurd (hji k h) (by assumption)); (exact h); (exact absurd (hj i h) hti)); subst hki; exact FinJ.ret (.tmp wl (.tmp wl (.tmp wl .nil))) (jle_flat rfl))))
end Go.Proofs.YtmohcmghbfhdlaaGreat
end
end
