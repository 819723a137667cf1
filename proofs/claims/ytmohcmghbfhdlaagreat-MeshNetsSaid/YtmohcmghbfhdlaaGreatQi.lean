/- Chapter 6: sums around triangles (the program's). -/
import Derived.Test.YtmohcmghbfhdlaaGreatQc
import Derived.Test.YtmohcmghbfhdlaaGreatQh
section
set_option linter.unusedSimpArgs false
set_option linter.unusedVariables false
section
namespace Go.Me
open Go.Ab Go.Proofs.YtmohcmghbfhdlaaGreat
theorem lf_idx {ts : List T3} : ∀ k, ∀ p ∈ lf ts k, 0 ≤ p.2 ∧ p.2 < (k : Int)
  | 0, p, hp => by simp [lf] at hp
  | k + 1, p, hp => by
    rw [lf_succ] at hp
    simp only [List.mem_append, List.mem_singleton] at hp
    rcases hp with ((hp | rfl) | rfl) | rfl
    · have := lf_idx k p hp
      omega
    all_goals simp only; omega
theorem lk_rng (ts : List T3) (e : IE) : -1 ≤ lk (lfA ts) e ∧ lk (lfA ts) e < ts.length := by
  by_cases h : e ∈ (lfA ts).map (·.1)
  · have := lf_idx ts.length _ (lk_mem h)
    simp only at this
    unfold lfA at *
    omega
  · rw [lk_not h]
    omega
theorem sdP_rng (ts : List T3) (e : Pn) : (-1 ≤ (sdP ts e).x ∧ (sdP ts e).x < ts.length) ∧ (-1 ≤ (sdP ts e).y ∧ (sdP ts e).y < ts.length) := ⟨lk_rng ts _, lk_rng ts _⟩
def smL (ts : List T3) (xs : List Int) : Nat → List Int
  | 0 => List.replicate ts.length 0
  | k + 1 =>
    let s := sdP ts (pt (edL ts) k)
    let A1 := if s.x = -1 then smL ts xs k else (smL ts xs k).set s.x.toNat (nt (smL ts xs k) s.x.toNat + nt xs k)
    if s.y = -1 then A1 else A1.set s.y.toNat (nt A1 s.y.toNat - nt xs k)
theorem smL_len (ts : List T3) (xs : List Int) : ∀ k, (smL ts xs k).length = ts.length
  | 0 => List.length_replicate
  | k + 1 => by
    have := smL_len ts xs k
    unfold smL
    simp only
    split <;> split <;> simp [this]
theorem nt_set {A : List Int} {i j : Nat} {x : Int} (hj : j < A.length) : nt (A.set i x) j = if i = j then x else nt A j := by
  unfold nt
  rw [List.getD_eq_getElem?_getD, List.getD_eq_getElem?_getD, List.getElem?_set]
  by_cases h : i = j
  · subst h; simp [hj]
  · simp [h]
theorem smL_bd {ts : List T3} {xs : List Int} (hx : ∀ k, k < xs.length → -1000000000 ≤ nt xs k ∧ nt xs k ≤ 1000000000) : ∀ k, k ≤ xs.length → ∀ i, i < ts.length → -(2000000000 * (k : Int)) ≤ nt (smL ts xs k) i ∧ nt (smL ts xs k) i ≤ 2000000000 * (k : Int)
  | 0, _, i, hi => by
    unfold smL nt
    rw [List.getD_eq_getElem?_getD, List.getElem?_replicate, if_pos hi]
    simp
  | k + 1, hk, i, hi => by
    have ih := smL_bd (ts := ts) hx k (by omega)
    have h1 := hx k (by omega)
    have h2 := ih i hi
    have hl := smL_len ts xs k
    have hr := sdP_rng ts (pt (edL ts) k)
    unfold smL
    simp only
    split <;> split
    · omega
    · rw [nt_set (by omega)]
      have h3 := ih (sdP ts (pt (edL ts) k)).x.toNat (by omega)
      split <;> omega
    · rw [nt_set (by omega)]
      have h3 := ih (sdP ts (pt (edL ts) k)).y.toNat (by omega)
      split <;> omega
    · have h3 := ih (sdP ts (pt (edL ts) k)).x.toNat (by omega)
      have h4 := ih (sdP ts (pt (edL ts) k)).y.toNat (by omega)
      rw [nt_set (by rw [List.length_set]; omega), nt_set (by omega), nt_set (by omega)]
      repeat' split
      all_goals omega
theorem flatN_set (A : List Int) (i : Nat) (x : Int) : flatN (A.set i x) = (flatN A).set i (.int .i64 x) := by
  unfold flatN
  rw [List.map_set]
theorem flatN_zero {n : Nat} {f : Nat → Value} (hf : ∀ i, f i = .int .i64 0) : (List.range n).map f = flatN (List.replicate n 0) := by
  unfold flatN
  rw [List.map_replicate]
  refine List.ext_getElem (by simp) fun i h1 h2 => ?_
  simp [hf]
theorem mem6_zero {l : List Pn} {ts : List T3} {xs : List Int} {c c2 z0 z1 z2 z4 z5 : Nat} {f : Nat → Value} {A : List Int} (hA : A = List.replicate ts.length 0) (hf : ∀ i, f i = .int .i64 0) : mem6 l ts xs c c2 z0 z1 z2 z4 z5 ++ [some ⟨(List.range ts.length).map f, true, 1⟩] = mem6 l ts xs c c2 z0 z1 z2 z4 z5 ++ [some ⟨flatN A, true, 1⟩] := by
  rw [hA, flatN_zero hf]
theorem smL_a {ts : List T3} {xs : List Int} {k : Nat} (h1 : (sdP ts (pt (edL ts) k)).x = -1) (h2 : (sdP ts (pt (edL ts) k)).y = -1) : smL ts xs (k + 1) = smL ts xs k := by
  conv => lhs; unfold smL
  simp only
  rw [if_pos h2, if_pos h1]
theorem smL_b {ts : List T3} {xs : List Int} {k : Nat} (h1 : (sdP ts (pt (edL ts) k)).x = -1) (h2 : (sdP ts (pt (edL ts) k)).y ≠ -1) : smL ts xs (k + 1) = (smL ts xs k).set (sdP ts (pt (edL ts) k)).y.toNat (nt (smL ts xs k) (sdP ts (pt (edL ts) k)).y.toNat - nt xs k) := by
  conv => lhs; unfold smL
  simp only
  rw [if_neg h2, if_pos h1]
theorem smL_c {ts : List T3} {xs : List Int} {k : Nat} (h1 : (sdP ts (pt (edL ts) k)).x ≠ -1) (h2 : (sdP ts (pt (edL ts) k)).y = -1) : smL ts xs (k + 1) = (smL ts xs k).set (sdP ts (pt (edL ts) k)).x.toNat (nt (smL ts xs k) (sdP ts (pt (edL ts) k)).x.toNat + nt xs k) := by
  conv => lhs; unfold smL
  simp only
  rw [if_pos h2, if_neg h1]
theorem smL_d {ts : List T3} {xs : List Int} {k : Nat} (h1 : (sdP ts (pt (edL ts) k)).x ≠ -1) (h2 : (sdP ts (pt (edL ts) k)).y ≠ -1) : smL ts xs (k + 1) = ((smL ts xs k).set (sdP ts (pt (edL ts) k)).x.toNat (nt (smL ts xs k) (sdP ts (pt (edL ts) k)).x.toNat + nt xs k)).set (sdP ts (pt (edL ts) k)).y.toNat (nt ((smL ts xs k).set (sdP ts (pt (edL ts) k)).x.toNat (nt (smL ts xs k) (sdP ts (pt (edL ts) k)).x.toNat + nt xs k)) (sdP ts (pt (edL ts) k)).y.toNat - nt xs k) := by
  conv => lhs; unfold smL
  simp only
  rw [if_neg h2, if_neg h1]
end Go.Me
namespace Go.Proofs.YtmohcmghbfhdlaaGreat
open Go Go.RowKit Go.Ab Go.Me
set_option maxRecDepth 100000
set_option maxHeartbeats 4000000
attribute [local irreducible] OQ OW AL AW AF SW
theorem sums_0 (l : List Pn) (ts : List T3) (hR : NetR l ts) (xs : List Int) (hxl : xs.length = (edL ts).length) (hx : ∀ k, k < xs.length → -1000000000 ≤ nt xs k ∧ nt xs k ≤ 1000000000) (c c2 c3 z0 z1 z2 z4 z5 : Nat) :
    ACalls Tryz.prog 125 [.pointer (some ⟨2, 0, none⟩), .slice (some ⟨5, 0, none⟩) xs.length c3] [some ⟨flatP l, false, z0⟩, some ⟨flatT ts, false, z1⟩, some ⟨[.slice (some ⟨0, 0, none⟩) l.length c, .slice (some ⟨1, 0, none⟩) ts.length c2, .slice (some ⟨4, 0, none⟩) (edL ts).length INF, .map (some 3)], false, z2⟩, some (mpX (lfA ts) false 0), some ⟨flatP (edL ts), false, z4⟩, some ⟨flatN xs, false, z5⟩]
      (.slice (some ⟨6, 0, none⟩) ts.length ts.length) [some ⟨flatP l, false, z0⟩, some ⟨flatT ts, false, z1⟩, some ⟨[.slice (some ⟨0, 0, none⟩) l.length c, .slice (some ⟨1, 0, none⟩) ts.length c2, .slice (some ⟨4, 0, none⟩) (edL ts).length INF, .map (some 3)], false, z2⟩, some (mpX (lfA ts) false 0), some ⟨flatP (edL ts), false, z4⟩, some ⟨flatN xs, false, z5⟩, some ⟨flatN (smL ts xs xs.length), true, 1⟩] := by
  have hg := fun (k : Nat) (hk : k < xs.length) => flatN_get xs k hk
  have hle := edL_le ts
  have h80 := hR.le
  have hs := fun (m : Mem) (i : Nat) (h : OpenN m 2 3 4 0 1 c c2 l ts) (hi : i < (edL ts).length) => sides_q (i := i) h hR hi
  have hr := fun (k : Nat) => sdP_rng ts (pt (edL ts) k)
  have hsl := smL_len ts xs
  have hbd := smL_bd (ts := ts) hx
  have hS0 : smL ts xs 0 = List.replicate ts.length 0 := rfl
  have ha := fun k => smL_a (ts := ts) (xs := xs) (k := k)
  have hb := fun k => smL_b (ts := ts) (xs := xs) (k := k)
  have hc1 := fun k => smL_c (ts := ts) (xs := xs) (k := k)
  have hd := fun k => smL_d (ts := ts) (xs := xs) (k := k)
  have hsn := fun k => flatN_scal (smL ts xs k)
  have hgA := fun (k i : Nat) (hi : i < ts.length) => flatN_get (smL ts xs k) i (by rw [smL_len]; exact hi)
  have hgB : ∀ (k i j : Nat) (x : Int) (hi : i < ts.length), ((flatN (smL ts xs k)).set j (.int .i64 x))[i]? = some (.int .i64 (nt ((smL ts xs k).set j x) i)) := fun k i j x hi => by
    rw [← flatN_set]
    exact flatN_get _ _ (by rw [List.length_set, smL_len]; exact hi)
  have hnB : ∀ (k i j : Nat) (x : Int) (hi : i < ts.length), nt ((smL ts xs k).set j x) i = if j = i then x else nt (smL ts xs k) i := fun k i j x hi => nt_set (by rw [smL_len]; exact hi)
  have hfl : ∀ k, (flatN (smL ts xs k)).length = ts.length := fun k => by rw [flatN_len, smL_len]
  refine ACalls.en 48 Tryz.func125 rfl rfl (fun E hE => ?_)
  repeat' (first | with_reducible (first | refine Then.n ?_ | refine Then.x ?_ | refine InB.n ?_ | refine InB.hit ?_) | ((with_reducible refine AL.on ?_); first | ((first | ((with_reducible refine AL.k_move ?_); (refine AL.q rfl (OQ.move wl) ?_)) | ((with_reducible refine AL.k_load ?_); first | (refine AL.q rfl (OQ.load1 (ty := 23) rfl kr (by (conv => lhs; whnf))) ?_) | (refine AL.q rfl (OQ.load1 (ty := 3) rfl kr (by first | (first | exact hg _ (by omega) | exact hgA k _ (by omega) | exact hgB k _ _ _ (by omega)) | (conv => lhs; whnf))) ?_)) | ((with_reducible refine AL.k_binOp ?_); first | refine AL.q rfl (OQ.lss rfl rfl) ?_ | refine AL.q rfl (OQ.neq rfl rfl) ?_ | refine AL.q rfl (OQ.addi rfl rfl (by omega)) ?_ | refine AL.q rfl (OQ.subi rfl rfl (by omega)) ?_) | ((with_reducible refine AL.k_assign ?_); (refine AL.q rfl (OQ.assign wl) ?_)) | ((with_reducible refine AL.k_call ?_); first | refine AL.q rfl (OQ.lenS (xt := 23) (r := (none, 3, true)) rfl kr) ?_ | refine AL.q rfl (OQ.lenS (xt := 26) (r := (none, 1, false)) rfl kr) ?_) | refine AL.q rfl (OQ.nilCheck rfl) ?_); (refine AL.nm ?_)) | ((first | ((with_reducible refine AL.k_indexAddr ?_); first | refine AL.q rfl (OQ.idxAddr (ty := 26) (z := 1) (g := false) rfl rfl kr (by omega) (by omega)) ?_ | refine AL.q rfl (OQ.idxPtr (ty := 52) (n := 1) (l := 2) (g := false) rfl rfl kr (by omega) (by omega)) ?_) | ((with_reducible refine AL.k_call ?_); refine AL.pcall (g := 72) rfl kr rfl ((by exact hs _ k ⟨⟨_, rfl, rfl, rfl⟩, ⟨_, rfl, rfl, rfl⟩, ⟨_, rfl, rfl, rfl⟩, ⟨_, rfl⟩, ⟨_, rfl, rfl, rfl⟩⟩ (by omega))) ?_) | ((with_reducible refine AL.k_fieldAddr ?_); first | refine AL.q rfl (OQ.fieldA (ty := 110) (i := 0) (n := 2) (off := 0) (g := true) rfl kr (by decide)) ?_ | refine AL.q rfl (OQ.fieldA (ty := 25) (i := 1) (n := 1) (off := 1) (g := false) rfl kr (by decide)) ?_)); (refine AL.nm ?_)) | ((first | ((with_reducible refine AL.k_store ?_); first | (refine AL.w rfl (OW.store (ty := 52) (n := 2) rfl wl rfl rfl kr rfl rfl (by decide) rfl (by exact Nat.le_of_ble_eq_true rfl) (by intro r h; cases h)) ?_) | (refine AL.w rfl (OW.store (ty := 3) (n := 1) rfl wl rfl rfl kr rfl rfl (by decide) rfl (by (((simp only [List.length_set, hfl]; omega)))) (by intro r h; cases h)) ?_)) | ((with_reducible refine AL.k_alloc ?_); refine AL.w rfl (OW.alloc (ty := 52) (z := [.int .i64 0, .int .i64 0]) kr rfl) ?_) | refine AL.w rfl (OW.makeSl (st := 26) (e := 3) (z := 1) (by' := 8) (zs := [.int .i64 0]) rfl kr kr kr rfl rfl kr (by decide) (by omega) (by omega)) ?_); (refine AL.nm ?_); (refine AL.nM ?_)) | refine AL.nil ?_) | ((with_reducible refine AW.on ?_); first | refine AW.seq ?_ | refine AW.skip ?_ | refine AW.exit ?_ | refine AW.ret ?_ | ((refine AW.block (id := 0) ?_); (refine AW.fk [0, 5, 16, 17, 18] ?_); (refine AW.loop (fun n' t' m => ∃ k : Nat, n' = xs.length - k ∧ k ≤ xs.length ∧ t' = [.pointer (some ⟨2, 0, none⟩), jk, jk, jk, jk, .slice (some ⟨6, 0, none⟩) ts.length ts.length, jk, jk, jk, jk, jk, jk, jk, jk, jk, jk, .slice (some ⟨5, 0, none⟩) xs.length c3, .int .i64 (xs.length), .int .i64 (k), jk, jk, jk, jk, jk, jk, jk, jk, jk, jk, jk, jk, jk, jk, jk, jk, jk, jk, jk, jk, jk, jk, jk, jk, jk, jk, jk, jk, jk, jk, jk] ∧ m = mem6 l ts xs c c2 z0 z1 z2 z4 z5 ++ [some ⟨flatN (smL ts xs k), true, 1⟩]) (xs.length) (by exact ⟨0, rfl, Nat.zero_le _, rfl, mem6_zero hS0 (fun i => by simp [Nat.mod_one])⟩) ?_); (rintro n' t' m ⟨k, rfl, hk, rfl, rfl⟩)) | refine AW.block ?_ | (refine AW.region (id := 6) ?_; ((have hq := hr k; have hx2 := hx k (by omega)))) | (refine AW.region (id := 7) ?_; ((have hq1 := hbd k (by omega) (sdP ts (pt (edL ts) k)).x.toNat (by omega)))) | (refine AW.region (id := 9) ?_; ((have hq2 := hbd k (by omega) (sdP ts (pt (edL ts) k)).y.toNat (by omega); have hq4 := hnB k (sdP ts (pt (edL ts) k)).y.toNat (sdP ts (pt (edL ts) k)).x.toNat (nt (smL ts xs k) (sdP ts (pt (edL ts) k)).x.toNat + nt xs k) (by omega); have hq5 : nt ((smL ts xs k).set (sdP ts (pt (edL ts) k)).x.toNat (nt (smL ts xs k) (sdP ts (pt (edL ts) k)).x.toNat + nt xs k)) (sdP ts (pt (edL ts) k)).y.toNat = nt (smL ts xs k) (sdP ts (pt (edL ts) k)).x.toNat + nt xs k ∧ (sdP ts (pt (edL ts) k)).x.toNat = (sdP ts (pt (edL ts) k)).y.toNat ∨ nt ((smL ts xs k).set (sdP ts (pt (edL ts) k)).x.toNat (nt (smL ts xs k) (sdP ts (pt (edL ts) k)).x.toNat + nt xs k)) (sdP ts (pt (edL ts) k)).y.toNat = nt (smL ts xs k) (sdP ts (pt (edL ts) k)).y.toNat := (by rw [hq4]; split; (exact .inl ⟨rfl, by assumption⟩); exact .inr rfl); clear hq4; have hq6 : (sdP ts (pt (edL ts) k)).x.toNat = (sdP ts (pt (edL ts) k)).y.toNat → nt (smL ts xs k) (sdP ts (pt (edL ts) k)).x.toNat = nt (smL ts xs k) (sdP ts (pt (edL ts) k)).y.toNat := (fun h => by rw [h])))) | refine AW.region ?_ | (refine AW.conds rfl (fun hc => ?_) (fun hc => ?_) <;> (try replace hc := nc hc) <;> skip)) | ((with_reducible refine ex_on ?_); (refine ⟨xs.length - (k + 1), [.pointer (some ⟨2, 0, none⟩), jk, jk, jk, jk, .slice (some ⟨6, 0, none⟩) ts.length ts.length, jk, jk, jk, jk, jk, jk, jk, jk, jk, jk, .slice (some ⟨5, 0, none⟩) xs.length c3, .int .i64 (xs.length), .int .i64 (((k + 1 : Nat) : Int)), jk, jk, jk, jk, jk, jk, jk, jk, jk, jk, jk, jk, jk, jk, jk, jk, jk, jk, jk, jk, jk, jk, jk, jk, jk, jk, jk, jk, jk, jk, jk], mem6 l ts xs c c2 z0 z1 z2 z4 z5 ++ [some ⟨flatN (smL ts xs (k + 1)), true, 1⟩], by omega, ?_, k + 1, rfl, by omega, rfl, rfl⟩; have hs2 := hsn (k + 1); (first | rw [ha k (by omega) (by omega)] at hs2 ⊢ | rw [hb k (by omega) (by omega), flatN_set] at hs2 ⊢ | rw [hc1 k (by omega) (by omega), flatN_set] at hs2 ⊢ | rw [hd k (by omega) (by omega), flatN_set, flatN_set] at hs2 ⊢); exact Wk.keep 7 [] (by rw [hE]; exact Nat.le_of_ble_eq_true rfl) rfl rfl (by repeat (first | exact RenT.nil | refine RenT.jk ?_ | refine RenT.val (by rfl) (by rfl) ?_)) ⟨⟨_, rfl, rfl, rfl, .inl ⟨rfl, flatP_scal l⟩⟩, ⟨_, rfl, rfl, rfl, .inl ⟨rfl, flatT_scal ts⟩⟩, ⟨_, rfl, rfl, rfl, .inr ⟨rfl, rfl⟩⟩, ⟨_, rfl, rfl, rfl, .inl ⟨rfl, rfl⟩⟩, ⟨_, rfl, rfl, rfl, .inl ⟨rfl, flatP_scal _⟩⟩, ⟨_, rfl, rfl, rfl, .inl ⟨rfl, flatN_scal _⟩⟩, ⟨_, rfl, rfl, rfl, .inl ⟨rfl, hs2⟩⟩, trivial⟩)) | ((with_reducible refine FinA.on ?_); (obtain rfl : k = xs.length := (by omega); refine FinA.keep 7 [] (.inl rfl) (.tmp wl .nil) ?_ rfl (by rw [hE]; exact Nat.le_of_ble_eq_true rfl) rfl rfl ⟨⟨_, rfl, rfl, rfl, .inl ⟨rfl, flatP_scal l⟩⟩, ⟨_, rfl, rfl, rfl, .inl ⟨rfl, flatT_scal ts⟩⟩, ⟨_, rfl, rfl, rfl, .inr ⟨rfl, rfl⟩⟩, ⟨_, rfl, rfl, rfl, .inl ⟨rfl, rfl⟩⟩, ⟨_, rfl, rfl, rfl, .inl ⟨rfl, flatP_scal _⟩⟩, ⟨_, rfl, rfl, rfl, .inl ⟨rfl, flatN_scal _⟩⟩, ⟨_, rfl, rfl, rfl, .inl ⟨rfl, flatN_scal _⟩⟩, trivial⟩; rfl)))
end Go.Proofs.YtmohcmghbfhdlaaGreat
end
end
/- Chapter 6: differences, sums, closures in a greater memory (the program's). -/
section
set_option linter.unusedSimpArgs false
set_option linter.unusedVariables false
section
namespace Go.Me
open Go.Ab Go.Proofs.YtmohcmghbfhdlaaGreat
def clK (A : List Int) : Nat → List Int
  | 0 => A
  | k + 1 => (clK A k).set k ((nt A k).tdiv 4096)
theorem clK_len (A : List Int) : ∀ k, (clK A k).length = A.length
  | 0 => rfl
  | k + 1 => by unfold clK; rw [List.length_set, clK_len A k]
theorem clK_nt (A : List Int) : ∀ (k i : Nat), i < A.length → nt (clK A k) i = if i < k then (nt A i).tdiv 4096 else nt A i
  | 0, i, _ => by rw [if_neg (Nat.not_lt_zero i)]; rfl
  | k + 1, i, hi => by
    unfold clK
    rw [nt_set (by rw [clK_len]; exact hi), clK_nt A k i hi]
    by_cases h : k = i
    · subst h; rw [if_pos rfl, if_pos (Nat.lt_succ_self _)]
    · rw [if_neg h]
      by_cases h2 : i < k
      · rw [if_pos h2, if_pos (by omega)]
      · rw [if_neg h2, if_neg (by omega)]
def sdL' (ts : List T3) (ph : List Int) : List Int := smL ts (dfL ts ph) (edL ts).length
def clL (ts : List T3) (ph : List Int) : List Int := clK (sdL' ts ph) ts.length
theorem sdL'_len (ts : List T3) (ph : List Int) : (sdL' ts ph).length = ts.length := smL_len _ _ _
theorem clL_len (ts : List T3) (ph : List Int) : (clL ts ph).length = ts.length := (clK_len _ _).trans (sdL'_len ts ph)
theorem clL_nt (ts : List T3) (ph : List Int) (i : Nat) (hi : i < ts.length) : nt (clL ts ph) i = (nt (sdL' ts ph) i).tdiv 4096 := by
  unfold clL
  rw [clK_nt _ _ _ (by rw [sdL'_len]; exact hi), if_pos hi]
theorem dfL_bd (ts : List T3) (ph : List Int) : ∀ k, k < (dfL ts ph).length → -2048 ≤ nt (dfL ts ph) k ∧ nt (dfL ts ph) k ≤ 2047 := fun k hk => by
  rw [dfL_nt (by rw [← dfL_len ts ph]; exact hk)]
  exact wrI_bd _
end Go.Me
namespace Go.Proofs.YtmohcmghbfhdlaaGreat
open Go Go.RowKit Go.Ab Go.Me
set_option maxRecDepth 100000
set_option maxHeartbeats 4000000
attribute [local irreducible] OQ OW AL AW AF SW
theorem phasesErr_q {m : Mem} {bN bL bE bP bT c c2 bF n c3 : Nat} {l : List Pn} {ts : List T3} {F : Blk} (h : OpenN m bN bL bE bP bT c c2 l ts) (ph : List Int) (hl : ph.length ≤ 1000000) (f1 : m.at bF = some F) (f2 : F.cells = flatN ph) (hn : ph.length = n) (f3 : F.obj = Ob.plain := by rfl) :
    PCalls Tryz.prog 123 [.pointer (some ⟨bN, 0, none⟩), .slice (some ⟨bF, 0, none⟩) n c3] m (.int .i64 (phE l ph)) := by
  subst hn
  obtain ⟨⟨A, a1, a2, a3⟩, ⟨B, b1, b2, b3⟩, ⟨N, n1, n2, n3⟩, ⟨own, l1⟩, ⟨D, d1, d2, d3⟩⟩ := h
  exact PCalls.viaS [bP, bT, bN, bL, bE, bF] (phasesErr_0 l ts ph c c2 c3 A.esz B.esz N.esz D.esz F.esz hl) (ro6p _ _ _ _ _ _ rfl rfl rfl rfl rfl rfl)
    ⟨⟨_, a1, by unfold Blk.shp Blk.shpR; rw [a3]; rfl, (fun h => nomatch h), .inl ⟨a2, flatP_scal _⟩⟩, ⟨_, b1, by unfold Blk.shp Blk.shpR; rw [b3]; rfl, (fun h => nomatch h), .inl ⟨b2, flatT_scal _⟩⟩, ⟨_, n1, by unfold Blk.shp Blk.shpR; rw [n3]; rfl, (fun h => nomatch h), .inr ⟨n2, rfl⟩⟩, ⟨_, l1, rfl, (fun h => nomatch h), .inl ⟨rfl, rfl⟩⟩, ⟨_, d1, by unfold Blk.shp Blk.shpR; rw [d3]; rfl, (fun h => nomatch h), .inl ⟨d2, flatP_scal _⟩⟩, ⟨_, f1, by unfold Blk.shp Blk.shpR; rw [f3]; rfl, (fun h => nomatch h), .inl ⟨f2, flatN_scal _⟩⟩, trivial⟩ rfl rfl rfl rfl
theorem differences_q {m : Mem} {bN bL bE bP bT c c2 bF n c3 : Nat} {l : List Pn} {ts : List T3} {F : Blk} (h : OpenN m bN bL bE bP bT c c2 l ts) (hR : NetR l ts) (ph : List Int) (hph : phE l ph = 0) (f1 : m.at bF = some F) (f2 : F.cells = flatN ph) (hn : ph.length = n) (hd : [bP, bT, bN, bL, bE, bF].Nodup) (f3 : F.obj = Ob.plain := by rfl) :
    ACalls Tryz.prog 67 [.pointer (some ⟨bN, 0, none⟩), .slice (some ⟨bF, 0, none⟩) n c3] m (.slice (some ⟨m.length, 0, none⟩) (edL ts).length INF) (m ++ [some ⟨flatN (dfL ts ph), true, 1⟩]) := by
  subst hn
  obtain ⟨⟨A, a1, a2, a3⟩, ⟨B, b1, b2, b3⟩, ⟨N, n1, n2, n3⟩, ⟨own, l1⟩, ⟨D, d1, d2, d3⟩⟩ := h
  have h := ACalls.viaS (m := m) (args := [.pointer (some ⟨bN, 0, none⟩), .slice (some ⟨bF, 0, none⟩) ph.length c3]) (v := .slice (some ⟨m.length, 0, none⟩) (edL ts).length INF) [bP, bT, bN, bL, bE, bF] [] [some ⟨flatN (dfL ts ph), true, 1⟩] (differences_0 l ts hR ph hph c c2 c3 A.esz B.esz N.esz D.esz F.esz)
    ⟨⟨_, a1, by unfold Blk.shp Blk.shpR; rw [a3]; rfl, (fun h => nomatch h), .inl ⟨a2, flatP_scal _⟩⟩, ⟨_, b1, by unfold Blk.shp Blk.shpR; rw [b3]; rfl, (fun h => nomatch h), .inl ⟨b2, flatT_scal _⟩⟩, ⟨_, n1, by unfold Blk.shp Blk.shpR; rw [n3]; rfl, (fun h => nomatch h), .inr ⟨n2, rfl⟩⟩, ⟨_, l1, rfl, (fun h => nomatch h), .inl ⟨rfl, rfl⟩⟩, ⟨_, d1, by unfold Blk.shp Blk.shpR; rw [d3]; rfl, (fun h => nomatch h), .inl ⟨d2, flatP_scal _⟩⟩, ⟨_, f1, by unfold Blk.shp Blk.shpR; rw [f3]; rfl, (fun h => nomatch h), .inl ⟨f2, flatN_scal _⟩⟩, trivial⟩ hd
    ⟨⟨_, rfl, rfl⟩, ⟨_, rfl, rfl⟩, ⟨_, rfl, rfl⟩, ⟨_, rfl, rfl⟩, ⟨_, rfl, rfl⟩, ⟨_, rfl, rfl⟩, ⟨rfl, rfl, rfl, .inl ⟨rfl, flatN_scal _⟩⟩, trivial⟩ rfl rfl rfl rfl
  exact h
theorem sums_q {m : Mem} {bN bL bE bP bT c c2 bF n c3 : Nat} {l : List Pn} {ts : List T3} {F : Blk} (h : OpenN m bN bL bE bP bT c c2 l ts) (hR : NetR l ts) (xs : List Int) (hxl : xs.length = (edL ts).length) (hx : ∀ k, k < xs.length → -1000000000 ≤ nt xs k ∧ nt xs k ≤ 1000000000) (f1 : m.at bF = some F) (f2 : F.cells = flatN xs) (hn : xs.length = n) (hd : [bP, bT, bN, bL, bE, bF].Nodup) (f3 : F.obj = Ob.plain := by rfl) :
    ACalls Tryz.prog 125 [.pointer (some ⟨bN, 0, none⟩), .slice (some ⟨bF, 0, none⟩) n c3] m (.slice (some ⟨m.length, 0, none⟩) ts.length ts.length) (m ++ [some ⟨flatN (smL ts xs (edL ts).length), true, 1⟩]) := by
  subst hn
  obtain ⟨⟨A, a1, a2, a3⟩, ⟨B, b1, b2, b3⟩, ⟨N, n1, n2, n3⟩, ⟨own, l1⟩, ⟨D, d1, d2, d3⟩⟩ := h
  rw [← hxl]
  have h := ACalls.viaS (m := m) (args := [.pointer (some ⟨bN, 0, none⟩), .slice (some ⟨bF, 0, none⟩) xs.length c3]) (v := .slice (some ⟨m.length, 0, none⟩) ts.length ts.length) [bP, bT, bN, bL, bE, bF] [] [some ⟨flatN (smL ts xs xs.length), true, 1⟩] (sums_0 l ts hR xs hxl hx c c2 c3 A.esz B.esz N.esz D.esz F.esz)
    ⟨⟨_, a1, by unfold Blk.shp Blk.shpR; rw [a3]; rfl, (fun h => nomatch h), .inl ⟨a2, flatP_scal _⟩⟩, ⟨_, b1, by unfold Blk.shp Blk.shpR; rw [b3]; rfl, (fun h => nomatch h), .inl ⟨b2, flatT_scal _⟩⟩, ⟨_, n1, by unfold Blk.shp Blk.shpR; rw [n3]; rfl, (fun h => nomatch h), .inr ⟨n2, rfl⟩⟩, ⟨_, l1, rfl, (fun h => nomatch h), .inl ⟨rfl, rfl⟩⟩, ⟨_, d1, by unfold Blk.shp Blk.shpR; rw [d3]; rfl, (fun h => nomatch h), .inl ⟨d2, flatP_scal _⟩⟩, ⟨_, f1, by unfold Blk.shp Blk.shpR; rw [f3]; rfl, (fun h => nomatch h), .inl ⟨f2, flatN_scal _⟩⟩, trivial⟩ hd
    ⟨⟨_, rfl, rfl⟩, ⟨_, rfl, rfl⟩, ⟨_, rfl, rfl⟩, ⟨_, rfl, rfl⟩, ⟨_, rfl, rfl⟩, ⟨_, rfl, rfl⟩, ⟨rfl, rfl, rfl, .inl ⟨rfl, flatN_scal _⟩⟩, trivial⟩ rfl rfl rfl rfl
  exact h
theorem closures_0 (l : List Pn) (ts : List T3) (hR : NetR l ts) (ph : List Int) (hph : phE l ph = 0) (c c2 c3 z0 z1 z2 z4 z5 : Nat) :
    ACalls Tryz.prog 79 [.pointer (some ⟨2, 0, none⟩), .slice (some ⟨5, 0, none⟩) ph.length c3] [some ⟨flatP l, false, z0⟩, some ⟨flatT ts, false, z1⟩, some ⟨[.slice (some ⟨0, 0, none⟩) l.length c, .slice (some ⟨1, 0, none⟩) ts.length c2, .slice (some ⟨4, 0, none⟩) (edL ts).length INF, .map (some 3)], false, z2⟩, some (mpX (lfA ts) false 0), some ⟨flatP (edL ts), false, z4⟩, some ⟨flatN ph, false, z5⟩]
      (.slice (some ⟨6, 0, none⟩) ts.length ts.length) [some ⟨flatP l, false, z0⟩, some ⟨flatT ts, false, z1⟩, some ⟨[.slice (some ⟨0, 0, none⟩) l.length c, .slice (some ⟨1, 0, none⟩) ts.length c2, .slice (some ⟨4, 0, none⟩) (edL ts).length INF, .map (some 3)], false, z2⟩, some (mpX (lfA ts) false 0), some ⟨flatP (edL ts), false, z4⟩, some ⟨flatN ph, false, z5⟩, some ⟨flatN (clL ts ph), true, 1⟩] := by
  have hdl := dfL_len ts ph
  have hdb := dfL_bd ts ph
  have hdi := fun (m : Mem) (h : OpenN m 2 3 4 0 1 c c2 l ts) (F : Blk) (f1 : m.at 5 = some F) (f2 : F.cells = flatN ph) (f3 : F.obj = Ob.plain) => differences_q (n := ph.length) (c3 := c3) h hR ph hph f1 f2 rfl (by decide) f3
  have hsu := fun (m : Mem) (h : OpenN m 2 3 4 0 1 c c2 l ts) (F : Blk) (f1 : m.at 6 = some F) (f2 : F.cells = flatN (dfL ts ph)) (f3 : F.obj = Ob.plain) => sums_q (n := (edL ts).length) (c3 := INF) h hR (dfL ts ph) hdl (fun k hk => by have := hdb k hk; omega) f1 f2 hdl (by decide) f3
  have h80 := hR.le
  have hle := edL_le ts
  have hSb : ∀ k, k < ts.length → -600000000000 ≤ nt (sdL' ts ph) k ∧ nt (sdL' ts ph) k ≤ 600000000000 := fun k hk => by
    have := smL_bd (ts := ts) (xs := dfL ts ph) (fun k hk => by have := hdb k hk; omega) (edL ts).length (by omega) k hk
    unfold sdL'
    omega
  change ∀ m, _ → ∀ F, _ → _ → _ → ACalls _ _ _ m _ (m ++ [some ⟨flatN (sdL' ts ph), true, 1⟩]) at hsu
  have hcl : clL ts ph = clK (sdL' ts ph) ts.length := rfl
  have hlen := sdL'_len ts ph
  rw [hcl]
  generalize sdL' ts ph = S at *
  have h0 : clK S 0 = S := rfl
  have hfl : ∀ k, (flatN (clK S k)).length = ts.length := fun k => by rw [flatN_len, clK_len, hlen]
  have hg : ∀ k, k < ts.length → (flatN (clK S k))[k]? = some (.int .i64 (nt S k)) := fun k hk => by
    rw [flatN_get _ k (by rw [clK_len, hlen]; exact hk), clK_nt S k k (by rw [hlen]; exact hk), if_neg (by omega)]
  have hst : ∀ k, flatN (clK S (k + 1)) = (flatN (clK S k)).set k (.int .i64 ((nt S k).tdiv 4096)) := fun k => flatN_set _ _ _
  have hsn := fun k => flatN_scal (clK S k)
  have htd : ∀ k, k < ts.length → -9223372036854775808 ≤ (nt S k).tdiv 4096 ∧ (nt S k).tdiv 4096 ≤ 9223372036854775807 := fun k hk => by
    have := hSb k hk
    have h1 := Int.tdiv_le_tdiv (c := 4096) (by decide) this.1
    have h2 := Int.tdiv_le_tdiv (c := 4096) (by decide) this.2
    rw [show (-600000000000 : Int).tdiv 4096 = -146484375 by decide] at h1
    rw [show (600000000000 : Int).tdiv 4096 = 146484375 by decide] at h2
    omega
  refine ACalls.en 23 Tryz.func79 rfl rfl (fun E hE => ?_)
  repeat' (first | with_reducible (first | refine Then.n ?_ | refine Then.x ?_ | refine InB.n ?_ | refine InB.hit ?_) | ((with_reducible refine AL.on ?_); first | ((first | ((with_reducible refine AL.k_move ?_); (refine AL.q rfl (OQ.move wl) ?_)) | ((with_reducible refine AL.k_assign ?_); (refine AL.q rfl (OQ.assign wl) ?_)) | ((with_reducible refine AL.k_call ?_); refine AL.q rfl (OQ.lenS (xt := 26) (r := (none, 1, false)) rfl kr) ?_) | ((with_reducible refine AL.k_binOp ?_); first | refine AL.q rfl (OQ.lss rfl rfl) ?_ | refine AL.q rfl (OQ.quoi rfl rfl (by omega) (by exact htd k (by omega))) ?_ | refine AL.q rfl (OQ.addi rfl rfl (by omega)) ?_) | ((with_reducible refine AL.k_load ?_); (refine AL.q rfl (OQ.load1 (ty := 3) rfl kr (by (exact hg k (by omega)))) ?_))); (refine AL.nm ?_)) | ((refine AL.q rfl (OQ.idxAddr (ty := 26) (z := 1) (g := false) rfl rfl kr (by omega) (by omega)) ?_); (refine AL.nm ?_)) | ((first | ((with_reducible refine AL.k_call ?_); first | refine AL.acall (g := 67) rfl kr rfl ((by exact hdi _ ⟨⟨_, rfl, rfl, rfl⟩, ⟨_, rfl, rfl, rfl⟩, ⟨_, rfl, rfl, rfl⟩, ⟨_, rfl⟩, ⟨_, rfl, rfl, rfl⟩⟩ _ rfl rfl rfl)) ?_ | refine AL.acall (g := 125) rfl kr rfl ((by exact hsu _ ⟨⟨_, rfl, rfl, rfl⟩, ⟨_, rfl, rfl, rfl⟩, ⟨_, rfl, rfl, rfl⟩, ⟨_, rfl⟩, ⟨_, rfl, rfl, rfl⟩⟩ _ rfl rfl rfl)) ?_) | ((with_reducible refine AL.k_store ?_); (refine AL.w rfl (OW.store (ty := 3) (n := 1) rfl wl rfl rfl kr rfl rfl (by decide) rfl (by (((simp only [List.length_set, hfl]; omega)))) (by intro r h; cases h)) ?_))); (refine AL.nm ?_); (refine AL.nM ?_)) | refine AL.nil ?_) | ((with_reducible refine AW.on ?_); first | refine AW.seq ?_ | refine AW.skip ?_ | refine AW.exit ?_ | refine AW.ret ?_ | ((refine AW.block (id := 0) ?_); (refine AW.fk [5, 13, 14] ?_); (refine (AW.wk (t' := [jk, jk, jk, jk, jk, .slice (some ⟨6, 0, none⟩) ts.length ts.length, jk, jk, jk, jk, jk, jk, jk, .int .i64 (ts.length), .int .i64 0, jk, jk, jk, jk, jk, jk, jk, jk, jk, jk]) (m' := [some ⟨flatP l, false, z0⟩, some ⟨flatT ts, false, z1⟩, some ⟨[.slice (some ⟨0, 0, none⟩) l.length c, .slice (some ⟨1, 0, none⟩) ts.length c2, .slice (some ⟨4, 0, none⟩) (edL ts).length INF, .map (some 3)], false, z2⟩, some (mpX (lfA ts) false 0), some ⟨flatP (edL ts), false, z4⟩, some ⟨flatN ph, false, z5⟩, some ⟨flatN (clK S 0), true, 1⟩]) (Wk.keep 6 [7] (by rw [hE]; exact Nat.le_of_ble_eq_true rfl) rfl rfl (by repeat (first | exact RenT.nil | refine RenT.jk ?_ | refine RenT.val (by rfl) (by rfl) ?_)) ⟨⟨_, rfl, rfl, rfl, .inl ⟨rfl, flatP_scal l⟩⟩, ⟨_, rfl, rfl, rfl, .inl ⟨rfl, flatT_scal ts⟩⟩, ⟨_, rfl, rfl, rfl, .inr ⟨rfl, rfl⟩⟩, ⟨_, rfl, rfl, rfl, .inl ⟨rfl, rfl⟩⟩, ⟨_, rfl, rfl, rfl, .inl ⟨rfl, flatP_scal _⟩⟩, ⟨_, rfl, rfl, rfl, .inl ⟨rfl, flatN_scal _⟩⟩, ⟨_, rfl, rfl, rfl, .inl ⟨rfl, flatN_scal _⟩⟩, trivial⟩) ?_)); (refine AW.loop (fun n' t' m => ∃ k : Nat, n' = ts.length - k ∧ k ≤ ts.length ∧ t' = [jk, jk, jk, jk, jk, .slice (some ⟨6, 0, none⟩) ts.length ts.length, jk, jk, jk, jk, jk, jk, jk, .int .i64 (ts.length), .int .i64 (k), jk, jk, jk, jk, jk, jk, jk, jk, jk, jk] ∧ m = mem6 l ts ph c c2 z0 z1 z2 z4 z5 ++ [some ⟨flatN (clK S k), true, 1⟩]) (ts.length) (by exact ⟨0, rfl, Nat.zero_le _, rfl, rfl⟩) ?_); (rintro n' t' m ⟨k, rfl, hk, rfl, rfl⟩)) | refine AW.block ?_ | refine AW.region ?_ | (refine AW.conds rfl (fun hc => ?_) (fun hc => ?_) <;> (try replace hc := nc hc) <;> skip)) | ((with_reducible refine ex_on ?_); (have hs2 := hsn (k + 1); refine ⟨ts.length - (k + 1), [jk, jk, jk, jk, jk, .slice (some ⟨6, 0, none⟩) ts.length ts.length, jk, jk, jk, jk, jk, jk, jk, .int .i64 (ts.length), .int .i64 (((k + 1 : Nat) : Int)), jk, jk, jk, jk, jk, jk, jk, jk, jk, jk], mem6 l ts ph c c2 z0 z1 z2 z4 z5 ++ [some ⟨flatN (clK S (k + 1)), true, 1⟩], by omega, ?_, k + 1, rfl, by omega, rfl, rfl⟩; rw [hst k] at hs2 ⊢; exact Wk.keep 7 [] (by rw [hE]; exact Nat.le_of_ble_eq_true rfl) rfl rfl (by repeat (first | exact RenT.nil | refine RenT.jk ?_ | refine RenT.val (by rfl) (by rfl) ?_)) ⟨⟨_, rfl, rfl, rfl, .inl ⟨rfl, flatP_scal l⟩⟩, ⟨_, rfl, rfl, rfl, .inl ⟨rfl, flatT_scal ts⟩⟩, ⟨_, rfl, rfl, rfl, .inr ⟨rfl, rfl⟩⟩, ⟨_, rfl, rfl, rfl, .inl ⟨rfl, rfl⟩⟩, ⟨_, rfl, rfl, rfl, .inl ⟨rfl, flatP_scal _⟩⟩, ⟨_, rfl, rfl, rfl, .inl ⟨rfl, flatN_scal _⟩⟩, ⟨_, rfl, rfl, rfl, .inl ⟨rfl, hs2⟩⟩, trivial⟩)) | ((with_reducible refine FinA.on ?_); (obtain rfl : k = ts.length := (by omega); refine FinA.keep 7 [] (.inl rfl) (.tmp wl .nil) ?_ rfl (by rw [hE]; exact Nat.le_of_ble_eq_true rfl) rfl rfl ⟨⟨_, rfl, rfl, rfl, .inl ⟨rfl, flatP_scal l⟩⟩, ⟨_, rfl, rfl, rfl, .inl ⟨rfl, flatT_scal ts⟩⟩, ⟨_, rfl, rfl, rfl, .inr ⟨rfl, rfl⟩⟩, ⟨_, rfl, rfl, rfl, .inl ⟨rfl, rfl⟩⟩, ⟨_, rfl, rfl, rfl, .inl ⟨rfl, flatP_scal _⟩⟩, ⟨_, rfl, rfl, rfl, .inl ⟨rfl, flatN_scal _⟩⟩, ⟨_, rfl, rfl, rfl, .inl ⟨rfl, flatN_scal _⟩⟩, trivial⟩; rfl)))
theorem closures_q {m : Mem} {bN bL bE bP bT c c2 bF n c3 : Nat} {l : List Pn} {ts : List T3} {F : Blk} (h : OpenN m bN bL bE bP bT c c2 l ts) (hR : NetR l ts) (ph : List Int) (hph : phE l ph = 0) (f1 : m.at bF = some F) (f2 : F.cells = flatN ph) (hn : ph.length = n) (hd : [bP, bT, bN, bL, bE, bF].Nodup) (f3 : F.obj = Ob.plain := by rfl) :
    ACalls Tryz.prog 79 [.pointer (some ⟨bN, 0, none⟩), .slice (some ⟨bF, 0, none⟩) n c3] m (.slice (some ⟨m.length, 0, none⟩) ts.length ts.length) (m ++ [some ⟨flatN (clL ts ph), true, 1⟩]) := by
  subst hn
  obtain ⟨⟨A, a1, a2, a3⟩, ⟨B, b1, b2, b3⟩, ⟨N, n1, n2, n3⟩, ⟨own, l1⟩, ⟨D, d1, d2, d3⟩⟩ := h
  have h := ACalls.viaS (m := m) (args := [.pointer (some ⟨bN, 0, none⟩), .slice (some ⟨bF, 0, none⟩) ph.length c3]) (v := .slice (some ⟨m.length, 0, none⟩) ts.length ts.length) [bP, bT, bN, bL, bE, bF] [] [some ⟨flatN (clL ts ph), true, 1⟩] (closures_0 l ts hR ph hph c c2 c3 A.esz B.esz N.esz D.esz F.esz)
    ⟨⟨_, a1, by unfold Blk.shp Blk.shpR; rw [a3]; rfl, (fun h => nomatch h), .inl ⟨a2, flatP_scal _⟩⟩, ⟨_, b1, by unfold Blk.shp Blk.shpR; rw [b3]; rfl, (fun h => nomatch h), .inl ⟨b2, flatT_scal _⟩⟩, ⟨_, n1, by unfold Blk.shp Blk.shpR; rw [n3]; rfl, (fun h => nomatch h), .inr ⟨n2, rfl⟩⟩, ⟨_, l1, rfl, (fun h => nomatch h), .inl ⟨rfl, rfl⟩⟩, ⟨_, d1, by unfold Blk.shp Blk.shpR; rw [d3]; rfl, (fun h => nomatch h), .inl ⟨d2, flatP_scal _⟩⟩, ⟨_, f1, by unfold Blk.shp Blk.shpR; rw [f3]; rfl, (fun h => nomatch h), .inl ⟨f2, flatN_scal _⟩⟩, trivial⟩ hd
    ⟨⟨_, rfl, rfl⟩, ⟨_, rfl, rfl⟩, ⟨_, rfl, rfl⟩, ⟨_, rfl, rfl⟩, ⟨_, rfl, rfl⟩, ⟨_, rfl, rfl⟩, ⟨rfl, rfl, rfl, .inl ⟨rfl, flatN_scal _⟩⟩, trivial⟩ rfl rfl rfl rfl
  exact h
end Go.Proofs.YtmohcmghbfhdlaaGreat
end
end
/- Chapter 6: openPhases, turnsErr (the program's). -/
section
set_option linter.unusedSimpArgs false
set_option linter.unusedVariables false
section
namespace Go.Proofs.YtmohcmghbfhdlaaGreat
open Go Go.RowKit Go.Ab Go.Me
set_option maxRecDepth 100000
set_option maxHeartbeats 4000000
attribute [local irreducible] OQ OW AL AW AF SW
theorem openPhases_y0 (l : List Pn) (ts : List T3) (ph : List Int) (c c2 c3 z z1 z2 : Nat) (hz : z = 0 ∨ z = 2) (hl : ph.length ≤ 1000000) (hR : NetR l ts) : ACalls Tryz.prog 65 [.agg #[.slice (some ⟨0, 0, none⟩) l.length c, .slice (some ⟨1, 0, none⟩) ts.length c2], .slice (some ⟨2, 0, none⟩) ph.length c3] [some ⟨flatP l, false, z⟩, some ⟨flatT ts, false, z1⟩, some ⟨flatN ph, false, z2⟩] (.tuple #[.pointer (some ⟨3, 0, none⟩), .int .i64 (phE l ph)]) [some ⟨flatP l, false, z⟩, some ⟨flatT ts, false, z1⟩, some ⟨flatN ph, false, z2⟩, some ⟨[.slice (some ⟨0, 0, none⟩) l.length c, .slice (some ⟨1, 0, none⟩) ts.length c2, .slice (some ⟨5, 0, none⟩) (edL ts).length INF, .map (some 4)], true, 0⟩, some (mpX (lfA ts) true 0), some ⟨flatP (edL ts), true, 2⟩] := by
  have hy := fun (m : Mem) (hA : ArgN m 0 1 l ts) => open_y (c := c) (c2 := c2) l ts hA rfl rfl hR
  have hp := fun (m : Mem) (h : OpenN m 4 5 6 0 1 c c2 l ts) (F : Blk) (f1 : m.at 2 = some F) (f2 : F.cells = flatN ph) (f3 : F.obj = Ob.plain) => phasesErr_q (n := ph.length) (c3 := c3) h ph hl f1 f2 rfl f3
  generalize phE l ph = E0 at *
  refine ACalls.en 20 Tryz.func65 rfl rfl (fun E hE => ?_)
  repeat' (first | with_reducible (refine Then.n ?_) | ((with_reducible refine AL.on ?_); first | ((first | ((with_reducible refine AL.k_assign ?_); (refine AL.q rfl (OQ.assign wl) ?_)) | ((with_reducible refine AL.k_move ?_); (refine AL.q rfl (OQ.move wl) ?_)) | ((with_reducible refine AL.k_extract ?_); refine AL.q rfl (OQ.extract rfl rfl) ?_) | ((with_reducible refine AL.k_load ?_); refine AL.q rfl (OQ.loadN (ty := 25) (n := 2) rfl kr kr rfl) ?_) | ((with_reducible refine AL.k_binOp ?_); refine AL.q rfl (OQ.eql rfl rfl) ?_)); (refine AL.nm ?_)) | ((refine AL.pcall (g := 123) rfl kr rfl ((by exact hp _ ⟨⟨_, rfl, rfl, rfl⟩, ⟨_, rfl, rfl, rfl⟩, ⟨_, rfl, rfl, rfl⟩, ⟨_, rfl⟩, ⟨_, rfl, rfl, rfl⟩⟩ _ rfl rfl rfl)) ?_); (refine AL.nm ?_)) | ((first | ((with_reducible refine AL.k_call ?_); refine AL.acall (g := 71) rfl kr rfl ((by exact hy _ ⟨⟨_, rfl, rfl, hz, rfl⟩, ⟨_, rfl, rfl, rfl⟩, by decide⟩)) ?_) | ((with_reducible refine AL.k_box ?_); (refine AL.w rfl (OW.box wl (by intro r h; cases h)) ?_))); (refine AL.nm ?_); (refine AL.nM ?_)) | refine AL.nil ?_) | ((with_reducible refine AW.on ?_); first | refine AW.seq ?_ | refine AW.ret ?_ | refine AW.region ?_ | (refine AW.conds rfl (fun hc => ?_) (fun hc => ?_) <;> (try replace hc := nc hc) <;> first | (exfalso; contradiction) | skip)) | ((with_reducible refine FinA.on ?_); (refine FinA.keep 3 [4, 5, 6] (.inl rfl) (.tmp wl (.tmp wl .nil)) ?_ rfl (Nat.le_of_eq hE) rfl rfl ⟨⟨_, rfl, rfl, rfl, .inl ⟨rfl, flatP_scal l⟩⟩, ⟨_, rfl, rfl, rfl, .inl ⟨rfl, flatT_scal ts⟩⟩, ⟨_, rfl, rfl, rfl, .inl ⟨rfl, flatN_scal _⟩⟩, ⟨_, rfl, rfl, rfl, .inr ⟨rfl, rfl⟩⟩, ⟨_, rfl, rfl, rfl, .inl ⟨rfl, rfl⟩⟩, ⟨_, rfl, rfl, rfl, .inl ⟨rfl, flatP_scal _⟩⟩, trivial⟩; rfl)))
theorem openPhases_y {m : Mem} {bP bT bF n k j c c2 c3 : Nat} {F : Blk} (l : List Pn) (ts : List T3) (ph : List Int) (hA : ArgN m bP bT l ts) (hn : l.length = n) (hk : ts.length = k) (f1 : m.at bF = some F) (f2 : F.cells = flatN ph) (hj : ph.length = j) (hl : ph.length ≤ 1000000) (hR : NetR l ts) (hd : [bP, bT, bF].Nodup) (f3 : F.obj = Ob.plain := by rfl) :
    ACalls Tryz.prog 65 [.agg #[.slice (some ⟨bP, 0, none⟩) n c, .slice (some ⟨bT, 0, none⟩) k c2], .slice (some ⟨bF, 0, none⟩) j c3] m (.tuple #[.pointer (some ⟨m.length, 0, none⟩), .int .i64 (phE l ph)]) (m ++ netM m.length bP bT n c k c2 ts) := by
  subst hn hk hj
  obtain ⟨⟨A, h1, h2, h3, h4⟩, ⟨B, h5, h6, h7⟩, hne⟩ := hA
  have h := ACalls.viaS (m := m) (args := [.agg #[.slice (some ⟨bP, 0, none⟩) l.length c, .slice (some ⟨bT, 0, none⟩) ts.length c2], .slice (some ⟨bF, 0, none⟩) ph.length c3]) (v := .tuple #[.pointer (some ⟨m.length, 0, none⟩), .int .i64 (phE l ph)]) [bP, bT, bF] [] (netM m.length bP bT l.length c ts.length c2 ts) (openPhases_y0 l ts ph c c2 c3 A.esz B.esz F.esz h3 hl hR) ⟨⟨_, h1, by unfold Blk.shp Blk.shpR; rw [h4]; rfl, (fun h => nomatch h), .inl ⟨h2, flatP_scal _⟩⟩, ⟨_, h5, by unfold Blk.shp Blk.shpR; rw [h7]; rfl, (fun h => nomatch h), .inl ⟨h6, flatT_scal _⟩⟩, ⟨_, f1, by unfold Blk.shp Blk.shpR; rw [f3]; rfl, (fun h => nomatch h), .inl ⟨f2, flatN_scal _⟩⟩, trivial⟩ hd ?_ rfl rfl rfl rfl
  · exact h
  · exact ⟨⟨_, rfl, rfl⟩, ⟨_, rfl, rfl⟩, ⟨_, rfl, rfl⟩, ⟨rfl, rfl, rfl, .inr ⟨rfl, rfl⟩⟩, ⟨rfl, rfl, rfl, .inl ⟨rfl, rfl⟩⟩, ⟨rfl, rfl, rfl, .inl ⟨rfl, flatP_scal _⟩⟩, trivial⟩
end Go.Proofs.YtmohcmghbfhdlaaGreat
end
end
/- Chapter 6: the error of turns (the program's). -/
section
set_option linter.unusedSimpArgs false
set_option linter.unusedVariables false
section
namespace Go.Me
open Go.Ab Go.Proofs.YtmohcmghbfhdlaaGreat
def tuT (ts : List T3) (ph xs : List Int) (i : Nat) : Int := nt (smL ts xs (edL ts).length) i + nt (clL ts ph) i
def tuE (ts : List T3) (ph xs : List Int) : Int := if xs.length ≠ (edL ts).length then 10 else if xs.any (fun x => !rgB x (-100) 100) = true then 2 else if fstN (tuT ts ph xs) ts.length ≠ -1 then 21 else 0
def tuI (ts : List T3) (ph xs : List Int) : Int := if xs.length ≠ (edL ts).length then 0 else if xs.any (fun x => !rgB x (-100) 100) = true then 0 else if fstN (tuT ts ph xs) ts.length ≠ -1 then fstN (tuT ts ph xs) ts.length else 0
theorem anyR_no {xs : List Int} {a b : Int} (h : xs.any (fun x => !rgB x a b) = false) : ∀ k, k < xs.length → a ≤ nt xs k ∧ nt xs k ≤ b := fun k hk => by
  have h2 := List.any_eq_false.1 h (nt xs k) (by unfold nt; rw [List.getD_eq_getElem?_getD, List.getElem?_eq_getElem hk]; exact List.getElem_mem hk)
  have h3 : rgB (nt xs k) a b = true := by
    cases hq : rgB (nt xs k) a b with
    | true => rfl
    | false => exfalso; apply h2; simp only [hq]; rfl
  exact rgB_true.1 h3
theorem tu_10 {ts : List T3} {ph xs : List Int} (h : xs.length ≠ (edL ts).length) : tuE ts ph xs = 10 ∧ tuI ts ph xs = 0 := ⟨if_pos h, if_pos h⟩
theorem tu_2 {ts : List T3} {ph xs : List Int} (h : xs.length = (edL ts).length) (h2 : xs.any (fun x => !rgB x (-100) 100) = true) : tuE ts ph xs = 2 ∧ tuI ts ph xs = 0 :=
  ⟨(if_neg (fun h3 : xs.length ≠ _ => h3 h)).trans (if_pos h2), (if_neg (fun h3 : xs.length ≠ _ => h3 h)).trans (if_pos h2)⟩
theorem tu_21 {ts : List T3} {ph xs : List Int} (h : xs.length = (edL ts).length) (h2 : xs.any (fun x => !rgB x (-100) 100) = false) (k : Nat) (hk : k < ts.length) (hj : ∀ j, j < k → tuT ts ph xs j = 0) (he : tuT ts ph xs k ≠ 0) : tuE ts ph xs = 21 ∧ tuI ts ph xs = k := by
  have h4 := fstN_yes hj he ts.length hk
  have h5 : ¬(xs.any (fun x => !rgB x (-100) 100) = true) := by rw [h2]; decide
  exact ⟨(if_neg (fun h3 : xs.length ≠ _ => h3 h)).trans ((if_neg h5).trans (if_pos (by omega))), (if_neg (fun h3 : xs.length ≠ _ => h3 h)).trans ((if_neg h5).trans ((if_pos (by omega)).trans h4))⟩
theorem tu_0 {ts : List T3} {ph xs : List Int} (h : xs.length = (edL ts).length) (h2 : xs.any (fun x => !rgB x (-100) 100) = false) (hj : ∀ j, j < ts.length → tuT ts ph xs j = 0) : tuE ts ph xs = 0 ∧ tuI ts ph xs = 0 := by
  have h4 := fstN_no _ hj
  have h5 : ¬(xs.any (fun x => !rgB x (-100) 100) = true) := by rw [h2]; decide
  exact ⟨(if_neg (fun h3 : xs.length ≠ _ => h3 h)).trans ((if_neg h5).trans (if_neg (fun h => h h4))), (if_neg (fun h3 : xs.length ≠ _ => h3 h)).trans ((if_neg h5).trans (if_neg (fun h => h h4)))⟩
theorem clL_bd {l : List Pn} {ts : List T3} (hR : NetR l ts) (ph : List Int) (k : Nat) (hk : k < ts.length) : -600000000000 ≤ nt (clL ts ph) k ∧ nt (clL ts ph) k ≤ 600000000000 := by
  have h80 := hR.le
  have hle := edL_le ts
  have hdl := dfL_len ts ph
  have hdb := dfL_bd ts ph
  have := smL_bd (ts := ts) (xs := dfL ts ph) (fun k hk => by have := hdb k hk; omega) (edL ts).length (by omega) k hk
  rw [clL_nt _ _ _ hk]
  unfold sdL'
  have h1 := Int.tdiv_le_tdiv (c := 4096) (by decide) (show (-600000000000 : Int) ≤ nt (smL ts (dfL ts ph) (edL ts).length) k by omega)
  have h2 := Int.tdiv_le_tdiv (c := 4096) (by decide) (show nt (smL ts (dfL ts ph) (edL ts).length) k ≤ (600000000000 : Int) by omega)
  rw [show (-600000000000 : Int).tdiv 4096 = -146484375 by decide] at h1
  rw [show (600000000000 : Int).tdiv 4096 = 146484375 by decide] at h2
  omega
end Go.Me
namespace Go.Proofs.YtmohcmghbfhdlaaGreat
open Go Go.RowKit Go.Ab Go.Me
set_option maxRecDepth 100000
set_option maxHeartbeats 4000000
attribute [local irreducible] OQ OW AL AW AF SW
theorem offTu_q (n : Int) (m : Mem) : PCalls Tryz.prog 124 [.int .i64 n] m (.bool (!rgB n (-100) 100)) := by
  refine PCalls.any ?_ rfl rfl m
  have hw := fun m => within_q n (-100) 100 m
  refine PCalls.en 5 Tryz.func124 rfl (ro_nil) rfl (fun E => ?_)
  repeat' (first | with_reducible (refine Then.n ?_) | ((with_reducible refine AL.on ?_); first | ((first | ((with_reducible refine AL.k_assign ?_); (refine AL.q rfl (OQ.assign wl) ?_)) | ((with_reducible refine AL.k_move ?_); (refine AL.q rfl (OQ.move wl) ?_)) | ((with_reducible refine AL.k_unOp ?_); refine AL.q rfl (OQ.not rfl) ?_)); (refine AL.nm ?_)) | ((refine AL.pcall (g := 89) rfl kr rfl (hw _) ?_); (refine AL.nm ?_)) | refine AL.nil ?_) | ((with_reducible refine AW.on ?_); first | refine AW.seq ?_ | refine AW.ret ?_ | refine AW.region ?_) | ((with_reducible refine FinP.on ?_); (refine FinP.ret (.tmp wl .nil) ?_ rfl); (try simp only [pack, List.drop, List.take]); all_goals (rfl)))
theorem ro7p (a b c d e f g : Blk) (h1 : a.own = false) (h2 : b.own = false) (h3 : c.own = false) (h4 : d.own = false) (h5 : e.own = false) (h6 : f.own = false) (h7 : g.own = false) : Mem.ro [some a, some b, some c, some d, some e, some f, some g] := fun k blk hk => by
  match k, hk with
  | 0, hk => cases hk; exact h1
  | 1, hk => cases hk; exact h2
  | 2, hk => cases hk; exact h3
  | 3, hk => cases hk; exact h4
  | 4, hk => cases hk; exact h5
  | 5, hk => cases hk; exact h6
  | 6, hk => cases hk; exact h7
theorem turnsErr_0 (l : List Pn) (ts : List T3) (hR : NetR l ts) (ph xs : List Int) (hph : phE l ph = 0) (hxl : xs.length ≤ 1000000) (c c2 c3 c4 z0 z1 z2 z4 z5 z6 : Nat) :
    PCalls Tryz.prog 66 [.pointer (some ⟨2, 0, none⟩), .slice (some ⟨5, 0, none⟩) ph.length c3, .slice (some ⟨6, 0, none⟩) xs.length c4] [some ⟨flatP l, false, z0⟩, some ⟨flatT ts, false, z1⟩, some ⟨[.slice (some ⟨0, 0, none⟩) l.length c, .slice (some ⟨1, 0, none⟩) ts.length c2, .slice (some ⟨4, 0, none⟩) (edL ts).length INF, .map (some 3)], false, z2⟩, some (mpX (lfA ts) false 0), some ⟨flatP (edL ts), false, z4⟩, some ⟨flatN ph, false, z5⟩, some ⟨flatN xs, false, z6⟩] (.tuple #[.int .i64 (tuI ts ph xs), .int .i64 (tuE ts ph xs)]) := by
  have hc3 := fun (m : Mem) (blk : Blk) (h1 : m.at 6 = some blk) (h2 : blk.cells = flatN xs) (h3 : blk.obj = Ob.plain) => ContainsI_q (c := c4) 124 (by kernel_rfl) (fun x => !rgB x (-100) 100) offTu_q xs hxl h1 h2 rfl h3
  have e10 := tu_10 (ts := ts) (ph := ph) (xs := xs)
  have e2 := tu_2 (ts := ts) (ph := ph) (xs := xs)
  have e21 := tu_21 (ts := ts) (ph := ph) (xs := xs)
  have e0 := tu_0 (ts := ts) (ph := ph) (xs := xs)
  have hbd := anyR_no (xs := xs) (a := -100) (b := 100)
  have h80 := hR.le
  have hle := edL_le ts
  have hcb := fun (k : Nat) (hk : k < ts.length) => clL_bd hR ph k hk
  have hcd := fun (m : Mem) (h : OpenN m 2 3 4 0 1 c c2 l ts) (F : Blk) (f1 : m.at 5 = some F) (f2 : F.cells = flatN ph) (f3 : F.obj = Ob.plain) => closures_q (n := ph.length) (c3 := c3) h hR ph hph f1 f2 rfl (by decide) f3
  have hcl := clL_len ts ph
  have hSl : (smL ts xs (edL ts).length).length = ts.length := smL_len _ _ _
  have hsu := fun (hx : xs.length = (edL ts).length) (ha : xs.any (fun x => !rgB x (-100) 100) = false) (m : Mem) (h : OpenN m 2 3 4 0 1 c c2 l ts) (F : Blk) (f1 : m.at 6 = some F) (f2 : F.cells = flatN xs) (f3 : F.obj = Ob.plain) => sums_q (n := xs.length) (c3 := c4) h hR xs hx (fun k hk => by have := hbd ha k hk; omega) f1 f2 rfl (by decide) f3
  have hsb := fun (hx : xs.length = (edL ts).length) (ha : xs.any (fun x => !rgB x (-100) 100) = false) (k : Nat) (hk : k < ts.length) => smL_bd (ts := ts) (xs := xs) (fun k hk => by have := hbd ha k hk; omega) (edL ts).length (by omega) k hk
  have htu : ∀ k, tuT ts ph xs k = nt (smL ts xs (edL ts).length) k + nt (clL ts ph) k := fun k => rfl
  clear hbd
  generalize smL ts xs (edL ts).length = S at *
  generalize clL ts ph = C at *
  generalize tuE ts ph xs = E0 at *
  generalize tuI ts ph xs = I0 at *
  generalize tuT ts ph xs = T0 at *
  generalize xs.any (fun x => !rgB x (-100) 100) = B0 at *
  have hgS : ∀ k, k < ts.length → (flatN S)[k]? = some (.int .i64 (nt S k)) := fun k hk => flatN_get _ k (by omega)
  have hgC : ∀ k, k < ts.length → (flatN C)[k]? = some (.int .i64 (nt C k)) := fun k hk => flatN_get _ k (by omega)
  refine PCalls.en 41 Tryz.func66 rfl (ro7p _ _ _ _ _ _ _ rfl rfl rfl rfl rfl rfl rfl) rfl (fun E => ?_)
  repeat' (first | with_reducible (first | refine Then.n ?_ | refine Then.r ?_ | refine Then.x ?_ | refine InB.n ?_ | refine InB.r ?_ | refine InB.hit ?_) | ((with_reducible refine AL.on ?_); first | ((first | ((with_reducible refine AL.k_assign ?_); (refine AL.q rfl (OQ.assign wl) ?_)) | ((with_reducible refine AL.k_move ?_); (refine AL.q rfl (OQ.move wl) ?_)) | ((with_reducible refine AL.k_call ?_); first | refine AL.q rfl (OQ.lenS (xt := 26) (r := (none, 1, false)) rfl kr) ?_ | refine AL.q rfl (OQ.lenS (xt := 45) (r := (none, 2, true)) rfl kr) ?_) | ((with_reducible refine AL.k_binOp ?_); first | refine AL.q rfl (OQ.neq rfl rfl) ?_ | refine AL.q rfl (OQ.lss rfl rfl) ?_ | refine AL.q rfl (OQ.addi rfl rfl (by omega)) ?_) | ((with_reducible refine AL.k_load ?_); first | (refine AL.q rfl (OQ.load1 (ty := 45) rfl kr (by (conv => lhs; whnf))) ?_) | (refine AL.q rfl (OQ.load1 (ty := 3) rfl kr (by (first | exact hgS k (by omega) | exact hgC k (by omega)))) ?_)) | refine AL.q rfl (OQ.nilCheck rfl) ?_); (refine AL.nm ?_)) | ((first | ((with_reducible refine AL.k_call ?_); refine AL.pcall (g := 87) rfl kr rfl ((by exact hc3 _ _ rfl rfl rfl)) ?_) | ((with_reducible refine AL.k_indexAddr ?_); refine AL.q rfl (OQ.idxAddr (ty := 26) (z := 1) (g := false) rfl rfl kr (by omega) (by omega)) ?_) | ((with_reducible refine AL.k_fieldAddr ?_); refine AL.q rfl (OQ.fieldA (ty := 110) (i := 1) (n := 1) (off := 2) (g := false) rfl kr (by decide)) ?_)); (refine AL.nm ?_)) | ((first | refine AL.acall (g := 79) rfl kr rfl ((by exact hcd _ ⟨⟨_, rfl, rfl, rfl⟩, ⟨_, rfl, rfl, rfl⟩, ⟨_, rfl, rfl, rfl⟩, ⟨_, rfl⟩, ⟨_, rfl, rfl, rfl⟩⟩ _ rfl rfl rfl)) ?_ | refine AL.acall (g := 125) rfl kr rfl ((by exact hsu hxx hB _ ⟨⟨_, rfl, rfl, rfl⟩, ⟨_, rfl, rfl, rfl⟩, ⟨_, rfl, rfl, rfl⟩, ⟨_, rfl⟩, ⟨_, rfl, rfl, rfl⟩⟩ _ rfl rfl rfl)) ?_); (refine AL.nm ?_); (refine AL.nM ?_)) | refine AL.nil ?_) | ((with_reducible refine AW.on ?_); first | refine AW.seq ?_ | refine AW.skip ?_ | refine AW.exit ?_ | refine AW.ret ?_ | ((refine AW.block (id := 1) ?_); (refine AW.fk [8, 28, 29, 30] ?_); (refine AW.loop (fun n' t' m => ∃ k : Nat, n' = ts.length - k ∧ k ≤ ts.length ∧ (∀ j, j < k → T0 j = 0) ∧ t' = (mtz 44 0 [(8, .slice (some ⟨7, 0, none⟩) ts.length ts.length), (28, .slice (some ⟨8, 0, none⟩) ts.length ts.length), (29, .int .i64 (ts.length)), (30, .int .i64 (k))]) ∧ m = [some ⟨flatP l, false, z0⟩, some ⟨flatT ts, false, z1⟩, some ⟨[.slice (some ⟨0, 0, none⟩) l.length c, .slice (some ⟨1, 0, none⟩) ts.length c2, .slice (some ⟨4, 0, none⟩) (edL ts).length INF, .map (some 3)], false, z2⟩, some (mpX (lfA ts) false 0), some ⟨flatP (edL ts), false, z4⟩, some ⟨flatN ph, false, z5⟩, some ⟨flatN xs, false, z6⟩, some ⟨flatN C, true, 1⟩, some ⟨flatN S, true, 1⟩]) (ts.length) (by exact ⟨0, rfl, Nat.zero_le _, fun j h => absurd h (by omega), rfl, rfl⟩) ?_); (rintro n' t' m ⟨k, rfl, hk, hj, rfl, rfl⟩); (refine AW.nT ?_)) | refine AW.block ?_ | (refine AW.region (id := 5) ?_; ((have hxx : xs.length = (edL ts).length := (by omega); have hB : B0 = false := (by assumption)))) | (refine AW.region (id := 9) ?_; ((have hq1 := hcb k (by omega); have hq2 := hsb hxx hB k (by omega); have hq3 := htu k))) | refine AW.region ?_ | (refine AW.conds rfl (fun hc => ?_) (fun hc => ?_) <;> (try replace hc := nc hc) <;> skip)) | ((with_reducible refine ex_on ?_); (refine ⟨ts.length - (k + 1), _, _, by omega, ?_, k + 1, rfl, by omega, fun j h => (by rcases Nat.lt_or_eq_of_le (Nat.le_of_lt_succ h) with h | rfl; (exact hj j h); (rw [htu]; omega)), rfl, rfl⟩; exact Wk.fk [8, 28, 29, 30] rfl)) | ((with_reducible refine FinP.on ?_); (refine FinP.ret (.tmp wl (.tmp wl .nil)) ?_ rfl); (try simp only [pack, List.drop, List.take]); all_goals (first | (have hq := e10 (by omega); rw [hq.1, hq.2]; done) | (have hq := e2 (by omega) (by first | assumption | simp_all); rw [hq.1, hq.2]; done) | (have hq := e21 hxx hB k (by omega) hj (by rw [htu]; omega); rw [hq.1, hq.2]; done) | (obtain rfl : k = ts.length := (by omega); have hq := e0 hxx hB hj; rw [hq.1, hq.2]))))
theorem turnsErr_q {m : Mem} {bN bL bE bP bT c c2 bF n c3 bX n4 c4 : Nat} {l : List Pn} {ts : List T3} {F X : Blk} (h : OpenN m bN bL bE bP bT c c2 l ts) (hR : NetR l ts) (ph xs : List Int) (hph : phE l ph = 0) (hxl : xs.length ≤ 1000000) (f1 : m.at bF = some F) (f2 : F.cells = flatN ph) (hn : ph.length = n) (x1 : m.at bX = some X) (x2 : X.cells = flatN xs) (hx : xs.length = n4) (f3 : F.obj = Ob.plain := by rfl) (x3 : X.obj = Ob.plain := by rfl) :
    PCalls Tryz.prog 66 [.pointer (some ⟨bN, 0, none⟩), .slice (some ⟨bF, 0, none⟩) n c3, .slice (some ⟨bX, 0, none⟩) n4 c4] m (.tuple #[.int .i64 (tuI ts ph xs), .int .i64 (tuE ts ph xs)]) := by
  subst hn hx
  obtain ⟨⟨A, a1, a2, a3⟩, ⟨B, b1, b2, b3⟩, ⟨N, n1, n2, n3⟩, ⟨own, l1⟩, ⟨D, d1, d2, d3⟩⟩ := h
  exact PCalls.viaS [bP, bT, bN, bL, bE, bF, bX] (turnsErr_0 l ts hR ph xs hph hxl c c2 c3 c4 A.esz B.esz N.esz D.esz F.esz X.esz) (ro7p _ _ _ _ _ _ _ rfl rfl rfl rfl rfl rfl rfl)
    ⟨⟨_, a1, by unfold Blk.shp Blk.shpR; rw [a3]; rfl, (fun h => nomatch h), .inl ⟨a2, flatP_scal _⟩⟩, ⟨_, b1, by unfold Blk.shp Blk.shpR; rw [b3]; rfl, (fun h => nomatch h), .inl ⟨b2, flatT_scal _⟩⟩, ⟨_, n1, by unfold Blk.shp Blk.shpR; rw [n3]; rfl, (fun h => nomatch h), .inr ⟨n2, rfl⟩⟩, ⟨_, l1, rfl, (fun h => nomatch h), .inl ⟨rfl, rfl⟩⟩, ⟨_, d1, by unfold Blk.shp Blk.shpR; rw [d3]; rfl, (fun h => nomatch h), .inl ⟨d2, flatP_scal _⟩⟩, ⟨_, f1, by unfold Blk.shp Blk.shpR; rw [f3]; rfl, (fun h => nomatch h), .inl ⟨f2, flatN_scal _⟩⟩, ⟨_, x1, by unfold Blk.shp Blk.shpR; rw [x3]; rfl, (fun h => nomatch h), .inl ⟨x2, flatN_scal _⟩⟩, trivial⟩ rfl rfl rfl rfl
end Go.Proofs.YtmohcmghbfhdlaaGreat
end
end
/- Chapter 6: fields of turns (the program's). -/
section
set_option linter.unusedSimpArgs false
set_option linter.unusedVariables false
section
namespace Go.Me
open Go.Ab Go.Proofs.YtmohcmghbfhdlaaGreat
abbrev Fdt := List Int × List Int
def fdD (ds xs : List Int) (k : Nat) : Int := nt ds k + 4096 * nt xs k
def fdSt (ds xs : List Int) (e : Pn) (k : Nat) (s : Fdt) : Fdt :=
  if e.x ∈ s.2 ∧ e.y ∉ s.2 then (s.1.set e.y.toNat (nt s.1 e.x.toNat + fdD ds xs k), s.2 ++ [e.y])
  else if e.y ∈ s.2 ∧ e.x ∉ s.2 then (s.1.set e.x.toNat (nt s.1 e.y.toNat - fdD ds xs k), s.2 ++ [e.x]) else s
def fdK (ds xs : List Int) (es : List Pn) (s : Fdt) : Nat → Fdt
  | 0 => s
  | k + 1 => fdSt ds xs (pt es k) k (fdK ds xs es s k)
def fdN (ds xs : List Int) (es : List Pn) (s : Fdt) : Nat → Fdt
  | 0 => s
  | r + 1 => fdK ds xs es (fdN ds xs es s r) es.length
def fd0 (n : Nat) (p : Int) : Fdt := ((List.replicate n 0).set 0 p, [0])
structure FdOk (n : Nat) (s : Fdt) : Prop where
  len : s.1.length = n
  nd : s.2.Nodup
  rng : ∀ k ∈ s.2, 0 ≤ k ∧ k < n
  bd : ∀ i, i < n → -(411648 * (s.2.length : Int)) ≤ nt s.1 i ∧ nt s.1 i ≤ 411648 * (s.2.length : Int)
theorem FdOk.le {n : Nat} {s : Fdt} (h : FdOk n s) : s.2.length ≤ n := by
  have := le_nodup s.2 ((List.range n).map Int.ofNat) h.nd fun y hy => by
    have h1 := h.rng y hy
    exact List.mem_map.2 ⟨y.toNat, List.mem_range.2 (by omega), Int.toNat_of_nonneg h1.1⟩
  simpa using this
theorem nodup_snoc {x : Int} {u : List Int} (h : u.Nodup) (hx : x ∉ u) : (u ++ [x]).Nodup := by
  rw [List.nodup_append]
  refine ⟨h, by simp, fun a ha b hb e => ?_⟩
  rw [List.mem_singleton] at hb
  subst hb
  subst e
  exact hx ha
theorem FdOk.put {n : Nat} {s : Fdt} (h : FdOk n s) {y v : Int} (hy : 0 ≤ y ∧ y < n) (hu : y ∉ s.2) (hv : -(411648 * (s.2.length : Int)) - 411648 ≤ v ∧ v ≤ 411648 * (s.2.length : Int) + 411648) : FdOk n (s.1.set y.toNat v, s.2 ++ [y]) := by
  refine ⟨by rw [List.length_set]; exact h.len, nodup_snoc h.nd hu, fun k hk => ?_, fun i hi => ?_⟩
  · rcases List.mem_append.1 hk with hk | hk
    · exact h.rng k hk
    · rw [List.mem_singleton] at hk
      subst hk
      exact hy
  · rw [List.length_append]
    have hb := h.bd i hi
    rw [nt_set (by rw [h.len]; exact hi)]
    simp only [List.length_cons, List.length_nil]
    split <;> omega
theorem fdSt_a {ds xs : List Int} {e : Pn} {k : Nat} {s : Fdt} (h1 : e.x ∈ s.2) (h2 : e.y ∉ s.2) : fdSt ds xs e k s = (s.1.set e.y.toNat (nt s.1 e.x.toNat + fdD ds xs k), s.2 ++ [e.y]) := if_pos ⟨h1, h2⟩
theorem fdSt_b {ds xs : List Int} {e : Pn} {k : Nat} {s : Fdt} (h1 : e.y ∈ s.2) (h2 : e.x ∉ s.2) : fdSt ds xs e k s = (s.1.set e.x.toNat (nt s.1 e.y.toNat - fdD ds xs k), s.2 ++ [e.x]) := (if_neg fun h => h2 h.1).trans (if_pos ⟨h1, h2⟩)
theorem fdSt_c {ds xs : List Int} {e : Pn} {k : Nat} {s : Fdt} (h : e.x ∈ s.2 ↔ e.y ∈ s.2) : fdSt ds xs e k s = s := (if_neg fun h2 => h2.2 (h.1 h2.1)).trans (if_neg fun h2 => h2.2 (h.2 h2.1))
theorem fdSt_ok {ds xs : List Int} {e : Pn} {k : Nat} {n : Nat} {s : Fdt} (h : FdOk n s) (he : (0 ≤ e.x ∧ e.x < n) ∧ (0 ≤ e.y ∧ e.y < n)) (hd : -411648 ≤ fdD ds xs k ∧ fdD ds xs k ≤ 411648) : FdOk n (fdSt ds xs e k s) := by
  have hx := h.bd e.x.toNat (by omega)
  have hy := h.bd e.y.toNat (by omega)
  unfold fdSt
  split
  · rename_i h1
    exact h.put he.2 h1.2 (by omega)
  · split
    · rename_i h1
      exact h.put he.1 h1.2 (by omega)
    · exact h
theorem fdK_ok {ds xs : List Int} {es : List Pn} {n : Nat} (he : ∀ k, k < es.length → (0 ≤ (pt es k).x ∧ (pt es k).x < n) ∧ (0 ≤ (pt es k).y ∧ (pt es k).y < n)) (hd : ∀ k, k < es.length → -411648 ≤ fdD ds xs k ∧ fdD ds xs k ≤ 411648) {s : Fdt} (h : FdOk n s) : ∀ k, k ≤ es.length → FdOk n (fdK ds xs es s k)
  | 0, _ => h
  | k + 1, hk => fdSt_ok (fdK_ok he hd h k (by omega)) (he k (by omega)) (hd k (by omega))
theorem fdN_ok {ds xs : List Int} {es : List Pn} {n : Nat} (he : ∀ k, k < es.length → (0 ≤ (pt es k).x ∧ (pt es k).x < n) ∧ (0 ≤ (pt es k).y ∧ (pt es k).y < n)) (hd : ∀ k, k < es.length → -411648 ≤ fdD ds xs k ∧ fdD ds xs k ≤ 411648) {s : Fdt} (h : FdOk n s) : ∀ r, FdOk n (fdN ds xs es s r)
  | 0 => h
  | r + 1 => fdK_ok he hd (fdN_ok he hd h r) es.length (Nat.le_refl _)
theorem fd0_ok {n : Nat} {p : Int} (hn : 0 < n) (hp : -2048 ≤ p ∧ p ≤ 2047) : FdOk n (fd0 n p) := by
  refine ⟨by simp [fd0], by simp [fd0], fun k hk => ?_, fun i hi => ?_⟩
  · simp only [fd0, List.mem_singleton] at hk
    omega
  · simp only [fd0, List.length_cons, List.length_nil]
    rw [nt_set (by simpa using hi)]
    have h0 : nt (List.replicate n 0) i = 0 := by
      unfold nt
      rw [List.getD_eq_getElem?_getD, List.getElem?_replicate, if_pos hi]
      rfl
    split <;> omega
def fdS (ds xs : List Int) (es : List Pn) (s : Fdt) (r k : Nat) : Fdt := fdK ds xs es (fdN ds xs es s r) k
theorem fdS_ok {ds xs : List Int} {es : List Pn} {n : Nat} (he : ∀ k, k < es.length → (0 ≤ (pt es k).x ∧ (pt es k).x < n) ∧ (0 ≤ (pt es k).y ∧ (pt es k).y < n)) (hd : ∀ k, k < es.length → -411648 ≤ fdD ds xs k ∧ fdD ds xs k ≤ 411648) {s : Fdt} (h : FdOk n s) (r k : Nat) (hk : k ≤ es.length) : FdOk n (fdS ds xs es s r k) := fdK_ok he hd (fdN_ok he hd h r) k hk
structure FdR (ds xs : List Int) (es : List Pn) (s : Fdt) (n R : Nat) : Prop where
  fin : (fdN ds xs es s R).2.length = n
  lt : ∀ r, r < R → (fdN ds xs es s r).2.length ≠ n
end Go.Me
namespace Go.Proofs.YtmohcmghbfhdlaaGreat
open Go Go.RowKit Go.Ab Go.Me
set_option maxRecDepth 100000
set_option maxHeartbeats 4000000
attribute [local irreducible] OQ OW AL AW AF SW
theorem _root_.Go.Ab.OW.ins {P : Program} {t : T} {m m' : Mem} {v : Value} {dst : Option Tmp} {ty rt : TypeId} {x y z : Operand} {pos : String} {after : Array Edge} {guard : Option (Nat × Bool)} (h : OW P ⟨dst, .mapUpdate ty x y z, rt, pos, after, guard⟩ t m v m') : OW P ⟨dst, .insert ty x y z, rt, pos, after, guard⟩ t m v m' := by
  unfold OW at h ⊢
  exact h
theorem _root_.Go.Ab.OW.minsN {κ : Type} [DecidableEq κ] {enc : κ → Value} {ok : κ → Prop} {P : Program} {t : T} {m : Mem} {dst : Option Tmp} {ty rt kt et : TypeId} {pos : String} {after : Array Edge} {guard : Option (Nat × Bool)} {x y z : Operand} {b : Nat} {l : List κ} {k : κ} {v : Value} (K : KEnc enc P kt ok) (hk0 : ok k) (hl0 : ∀ x ∈ l, ok x) (hx : t.ev x = .map (some b)) (hy : t.ev y = enc k) (hz : t.ev z = v) (hu : P.underlying ty = some (.map kt et)) (hb : m.at b = some (mpL enc (l.map fun k => (k, v)))) (hn : l.Nodup) (hnk : k ∉ l) (hvf : flat v = true) :
    OW P ⟨dst, .mapUpdate ty x y z, rt, pos, after, guard⟩ t m undef (m.set b (some (mpL enc ((l ++ [k]).map fun k => (k, v))))) := by
  have h := OW.mins (dst := dst) (rt := rt) (pos := pos) (after := after) (guard := guard) K hk0 hl0 hx hy hz hu hb hn hvf
  have e : insL l k = l ++ [k] := if_neg hnk
  rw [e] at h
  exact h
theorem fst_map (u : List Int) (v : Value) : (u.map fun k => (k, v)).map (·.1) = u := by rw [List.map_map]; exact List.map_id u
theorem fd0_c {n : Nat} {f : Nat → Value} {s : Fdt} {p : Int} (hs : s = fd0 n p) (hf : ∀ i, f i = .int .i64 0) : flatN s.1 = ((List.range n).map f).set 0 (.int .i64 p) := by
  rw [hs, flatN_zero hf, ← flatN_set]
  rfl
theorem Field_y0 (l : List Pn) (ts : List T3) (hR : NetR l ts) (ph xs : List Int) (hph : phE l ph = 0) (htu : tuE ts ph xs = 0) (R : Nat) (hF : FdR (dfL ts ph) xs (edL ts) (fd0 l.length (nt ph 0)) l.length R) (hxl : xs.length ≤ 1000000) (c c2 c3 c4 z z1 z2 z3 : Nat) (hz : z = 0 ∨ z = 2) :
    ACalls Tryz.prog 14 [.agg #[.slice (some ⟨0, 0, none⟩) l.length c, .slice (some ⟨1, 0, none⟩) ts.length c2], .slice (some ⟨2, 0, none⟩) ph.length c3, .slice (some ⟨3, 0, none⟩) xs.length c4] [some ⟨flatP l, false, z⟩, some ⟨flatT ts, false, z1⟩, some ⟨flatN ph, false, z2⟩, some ⟨flatN xs, false, z3⟩]
      (.tuple #[.slice (some ⟨4, 0, none⟩) l.length l.length, .int .i64 0]) [some ⟨flatP l, false, z⟩, some ⟨flatT ts, false, z1⟩, some ⟨flatN ph, false, z2⟩, some ⟨flatN xs, false, z3⟩, some ⟨flatN (fdN (dfL ts ph) xs (edL ts) (fd0 l.length (nt ph 0)) R).1, true, 1⟩] := by
  have hxe : xs.length = (edL ts).length ∧ xs.any (fun x => !rgB x (-100) 100) = false := by
    unfold tuE at htu
    by_cases h1 : xs.length ≠ (edL ts).length
    · rw [if_pos h1] at htu; cases htu
    · rw [if_neg h1] at htu
      cases h2 : xs.any (fun x => !rgB x (-100) 100) with
      | true => rw [h2, if_pos rfl] at htu; cases htu
      | false => exact ⟨Classical.not_not.1 h1, rfl⟩
  obtain ⟨hxe, hxa⟩ := hxe
  have hxb := anyR_no hxa
  have hdl := dfL_len ts ph
  have hdb := dfL_bd ts ph
  have hpl := phE_0 hph
  have h40 := (cp_ok hR.cp).1
  have he := fun k hk => edL_at hR.ok k hk
  have hpos : 0 < l.length := by
    have h1 := edL_pos hR
    have h2 := he 0 (by omega)
    omega
  have hd : ∀ k, k < (edL ts).length → -411648 ≤ fdD (dfL ts ph) xs k ∧ fdD (dfL ts ph) xs k ≤ 411648 := fun k hk => by
    have h1 := hdb k (by omega)
    have h2 := hxb k (by omega)
    unfold fdD
    omega
  have hok := fun r k hk => fdS_ok (s := fd0 l.length (nt ph 0)) he hd (fd0_ok hpos (hpl.2 0 (by omega))) r k hk
  have hle := fun r k hk => (hok r k hk).le
  have hS0 : fdS (dfL ts ph) xs (edL ts) (fd0 l.length (nt ph 0)) 0 0 = fd0 l.length (nt ph 0) := rfl
  have hSe : ∀ r, fdS (dfL ts ph) xs (edL ts) (fd0 l.length (nt ph 0)) (r + 1) 0 = fdS (dfL ts ph) xs (edL ts) (fd0 l.length (nt ph 0)) r (edL ts).length := fun r => rfl
  have hSs : ∀ r k, fdS (dfL ts ph) xs (edL ts) (fd0 l.length (nt ph 0)) r (k + 1) = fdSt (dfL ts ph) xs (pt (edL ts) k) k (fdS (dfL ts ph) xs (edL ts) (fd0 l.length (nt ph 0)) r k) := fun r k => rfl
  obtain ⟨hfin, hlt⟩ := hF
  have hlt2 : ∀ r, r < R → (fdS (dfL ts ph) xs (edL ts) (fd0 l.length (nt ph 0)) r 0).2.length < l.length := fun r hr => by
    have h1 := hlt r hr
    have h2 := hle r 0 (Nat.zero_le _)
    change (fdN (dfL ts ph) xs (edL ts) (fd0 l.length (nt ph 0)) r).2.length < l.length
    change (fdN (dfL ts ph) xs (edL ts) (fd0 l.length (nt ph 0)) r).2.length ≤ l.length at h2
    omega
  have hD : ∀ k, fdD (dfL ts ph) xs k = nt (dfL ts ph) k + 4096 * nt xs k := fun k => rfl
  change (fdS (dfL ts ph) xs (edL ts) (fd0 l.length (nt ph 0)) R 0).2.length = l.length at hfin
  change ACalls _ _ _ _ _ [_, _, _, _, some ⟨flatN (fdS (dfL ts ph) xs (edL ts) (fd0 l.length (nt ph 0)) R 0).1, true, 1⟩]
  clear hlt
  have hop := fun (m : Mem) (hA : ArgN m 0 1 l ts) (F : Blk) (f1 : m.at 2 = some F) (f2 : F.cells = flatN ph) (f3 : F.obj = Ob.plain) => openPhases_y (c := c) (c2 := c2) (c3 := c3) l ts ph hA rfl rfl f1 f2 rfl (by rw [hpl.1]; omega) hR (by decide) f3
  have hte := fun (m : Mem) (h : OpenN m 5 6 7 0 1 c c2 l ts) (F X : Blk) (f1 : m.at 2 = some F) (f2 : F.cells = flatN ph) (f3 : F.obj = Ob.plain) (x1 : m.at 3 = some X) (x2 : X.cells = flatN xs) (x3 : X.obj = Ob.plain) => turnsErr_q (c3 := c3) (c4 := c4) h hR ph xs hph hxl f1 f2 rfl x1 x2 rfl f3 x3
  have hdi := fun (m : Mem) (h : OpenN m 5 6 7 0 1 c c2 l ts) (F : Blk) (f1 : m.at 2 = some F) (f2 : F.cells = flatN ph) (f3 : F.obj = Ob.plain) => differences_q (n := ph.length) (c3 := c3) h hR ph hph f1 f2 rfl (by decide) f3
  rw [hph] at hop
  rw [htu] at hte
  have hgD : ∀ k, k < (edL ts).length → (flatN (dfL ts ph))[k]? = some (.int .i64 (nt (dfL ts ph) k)) := fun k hk => flatN_get _ k (by omega)
  have hgX : ∀ k, k < (edL ts).length → (flatN xs)[k]? = some (.int .i64 (nt xs k)) := fun k hk => flatN_get _ k (by omega)
  have hgP : (flatN ph)[0]? = some (.int .i64 (nt ph 0)) := flatN_get _ 0 (by omega)
  have hle2 := edL_le ts
  have h80 := hR.le
  generalize fdD (dfL ts ph) xs = DD at *
  have hSa : ∀ r k, (pt (edL ts) k).x ∈ (fdS (dfL ts ph) xs (edL ts) (fd0 l.length (nt ph 0)) r k).2 → (pt (edL ts) k).y ∉ (fdS (dfL ts ph) xs (edL ts) (fd0 l.length (nt ph 0)) r k).2 → flatN (fdS (dfL ts ph) xs (edL ts) (fd0 l.length (nt ph 0)) r (k + 1)).1 = (flatN (fdS (dfL ts ph) xs (edL ts) (fd0 l.length (nt ph 0)) r k).1).set (pt (edL ts) k).y.toNat (.int .i64 (nt (fdS (dfL ts ph) xs (edL ts) (fd0 l.length (nt ph 0)) r k).1 (pt (edL ts) k).x.toNat + (nt (dfL ts ph) k + 4096 * nt xs k))) ∧ (fdS (dfL ts ph) xs (edL ts) (fd0 l.length (nt ph 0)) r (k + 1)).2 = (fdS (dfL ts ph) xs (edL ts) (fd0 l.length (nt ph 0)) r k).2 ++ [(pt (edL ts) k).y] := fun r k h1 h2 => by
    rw [hSs, fdSt_a h1 h2]
    exact ⟨flatN_set _ _ _, rfl⟩
  have hSb : ∀ r k, (pt (edL ts) k).y ∈ (fdS (dfL ts ph) xs (edL ts) (fd0 l.length (nt ph 0)) r k).2 → (pt (edL ts) k).x ∉ (fdS (dfL ts ph) xs (edL ts) (fd0 l.length (nt ph 0)) r k).2 → flatN (fdS (dfL ts ph) xs (edL ts) (fd0 l.length (nt ph 0)) r (k + 1)).1 = (flatN (fdS (dfL ts ph) xs (edL ts) (fd0 l.length (nt ph 0)) r k).1).set (pt (edL ts) k).x.toNat (.int .i64 (nt (fdS (dfL ts ph) xs (edL ts) (fd0 l.length (nt ph 0)) r k).1 (pt (edL ts) k).y.toNat - (nt (dfL ts ph) k + 4096 * nt xs k))) ∧ (fdS (dfL ts ph) xs (edL ts) (fd0 l.length (nt ph 0)) r (k + 1)).2 = (fdS (dfL ts ph) xs (edL ts) (fd0 l.length (nt ph 0)) r k).2 ++ [(pt (edL ts) k).x] := fun r k h1 h2 => by
    rw [hSs, fdSt_b h1 h2]
    exact ⟨flatN_set _ _ _, rfl⟩
  have hSc : ∀ r k, ((pt (edL ts) k).x ∈ (fdS (dfL ts ph) xs (edL ts) (fd0 l.length (nt ph 0)) r k).2 ↔ (pt (edL ts) k).y ∈ (fdS (dfL ts ph) xs (edL ts) (fd0 l.length (nt ph 0)) r k).2) → fdS (dfL ts ph) xs (edL ts) (fd0 l.length (nt ph 0)) r (k + 1) = fdS (dfL ts ph) xs (edL ts) (fd0 l.length (nt ph 0)) r k := fun r k h1 => by
    rw [hSs, fdSt_c h1]
  clear hSs hD hd
  generalize fdS (dfL ts ph) xs (edL ts) (fd0 l.length (nt ph 0)) = S at *
  have hgO : ∀ r k i, k ≤ (edL ts).length → i < l.length → (flatN (S r k).1)[i]? = some (.int .i64 (nt (S r k).1 i)) := fun r k i hk hi => flatN_get _ i (by rw [(hok r k hk).len]; exact hi)
  have hOl : ∀ r k, k ≤ (edL ts).length → (flatN (S r k).1).length = l.length := fun r k hk => by rw [flatN_len, (hok r k hk).len]
  have hmS : ∀ r k x, x ∈ (S r k).2 → (x, Value.bool true) ∈ (S r k).2.map fun k => (k, Value.bool true) := fun r k x h => List.mem_map.2 ⟨x, h, rfl⟩
  have hmN : ∀ r k x, x ∉ (S r k).2 → x ∉ ((S r k).2.map fun k => (k, Value.bool true)).map (·.1) := fun r k x h => by rw [fst_map]; exact h
  have hmD : ∀ r k, k ≤ (edL ts).length → (((S r k).2.map fun k => (k, Value.bool true)).map (·.1)).Nodup := fun r k hk => by rw [fst_map]; exact (hok r k hk).nd
  refine ACalls.en 127 Tryz.func14 rfl rfl (fun E hE => ?_)
  repeat' (first | with_reducible (first | refine Then.n ?_ | refine Then.x ?_ | refine InB.n ?_ | refine InB.hit ?_) | ((with_reducible refine AL.on ?_); first | (refine AL.gd rfl ?_; (refine AL.gs1 rfl rfl (fun hc => ?_) (fun hc => ?_) <;> (try replace hc := nc hc) <;> first | (exfalso; contradiction) | (refine AL.nm ?_))) | ((first | ((with_reducible refine AL.k_move ?_); (refine AL.q rfl (OQ.move wl) ?_)) | ((with_reducible refine AL.k_assign ?_); (refine AL.q rfl (OQ.assign wl) ?_)) | ((with_reducible refine AL.k_load ?_); first | refine AL.q rfl (OQ.loadN (ty := 25) (n := 2) rfl kr kr (by rfl)) ?_ | (refine AL.q rfl (OQ.load1 (ty := 22) rfl kr (by (conv => lhs; whnf))) ?_) | (refine AL.q rfl (OQ.load1 (ty := 3) rfl kr (by first | (exact hgP) | (conv => lhs; whnf))) ?_) | (refine AL.q rfl (OQ.load1 (ty := 45) rfl kr (by (conv => lhs; whnf))) ?_) | refine AL.q rfl (OQ.loadN (ty := 52) (n := 2) rfl kr kr (by (exact flatP_ld rfl rfl _ (by omega)))) ?_) | ((with_reducible refine AL.k_binOp ?_); first | refine AL.q rfl (OQ.neq rfl rfl) ?_ | refine AL.q rfl (OQ.lss rfl rfl) ?_ | refine AL.q rfl (OQ.addi rfl rfl (by omega)) ?_) | ((with_reducible refine AL.k_call ?_); first | refine AL.q rfl (OQ.lenS (xt := 22) (r := (none, 2, true)) rfl kr) ?_ | refine AL.q rfl (OQ.mlen rfl Tryz.underlying107 rfl) ?_ | refine AL.q rfl (OQ.lenS (xt := 26) (r := (none, 1, false)) rfl kr) ?_ | refine AL.q rfl (OQ.lenS (xt := 45) (r := (none, 2, true)) rfl kr) ?_) | ((with_reducible refine AL.k_extract ?_); refine AL.q rfl (OQ.extract rfl rfl) ?_) | ((with_reducible refine AL.k_unOp ?_); refine AL.q rfl (OQ.not rfl) ?_) | ((with_reducible refine AL.k_pick ?_); first | (refine AL.q rfl (OQ.pickT rfl (by with_reducible rfl) wl) ?_) | (refine AL.q rfl (OQ.pickF rfl (by with_reducible rfl) wl) ?_)) | refine AL.q rfl (OQ.nilCheck rfl) ?_ | refine AL.q rfl (by first | exact (OQ.mlookS (enc := encI) (l := (S r k).2.map fun k => (k, Value.bool true)) (k := (pt (edL ts) k).x) (v := .bool true) KI trivial (fun _ _ => trivial) rfl rfl Tryz.underlying107 rfl (hmD r k (by omega)) (hmS r k _ hxm) rfl).2 | exact (OQ.mlookS (enc := encI) (l := (S r k).2.map fun k => (k, Value.bool true)) (k := (pt (edL ts) k).y) (v := .bool true) KI trivial (fun _ _ => trivial) rfl rfl Tryz.underlying107 rfl (hmD r k (by omega)) (hmS r k _ hym) rfl).2 | exact (OQ.mlookN (enc := encI) (l := (S r k).2.map fun k => (k, Value.bool true)) (k := (pt (edL ts) k).x) (v := .bool false) KI trivial (fun _ _ => trivial) rfl rfl Tryz.underlying107 rfl (hmN r k _ hxm) (fun w => by kernel_rfl) rfl).2 | exact (OQ.mlookN (enc := encI) (l := (S r k).2.map fun k => (k, Value.bool true)) (k := (pt (edL ts) k).y) (v := .bool false) KI trivial (fun _ _ => trivial) rfl rfl Tryz.underlying107 rfl (hmN r k _ hym) (fun w => by kernel_rfl) rfl).2) ?_); (refine AL.nm ?_)) | ((first | ((with_reducible refine AL.k_indexAddr ?_); first | refine AL.q rfl (OQ.idxAddr (ty := 26) (z := 1) (g := false) rfl rfl kr (by omega) (by omega)) ?_ | refine AL.q rfl (OQ.idxAddr (ty := 45) (z := 2) (g := true) rfl rfl kr (by omega) (by omega)) ?_ | refine AL.q rfl (OQ.idxPtr (ty := 52) (n := 1) (l := 2) (g := false) rfl rfl kr (by omega) (by omega)) ?_) | ((with_reducible refine AL.k_call ?_); refine AL.pcall (g := 66) rfl kr rfl ((by exact hte _ ⟨⟨_, rfl, rfl, rfl⟩, ⟨_, rfl, rfl, rfl⟩, ⟨_, rfl, rfl, rfl⟩, ⟨_, rfl⟩, ⟨_, rfl, rfl, rfl⟩⟩ _ _ rfl rfl rfl rfl rfl rfl)) ?_) | ((with_reducible refine AL.k_fieldAddr ?_); first | refine AL.q rfl (OQ.fieldA (ty := 25) (i := 0) (n := 1) (off := 0) (g := false) rfl kr (by decide)) ?_ | refine AL.q rfl (OQ.fieldA (ty := 110) (i := 1) (n := 1) (off := 2) (g := false) rfl kr (by decide)) ?_)); (refine AL.nm ?_)) | ((first | ((with_reducible refine AL.k_call ?_); first | refine AL.acall (g := 65) rfl kr rfl ((by exact hop _ ⟨⟨_, rfl, rfl, hz, rfl⟩, ⟨_, rfl, rfl, rfl⟩, by decide⟩ _ rfl rfl rfl)) ?_ | refine AL.acall (g := 67) rfl kr rfl ((by exact hdi _ ⟨⟨_, rfl, rfl, rfl⟩, ⟨_, rfl, rfl, rfl⟩, ⟨_, rfl, rfl, rfl⟩, ⟨_, rfl⟩, ⟨_, rfl, rfl, rfl⟩⟩ _ rfl rfl rfl)) ?_) | ((with_reducible refine AL.k_store ?_); first | (refine AL.w rfl (OW.store (ty := 3) (n := 1) rfl wl rfl rfl kr rfl rfl (by decide) rfl (by (((simp; omega)))) (by intro r h; cases h)) ?_) | (refine AL.w rfl (OW.store (ty := 52) (n := 2) rfl wl rfl rfl kr rfl rfl (by decide) rfl (by exact Nat.le_of_ble_eq_true rfl) (by intro r h; cases h)) ?_)) | ((with_reducible refine AL.k_box ?_); (refine AL.w rfl (OW.box wl (by intro r h; cases h)) ?_)) | ((with_reducible refine AL.k_alloc ?_); refine AL.w rfl (OW.alloc (ty := 52) (z := [.int .i64 0, .int .i64 0]) kr rfl) ?_) | refine AL.w rfl (OW.makeSl (st := 26) (e := 3) (z := 1) (by' := 8) (zs := [.int .i64 0]) rfl kr kr kr rfl rfl kr (by decide) (by omega) (by omega)) ?_ | refine AL.w rfl OW.makeMap ?_ | refine AL.w rfl (by first | exact OW.ins (OW.minsN (enc := encI) (l := ([] : List Int)) (k := 0) (v := .bool true) KI trivial (fun _ _ => trivial) rfl rfl rfl Tryz.underlying107 rfl List.nodup_nil (by simp) rfl) | exact OW.minsN (enc := encI) (l := (S r k).2) (k := (pt (edL ts) k).y) (v := .bool true) KI trivial (fun _ _ => trivial) rfl rfl rfl Tryz.underlying107 rfl ((hok r k (by omega)).nd) hym rfl | exact OW.minsN (enc := encI) (l := (S r k).2) (k := (pt (edL ts) k).x) (v := .bool true) KI trivial (fun _ _ => trivial) rfl rfl rfl Tryz.underlying107 rfl ((hok r k (by omega)).nd) hxm rfl) ?_); (refine AL.nm ?_); (refine AL.nM ?_)) | refine AL.nil ?_) | ((with_reducible refine AW.on ?_); first | refine AW.seq ?_ | refine AW.skip ?_ | refine AW.exit ?_ | refine AW.ret ?_ | ((refine AW.block (id := 0) ?_); (refine AW.fk [2, 8, 12, 13, 14] ?_); (refine AW.wk (t' := [jk, jk, .slice (some ⟨3, 0, none⟩) xs.length c4, jk, jk, jk, jk, jk, .pointer (some ⟨4, 0, none⟩), jk, jk, jk, .slice (some ⟨7, 0, none⟩) ((edL ts).length) INF, .slice (some ⟨8, 0, none⟩) l.length l.length, .map (some 9), jk, jk, jk, jk, jk, jk, jk, jk, jk, jk, jk, jk, jk, jk, jk, jk, jk, jk, jk, jk, jk, jk, jk, jk, jk, jk, jk, jk, jk, jk, jk, jk, jk, jk, jk, jk, jk, jk, jk, jk, jk, jk, jk, jk, jk, jk, jk, jk, jk, jk, jk, jk, jk, jk, jk, jk, jk, jk, jk, jk, jk, jk, jk, jk, jk, jk, jk, jk, jk, jk, jk, jk, jk, jk, jk, jk, jk, jk, jk, jk, jk, jk, jk, jk, jk, jk, jk, jk, jk, jk, jk, jk, jk, jk, jk, jk, jk, jk, jk, jk, jk, jk, jk, jk, jk, jk, jk, jk, jk, jk, jk, jk, jk, jk, jk]) (m' := [some ⟨flatP l, false, z⟩, some ⟨flatT ts, false, z1⟩, some ⟨flatN ph, false, z2⟩, some ⟨flatN xs, false, z3⟩, some ⟨[.slice (some ⟨0, 0, none⟩) l.length c, .slice (some ⟨1, 0, none⟩) ts.length c2, .slice (some ⟨6, 0, none⟩) (edL ts).length INF, .map (some 5)], true, 0⟩, some (mpX (lfA ts) true 0), some ⟨flatP (edL ts), true, 2⟩, some ⟨flatN (dfL ts ph), true, 1⟩, some ⟨flatN (S 0 0).1, true, 1⟩, some (mpU (S 0 0).2)]) (Wk.keep 4 [5, 6, 7, 8, 9, 10] (by rw [hE]; exact Nat.le_of_ble_eq_true rfl) rfl rfl (by repeat (first | exact RenT.nil | refine RenT.jk ?_ | refine RenT.val (by rfl) (by rfl) ?_)) ⟨⟨_, rfl, rfl, rfl, .inl ⟨rfl, flatP_scal l⟩⟩, ⟨_, rfl, rfl, rfl, .inl ⟨rfl, flatT_scal ts⟩⟩, ⟨_, rfl, rfl, rfl, .inl ⟨rfl, flatN_scal _⟩⟩, ⟨_, rfl, rfl, rfl, .inl ⟨rfl, flatN_scal _⟩⟩, ⟨_, rfl, rfl, rfl, .inr ⟨rfl, rfl⟩⟩, ⟨_, rfl, rfl, rfl, .inl ⟨rfl, rfl⟩⟩, ⟨_, rfl, rfl, rfl, .inl ⟨rfl, flatP_scal _⟩⟩, ⟨_, rfl, rfl, rfl, .inl ⟨rfl, flatN_scal _⟩⟩, ⟨_, rfl, rfl, rfl, .inl ⟨fd0_c hS0 (fun i => by simp [Nat.mod_one]), flatN_scal _⟩⟩, ⟨_, rfl, rfl, (by rw [hS0]; rfl), .inl ⟨rfl, rfl⟩⟩, trivial⟩) ?_); (refine AW.loop (fun n' t' m => ∃ r : Nat, n' = R - r ∧ r ≤ R ∧ t' = [jk, jk, .slice (some ⟨3, 0, none⟩) xs.length c4, jk, jk, jk, jk, jk, .pointer (some ⟨4, 0, none⟩), jk, jk, jk, .slice (some ⟨7, 0, none⟩) ((edL ts).length) INF, .slice (some ⟨8, 0, none⟩) l.length l.length, .map (some 9), jk, jk, jk, jk, jk, jk, jk, jk, jk, jk, jk, jk, jk, jk, jk, jk, jk, jk, jk, jk, jk, jk, jk, jk, jk, jk, jk, jk, jk, jk, jk, jk, jk, jk, jk, jk, jk, jk, jk, jk, jk, jk, jk, jk, jk, jk, jk, jk, jk, jk, jk, jk, jk, jk, jk, jk, jk, jk, jk, jk, jk, jk, jk, jk, jk, jk, jk, jk, jk, jk, jk, jk, jk, jk, jk, jk, jk, jk, jk, jk, jk, jk, jk, jk, jk, jk, jk, jk, jk, jk, jk, jk, jk, jk, jk, jk, jk, jk, jk, jk, jk, jk, jk, jk, jk, jk, jk, jk, jk, jk, jk, jk, jk, jk, jk] ∧ m = [some ⟨flatP l, false, z⟩, some ⟨flatT ts, false, z1⟩, some ⟨flatN ph, false, z2⟩, some ⟨flatN xs, false, z3⟩, some ⟨[.slice (some ⟨0, 0, none⟩) l.length c, .slice (some ⟨1, 0, none⟩) ts.length c2, .slice (some ⟨6, 0, none⟩) (edL ts).length INF, .map (some 5)], true, 0⟩, some (mpX (lfA ts) true 0), some ⟨flatP (edL ts), true, 2⟩, some ⟨flatN (dfL ts ph), true, 1⟩, some ⟨flatN (S r 0).1, true, 1⟩, some (mpU (S r 0).2)]) (R) (by exact ⟨0, rfl, Nat.zero_le _, rfl, rfl⟩) ?_); (rintro n' t' m ⟨r, rfl, hr, rfl, rfl⟩)) | ((refine AW.block (id := 2) ?_); (refine AW.fk [2, 8, 12, 13, 14, 59, 60, 61] ?_); (refine AW.loop (fun n' t' m => ∃ k : Nat, n' = (edL ts).length - k ∧ k ≤ (edL ts).length ∧ t' = [jk, jk, .slice (some ⟨3, 0, none⟩) xs.length c4, jk, jk, jk, jk, jk, .pointer (some ⟨4, 0, none⟩), jk, jk, jk, .slice (some ⟨7, 0, none⟩) ((edL ts).length) INF, .slice (some ⟨8, 0, none⟩) l.length l.length, .map (some 9), jk, jk, jk, jk, jk, jk, jk, jk, jk, jk, jk, jk, jk, jk, jk, jk, jk, jk, jk, jk, jk, jk, jk, jk, jk, jk, jk, jk, jk, jk, jk, jk, jk, jk, jk, jk, jk, jk, jk, jk, jk, jk, jk, jk, .slice (some ⟨6, 0, none⟩) ((edL ts).length) INF, .int .i64 ((edL ts).length), .int .i64 (k), jk, jk, jk, jk, jk, jk, jk, jk, jk, jk, jk, jk, jk, jk, jk, jk, jk, jk, jk, jk, jk, jk, jk, jk, jk, jk, jk, jk, jk, jk, jk, jk, jk, jk, jk, jk, jk, jk, jk, jk, jk, jk, jk, jk, jk, jk, jk, jk, jk, jk, jk, jk, jk, jk, jk, jk, jk, jk, jk, jk, jk, jk, jk, jk, jk, jk, jk, jk] ∧ m = [some ⟨flatP l, false, z⟩, some ⟨flatT ts, false, z1⟩, some ⟨flatN ph, false, z2⟩, some ⟨flatN xs, false, z3⟩, some ⟨[.slice (some ⟨0, 0, none⟩) l.length c, .slice (some ⟨1, 0, none⟩) ts.length c2, .slice (some ⟨6, 0, none⟩) (edL ts).length INF, .map (some 5)], true, 0⟩, some (mpX (lfA ts) true 0), some ⟨flatP (edL ts), true, 2⟩, some ⟨flatN (dfL ts ph), true, 1⟩, some ⟨flatN (S r k).1, true, 1⟩, some (mpU (S r k).2)]) ((edL ts).length) (by exact ⟨0, rfl, Nat.zero_le _, rfl, rfl⟩) ?_); (rintro n' t' m ⟨k, rfl, hk, rfl, rfl⟩); (have hrR : r < R := (by rcases Nat.lt_or_eq_of_le hr with h | h; (exact h); (exfalso; subst h; ((simp only [List.length_map] at hc; omega)))))) | refine AW.block ?_ | (refine AW.drawF (id := 15) 9 #[0, 0, 3, 7, 0, 0, 48, 112, 240, 511, 1023] kr kr ?_; (conv => (arg 8; simp only [List.take_succ_cons, List.take_zero])); ((have hq1 := hdb k (by omega); have hq2 := hxb k (by omega)))) | (refine AW.drawF (id := 17) 15 #[0, 0, 2, 0, 0, 16, 0, 0, 128, 448, 960, 0, 4032, 8135, 16327, 32767] kr kr ?_; (conv => (arg 8; simp only [List.take_succ_cons, List.take_zero])); ((have hq3 := (hok r k (by omega)).bd (pt (edL ts) k).x.toNat (by omega); have hq4 := hle r k (by omega)))) | (refine AW.drawF (id := 19) 15 #[0, 0, 2, 0, 0, 16, 0, 0, 128, 448, 960, 0, 4032, 8135, 16327, 32767] kr kr ?_; (conv => (arg 8; simp only [List.take_succ_cons, List.take_zero])); ((have hq3 := (hok r k (by omega)).bd (pt (edL ts) k).y.toNat (by omega); have hq4 := hle r k (by omega)))) | (refine AW.region (id := 14) ?_; ((have hkl : k < (edL ts).length := (by omega); have hr2 := he k (by omega)))) | (refine AW.region (id := 16) ?_; ((rcases Classical.em ((pt (edL ts) k).x ∈ (S r k).2) with hxm | hxm <;> rcases Classical.em ((pt (edL ts) k).y ∈ (S r k).2) with hym | hym))) | refine AW.region ?_ | (refine AW.conds rfl (fun hc => ?_) (fun hc => ?_) <;> (try replace hc := nc hc) <;> first | (exfalso; contradiction) | skip)) | ((with_reducible refine AF.on ?_); first | ((first | ((with_reducible refine AF.k_move ?_); (refine AF.q 0 (SW.q (OQ.move wl) rfl) ?_)) | ((with_reducible refine AF.k_indexAddr ?_); first | refine AF.q 0 (SW.q (OQ.idxAddr (ty := 26) (z := 1) (g := false) rfl rfl kr (by omega) (by omega)) rfl) ?_ | refine AF.q 0 (SW.q (OQ.idxPtr (ty := 52) (n := 1) (l := 2) (g := false) rfl rfl kr (by omega) (by omega)) rfl) ?_) | ((with_reducible refine AF.k_load ?_); (refine AF.ql rfl (SW.q (OQ.load1 (ty := 3) rfl kr (by first | (first | exact hgD k (by omega) | exact hgX k (by omega) | exact hgO _ _ _ (by omega) (by omega)) | (conv => lhs; whnf))) rfl) ?_)) | ((with_reducible refine AF.k_binOp ?_); first | refine AF.q 0 (SW.q (OQ.muli rfl rfl (by omega)) rfl) ?_ | refine AF.q 0 (SW.q (OQ.addi rfl rfl (by omega)) rfl) ?_ | refine AF.q 0 (SW.q (OQ.subi rfl rfl (by omega)) rfl) ?_)); (conv => (arg 9; try tactic => exact nrmF)); (conv => (arg 11; try simp only [List.nil_append, List.cons_append]))) | (((refine AF.sl rfl (SW.w (OW.store (ty := 3) (n := 1) rfl wl rfl rfl kr rfl rfl (by decide) rfl (by (((simp only [List.length_set, hOl _ _ (Nat.le_of_lt hkl)]; omega)))) (by intro r h; cases h)) rfl) rfl ?_)); (conv => (arg 9; try tactic => exact nrmF)); (conv => (arg 11; try simp only [List.nil_append, List.cons_append])); (conv => (arg 10; try tactic => exact nrmF))) | (refine AF.nil ?_ kr; (conv => (arg 4; simp only [List.drop_succ_cons, List.drop_zero, List.drop_nil])))) | ((with_reducible refine ex_on ?_); first | ((obtain rfl : k = (edL ts).length := (by omega); refine ⟨R - (r + 1), _, _, by omega, ?_, r + 1, rfl, by omega, rfl, by rw [hSe r]⟩; exact Wk.fk [2, 8, 12, 13, 14] rfl)) | (first | (have hs := hSc r k (iff_of_true hxm hym); refine ⟨(edL ts).length - (k + 1), [jk, jk, .slice (some ⟨3, 0, none⟩) xs.length c4, jk, jk, jk, jk, jk, .pointer (some ⟨4, 0, none⟩), jk, jk, jk, .slice (some ⟨7, 0, none⟩) ((edL ts).length) INF, .slice (some ⟨8, 0, none⟩) l.length l.length, .map (some 9), jk, jk, jk, jk, jk, jk, jk, jk, jk, jk, jk, jk, jk, jk, jk, jk, jk, jk, jk, jk, jk, jk, jk, jk, jk, jk, jk, jk, jk, jk, jk, jk, jk, jk, jk, jk, jk, jk, jk, jk, jk, jk, jk, jk, .slice (some ⟨6, 0, none⟩) ((edL ts).length) INF, .int .i64 ((edL ts).length), .int .i64 (((k + 1 : Nat) : Int)), jk, jk, jk, jk, jk, jk, jk, jk, jk, jk, jk, jk, jk, jk, jk, jk, jk, jk, jk, jk, jk, jk, jk, jk, jk, jk, jk, jk, jk, jk, jk, jk, jk, jk, jk, jk, jk, jk, jk, jk, jk, jk, jk, jk, jk, jk, jk, jk, jk, jk, jk, jk, jk, jk, jk, jk, jk, jk, jk, jk, jk, jk, jk, jk, jk, jk, jk, jk], [some ⟨flatP l, false, z⟩, some ⟨flatT ts, false, z1⟩, some ⟨flatN ph, false, z2⟩, some ⟨flatN xs, false, z3⟩, some ⟨[.slice (some ⟨0, 0, none⟩) l.length c, .slice (some ⟨1, 0, none⟩) ts.length c2, .slice (some ⟨6, 0, none⟩) (edL ts).length INF, .map (some 5)], true, 0⟩, some (mpX (lfA ts) true 0), some ⟨flatP (edL ts), true, 2⟩, some ⟨flatN (dfL ts ph), true, 1⟩, some ⟨flatN (S r (k + 1)).1, true, 1⟩, some (mpU (S r (k + 1)).2)], by omega, ?_, k + 1, rfl, by omega, rfl, rfl⟩; rw [hs]; exact Wk.keep 10 [] (by rw [hE]; exact Nat.le_of_ble_eq_true rfl) rfl rfl (by repeat (first | exact RenT.nil | refine RenT.jk ?_ | refine RenT.val (by rfl) (by rfl) ?_)) ⟨⟨_, rfl, rfl, rfl, .inl ⟨rfl, flatP_scal l⟩⟩, ⟨_, rfl, rfl, rfl, .inl ⟨rfl, flatT_scal ts⟩⟩, ⟨_, rfl, rfl, rfl, .inl ⟨rfl, flatN_scal _⟩⟩, ⟨_, rfl, rfl, rfl, .inl ⟨rfl, flatN_scal _⟩⟩, ⟨_, rfl, rfl, rfl, .inr ⟨rfl, rfl⟩⟩, ⟨_, rfl, rfl, rfl, .inl ⟨rfl, rfl⟩⟩, ⟨_, rfl, rfl, rfl, .inl ⟨rfl, flatP_scal _⟩⟩, ⟨_, rfl, rfl, rfl, .inl ⟨rfl, flatN_scal _⟩⟩, ⟨_, rfl, rfl, rfl, .inl ⟨rfl, flatN_scal _⟩⟩, ⟨_, rfl, rfl, rfl, .inl ⟨rfl, rfl⟩⟩, trivial⟩) | (have hs := hSc r k (iff_of_false hxm hym); refine ⟨(edL ts).length - (k + 1), [jk, jk, .slice (some ⟨3, 0, none⟩) xs.length c4, jk, jk, jk, jk, jk, .pointer (some ⟨4, 0, none⟩), jk, jk, jk, .slice (some ⟨7, 0, none⟩) ((edL ts).length) INF, .slice (some ⟨8, 0, none⟩) l.length l.length, .map (some 9), jk, jk, jk, jk, jk, jk, jk, jk, jk, jk, jk, jk, jk, jk, jk, jk, jk, jk, jk, jk, jk, jk, jk, jk, jk, jk, jk, jk, jk, jk, jk, jk, jk, jk, jk, jk, jk, jk, jk, jk, jk, jk, jk, jk, .slice (some ⟨6, 0, none⟩) ((edL ts).length) INF, .int .i64 ((edL ts).length), .int .i64 (((k + 1 : Nat) : Int)), jk, jk, jk, jk, jk, jk, jk, jk, jk, jk, jk, jk, jk, jk, jk, jk, jk, jk, jk, jk, jk, jk, jk, jk, jk, jk, jk, jk, jk, jk, jk, jk, jk, jk, jk, jk, jk, jk, jk, jk, jk, jk, jk, jk, jk, jk, jk, jk, jk, jk, jk, jk, jk, jk, jk, jk, jk, jk, jk, jk, jk, jk, jk, jk, jk, jk, jk, jk], [some ⟨flatP l, false, z⟩, some ⟨flatT ts, false, z1⟩, some ⟨flatN ph, false, z2⟩, some ⟨flatN xs, false, z3⟩, some ⟨[.slice (some ⟨0, 0, none⟩) l.length c, .slice (some ⟨1, 0, none⟩) ts.length c2, .slice (some ⟨6, 0, none⟩) (edL ts).length INF, .map (some 5)], true, 0⟩, some (mpX (lfA ts) true 0), some ⟨flatP (edL ts), true, 2⟩, some ⟨flatN (dfL ts ph), true, 1⟩, some ⟨flatN (S r (k + 1)).1, true, 1⟩, some (mpU (S r (k + 1)).2)], by omega, ?_, k + 1, rfl, by omega, rfl, rfl⟩; rw [hs]; exact Wk.keep 10 [] (by rw [hE]; exact Nat.le_of_ble_eq_true rfl) rfl rfl (by repeat (first | exact RenT.nil | refine RenT.jk ?_ | refine RenT.val (by rfl) (by rfl) ?_)) ⟨⟨_, rfl, rfl, rfl, .inl ⟨rfl, flatP_scal l⟩⟩, ⟨_, rfl, rfl, rfl, .inl ⟨rfl, flatT_scal ts⟩⟩, ⟨_, rfl, rfl, rfl, .inl ⟨rfl, flatN_scal _⟩⟩, ⟨_, rfl, rfl, rfl, .inl ⟨rfl, flatN_scal _⟩⟩, ⟨_, rfl, rfl, rfl, .inr ⟨rfl, rfl⟩⟩, ⟨_, rfl, rfl, rfl, .inl ⟨rfl, rfl⟩⟩, ⟨_, rfl, rfl, rfl, .inl ⟨rfl, flatP_scal _⟩⟩, ⟨_, rfl, rfl, rfl, .inl ⟨rfl, flatN_scal _⟩⟩, ⟨_, rfl, rfl, rfl, .inl ⟨rfl, flatN_scal _⟩⟩, ⟨_, rfl, rfl, rfl, .inl ⟨rfl, rfl⟩⟩, trivial⟩) | (have hs := hSa r k hxm hym; have hsc := flatN_scal (S r (k + 1)).1; refine ⟨(edL ts).length - (k + 1), [jk, jk, .slice (some ⟨3, 0, none⟩) xs.length c4, jk, jk, jk, jk, jk, .pointer (some ⟨4, 0, none⟩), jk, jk, jk, .slice (some ⟨7, 0, none⟩) ((edL ts).length) INF, .slice (some ⟨8, 0, none⟩) l.length l.length, .map (some 9), jk, jk, jk, jk, jk, jk, jk, jk, jk, jk, jk, jk, jk, jk, jk, jk, jk, jk, jk, jk, jk, jk, jk, jk, jk, jk, jk, jk, jk, jk, jk, jk, jk, jk, jk, jk, jk, jk, jk, jk, jk, jk, jk, jk, .slice (some ⟨6, 0, none⟩) ((edL ts).length) INF, .int .i64 ((edL ts).length), .int .i64 (((k + 1 : Nat) : Int)), jk, jk, jk, jk, jk, jk, jk, jk, jk, jk, jk, jk, jk, jk, jk, jk, jk, jk, jk, jk, jk, jk, jk, jk, jk, jk, jk, jk, jk, jk, jk, jk, jk, jk, jk, jk, jk, jk, jk, jk, jk, jk, jk, jk, jk, jk, jk, jk, jk, jk, jk, jk, jk, jk, jk, jk, jk, jk, jk, jk, jk, jk, jk, jk, jk, jk, jk, jk], [some ⟨flatP l, false, z⟩, some ⟨flatT ts, false, z1⟩, some ⟨flatN ph, false, z2⟩, some ⟨flatN xs, false, z3⟩, some ⟨[.slice (some ⟨0, 0, none⟩) l.length c, .slice (some ⟨1, 0, none⟩) ts.length c2, .slice (some ⟨6, 0, none⟩) (edL ts).length INF, .map (some 5)], true, 0⟩, some (mpX (lfA ts) true 0), some ⟨flatP (edL ts), true, 2⟩, some ⟨flatN (dfL ts ph), true, 1⟩, some ⟨flatN (S r (k + 1)).1, true, 1⟩, some (mpU (S r (k + 1)).2)], by omega, ?_, k + 1, rfl, by omega, rfl, rfl⟩; rw [hs.1] at hsc ⊢; rw [hs.2]; exact Wk.keep 10 [] (by rw [hE]; exact Nat.le_of_ble_eq_true rfl) rfl rfl (by repeat (first | exact RenT.nil | refine RenT.jk ?_ | refine RenT.val (by rfl) (by rfl) ?_)) ⟨⟨_, rfl, rfl, rfl, .inl ⟨rfl, flatP_scal l⟩⟩, ⟨_, rfl, rfl, rfl, .inl ⟨rfl, flatT_scal ts⟩⟩, ⟨_, rfl, rfl, rfl, .inl ⟨rfl, flatN_scal _⟩⟩, ⟨_, rfl, rfl, rfl, .inl ⟨rfl, flatN_scal _⟩⟩, ⟨_, rfl, rfl, rfl, .inr ⟨rfl, rfl⟩⟩, ⟨_, rfl, rfl, rfl, .inl ⟨rfl, rfl⟩⟩, ⟨_, rfl, rfl, rfl, .inl ⟨rfl, flatP_scal _⟩⟩, ⟨_, rfl, rfl, rfl, .inl ⟨rfl, flatN_scal _⟩⟩, ⟨_, rfl, rfl, rfl, .inl ⟨rfl, hsc⟩⟩, ⟨_, rfl, rfl, rfl, .inl ⟨rfl, rfl⟩⟩, trivial⟩) | (have hs := hSb r k hym hxm; have hsc := flatN_scal (S r (k + 1)).1; refine ⟨(edL ts).length - (k + 1), [jk, jk, .slice (some ⟨3, 0, none⟩) xs.length c4, jk, jk, jk, jk, jk, .pointer (some ⟨4, 0, none⟩), jk, jk, jk, .slice (some ⟨7, 0, none⟩) ((edL ts).length) INF, .slice (some ⟨8, 0, none⟩) l.length l.length, .map (some 9), jk, jk, jk, jk, jk, jk, jk, jk, jk, jk, jk, jk, jk, jk, jk, jk, jk, jk, jk, jk, jk, jk, jk, jk, jk, jk, jk, jk, jk, jk, jk, jk, jk, jk, jk, jk, jk, jk, jk, jk, jk, jk, jk, jk, .slice (some ⟨6, 0, none⟩) ((edL ts).length) INF, .int .i64 ((edL ts).length), .int .i64 (((k + 1 : Nat) : Int)), jk, jk, jk, jk, jk, jk, jk, jk, jk, jk, jk, jk, jk, jk, jk, jk, jk, jk, jk, jk, jk, jk, jk, jk, jk, jk, jk, jk, jk, jk, jk, jk, jk, jk, jk, jk, jk, jk, jk, jk, jk, jk, jk, jk, jk, jk, jk, jk, jk, jk, jk, jk, jk, jk, jk, jk, jk, jk, jk, jk, jk, jk, jk, jk, jk, jk, jk, jk], [some ⟨flatP l, false, z⟩, some ⟨flatT ts, false, z1⟩, some ⟨flatN ph, false, z2⟩, some ⟨flatN xs, false, z3⟩, some ⟨[.slice (some ⟨0, 0, none⟩) l.length c, .slice (some ⟨1, 0, none⟩) ts.length c2, .slice (some ⟨6, 0, none⟩) (edL ts).length INF, .map (some 5)], true, 0⟩, some (mpX (lfA ts) true 0), some ⟨flatP (edL ts), true, 2⟩, some ⟨flatN (dfL ts ph), true, 1⟩, some ⟨flatN (S r (k + 1)).1, true, 1⟩, some (mpU (S r (k + 1)).2)], by omega, ?_, k + 1, rfl, by omega, rfl, rfl⟩; rw [hs.1] at hsc ⊢; rw [hs.2]; exact Wk.keep 10 [] (by rw [hE]; exact Nat.le_of_ble_eq_true rfl) rfl rfl (by repeat (first | exact RenT.nil | refine RenT.jk ?_ | refine RenT.val (by rfl) (by rfl) ?_)) ⟨⟨_, rfl, rfl, rfl, .inl ⟨rfl, flatP_scal l⟩⟩, ⟨_, rfl, rfl, rfl, .inl ⟨rfl, flatT_scal ts⟩⟩, ⟨_, rfl, rfl, rfl, .inl ⟨rfl, flatN_scal _⟩⟩, ⟨_, rfl, rfl, rfl, .inl ⟨rfl, flatN_scal _⟩⟩, ⟨_, rfl, rfl, rfl, .inr ⟨rfl, rfl⟩⟩, ⟨_, rfl, rfl, rfl, .inl ⟨rfl, rfl⟩⟩, ⟨_, rfl, rfl, rfl, .inl ⟨rfl, flatP_scal _⟩⟩, ⟨_, rfl, rfl, rfl, .inl ⟨rfl, flatN_scal _⟩⟩, ⟨_, rfl, rfl, rfl, .inl ⟨rfl, hsc⟩⟩, ⟨_, rfl, rfl, rfl, .inl ⟨rfl, rfl⟩⟩, trivial⟩))) | ((with_reducible refine FinA.on ?_); (obtain rfl : r = R := (by rcases Nat.lt_or_eq_of_le hr with h | h; (exfalso; have := hlt2 r h; (simp only [List.length_map] at hc; omega)); (exact h)); refine FinA.keep 4 [8] (.inl rfl) (.tmp wl (.tmp wl .nil)) ?_ rfl (Nat.le_of_eq hE) rfl rfl ⟨⟨_, rfl, rfl, rfl, .inl ⟨rfl, flatP_scal l⟩⟩, ⟨_, rfl, rfl, rfl, .inl ⟨rfl, flatT_scal ts⟩⟩, ⟨_, rfl, rfl, rfl, .inl ⟨rfl, flatN_scal _⟩⟩, ⟨_, rfl, rfl, rfl, .inl ⟨rfl, flatN_scal _⟩⟩, ⟨_, rfl, rfl, rfl, .inl ⟨rfl, flatN_scal _⟩⟩, trivial⟩; rfl)))
end Go.Proofs.YtmohcmghbfhdlaaGreat
end
end
/- Chapter 6: fields of turns in a greater memory, and their errors (the program's). -/
section
set_option linter.unusedSimpArgs false
set_option linter.unusedVariables false
section
namespace Go.Me
open Go.Ab Go.Proofs.YtmohcmghbfhdlaaGreat
end Go.Me
namespace Go.Proofs.YtmohcmghbfhdlaaGreat
open Go Go.RowKit Go.Ab Go.Me
set_option maxRecDepth 100000
set_option maxHeartbeats 4000000
attribute [local irreducible] OQ OW AL AW AF SW
theorem Field_y {m : Mem} {bP bT bF bX n k j i c c2 c3 c4 : Nat} {F X : Blk} (l : List Pn) (ts : List T3) (ph xs : List Int) (hA : ArgN m bP bT l ts) (hn : l.length = n) (hk : ts.length = k) (f1 : m.at bF = some F) (f2 : F.cells = flatN ph) (hj : ph.length = j) (x1 : m.at bX = some X) (x2 : X.cells = flatN xs) (hi : xs.length = i) (hR : NetR l ts) (hph : phE l ph = 0) (htu : tuE ts ph xs = 0) (R : Nat) (hF : FdR (dfL ts ph) xs (edL ts) (fd0 l.length (nt ph 0)) l.length R) (hxl : xs.length ≤ 1000000) (hd : [bP, bT, bF, bX].Nodup) (f3 : F.obj = Ob.plain := by rfl) (x3 : X.obj = Ob.plain := by rfl) :
    ACalls Tryz.prog 14 [.agg #[.slice (some ⟨bP, 0, none⟩) n c, .slice (some ⟨bT, 0, none⟩) k c2], .slice (some ⟨bF, 0, none⟩) j c3, .slice (some ⟨bX, 0, none⟩) i c4] m (.tuple #[.slice (some ⟨m.length, 0, none⟩) n n, .int .i64 0]) (m ++ [some ⟨flatN (fdN (dfL ts ph) xs (edL ts) (fd0 l.length (nt ph 0)) R).1, true, 1⟩]) := by
  subst hn hk hj hi
  obtain ⟨⟨A, h1, h2, h3, h4⟩, ⟨B, h5, h6, h7⟩, _⟩ := hA
  have h := ACalls.viaS (m := m) (args := [.agg #[.slice (some ⟨bP, 0, none⟩) l.length c, .slice (some ⟨bT, 0, none⟩) ts.length c2], .slice (some ⟨bF, 0, none⟩) ph.length c3, .slice (some ⟨bX, 0, none⟩) xs.length c4]) (v := .tuple #[.slice (some ⟨m.length, 0, none⟩) l.length l.length, .int .i64 0]) [bP, bT, bF, bX] [] [some ⟨flatN (fdN (dfL ts ph) xs (edL ts) (fd0 l.length (nt ph 0)) R).1, true, 1⟩] (Field_y0 l ts hR ph xs hph htu R hF hxl c c2 c3 c4 A.esz B.esz F.esz X.esz h3) ⟨⟨_, h1, by unfold Blk.shp Blk.shpR; rw [h4]; rfl, (fun h => nomatch h), .inl ⟨h2, flatP_scal _⟩⟩, ⟨_, h5, by unfold Blk.shp Blk.shpR; rw [h7]; rfl, (fun h => nomatch h), .inl ⟨h6, flatT_scal _⟩⟩, ⟨_, f1, by unfold Blk.shp Blk.shpR; rw [f3]; rfl, (fun h => nomatch h), .inl ⟨f2, flatN_scal _⟩⟩, ⟨_, x1, by unfold Blk.shp Blk.shpR; rw [x3]; rfl, (fun h => nomatch h), .inl ⟨x2, flatN_scal _⟩⟩, trivial⟩ hd
    ⟨⟨_, rfl, rfl⟩, ⟨_, rfl, rfl⟩, ⟨_, rfl, rfl⟩, ⟨_, rfl, rfl⟩, ⟨rfl, rfl, rfl, .inl ⟨rfl, flatN_scal _⟩⟩, trivial⟩ rfl rfl rfl rfl
  exact h
end Go.Proofs.YtmohcmghbfhdlaaGreat
end
end
/- Chapter 6: tasks, opened; the cost of turns (the program's). -/
section
set_option linter.unusedSimpArgs false
set_option linter.unusedVariables false
section
namespace Go.Me
open Go.Ab Go.Proofs.YtmohcmghbfhdlaaGreat
structure TaskR (l : List Pn) (ts : List T3) (ph cs : List Int) : Prop where
  net : NetR l ts
  ph : phE l ph = 0
  len : cs.length = (edL ts).length
  rng : cs.any (fun x => !rgB x 0 1000) = false
def coL (cs xs : List Int) : Nat → Int
  | 0 => 0
  | k + 1 => coL cs xs k + nt cs k * (if -nt xs k > nt xs k then -nt xs k else nt xs k)
theorem abs_mul {a b : Int} (h1 : 0 ≤ a ∧ a ≤ 1000) (h2 : -100 ≤ b ∧ b ≤ 100) : 0 ≤ a * (if -b > b then -b else b) ∧ a * (if -b > b then -b else b) ≤ 100000 := by
  have h3 : 0 ≤ (if -b > b then -b else b) ∧ (if -b > b then -b else b) ≤ 100 := by split <;> omega
  generalize (if -b > b then -b else b) = x at h3
  refine ⟨Int.mul_nonneg h1.1 h3.1, ?_⟩
  have h4 : a * x ≤ 1000 * 100 := Int.mul_le_mul h1.2 h3.2 h3.1 (by decide)
  exact h4
theorem coL_bd {cs xs : List Int} (h : ∀ k, k < xs.length → (0 ≤ nt cs k ∧ nt cs k ≤ 1000) ∧ (-100 ≤ nt xs k ∧ nt xs k ≤ 100)) : ∀ k, k ≤ xs.length → 0 ≤ coL cs xs k ∧ coL cs xs k ≤ 100000 * (k : Int)
  | 0, _ => by simp [coL]
  | k + 1, hk => by
    have ih := coL_bd h k (by omega)
    have h1 := h k (by omega)
    have h2 := abs_mul h1.1 h1.2
    show 0 ≤ coL cs xs k + _ ∧ coL cs xs k + _ ≤ _
    omega
end Go.Me
namespace Go.Proofs.YtmohcmghbfhdlaaGreat
open Go Go.RowKit Go.Ab Go.Me
set_option maxRecDepth 100000
set_option maxHeartbeats 4000000
attribute [local irreducible] OQ OW AL AW AF SW
theorem openTask_y0 (l : List Pn) (ts : List T3) (ph cs : List Int) (hT : TaskR l ts ph cs) (c c2 c3 c4 z z1 z2 z3 : Nat) (hz : z = 0 ∨ z = 2) :
    ACalls Tryz.prog 85 [.agg #[.slice (some ⟨0, 0, none⟩) l.length c, .slice (some ⟨1, 0, none⟩) ts.length c2, .slice (some ⟨2, 0, none⟩) ph.length c3, .slice (some ⟨3, 0, none⟩) cs.length c4]] [some ⟨flatP l, false, z⟩, some ⟨flatT ts, false, z1⟩, some ⟨flatN ph, false, z2⟩, some ⟨flatN cs, false, z3⟩]
      (.tuple #[.pointer (some ⟨7, 0, none⟩), .int .i64 0]) [some ⟨flatP l, false, z⟩, some ⟨flatT ts, false, z1⟩, some ⟨flatN ph, false, z2⟩, some ⟨flatN cs, false, z3⟩, some ⟨[.slice (some ⟨0, 0, none⟩) l.length c, .slice (some ⟨1, 0, none⟩) ts.length c2, .slice (some ⟨6, 0, none⟩) (edL ts).length INF, .map (some 5)], true, 0⟩, some (mpX (lfA ts) true 0), some ⟨flatP (edL ts), true, 2⟩, some ⟨[.pointer (some ⟨4, 0, none⟩), .slice (some ⟨2, 0, none⟩) ph.length c3, .slice (some ⟨3, 0, none⟩) cs.length c4], true, 0⟩] := by
  obtain ⟨hR, hph, hcl, hca⟩ := hT
  have hpl := phE_0 hph
  have h40 := (cp_ok hR.cp).1
  have hle := edL_le ts
  have h80 := hR.le
  have hop := fun (m : Mem) (hA : ArgN m 0 1 l ts) (F : Blk) (f1 : m.at 2 = some F) (f2 : F.cells = flatN ph) (f3 : F.obj = Ob.plain) => openPhases_y (c := c) (c2 := c2) (c3 := c3) l ts ph hA rfl rfl f1 f2 rfl (by rw [hpl.1]; omega) hR (by decide) f3
  have hc3 := fun (m : Mem) (blk : Blk) (h1 : m.at 3 = some blk) (h2 : blk.cells = flatN cs) (h3 : blk.obj = Ob.plain) => ContainsI_q (c := c4) 136 (by kernel_rfl) (fun x => !rgB x 0 1000) tooMuch_q cs (by omega) h1 h2 rfl h3
  rw [hph] at hop
  rw [hca] at hc3
  clear hca
  refine ACalls.en 38 Tryz.func85 rfl rfl (fun E hE => ?_)
  repeat' (first | with_reducible (first | refine Then.n ?_ | refine InB.n ?_) | ((with_reducible refine AL.on ?_); first | ((first | ((with_reducible refine AL.k_assign ?_); (refine AL.q rfl (OQ.assign wl) ?_)) | ((with_reducible refine AL.k_fieldAddr ?_); first | refine AL.q rfl (OQ.fieldA (ty := 67) (i := 0) (n := 2) (off := 0) (g := true) rfl kr (by decide)) ?_ | refine AL.q rfl (OQ.fieldA (ty := 67) (i := 1) (n := 1) (off := 2) (g := false) rfl kr (by decide)) ?_ | refine AL.q rfl (OQ.fieldA (ty := 67) (i := 2) (n := 1) (off := 3) (g := false) rfl kr (by decide)) ?_) | ((with_reducible refine AL.k_load ?_); first | refine AL.q rfl (OQ.loadN (ty := 25) (n := 2) rfl kr kr rfl) ?_ | (refine AL.q rfl (OQ.load1 (ty := 26) rfl kr wl) ?_)) | ((with_reducible refine AL.k_move ?_); (refine AL.q rfl (OQ.move wl) ?_)) | ((with_reducible refine AL.k_extract ?_); refine AL.q rfl (OQ.extract rfl rfl) ?_) | ((with_reducible refine AL.k_binOp ?_); refine AL.q rfl (OQ.neq rfl rfl) ?_)); (refine AL.nm ?_)) | ((first | ((with_reducible refine AL.k_call ?_); refine AL.pcall (g := 87) rfl kr rfl ((by exact hc3 _ _ rfl rfl rfl)) ?_) | ((with_reducible refine AL.k_build ?_); refine AL.q rfl (OQ.buildS (ty := 134) (zs := [.pointer none, .slice none 0 0, .slice none 0 0]) (pls := [(0, 1), (1, 1), (2, 1)]) kr rfl kr rfl rfl rfl) ?_)); (refine AL.nm ?_)) | ((first | ((with_reducible refine AL.k_call ?_); refine AL.acall (g := 65) rfl kr rfl ((by exact hop _ ⟨⟨_, rfl, rfl, hz, rfl⟩, ⟨_, rfl, rfl, rfl⟩, by decide⟩ _ rfl rfl rfl)) ?_) | ((with_reducible refine AL.k_box ?_); (refine AL.w rfl (OW.box wl (by intro r h; cases h)) ?_))); (refine AL.nm ?_); (refine AL.nM ?_)) | refine AL.nil ?_) | ((with_reducible refine AW.on ?_); first | refine AW.seq ?_ | refine AW.skip ?_ | refine AW.ret ?_ | refine AW.block ?_ | (refine AW.drawF (id := 4) 8 #[0, 1, 3, 0, 8, 24, 56, 120, 255, 511] kr kr ?_; (conv => (arg 8; simp only [List.take_succ_cons, List.take_zero]))) | refine AW.region ?_ | (refine AW.conds rfl (fun hc => ?_) (fun hc => ?_) <;> (try replace hc := nc hc) <;> first | (exfalso; first | contradiction | (omega); done) | skip)) | ((with_reducible refine AF.on ?_); first | ((first | ((with_reducible refine AF.k_fieldAddr ?_); first | refine AF.q 0 (SW.q (OQ.fieldA (ty := 67) (i := 2) (n := 1) (off := 3) (g := false) rfl kr (by decide)) rfl) ?_ | refine AF.q 0 (SW.q (OQ.fieldA (ty := 110) (i := 1) (n := 1) (off := 2) (g := false) rfl kr (by decide)) rfl) ?_) | ((with_reducible refine AF.k_load ?_); first | (refine AF.ql rfl (SW.q (OQ.load1 (ty := 26) rfl kr wl) rfl) ?_) | (refine AF.ql rfl (SW.q (OQ.load1 (ty := 45) rfl kr wl) rfl) ?_)) | ((with_reducible refine AF.k_move ?_); (refine AF.q 0 (SW.q (OQ.move wl) rfl) ?_)) | ((with_reducible refine AF.k_call ?_); first | refine AF.q 0 (SW.q (OQ.lenS (xt := 26) (r := (none, 1, false)) rfl kr) rfl) ?_ | refine AF.q 0 (SW.q (OQ.lenS (xt := 45) (r := (none, 2, true)) rfl kr) rfl) ?_) | refine AF.q 2 (SW.q (OQ.nilCheck rfl) rfl) ?_); (conv => (arg 9; try tactic => exact nrmF)); (conv => (arg 11; try simp only [List.nil_append, List.cons_append]))) | (refine AF.nil ?_ kr; (conv => (arg 4; simp only [List.drop_succ_cons, List.drop_zero, List.drop_nil])))) | ((with_reducible refine FinA.on ?_); (refine FinA.keep 4 [5, 6, 7, 8] (.inl rfl) (.tmp wl (.tmp wl .nil)) ?_ rfl (Nat.le_of_eq hE) rfl rfl ⟨⟨_, rfl, rfl, rfl, .inl ⟨rfl, flatP_scal l⟩⟩, ⟨_, rfl, rfl, rfl, .inl ⟨rfl, flatT_scal ts⟩⟩, ⟨_, rfl, rfl, rfl, .inl ⟨rfl, flatN_scal _⟩⟩, ⟨_, rfl, rfl, rfl, .inl ⟨rfl, flatN_scal _⟩⟩, ⟨_, rfl, rfl, rfl, .inr ⟨rfl, rfl⟩⟩, ⟨_, rfl, rfl, rfl, .inl ⟨rfl, rfl⟩⟩, ⟨_, rfl, rfl, rfl, .inl ⟨rfl, flatP_scal _⟩⟩, ⟨_, rfl, rfl, rfl, .inr ⟨rfl, rfl⟩⟩, trivial⟩; rfl)))
structure OpenT (m : Mem) (bK bN bL bE bP bT bF bC c c2 c3 c4 : Nat) (l : List Pn) (ts : List T3) (ph cs : List Int) : Prop where
  net : OpenN m bN bL bE bP bT c c2 l ts
  F : ∃ F : Blk, m.at bF = some F ∧ F.cells = flatN ph ∧ F.obj = Ob.plain
  C : ∃ C : Blk, m.at bC = some C ∧ C.cells = flatN cs ∧ C.obj = Ob.plain
  K : ∃ K : Blk, m.at bK = some K ∧ K.cells = [.pointer (some ⟨bN, 0, none⟩), .slice (some ⟨bF, 0, none⟩) ph.length c3, .slice (some ⟨bC, 0, none⟩) cs.length c4] ∧ K.obj = Ob.plain
end Go.Proofs.YtmohcmghbfhdlaaGreat
end
end
