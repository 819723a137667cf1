/- Chapter 6: differences, sums, closures in a greater memory (the program's). -/
import Derived.Test.YtmohcmghbfhdlaaGreatQd
import Derived.Test.YtmohcmghbfhdlaaGreatQo
section
set_option linter.unusedSimpArgs false
set_option linter.unusedVariables false
section
namespace Go.Me
open Go.Ab Go.Proofs.YtmohcmghbfhdlaaGreat
def clK (A : List Int) : Nat → List Int
 | 0 => A
 | k + 1 => (clK A k).set k ((nt A k).tdiv 4096)
theorem clK_len (A : List Int) : ∀ k, (clK A k).length = A.length
 | 0 => rfl
 | k + 1 => by unfold clK; rw [List.length_set, clK_len A k]
theorem clK_nt (A : List Int) : ∀ (k i : Nat), i < A.length → nt (clK A k) i = if i < k then (nt A i).tdiv 4096 else nt A i
 | 0, i, _ => by rw [if_neg (Nat.not_lt_zero i)]; rfl
 | k + 1, i, hi => by
  unfold clK
  rw [nt_set (by rw [clK_len]; exact hi), clK_nt A k i hi]
  by_cases h : k = i
  ·subst h; rw [if_pos rfl, if_pos (Nat.lt_succ_self _)]
  ·rw [if_neg h]
   by_cases h2 : i < k
   ·rw [if_pos h2, if_pos (by omega)]
   ·rw [if_neg h2, if_neg (by omega)]
def sdL' (ts : List T3) (ph : List Int) : List Int := smL ts (dfL ts ph) (edL ts).length
def clL (ts : List T3) (ph : List Int) : List Int := clK (sdL' ts ph) ts.length
theorem sdL'_len (ts : List T3) (ph : List Int) : (sdL' ts ph).length = ts.length := smL_len _ _ _
theorem clL_len (ts : List T3) (ph : List Int) : (clL ts ph).length = ts.length := (clK_len _ _).trans (sdL'_len ts ph)
theorem clL_nt (ts : List T3) (ph : List Int) (i : Nat) (hi : i < ts.length) : nt (clL ts ph) i = (nt (sdL' ts ph) i).tdiv 4096 := by
 unfold clL
 rw [clK_nt _ _ _ (by rw [sdL'_len]; exact hi), if_pos hi]
theorem dfL_bd (ts : List T3) (ph : List Int) : ∀ k, k < (dfL ts ph).length → -2048 ≤ nt (dfL ts ph) k ∧ nt (dfL ts ph) k ≤ 2047 := fun k hk => by
 rw [dfL_nt (by rw [← dfL_len ts ph]; exact hk)]
 exact wrI_bd _
end Go.Me
namespace Go.Proofs.YtmohcmghbfhdlaaGreat
open Go Go.RowKit Go.Ab Go.Me
set_option maxRecDepth 100000
set_option maxHeartbeats 4000000
attribute [local irreducible] OQ OW AL AW AF SW
theorem phasesErr_q {m : Mem} {bN bL bE bP bT c c2 bF n c3 : Nat} {l : List Pn} {ts : List T3} {F : Blk} (h : OpenN m bN bL bE bP bT c c2 l ts) (ph : List Int) (hl : ph.length ≤ 1000000) (f1 : m.at bF = some F) (f2 : F.cells = flatN ph) (hn : ph.length = n) (f3 : F.obj = Ob.plain := by rfl) :
  PCalls Tryz.prog 123 [.pointer (some ⟨bN, 0, none⟩), .slice (some ⟨bF, 0, none⟩) n c3] m (.int .i64 (phE l ph)) := by
 subst hn
 obtain ⟨⟨A, a1, a2, a3⟩, ⟨B, b1, b2, b3⟩, ⟨N, n1, n2, n3⟩, ⟨own, l1⟩, ⟨D, d1, d2, d3⟩⟩ := h
 exact PCalls.viaS [bP, bT, bN, bL, bE, bF] (phasesErr_0 l ts ph c c2 c3 A.esz B.esz N.esz D.esz F.esz hl) (ro6p _ _ _ _ _ _ rfl rfl rfl rfl rfl rfl)
  ⟨bS a1 a3 a2 (flatP_scal _), bS b1 b3 b2 (flatT_scal _), bI n1 n3 n2, ⟨_, l1, rfl, (fun h => nomatch h), .inl ⟨rfl, rfl⟩⟩, bS d1 d3 d2 (flatP_scal _), bS f1 f3 f2 (flatN_scal _), trivial⟩ rfl rfl rfl rfl
theorem differences_q {m : Mem} {bN bL bE bP bT c c2 bF n c3 : Nat} {l : List Pn} {ts : List T3} {F : Blk} (h : OpenN m bN bL bE bP bT c c2 l ts) (hR : NetR l ts) (ph : List Int) (hph : phE l ph = 0) (f1 : m.at bF = some F) (f2 : F.cells = flatN ph) (hn : ph.length = n) (hd : [bP, bT, bN, bL, bE, bF].Nodup) (f3 : F.obj = Ob.plain := by rfl) :
  ACalls Tryz.prog 67 [.pointer (some ⟨bN, 0, none⟩), .slice (some ⟨bF, 0, none⟩) n c3] m (.slice (some ⟨m.length, 0, none⟩) (edL ts).length INF) (m ++ [some ⟨flatN (dfL ts ph), true, 1⟩]) := by
 subst hn
 obtain ⟨⟨A, a1, a2, a3⟩, ⟨B, b1, b2, b3⟩, ⟨N, n1, n2, n3⟩, ⟨own, l1⟩, ⟨D, d1, d2, d3⟩⟩ := h
 have h := ACalls.viaS (m := m) (args := [.pointer (some ⟨bN, 0, none⟩), .slice (some ⟨bF, 0, none⟩) ph.length c3]) (v := .slice (some ⟨m.length, 0, none⟩) (edL ts).length INF) [bP, bT, bN, bL, bE, bF] [] [some ⟨flatN (dfL ts ph), true, 1⟩] (differences_0 l ts hR ph hph c c2 c3 A.esz B.esz N.esz D.esz F.esz)
  ⟨bS a1 a3 a2 (flatP_scal _), bS b1 b3 b2 (flatT_scal _), bI n1 n3 n2, ⟨_, l1, rfl, (fun h => nomatch h), .inl ⟨rfl, rfl⟩⟩, bS d1 d3 d2 (flatP_scal _), bS f1 f3 f2 (flatN_scal _), trivial⟩ hd
  ⟨⟨_, rfl, rfl⟩, ⟨_, rfl, rfl⟩, ⟨_, rfl, rfl⟩, ⟨_, rfl, rfl⟩, ⟨_, rfl, rfl⟩, ⟨_, rfl, rfl⟩, ⟨rfl, rfl, rfl, .inl ⟨rfl, flatN_scal _⟩⟩, trivial⟩ rfl rfl rfl rfl
 exact h
theorem sums_q {m : Mem} {bN bL bE bP bT c c2 bF n c3 : Nat} {l : List Pn} {ts : List T3} {F : Blk} (h : OpenN m bN bL bE bP bT c c2 l ts) (hR : NetR l ts) (xs : List Int) (hxl : xs.length = (edL ts).length) (hx : ∀ k, k < xs.length → -1000000000 ≤ nt xs k ∧ nt xs k ≤ 1000000000) (f1 : m.at bF = some F) (f2 : F.cells = flatN xs) (hn : xs.length = n) (hd : [bP, bT, bN, bL, bE, bF].Nodup) (f3 : F.obj = Ob.plain := by rfl) :
  ACalls Tryz.prog 125 [.pointer (some ⟨bN, 0, none⟩), .slice (some ⟨bF, 0, none⟩) n c3] m (.slice (some ⟨m.length, 0, none⟩) ts.length ts.length) (m ++ [some ⟨flatN (smL ts xs (edL ts).length), true, 1⟩]) := by
 subst hn
 obtain ⟨⟨A, a1, a2, a3⟩, ⟨B, b1, b2, b3⟩, ⟨N, n1, n2, n3⟩, ⟨own, l1⟩, ⟨D, d1, d2, d3⟩⟩ := h
 rw [← hxl]
 have h := ACalls.viaS (m := m) (args := [.pointer (some ⟨bN, 0, none⟩), .slice (some ⟨bF, 0, none⟩) xs.length c3]) (v := .slice (some ⟨m.length, 0, none⟩) ts.length ts.length) [bP, bT, bN, bL, bE, bF] [] [some ⟨flatN (smL ts xs xs.length), true, 1⟩] (sums_0 l ts hR xs hxl hx c c2 c3 A.esz B.esz N.esz D.esz F.esz)
  ⟨bS a1 a3 a2 (flatP_scal _), bS b1 b3 b2 (flatT_scal _), bI n1 n3 n2, ⟨_, l1, rfl, (fun h => nomatch h), .inl ⟨rfl, rfl⟩⟩, bS d1 d3 d2 (flatP_scal _), bS f1 f3 f2 (flatN_scal _), trivial⟩ hd
  ⟨⟨_, rfl, rfl⟩, ⟨_, rfl, rfl⟩, ⟨_, rfl, rfl⟩, ⟨_, rfl, rfl⟩, ⟨_, rfl, rfl⟩, ⟨_, rfl, rfl⟩, ⟨rfl, rfl, rfl, .inl ⟨rfl, flatN_scal _⟩⟩, trivial⟩ rfl rfl rfl rfl
 exact h
theorem closures_0 (l : List Pn) (ts : List T3) (hR : NetR l ts) (ph : List Int) (hph : phE l ph = 0) (c c2 c3 z0 z1 z2 z4 z5 : Nat) :
  ACalls Tryz.prog 79 [.pointer (some ⟨2, 0, none⟩), .slice (some ⟨5, 0, none⟩) ph.length c3] [some ⟨flatP l, false, z0⟩, some ⟨flatT ts, false, z1⟩, some ⟨[.slice (some ⟨0, 0, none⟩) l.length c, .slice (some ⟨1, 0, none⟩) ts.length c2, .slice (some ⟨4, 0, none⟩) (edL ts).length INF, .map (some 3)], false, z2⟩, some (mpX (lfA ts) false 0), some ⟨flatP (edL ts), false, z4⟩, some ⟨flatN ph, false, z5⟩]
   (.slice (some ⟨6, 0, none⟩) ts.length ts.length) [some ⟨flatP l, false, z0⟩, some ⟨flatT ts, false, z1⟩, some ⟨[.slice (some ⟨0, 0, none⟩) l.length c, .slice (some ⟨1, 0, none⟩) ts.length c2, .slice (some ⟨4, 0, none⟩) (edL ts).length INF, .map (some 3)], false, z2⟩, some (mpX (lfA ts) false 0), some ⟨flatP (edL ts), false, z4⟩, some ⟨flatN ph, false, z5⟩, some ⟨flatN (clL ts ph), true, 1⟩] := by
 have hdl := dfL_len ts ph
 have hdb := dfL_bd ts ph
 have hdi := fun (m : Mem) (h : OpenN m 2 3 4 0 1 c c2 l ts) (F : Blk) (f1 : m.at 5 = some F) (f2 : F.cells = flatN ph) (f3 : F.obj = Ob.plain) => differences_q (n := ph.length) (c3 := c3) h hR ph hph f1 f2 rfl (by decide) f3
 have hsu := fun (m : Mem) (h : OpenN m 2 3 4 0 1 c c2 l ts) (F : Blk) (f1 : m.at 6 = some F) (f2 : F.cells = flatN (dfL ts ph)) (f3 : F.obj = Ob.plain) => sums_q (n := (edL ts).length) (c3 := INF) h hR (dfL ts ph) hdl (fun k hk => by have := hdb k hk; omega) f1 f2 hdl (by decide) f3
 have h80 := hR.le
 have hle := edL_le ts
 have hSb : ∀ k, k < ts.length → -600000000000 ≤ nt (sdL' ts ph) k ∧ nt (sdL' ts ph) k ≤ 600000000000 := fun k hk => by
  have := smL_bd (ts := ts) (xs := dfL ts ph) (fun k hk => by have := hdb k hk; omega) (edL ts).length (by omega) k hk
  unfold sdL'
  omega
 change ∀ m, _ → ∀ F, _ → _ → _ → ACalls _ _ _ m _ (m ++ [some ⟨flatN (sdL' ts ph), true, 1⟩]) at hsu
 have hcl : clL ts ph = clK (sdL' ts ph) ts.length := rfl
 have hlen := sdL'_len ts ph
 rw [hcl]
 generalize sdL' ts ph = S at *
 have h0 : clK S 0 = S := rfl
 have hfl : ∀ k, (flatN (clK S k)).length = ts.length := fun k => by rw [flatN_len, clK_len, hlen]
 have hg : ∀ k, k < ts.length → (flatN (clK S k))[k]? = some (.int .i64 (nt S k)) := fun k hk => by
  rw [flatN_get _ k (by rw [clK_len, hlen]; exact hk), clK_nt S k k (by rw [hlen]; exact hk), if_neg (by omega)]
 have hst : ∀ k, flatN (clK S (k + 1)) = (flatN (clK S k)).set k (.int .i64 ((nt S k).tdiv 4096)) := fun k => flatN_set _ _ _
 have hsn := fun k => flatN_scal (clK S k)
 have htd : ∀ k, k < ts.length → -9223372036854775808 ≤ (nt S k).tdiv 4096 ∧ (nt S k).tdiv 4096 ≤ 9223372036854775807 := fun k hk => by
  have := hSb k hk
  have h1 := Int.tdiv_le_tdiv (c := 4096) (by decide) this.1
  have h2 := Int.tdiv_le_tdiv (c := 4096) (by decide) this.2
  rw [show (-600000000000 : Int).tdiv 4096 = -146484375 by decide] at h1
  rw [show (600000000000 : Int).tdiv 4096 = 146484375 by decide] at h2
  omega
 refine ACalls.en 23 Tryz.func79 rfl rfl (fun E hE => ?_)
 repeat' (first | with_reducible (first | refine Then.n ?_ | refine Then.x ?_ | refine InB.n ?_ | refine InB.hit ?_) | ((with_reducible refine AL.on ?_); first | ((first | refine AL.mv ?_ | refine AL.as ?_ | ((with_reducible refine AL.k_call ?_); refine AL.g (OQ.lenS (xt := 26) (r := (none, 1, false)) rfl kr) ?_) | ((with_reducible refine AL.k_binOp ?_); first | refine AL.g (OQ.lss rfl rfl) ?_ | refine AL.g (OQ.quoi rfl rfl (by omega) (by exact htd k (by omega))) ?_ | refine AL.g (OQ.addi rfl rfl (by omega)) ?_) | ((with_reducible refine AL.k_load ?_); (refine AL.g (OQ.load1 (ty := 3) rfl kr (by (exact hg k (by omega)))) ?_))); refine AL.nm ?_) | ((refine AL.g (OQ.idxAddr (ty := 26) (z := 1) (g := false) rfl rfl kr (by omega) (by omega)) ?_); refine AL.nm ?_) | ((first | ((with_reducible refine AL.k_call ?_); first | refine AL.acall (g := 67) rfl kr rfl ((by exact hdi _ ⟨⟨_, rfl, rfl, rfl⟩, ⟨_, rfl, rfl, rfl⟩, ⟨_, rfl, rfl, rfl⟩, ⟨_, rfl⟩, ⟨_, rfl, rfl, rfl⟩⟩ _ rfl rfl rfl)) ?_ | refine AL.acall (g := 125) rfl kr rfl ((by exact hsu _ ⟨⟨_, rfl, rfl, rfl⟩, ⟨_, rfl, rfl, rfl⟩, ⟨_, rfl, rfl, rfl⟩, ⟨_, rfl⟩, ⟨_, rfl, rfl, rfl⟩⟩ _ rfl rfl rfl)) ?_) | ((with_reducible refine AL.k_store ?_); (refine AL.w rfl (OW.store (ty := 3) (n := 1) rfl wl rfl rfl kr rfl rfl (by decide) rfl (by (((simp only [List.length_set, hfl]; omega)))) (by intro r h; cases h)) ?_))); refine AL.nm ?_; refine AL.nM ?_) | refine AL.nil ?_) | ((with_reducible refine AW.on ?_); first | refine AW.seq ?_ | refine AW.skip ?_ | refine AW.exit ?_ | refine AW.ret ?_ | ((refine AW.block (id := 0) ?_); (refine AW.fk [5, 13, 14] ?_); (refine (AW.wk (t' := [jk, jk, jk, jk, jk, .slice (some ⟨6, 0, none⟩) ts.length ts.length, jk, jk, jk, jk, jk, jk, jk, .int .i64 (ts.length), .int .i64 0, jk, jk, jk, jk, jk, jk, jk, jk, jk, jk]) (m' := [some ⟨flatP l, false, z0⟩, some ⟨flatT ts, false, z1⟩, some ⟨[.slice (some ⟨0, 0, none⟩) l.length c, .slice (some ⟨1, 0, none⟩) ts.length c2, .slice (some ⟨4, 0, none⟩) (edL ts).length INF, .map (some 3)], false, z2⟩, some (mpX (lfA ts) false 0), some ⟨flatP (edL ts), false, z4⟩, some ⟨flatN ph, false, z5⟩, some ⟨flatN (clK S 0), true, 1⟩]) (Wk.keep 6 [7] (by rw [hE]; exact Nat.le_of_ble_eq_true rfl) rfl rfl (by repeat (first | exact RenT.nil | refine RenT.jk ?_ | refine RenT.val (by rfl) (by rfl) ?_)) ⟨kl rfl (flatP_scal l), kl rfl (flatT_scal ts), ki rfl, kl rfl rfl, kl rfl (flatP_scal _), kl rfl (flatN_scal _), kl rfl (flatN_scal _), trivial⟩) ?_)); (refine AW.loop (fun n' t' m => ∃ k : Nat, n' = ts.length - k ∧ k ≤ ts.length ∧ t' = (mtz 25 0 [(5, .slice (some ⟨6, 0, none⟩) ts.length ts.length), (13, .int .i64 (ts.length)), (14, .int .i64 (k))]) ∧ m = mem6 l ts ph c c2 z0 z1 z2 z4 z5 ++ [some ⟨flatN (clK S k), true, 1⟩]) (ts.length) (by exact ⟨0, rfl, Nat.zero_le _, rfl, rfl⟩) ?_); (rintro n' t' m ⟨k, rfl, hk, rfl, rfl⟩); (refine AW.nT ?_)) | refine AW.block ?_ | refine AW.region ?_ | (refine AW.conds rfl (fun hc => ?_) (fun hc => ?_) <;> (try replace hc := nc hc) <;> skip)) | ((with_reducible refine ex_on ?_); (have hs2 := hsn (k + 1); refine ⟨ts.length - (k + 1), [jk, jk, jk, jk, jk, .slice (some ⟨6, 0, none⟩) ts.length ts.length, jk, jk, jk, jk, jk, jk, jk, .int .i64 (ts.length), .int .i64 (((k + 1 : Nat) : Int)), jk, jk, jk, jk, jk, jk, jk, jk, jk, jk], mem6 l ts ph c c2 z0 z1 z2 z4 z5 ++ [some ⟨flatN (clK S (k + 1)), true, 1⟩], by omega, ?_, k + 1, rfl, by omega, rfl, rfl⟩; rw [hst k] at hs2 ⊢; exact Wk.keep 7 [] (by rw [hE]; exact Nat.le_of_ble_eq_true rfl) rfl rfl (by repeat (first | exact RenT.nil | refine RenT.jk ?_ | refine RenT.val (by rfl) (by rfl) ?_)) ⟨kl rfl (flatP_scal l), kl rfl (flatT_scal ts), ki rfl, kl rfl rfl, kl rfl (flatP_scal _), kl rfl (flatN_scal _), ⟨_, rfl, rfl, rfl, .inl ⟨rfl, hs2⟩⟩, trivial⟩)) | ((with_reducible refine FinA.on ?_); (obtain rfl : k = ts.length := (by omega); refine FinA.keep 7 [] (.inl rfl) (.tmp wl .nil) ?_ rfl (by rw [hE]; exact Nat.le_of_ble_eq_true rfl) rfl rfl ⟨kl rfl (flatP_scal l), kl rfl (flatT_scal ts), ki rfl, kl rfl rfl, kl rfl (flatP_scal _), kl rfl (flatN_scal _), kl rfl (flatN_scal _), trivial⟩; rfl)))
theorem closures_q {m : Mem} {bN bL bE bP bT c c2 bF n c3 : Nat} {l : List Pn} {ts : List T3} {F : Blk} (h : OpenN m bN bL bE bP bT c c2 l ts) (hR : NetR l ts) (ph : List Int) (hph : phE l ph = 0) (f1 : m.at bF = some F) (f2 : F.cells = flatN ph) (hn : ph.length = n) (hd : [bP, bT, bN, bL, bE, bF].Nodup) (f3 : F.obj = Ob.plain := by rfl) :
  ACalls Tryz.prog 79 [.pointer (some ⟨bN, 0, none⟩), .slice (some ⟨bF, 0, none⟩) n c3] m (.slice (some ⟨m.length, 0, none⟩) ts.length ts.length) (m ++ [some ⟨flatN (clL ts ph), true, 1⟩]) := by
 subst hn
 obtain ⟨⟨A, a1, a2, a3⟩, ⟨B, b1, b2, b3⟩, ⟨N, n1, n2, n3⟩, ⟨own, l1⟩, ⟨D, d1, d2, d3⟩⟩ := h
 have h := ACalls.viaS (m := m) (args := [.pointer (some ⟨bN, 0, none⟩), .slice (some ⟨bF, 0, none⟩) ph.length c3]) (v := .slice (some ⟨m.length, 0, none⟩) ts.length ts.length) [bP, bT, bN, bL, bE, bF] [] [some ⟨flatN (clL ts ph), true, 1⟩] (closures_0 l ts hR ph hph c c2 c3 A.esz B.esz N.esz D.esz F.esz)
  ⟨bS a1 a3 a2 (flatP_scal _), bS b1 b3 b2 (flatT_scal _), bI n1 n3 n2, ⟨_, l1, rfl, (fun h => nomatch h), .inl ⟨rfl, rfl⟩⟩, bS d1 d3 d2 (flatP_scal _), bS f1 f3 f2 (flatN_scal _), trivial⟩ hd
  ⟨⟨_, rfl, rfl⟩, ⟨_, rfl, rfl⟩, ⟨_, rfl, rfl⟩, ⟨_, rfl, rfl⟩, ⟨_, rfl, rfl⟩, ⟨_, rfl, rfl⟩, ⟨rfl, rfl, rfl, .inl ⟨rfl, flatN_scal _⟩⟩, trivial⟩ rfl rfl rfl rfl
 exact h
end Go.Proofs.YtmohcmghbfhdlaaGreat
end
end
/- Chapter 6: openPhases, turnsErr (the program's). -/
section
set_option linter.unusedSimpArgs false
set_option linter.unusedVariables false
section
namespace Go.Proofs.YtmohcmghbfhdlaaGreat
open Go Go.RowKit Go.Ab Go.Me
set_option maxRecDepth 100000
set_option maxHeartbeats 4000000
attribute [local irreducible] OQ OW AL AW AF SW
theorem openPhases_y0 (l : List Pn) (ts : List T3) (ph : List Int) (c c2 c3 z z1 z2 : Nat) (hz : z = 0 ∨ z = 2) (hl : ph.length ≤ 1000000) (hR : NetR l ts) : ACalls Tryz.prog 65 [.agg #[.slice (some ⟨0, 0, none⟩) l.length c, .slice (some ⟨1, 0, none⟩) ts.length c2], .slice (some ⟨2, 0, none⟩) ph.length c3] [some ⟨flatP l, false, z⟩, some ⟨flatT ts, false, z1⟩, some ⟨flatN ph, false, z2⟩] (.tuple #[.pointer (some ⟨3, 0, none⟩), .int .i64 (phE l ph)]) [some ⟨flatP l, false, z⟩, some ⟨flatT ts, false, z1⟩, some ⟨flatN ph, false, z2⟩, some ⟨[.slice (some ⟨0, 0, none⟩) l.length c, .slice (some ⟨1, 0, none⟩) ts.length c2, .slice (some ⟨5, 0, none⟩) (edL ts).length INF, .map (some 4)], true, 0⟩, some (mpX (lfA ts) true 0), some ⟨flatP (edL ts), true, 2⟩] := by
 have hy := fun (m : Mem) (hA : ArgN m 0 1 l ts) => open_y (c := c) (c2 := c2) l ts hA rfl rfl hR
 have hp := fun (m : Mem) (h : OpenN m 4 5 6 0 1 c c2 l ts) (F : Blk) (f1 : m.at 2 = some F) (f2 : F.cells = flatN ph) (f3 : F.obj = Ob.plain) => phasesErr_q (n := ph.length) (c3 := c3) h ph hl f1 f2 rfl f3
 generalize phE l ph = E0 at *
 refine ACalls.en 20 Tryz.func65 rfl rfl (fun E hE => ?_)
 repeat' (first | with_reducible (refine Then.n ?_) | ((with_reducible refine AL.on ?_); first | ((first | refine AL.as ?_ | refine AL.mv ?_ | refine AL.et ?_ | ((with_reducible refine AL.k_load ?_); refine AL.g (OQ.loadN (ty := 25) (n := 2) rfl kr kr rfl) ?_) | ((with_reducible refine AL.k_binOp ?_); refine AL.g (OQ.eql rfl rfl) ?_)); refine AL.nm ?_) | ((refine AL.pcall (g := 123) rfl kr rfl ((by exact hp _ ⟨⟨_, rfl, rfl, rfl⟩, ⟨_, rfl, rfl, rfl⟩, ⟨_, rfl, rfl, rfl⟩, ⟨_, rfl⟩, ⟨_, rfl, rfl, rfl⟩⟩ _ rfl rfl rfl)) ?_); refine AL.nm ?_) | ((first | ((with_reducible refine AL.k_call ?_); refine AL.acall (g := 71) rfl kr rfl ((by exact hy _ ⟨⟨_, rfl, rfl, hz, rfl⟩, ⟨_, rfl, rfl, rfl⟩, by decide⟩)) ?_) | refine AL.bx ?_); refine AL.nm ?_; refine AL.nM ?_) | refine AL.nil ?_) | ((with_reducible refine AW.on ?_); first | refine AW.seq ?_ | refine AW.ret ?_ | refine AW.region ?_ | (refine AW.conds rfl (fun hc => ?_) (fun hc => ?_) <;> (try replace hc := nc hc) <;> first | (exfalso; contradiction) | skip)) | ((with_reducible refine FinA.on ?_); (refine FinA.keep 3 [4, 5, 6] (.inl rfl) (.tmp wl (.tmp wl .nil)) ?_ rfl (Nat.le_of_eq hE) rfl rfl ⟨kl rfl (flatP_scal l), kl rfl (flatT_scal ts), kl rfl (flatN_scal _), ki rfl, kl rfl rfl, kl rfl (flatP_scal _), trivial⟩; rfl)))
theorem openPhases_y {m : Mem} {bP bT bF n k j c c2 c3 : Nat} {F : Blk} (l : List Pn) (ts : List T3) (ph : List Int) (hA : ArgN m bP bT l ts) (hn : l.length = n) (hk : ts.length = k) (f1 : m.at bF = some F) (f2 : F.cells = flatN ph) (hj : ph.length = j) (hl : ph.length ≤ 1000000) (hR : NetR l ts) (hd : [bP, bT, bF].Nodup) (f3 : F.obj = Ob.plain := by rfl) :
  ACalls Tryz.prog 65 [.agg #[.slice (some ⟨bP, 0, none⟩) n c, .slice (some ⟨bT, 0, none⟩) k c2], .slice (some ⟨bF, 0, none⟩) j c3] m (.tuple #[.pointer (some ⟨m.length, 0, none⟩), .int .i64 (phE l ph)]) (m ++ netM m.length bP bT n c k c2 ts) := by
 subst hn hk hj
 obtain ⟨⟨A, h1, h2, h3, h4⟩, ⟨B, h5, h6, h7⟩, hne⟩ := hA
 have h := ACalls.viaS (m := m) (args := [.agg #[.slice (some ⟨bP, 0, none⟩) l.length c, .slice (some ⟨bT, 0, none⟩) ts.length c2], .slice (some ⟨bF, 0, none⟩) ph.length c3]) (v := .tuple #[.pointer (some ⟨m.length, 0, none⟩), .int .i64 (phE l ph)]) [bP, bT, bF] [] (netM m.length bP bT l.length c ts.length c2 ts) (openPhases_y0 l ts ph c c2 c3 A.esz B.esz F.esz h3 hl hR) ⟨bS h1 h4 h2 (flatP_scal _), bS h5 h7 h6 (flatT_scal _), bS f1 f3 f2 (flatN_scal _), trivial⟩ hd ?_ rfl rfl rfl rfl
 ·exact h
 ·exact ⟨⟨_, rfl, rfl⟩, ⟨_, rfl, rfl⟩, ⟨_, rfl, rfl⟩, ⟨rfl, rfl, rfl, .inr ⟨rfl, rfl⟩⟩, ⟨rfl, rfl, rfl, .inl ⟨rfl, rfl⟩⟩, ⟨rfl, rfl, rfl, .inl ⟨rfl, flatP_scal _⟩⟩, trivial⟩
end Go.Proofs.YtmohcmghbfhdlaaGreat
end
end
/- Chapter 6: the error of turns (the program's). -/
section
set_option linter.unusedSimpArgs false
set_option linter.unusedVariables false
section
namespace Go.Me
open Go.Ab Go.Proofs.YtmohcmghbfhdlaaGreat
def tuT (ts : List T3) (ph xs : List Int) (i : Nat) : Int := nt (smL ts xs (edL ts).length) i + nt (clL ts ph) i
def tuE (ts : List T3) (ph xs : List Int) : Int := if xs.length ≠ (edL ts).length then 10 else if xs.any (fun x => !rgB x (-100) 100) = true then 2 else if fstN (tuT ts ph xs) ts.length ≠ -1 then 21 else 0
def tuI (ts : List T3) (ph xs : List Int) : Int := if xs.length ≠ (edL ts).length then 0 else if xs.any (fun x => !rgB x (-100) 100) = true then 0 else if fstN (tuT ts ph xs) ts.length ≠ -1 then fstN (tuT ts ph xs) ts.length else 0
theorem anyR_no {xs : List Int} {a b : Int} (h : xs.any (fun x => !rgB x a b) = false) : ∀ k, k < xs.length → a ≤ nt xs k ∧ nt xs k ≤ b := fun k hk => by
 have h2 := List.any_eq_false.1 h (nt xs k) (by unfold nt; rw [List.getD_eq_getElem?_getD, List.getElem?_eq_getElem hk]; exact List.getElem_mem hk)
 have h3 : rgB (nt xs k) a b = true := by
  cases hq : rgB (nt xs k) a b with
  | true => rfl
  | false => exfalso; apply h2; simp only [hq]; rfl
 exact rgB_true.1 h3
theorem tu_10 {ts : List T3} {ph xs : List Int} (h : xs.length ≠ (edL ts).length) : tuE ts ph xs = 10 ∧ tuI ts ph xs = 0 := ⟨if_pos h, if_pos h⟩
theorem tu_2 {ts : List T3} {ph xs : List Int} (h : xs.length = (edL ts).length) (h2 : xs.any (fun x => !rgB x (-100) 100) = true) : tuE ts ph xs = 2 ∧ tuI ts ph xs = 0 :=
 ⟨(if_neg (fun h3 : xs.length ≠ _ => h3 h)).trans (if_pos h2), (if_neg (fun h3 : xs.length ≠ _ => h3 h)).trans (if_pos h2)⟩
theorem tu_21 {ts : List T3} {ph xs : List Int} (h : xs.length = (edL ts).length) (h2 : xs.any (fun x => !rgB x (-100) 100) = false) (k : Nat) (hk : k < ts.length) (hj : ∀ j, j < k → tuT ts ph xs j = 0) (he : tuT ts ph xs k ≠ 0) : tuE ts ph xs = 21 ∧ tuI ts ph xs = k := by
 have h4 := fstN_yes hj he ts.length hk
 have h5 : ¬(xs.any (fun x => !rgB x (-100) 100) = true) := by rw [h2]; decide
 exact ⟨(if_neg (fun h3 : xs.length ≠ _ => h3 h)).trans ((if_neg h5).trans (if_pos (by omega))), (if_neg (fun h3 : xs.length ≠ _ => h3 h)).trans ((if_neg h5).trans ((if_pos (by omega)).trans h4))⟩
theorem tu_0 {ts : List T3} {ph xs : List Int} (h : xs.length = (edL ts).length) (h2 : xs.any (fun x => !rgB x (-100) 100) = false) (hj : ∀ j, j < ts.length → tuT ts ph xs j = 0) : tuE ts ph xs = 0 ∧ tuI ts ph xs = 0 := by
 have h4 := fstN_no _ hj
 have h5 : ¬(xs.any (fun x => !rgB x (-100) 100) = true) := by rw [h2]; decide
 exact ⟨(if_neg (fun h3 : xs.length ≠ _ => h3 h)).trans ((if_neg h5).trans (if_neg (fun h => h h4))), (if_neg (fun h3 : xs.length ≠ _ => h3 h)).trans ((if_neg h5).trans (if_neg (fun h => h h4)))⟩
theorem clL_bd {l : List Pn} {ts : List T3} (hR : NetR l ts) (ph : List Int) (k : Nat) (hk : k < ts.length) : -600000000000 ≤ nt (clL ts ph) k ∧ nt (clL ts ph) k ≤ 600000000000 := by
 have h80 := hR.le
 have hle := edL_le ts
 have hdl := dfL_len ts ph
 have hdb := dfL_bd ts ph
 have := smL_bd (ts := ts) (xs := dfL ts ph) (fun k hk => by have := hdb k hk; omega) (edL ts).length (by omega) k hk
 rw [clL_nt _ _ _ hk]
 unfold sdL'
 have h1 := Int.tdiv_le_tdiv (c := 4096) (by decide) (show (-600000000000 : Int) ≤ nt (smL ts (dfL ts ph) (edL ts).length) k by omega)
 have h2 := Int.tdiv_le_tdiv (c := 4096) (by decide) (show nt (smL ts (dfL ts ph) (edL ts).length) k ≤ (600000000000 : Int) by omega)
 rw [show (-600000000000 : Int).tdiv 4096 = -146484375 by decide] at h1
 rw [show (600000000000 : Int).tdiv 4096 = 146484375 by decide] at h2
 omega
end Go.Me
namespace Go.Proofs.YtmohcmghbfhdlaaGreat
open Go Go.RowKit Go.Ab Go.Me
set_option maxRecDepth 100000
set_option maxHeartbeats 4000000
attribute [local irreducible] OQ OW AL AW AF SW
theorem offTu_q (n : Int) (m : Mem) : PCalls Tryz.prog 124 [.int .i64 n] m (.bool (!rgB n (-100) 100)) := by
 refine PCalls.any ?_ rfl rfl m
 have hw := fun m => within_q n (-100) 100 m
 refine PCalls.en 5 Tryz.func124 rfl (ro_nil) rfl (fun E => ?_)
 repeat' (first | with_reducible (refine Then.n ?_) | ((with_reducible refine AL.on ?_); first | ((first | refine AL.as ?_ | refine AL.mv ?_ | ((with_reducible refine AL.k_unOp ?_); refine AL.g (OQ.not rfl) ?_)); refine AL.nm ?_) | ((refine AL.pcall (g := 89) rfl kr rfl (hw _) ?_); refine AL.nm ?_) | refine AL.nil ?_) | ((with_reducible refine AW.on ?_); first | refine AW.seq ?_ | refine AW.ret ?_ | refine AW.region ?_) | ((with_reducible refine FinP.on ?_); (refine FinP.ret (.tmp wl .nil) ?_ rfl); (try simp only [pack, List.drop, List.take]); all_goals (rfl)))
theorem ro7p (a b c d e f g : Blk) (h1 : a.own = false) (h2 : b.own = false) (h3 : c.own = false) (h4 : d.own = false) (h5 : e.own = false) (h6 : f.own = false) (h7 : g.own = false) : Mem.ro [some a, some b, some c, some d, some e, some f, some g] := fun k blk hk => by
 match k, hk with
 | 0, hk => cases hk; exact h1
 | 1, hk => cases hk; exact h2
 | 2, hk => cases hk; exact h3
 | 3, hk => cases hk; exact h4
 | 4, hk => cases hk; exact h5
 | 5, hk => cases hk; exact h6
 | 6, hk => cases hk; exact h7
theorem turnsErr_0 (l : List Pn) (ts : List T3) (hR : NetR l ts) (ph xs : List Int) (hph : phE l ph = 0) (hxl : xs.length ≤ 1000000) (c c2 c3 c4 z0 z1 z2 z4 z5 z6 : Nat) :
  PCalls Tryz.prog 66 [.pointer (some ⟨2, 0, none⟩), .slice (some ⟨5, 0, none⟩) ph.length c3, .slice (some ⟨6, 0, none⟩) xs.length c4] [some ⟨flatP l, false, z0⟩, some ⟨flatT ts, false, z1⟩, some ⟨[.slice (some ⟨0, 0, none⟩) l.length c, .slice (some ⟨1, 0, none⟩) ts.length c2, .slice (some ⟨4, 0, none⟩) (edL ts).length INF, .map (some 3)], false, z2⟩, some (mpX (lfA ts) false 0), some ⟨flatP (edL ts), false, z4⟩, some ⟨flatN ph, false, z5⟩, some ⟨flatN xs, false, z6⟩] (.tuple #[.int .i64 (tuI ts ph xs), .int .i64 (tuE ts ph xs)]) := by
 have hc3 := fun (m : Mem) (blk : Blk) (h1 : m.at 6 = some blk) (h2 : blk.cells = flatN xs) (h3 : blk.obj = Ob.plain) => ContainsI_q (c := c4) 124 (by kernel_rfl) (fun x => !rgB x (-100) 100) offTu_q xs hxl h1 h2 rfl h3
 have e10 := tu_10 (ts := ts) (ph := ph) (xs := xs)
 have e2 := tu_2 (ts := ts) (ph := ph) (xs := xs)
 have e21 := tu_21 (ts := ts) (ph := ph) (xs := xs)
 have e0 := tu_0 (ts := ts) (ph := ph) (xs := xs)
 have hbd := anyR_no (xs := xs) (a := -100) (b := 100)
 have h80 := hR.le
 have hle := edL_le ts
 have hcb := fun (k : Nat) (hk : k < ts.length) => clL_bd hR ph k hk
 have hcd := fun (m : Mem) (h : OpenN m 2 3 4 0 1 c c2 l ts) (F : Blk) (f1 : m.at 5 = some F) (f2 : F.cells = flatN ph) (f3 : F.obj = Ob.plain) => closures_q (n := ph.length) (c3 := c3) h hR ph hph f1 f2 rfl (by decide) f3
 have hcl := clL_len ts ph
 have hSl : (smL ts xs (edL ts).length).length = ts.length := smL_len _ _ _
 have hsu := fun (hx : xs.length = (edL ts).length) (ha : xs.any (fun x => !rgB x (-100) 100) = false) (m : Mem) (h : OpenN m 2 3 4 0 1 c c2 l ts) (F : Blk) (f1 : m.at 6 = some F) (f2 : F.cells = flatN xs) (f3 : F.obj = Ob.plain) => sums_q (n := xs.length) (c3 := c4) h hR xs hx (fun k hk => by have := hbd ha k hk; omega) f1 f2 rfl (by decide) f3
 have hsb := fun (hx : xs.length = (edL ts).length) (ha : xs.any (fun x => !rgB x (-100) 100) = false) (k : Nat) (hk : k < ts.length) => smL_bd (ts := ts) (xs := xs) (fun k hk => by have := hbd ha k hk; omega) (edL ts).length (by omega) k hk
 have htu : ∀ k, tuT ts ph xs k = nt (smL ts xs (edL ts).length) k + nt (clL ts ph) k := fun k => rfl
 clear hbd
 generalize smL ts xs (edL ts).length = S at *
 generalize clL ts ph = C at *
 generalize tuE ts ph xs = E0 at *
 generalize tuI ts ph xs = I0 at *
 generalize tuT ts ph xs = T0 at *
 generalize xs.any (fun x => !rgB x (-100) 100) = B0 at *
 have hgS : ∀ k, k < ts.length → (flatN S)[k]? = some (.int .i64 (nt S k)) := fun k hk => flatN_get _ k (by omega)
 have hgC : ∀ k, k < ts.length → (flatN C)[k]? = some (.int .i64 (nt C k)) := fun k hk => flatN_get _ k (by omega)
 refine PCalls.en 41 Tryz.func66 rfl (ro7p _ _ _ _ _ _ _ rfl rfl rfl rfl rfl rfl rfl) rfl (fun E => ?_)
 repeat' (first | with_reducible (first | refine Then.n ?_ | refine Then.r ?_ | refine Then.x ?_ | refine InB.n ?_ | refine InB.r ?_ | refine InB.hit ?_) | ((with_reducible refine AL.on ?_); first | ((first | refine AL.as ?_ | refine AL.mv ?_ | ((with_reducible refine AL.k_call ?_); first | refine AL.g (OQ.lenS (xt := 26) (r := (none, 1, false)) rfl kr) ?_ | refine AL.g (OQ.lenS (xt := 45) (r := (none, 2, true)) rfl kr) ?_) | ((with_reducible refine AL.k_binOp ?_); first | refine AL.g (OQ.neq rfl rfl) ?_ | refine AL.g (OQ.lss rfl rfl) ?_ | refine AL.g (OQ.addi rfl rfl (by omega)) ?_) | ((with_reducible refine AL.k_load ?_); first | (refine AL.g (OQ.load1 (ty := 45) rfl kr (by (conv => lhs; whnf))) ?_) | (refine AL.g (OQ.load1 (ty := 3) rfl kr (by (first | exact hgS k (by omega) | exact hgC k (by omega)))) ?_)) | refine AL.g (OQ.nilCheck rfl) ?_); refine AL.nm ?_) | ((first | ((with_reducible refine AL.k_call ?_); refine AL.pcall (g := 87) rfl kr rfl ((by exact hc3 _ _ rfl rfl rfl)) ?_) | ((with_reducible refine AL.k_indexAddr ?_); refine AL.g (OQ.idxAddr (ty := 26) (z := 1) (g := false) rfl rfl kr (by omega) (by omega)) ?_) | ((with_reducible refine AL.k_fieldAddr ?_); refine AL.g (OQ.fieldA (ty := 110) (i := 1) (n := 1) (off := 2) (g := false) rfl kr (by decide)) ?_)); refine AL.nm ?_) | ((first | refine AL.acall (g := 79) rfl kr rfl ((by exact hcd _ ⟨⟨_, rfl, rfl, rfl⟩, ⟨_, rfl, rfl, rfl⟩, ⟨_, rfl, rfl, rfl⟩, ⟨_, rfl⟩, ⟨_, rfl, rfl, rfl⟩⟩ _ rfl rfl rfl)) ?_ | refine AL.acall (g := 125) rfl kr rfl ((by exact hsu hxx hB _ ⟨⟨_, rfl, rfl, rfl⟩, ⟨_, rfl, rfl, rfl⟩, ⟨_, rfl, rfl, rfl⟩, ⟨_, rfl⟩, ⟨_, rfl, rfl, rfl⟩⟩ _ rfl rfl rfl)) ?_); refine AL.nm ?_; refine AL.nM ?_) | refine AL.nil ?_) | ((with_reducible refine AW.on ?_); first | refine AW.seq ?_ | refine AW.skip ?_ | refine AW.exit ?_ | refine AW.ret ?_ | ((refine AW.block (id := 1) ?_); (refine AW.fk [8, 28, 29, 30] ?_); (refine AW.loop (fun n' t' m => ∃ k : Nat, n' = ts.length - k ∧ k ≤ ts.length ∧ (∀ j, j < k → T0 j = 0) ∧ t' = (mtz 44 0 [(8, .slice (some ⟨7, 0, none⟩) ts.length ts.length), (28, .slice (some ⟨8, 0, none⟩) ts.length ts.length), (29, .int .i64 (ts.length)), (30, .int .i64 (k))]) ∧ m = [some ⟨flatP l, false, z0⟩, some ⟨flatT ts, false, z1⟩, some ⟨[.slice (some ⟨0, 0, none⟩) l.length c, .slice (some ⟨1, 0, none⟩) ts.length c2, .slice (some ⟨4, 0, none⟩) (edL ts).length INF, .map (some 3)], false, z2⟩, some (mpX (lfA ts) false 0), some ⟨flatP (edL ts), false, z4⟩, some ⟨flatN ph, false, z5⟩, some ⟨flatN xs, false, z6⟩, some ⟨flatN C, true, 1⟩, some ⟨flatN S, true, 1⟩]) (ts.length) (by exact ⟨0, rfl, Nat.zero_le _, fun j h => absurd h (by omega), rfl, rfl⟩) ?_); (rintro n' t' m ⟨k, rfl, hk, hj, rfl, rfl⟩); (refine AW.nT ?_)) | refine AW.block ?_ | (refine AW.region (id := 5) ?_; ((have hxx : xs.length = (edL ts).length := (by omega); have hB : B0 = false := (by assumption)))) | (refine AW.region (id := 9) ?_; ((have hq1 := hcb k (by omega); have hq2 := hsb hxx hB k (by omega); have hq3 := htu k))) | refine AW.region ?_ | (refine AW.conds rfl (fun hc => ?_) (fun hc => ?_) <;> (try replace hc := nc hc) <;> skip)) | ((with_reducible refine ex_on ?_); (refine ⟨ts.length - (k + 1), _, _, by omega, ?_, k + 1, rfl, by omega, fun j h => (by rcases Nat.lt_or_eq_of_le (Nat.le_of_lt_succ h) with h | rfl; (exact hj j h); (rw [htu]; omega)), rfl, rfl⟩; exact Wk.fk [8, 28, 29, 30] rfl)) | ((with_reducible refine FinP.on ?_); (refine FinP.ret (.tmp wl (.tmp wl .nil)) ?_ rfl); (try simp only [pack, List.drop, List.take]); all_goals (first | (have hq := e10 (by omega); rw [hq.1, hq.2]; done) | (have hq := e2 (by omega) (by first | assumption | simp_all); rw [hq.1, hq.2]; done) | (have hq := e21 hxx hB k (by omega) hj (by rw [htu]; omega); rw [hq.1, hq.2]; done) | (obtain rfl : k = ts.length := (by omega); have hq := e0 hxx hB hj; rw [hq.1, hq.2]))))
theorem turnsErr_q {m : Mem} {bN bL bE bP bT c c2 bF n c3 bX n4 c4 : Nat} {l : List Pn} {ts : List T3} {F X : Blk} (h : OpenN m bN bL bE bP bT c c2 l ts) (hR : NetR l ts) (ph xs : List Int) (hph : phE l ph = 0) (hxl : xs.length ≤ 1000000) (f1 : m.at bF = some F) (f2 : F.cells = flatN ph) (hn : ph.length = n) (x1 : m.at bX = some X) (x2 : X.cells = flatN xs) (hx : xs.length = n4) (f3 : F.obj = Ob.plain := by rfl) (x3 : X.obj = Ob.plain := by rfl) :
  PCalls Tryz.prog 66 [.pointer (some ⟨bN, 0, none⟩), .slice (some ⟨bF, 0, none⟩) n c3, .slice (some ⟨bX, 0, none⟩) n4 c4] m (.tuple #[.int .i64 (tuI ts ph xs), .int .i64 (tuE ts ph xs)]) := by
 subst hn hx
 obtain ⟨⟨A, a1, a2, a3⟩, ⟨B, b1, b2, b3⟩, ⟨N, n1, n2, n3⟩, ⟨own, l1⟩, ⟨D, d1, d2, d3⟩⟩ := h
 exact PCalls.viaS [bP, bT, bN, bL, bE, bF, bX] (turnsErr_0 l ts hR ph xs hph hxl c c2 c3 c4 A.esz B.esz N.esz D.esz F.esz X.esz) (ro7p _ _ _ _ _ _ _ rfl rfl rfl rfl rfl rfl rfl)
  ⟨bS a1 a3 a2 (flatP_scal _), bS b1 b3 b2 (flatT_scal _), bI n1 n3 n2, ⟨_, l1, rfl, (fun h => nomatch h), .inl ⟨rfl, rfl⟩⟩, bS d1 d3 d2 (flatP_scal _), bS f1 f3 f2 (flatN_scal _), bS x1 x3 x2 (flatN_scal _), trivial⟩ rfl rfl rfl rfl
end Go.Proofs.YtmohcmghbfhdlaaGreat
end
end
