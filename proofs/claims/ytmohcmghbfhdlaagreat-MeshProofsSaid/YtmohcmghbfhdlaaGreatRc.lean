/- Chapter 6: which tasks, turns and potentials are right (the reference's). -/
import Derived.Test.YtmohcmghbfhdlaaGreatQd
import Derived.Test.YtmohcmghbfhdlaaGreatRa
import Derived.Test.YtmohcmghbfhdlaaGreatRb
import Derived.Test.YtmohcmghbfhdlaaGreatQx
section
set_option linter.unusedSimpArgs false
set_option linter.unusedVariables false
section
namespace Go.Me
open Go.Ab Go.Proofs.YtmohcmghbfhdlaaGreat
theorem tk_ne {l : List Pn} {ts : List T3} {ph cs : List Int} (h : neE l ts ph ≠ 0) : tkE l ts ph cs = neE l ts ph := if_pos h
theorem tk_10 {l : List Pn} {ts : List T3} {ph cs : List Int} (h : neE l ts ph = 0) (h2 : cs.length ≠ (edL ts).length) : tkE l ts ph cs = 10 := (if_neg (fun h3 => h3 h)).trans (if_pos h2)
theorem tk_2 {l : List Pn} {ts : List T3} {ph cs : List Int} (h : neE l ts ph = 0) (h2 : cs.length = (edL ts).length) {k : Nat} (hk : k < cs.length) (h3 : rgB (nt cs k) 0 1000 = false) : tkE l ts ph cs = 2 :=
 (if_neg (fun h3 => h3 h)).trans ((if_neg (fun h3 => h3 h2)).trans (if_pos (anyR_at hk h3)))
theorem tk_z {l : List Pn} {ts : List T3} {ph cs : List Int} (h : neE l ts ph = 0) (h2 : cs.length = (edL ts).length) (h3 : ∀ k, k < cs.length → rgB (nt cs k) 0 1000 = true) : tkE l ts ph cs = 0 :=
 (if_neg (fun h3 => h3 h)).trans ((if_neg (fun h3 => h3 h2)).trans (if_neg (by rw [anyR_all h3]; decide)))
theorem neE_or {l : List Pn} {ts : List T3} {ph : List Int} (h : neE l ts ph = 0) : NetR l ts ∧ phE l ph = 0 := by
 unfold neE at h
 by_cases h1 : netE l ts ≠ 0
 ·rw [if_pos h1] at h; exact absurd h h1
 ·rw [if_neg h1] at h
  exact ⟨netE_0.1 (Classical.not_not.1 h1), h⟩
theorem tuE_r {ts : List T3} {ph xs : List Int} (h : tuR ts xs ≠ 0) : tuE ts ph xs = tuR ts xs := by rw [tuE_R, if_pos h]
theorem tuI_r {ts : List T3} {ph xs : List Int} (h : tuR ts xs ≠ 0) : tuI ts ph xs = 0 := by
 unfold tuR at h
 unfold tuI
 by_cases h1 : xs.length ≠ (edL ts).length
 ·rw [if_pos h1]
 ·rw [if_neg h1] at h ⊢
  by_cases h2 : xs.any (fun x => !rgB x (-100) 100) = true
  ·rw [if_pos h2]
  ·rw [if_neg h2] at h
   exact absurd rfl h
theorem tuI_y {ts : List T3} {ph xs : List Int} (h : tuR ts xs = 0) (h2 : fstN (tuT ts ph xs) ts.length ≠ -1) : tuI ts ph xs = fstN (tuT ts ph xs) ts.length := by
 obtain ⟨h3, h4⟩ := tuR_0 h
 unfold tuI
 rw [if_neg (fun h => h h3), if_neg (by rw [h4]; decide), if_pos h2]
theorem ct_r {ts : List T3} {ph cs xs : List Int} (h : tuR ts xs ≠ 0) : ctI ts ph cs xs = 0 ∧ tuE ts ph xs = tuR ts xs := by
 have h1 := tuE_r (ph := ph) h
 refine ⟨?_, h1⟩
 unfold ctI
 rw [if_pos (by rw [h1]; exact h), tuI_r h]
theorem ct_21 {ts : List T3} {ph cs xs : List Int} (h : tuR ts xs = 0) (h2 : 0 ≤ fstN (tuT ts ph xs) ts.length) : ctI ts ph cs xs = fstN (tuT ts ph xs) ts.length ∧ tuE ts ph xs = 21 := by
 have h3 : tuE ts ph xs = 21 := by rw [tuE_R, if_neg (fun h3 => h3 h), if_pos (by omega)]
 refine ⟨?_, h3⟩
 unfold ctI
 rw [if_pos (by rw [h3]; decide), tuI_y h (by omega)]
theorem ct_0 {ts : List T3} {ph cs xs : List Int} (h : tuR ts xs = 0) (h2 : fstN (tuT ts ph xs) ts.length = -1) : ctI ts ph cs xs = coL cs xs (edL ts).length ∧ tuE ts ph xs = 0 := by
 have h3 : tuE ts ph xs = 0 := by rw [tuE_R, if_neg (fun h3 => h3 h), if_neg (fun h3 => h3 h2)]
 refine ⟨?_, h3⟩
 unfold ctI
 rw [if_neg (fun h4 => h4 h3)]
theorem fstN_bd (f : Nat → Int) : ∀ n : Nat, -1 ≤ fstN f n ∧ fstN f n < n
 | 0 => by unfold fstN; omega
 | n + 1 => by
  have := fstN_bd f n
  unfold fstN
  split
  ·omega
  ·split <;> omega
end Go.Me
namespace Go.Proofs.YtmohcmghbfhdlaaGreat
open Go Go.RowKit Go.Ab Go.Me
set_option maxRecDepth 100000
set_option maxHeartbeats 4000000
attribute [local irreducible] OQ OW AL AW AF SW
theorem rat_0 (ps : List Int) (i : Int) (h0 : -1 ≤ i) (hi : i < ps.length) (c z : Nat) (hl : ps.length ≤ 1000000) : PCalls Tryz.prog 94 [.slice (some ⟨0, 0, none⟩) ps.length c, .int .i64 i] [some ⟨flatN ps, false, z⟩] (.int .i64 (po ps i)) := by
 have hg := fun k (hk : k < ps.length) => flatN_get ps k hk
 have h1 := @po_in ps i
 have h2 : i = -1 → po ps i = 0 := fun h => by rw [h]; rfl
 refine PCalls.en 9 Tryz.func94 rfl (ro1p _ rfl) rfl (fun E => ?_)
 repeat' (first | with_reducible (first | refine Then.n ?_ | refine Then.r ?_) | ((with_reducible refine AL.on ?_); first | ((first | refine AL.as ?_ | refine AL.mv ?_ | ((with_reducible refine AL.k_binOp ?_); refine AL.g (OQ.lss rfl rfl) ?_) | ((with_reducible refine AL.k_load ?_); (refine AL.g (OQ.load1 (ty := 3) rfl kr (by (exact hg _ (by omega)))) ?_))); refine AL.nm ?_) | ((refine AL.g (OQ.idxAddr (ty := 26) (z := 1) (g := false) rfl rfl kr (by omega) (by omega)) ?_); refine AL.nm ?_) | refine AL.nil ?_) | ((with_reducible refine AW.on ?_); first | refine AW.seq ?_ | refine AW.skip ?_ | refine AW.ret ?_ | refine AW.region ?_ | (refine AW.conds rfl (fun hc => ?_) (fun hc => ?_) <;> (try replace hc := nc hc) <;> skip)) | ((with_reducible refine FinP.on ?_); (refine FinP.ret (.tmp wl .nil) ?_ rfl); (try simp only [pack, List.drop, List.take]); all_goals (first | (rw [h2 (by omega)]; done) | (rw [h1 (by omega)]))))
theorem rat_q {m : Mem} {b n c : Nat} {X : Blk} (ps : List Int) (i : Int) (h0 : -1 ≤ i) (hi : i < ps.length) (hl : ps.length ≤ 1000000) (x1 : m.at b = some X) (x2 : X.cells = flatN ps) (hn : ps.length = n) (x3 : X.obj = Ob.plain) : PCalls Tryz.prog 94 [.slice (some ⟨b, 0, none⟩) n c, .int .i64 i] m (.int .i64 (po ps i)) := by
 subst hn
 exact PCalls.viaS [b] (rat_0 ps i h0 hi c X.esz hl) (ro1p _ rfl) ⟨bS x1 x3 x2 (flatN_scal _), trivial⟩ rfl rfl rfl rfl
theorem rCheckTask_e (v w u x : Value) (E0 : Int) (hE0 : E0 ≠ 0) (o0 o1 o2 o3 : Option Blk) (hr : Mem.ro [o0, o1, o2, o3]) (hN : ∀ m : Mem, m.at 0 = o0 → m.at 1 = o1 → m.at 2 = o2 → PCalls Tryz.prog 17 [.agg #[v, w], u] m (.int .i64 E0)) :
  PCalls Tryz.prog 41 [.agg #[v, w, u, x]] [o0, o1, o2, o3] (.int .i64 E0) := by
 refine PCalls.en 34 Tryz.func41 rfl (hr) rfl (fun E => ?_)
 repeat' (first | with_reducible (first | refine Then.n ?_ | refine Then.r ?_) | ((with_reducible refine AL.on ?_); first | ((first | refine AL.as ?_ | ((with_reducible refine AL.k_load ?_); first | refine AL.g (OQ.loadN (ty := 25) (n := 2) rfl kr kr rfl) ?_ | (refine AL.g (OQ.load1 (ty := 26) rfl kr wl) ?_)) | ((with_reducible refine AL.k_fieldAddr ?_); first | refine AL.g (OQ.fieldA (ty := 67) (i := 0) (n := 2) (off := 0) (g := true) rfl kr (by decide)) ?_ | refine AL.g (OQ.fieldA (ty := 67) (i := 1) (n := 1) (off := 2) (g := false) rfl kr (by decide)) ?_) | refine AL.mv ?_ | ((with_reducible refine AL.k_binOp ?_); refine AL.g (OQ.neq rfl rfl) ?_)); refine AL.nm ?_) | ((refine AL.pcall (g := 17) rfl kr rfl ((by exact hN _ rfl rfl rfl)) ?_); refine AL.nm ?_) | ((refine AL.bx ?_); refine AL.nm ?_; refine AL.nM ?_) | refine AL.nil ?_) | ((with_reducible refine AW.on ?_); first | refine AW.seq ?_ | refine AW.ret ?_ | refine AW.region ?_ | (refine AW.conds rfl (fun hc => ?_) (fun hc => ?_) <;> (try replace hc := nc hc) <;> first | (exfalso; contradiction) | skip)) | ((with_reducible refine FinP.on ?_); (refine FinP.ret (.tmp wl .nil) ?_ rfl); (try simp only [pack, List.drop, List.take]); all_goals (rfl)))
theorem rCheckTask_lb (l : List Pn) (ts : List T3) (ph : List Int) (v w u : Value) (xx : Option Addr) (cx : Nat) (cs : List Int) (n : Nat) (hn : cs.length ≠ n) (hb : cs.length ≤ 1000000) (hn2 : n ≤ 1000000) (hr : Mem.ro [some ⟨flatP l, false, 0⟩, some ⟨flatT ts, false, 0⟩, some ⟨flatN ph, false, 0⟩, some ⟨flatN cs, false, 0⟩]) (D : List Value) (hN : ∀ m : Mem, m.at 0 = some ⟨flatP l, false, 0⟩ → m.at 1 = some ⟨flatT ts, false, 0⟩ → m.at 2 = some ⟨flatN ph, false, 0⟩ → PCalls Tryz.prog 17 [.agg #[v, w], u] m (.int .i64 0))
  (hEd : ∀ m : Mem, m.at 0 = some ⟨flatP l, false, 0⟩ → m.at 1 = some ⟨flatT ts, false, 0⟩ → ACalls Tryz.prog 31 [.agg #[v, w]] m (.slice (some ⟨m.length, 0, none⟩) n INF) (m ++ [some ⟨D, true, 2⟩])) :
  PCalls Tryz.prog 41 [.agg #[v, w, u, .slice xx cs.length cx]] [some ⟨flatP l, false, 0⟩, some ⟨flatT ts, false, 0⟩, some ⟨flatN ph, false, 0⟩, some ⟨flatN cs, false, 0⟩] (.int .i64 10) := by
 refine PCalls.en 34 Tryz.func41 rfl (hr) rfl (fun E => ?_)
 repeat' (first | with_reducible (first | refine Then.n ?_ | refine Then.r ?_) | ((with_reducible refine AL.on ?_); first | ((first | refine AL.as ?_ | ((with_reducible refine AL.k_load ?_); first | refine AL.g (OQ.loadN (ty := 25) (n := 2) rfl kr kr rfl) ?_ | (refine AL.g (OQ.load1 (ty := 26) rfl kr wl) ?_)) | ((with_reducible refine AL.k_fieldAddr ?_); first | refine AL.g (OQ.fieldA (ty := 67) (i := 0) (n := 2) (off := 0) (g := true) rfl kr (by decide)) ?_ | refine AL.g (OQ.fieldA (ty := 67) (i := 1) (n := 1) (off := 2) (g := false) rfl kr (by decide)) ?_) | refine AL.mv ?_ | ((with_reducible refine AL.k_binOp ?_); refine AL.g (OQ.neq rfl rfl) ?_)); refine AL.nm ?_) | ((refine AL.pcall (g := 17) rfl kr rfl ((by exact hN _ rfl rfl rfl)) ?_); refine AL.nm ?_) | ((refine AL.bx ?_); refine AL.nm ?_; refine AL.nM ?_) | refine AL.nil ?_) | ((with_reducible refine AW.on ?_); first | refine AW.seq ?_ | refine AW.skip ?_ | refine AW.ret ?_ | (refine AW.drawF (id := 4) 7 #[0, 1, 3, 0, 8, 24, 56, 127] kr kr ?_; (conv => (arg 8; simp only [List.take_succ_cons, List.take_zero]))) | refine AW.region ?_ | (refine AW.conds rfl (fun hc => ?_) (fun hc => ?_) <;> (try replace hc := nc hc) <;> first | (exfalso; first | contradiction | (omega); done) | skip)) | ((with_reducible refine AF.on ?_); first | ((first | ((with_reducible refine AF.k_load ?_); first | (refine AF.ql rfl (SW.q (OQ.load1 (ty := 26) rfl kr wl) rfl) ?_) | refine AF.ql rfl (SW.q (OQ.loadN (ty := 25) (n := 2) rfl kr kr rfl) rfl) ?_) | ((with_reducible refine AF.k_fieldAddr ?_); first | refine AF.q 0 (SW.q (OQ.fieldA (ty := 67) (i := 2) (n := 1) (off := 3) (g := false) rfl kr (by decide)) rfl) ?_ | refine AF.q 0 (SW.q (OQ.fieldA (ty := 67) (i := 0) (n := 2) (off := 0) (g := true) rfl kr (by decide)) rfl) ?_) | ((with_reducible refine AF.k_call ?_); first | refine AF.q 0 (SW.q (OQ.lenS (xt := 26) (r := (none, 1, false)) rfl kr) rfl) ?_ | refine AF.q 0 (SW.q (OQ.lenS (xt := 45) (r := (none, 2, true)) rfl kr) rfl) ?_)); refine AF.nm ?_) | ((refine AF.n1 2 (SW.acall (g := 31) rfl kr rfl ((by exact hEd _ rfl rfl)) rfl) rfl ?_); refine AF.nm ?_; (conv => (arg 10; try tactic => exact nrmF))) | refine AF.nl ?_) | ((with_reducible refine FinP.on ?_); (refine FinP.ret (.tmp wl .nil) ?_ rfl); (try simp only [pack, List.drop, List.take]); all_goals (rfl)))
theorem rCheckTask_ln (l : List Pn) (ts : List T3) (ph : List Int) (v w u : Value) (xx : Option Addr) (cx : Nat) (cs : List Int) (n : Nat) (hn : cs.length ≠ n) (hb : cs.length ≤ 1000000) (hn2 : n ≤ 1000000) (hr : Mem.ro [some ⟨flatP l, false, 0⟩, some ⟨flatT ts, false, 0⟩, some ⟨flatN ph, false, 0⟩, none]) (D : List Value) (hN : ∀ m : Mem, m.at 0 = some ⟨flatP l, false, 0⟩ → m.at 1 = some ⟨flatT ts, false, 0⟩ → m.at 2 = some ⟨flatN ph, false, 0⟩ → PCalls Tryz.prog 17 [.agg #[v, w], u] m (.int .i64 0))
  (hEd : ∀ m : Mem, m.at 0 = some ⟨flatP l, false, 0⟩ → m.at 1 = some ⟨flatT ts, false, 0⟩ → ACalls Tryz.prog 31 [.agg #[v, w]] m (.slice (some ⟨m.length, 0, none⟩) n INF) (m ++ [some ⟨D, true, 2⟩])) :
  PCalls Tryz.prog 41 [.agg #[v, w, u, .slice xx cs.length cx]] [some ⟨flatP l, false, 0⟩, some ⟨flatT ts, false, 0⟩, some ⟨flatN ph, false, 0⟩, none] (.int .i64 10) := by
 refine PCalls.en 34 Tryz.func41 rfl (hr) rfl (fun E => ?_)
 repeat' (first | with_reducible (first | refine Then.n ?_ | refine Then.r ?_) | ((with_reducible refine AL.on ?_); first | ((first | refine AL.as ?_ | ((with_reducible refine AL.k_load ?_); first | refine AL.g (OQ.loadN (ty := 25) (n := 2) rfl kr kr rfl) ?_ | (refine AL.g (OQ.load1 (ty := 26) rfl kr wl) ?_)) | ((with_reducible refine AL.k_fieldAddr ?_); first | refine AL.g (OQ.fieldA (ty := 67) (i := 0) (n := 2) (off := 0) (g := true) rfl kr (by decide)) ?_ | refine AL.g (OQ.fieldA (ty := 67) (i := 1) (n := 1) (off := 2) (g := false) rfl kr (by decide)) ?_) | refine AL.mv ?_ | ((with_reducible refine AL.k_binOp ?_); refine AL.g (OQ.neq rfl rfl) ?_)); refine AL.nm ?_) | ((refine AL.pcall (g := 17) rfl kr rfl ((by exact hN _ rfl rfl rfl)) ?_); refine AL.nm ?_) | ((refine AL.bx ?_); refine AL.nm ?_; refine AL.nM ?_) | refine AL.nil ?_) | ((with_reducible refine AW.on ?_); first | refine AW.seq ?_ | refine AW.skip ?_ | refine AW.ret ?_ | (refine AW.drawF (id := 4) 7 #[0, 1, 3, 0, 8, 24, 56, 127] kr kr ?_; (conv => (arg 8; simp only [List.take_succ_cons, List.take_zero]))) | refine AW.region ?_ | (refine AW.conds rfl (fun hc => ?_) (fun hc => ?_) <;> (try replace hc := nc hc) <;> first | (exfalso; first | contradiction | (omega); done) | skip)) | ((with_reducible refine AF.on ?_); first | ((first | ((with_reducible refine AF.k_load ?_); first | (refine AF.ql rfl (SW.q (OQ.load1 (ty := 26) rfl kr wl) rfl) ?_) | refine AF.ql rfl (SW.q (OQ.loadN (ty := 25) (n := 2) rfl kr kr rfl) rfl) ?_) | ((with_reducible refine AF.k_fieldAddr ?_); first | refine AF.q 0 (SW.q (OQ.fieldA (ty := 67) (i := 2) (n := 1) (off := 3) (g := false) rfl kr (by decide)) rfl) ?_ | refine AF.q 0 (SW.q (OQ.fieldA (ty := 67) (i := 0) (n := 2) (off := 0) (g := true) rfl kr (by decide)) rfl) ?_) | ((with_reducible refine AF.k_call ?_); first | refine AF.q 0 (SW.q (OQ.lenS (xt := 26) (r := (none, 1, false)) rfl kr) rfl) ?_ | refine AF.q 0 (SW.q (OQ.lenS (xt := 45) (r := (none, 2, true)) rfl kr) rfl) ?_)); refine AF.nm ?_) | ((refine AF.n1 2 (SW.acall (g := 31) rfl kr rfl ((by exact hEd _ rfl rfl)) rfl) rfl ?_); refine AF.nm ?_; (conv => (arg 10; try tactic => exact nrmF))) | refine AF.nl ?_) | ((with_reducible refine FinP.on ?_); (refine FinP.ret (.tmp wl .nil) ?_ rfl); (try simp only [pack, List.drop, List.take]); all_goals (rfl)))
theorem rCheckTask_y (l : List Pn) (ts : List T3) (ph : List Int) (v w u : Value) (cs : List Int) (n : Nat) (hn : cs.length = n) (hb : cs.length ≤ 1000000) (TK : Int) (e2 : ∀ k, k < n → rgB (nt cs k) 0 1000 = false → TK = 2) (ez : (∀ k, k < n → rgB (nt cs k) 0 1000 = true) → TK = 0) (hr : Mem.ro [some ⟨flatP l, false, 0⟩, some ⟨flatT ts, false, 0⟩, some ⟨flatN ph, false, 0⟩, some ⟨flatN cs, false, 0⟩]) (D : List Value) (hN : ∀ m : Mem, m.at 0 = some ⟨flatP l, false, 0⟩ → m.at 1 = some ⟨flatT ts, false, 0⟩ → m.at 2 = some ⟨flatN ph, false, 0⟩ → PCalls Tryz.prog 17 [.agg #[v, w], u] m (.int .i64 0))
  (hEd : ∀ m : Mem, m.at 0 = some ⟨flatP l, false, 0⟩ → m.at 1 = some ⟨flatT ts, false, 0⟩ → ACalls Tryz.prog 31 [.agg #[v, w]] m (.slice (some ⟨m.length, 0, none⟩) n INF) (m ++ [some ⟨D, true, 2⟩])) :
  PCalls Tryz.prog 41 [.agg #[v, w, u, .slice (some ⟨3, 0, none⟩) cs.length INF]] [some ⟨flatP l, false, 0⟩, some ⟨flatT ts, false, 0⟩, some ⟨flatN ph, false, 0⟩, some ⟨flatN cs, false, 0⟩] (.int .i64 TK) := by
 have hg := fun k (hk : k < n) => flatN_get cs k (by omega)
 have hw := fun (k : Int) (m : Mem) => rWithin_q k 0 1000 m
 rw [hn]
 refine PCalls.en 34 Tryz.func41 rfl (hr) rfl (fun E => ?_)
 repeat' (first | with_reducible (first | refine Then.n ?_ | refine Then.r ?_ | refine Then.x ?_ | refine InB.n ?_ | refine InB.r ?_ | refine InB.hit ?_) | ((with_reducible refine AL.on ?_); first | ((first | refine AL.as ?_ | ((with_reducible refine AL.k_load ?_); first | refine AL.g (OQ.loadN (ty := 25) (n := 2) rfl kr kr (by rfl)) ?_ | (refine AL.g (OQ.load1 (ty := 26) rfl kr (by (conv => lhs; whnf))) ?_) | (refine AL.g (OQ.load1 (ty := 3) rfl kr (by (exact hg k (by omega)))) ?_)) | ((with_reducible refine AL.k_call ?_); refine AL.g (OQ.lenS (xt := 26) (r := (none, 1, false)) rfl kr) ?_) | refine AL.mv ?_ | ((with_reducible refine AL.k_binOp ?_); first | refine AL.g (OQ.neq rfl rfl) ?_ | refine AL.g (OQ.lss rfl rfl) ?_ | refine AL.g (OQ.addi rfl rfl (by omega)) ?_) | ((with_reducible refine AL.k_unOp ?_); refine AL.g (OQ.not rfl) ?_)); refine AL.nm ?_) | ((first | ((with_reducible refine AL.k_fieldAddr ?_); first | refine AL.g (OQ.fieldA (ty := 67) (i := 0) (n := 2) (off := 0) (g := true) rfl kr (by decide)) ?_ | refine AL.g (OQ.fieldA (ty := 67) (i := 1) (n := 1) (off := 2) (g := false) rfl kr (by decide)) ?_ | refine AL.g (OQ.fieldA (ty := 67) (i := 2) (n := 1) (off := 3) (g := false) rfl kr (by decide)) ?_) | ((with_reducible refine AL.k_call ?_); first | refine AL.pcall (g := 17) rfl kr rfl ((by exact hN _ rfl rfl rfl)) ?_ | refine AL.pcall (g := 69) rfl kr rfl (hw _ _) ?_) | ((with_reducible refine AL.k_indexAddr ?_); refine AL.g (OQ.idxAddr (ty := 26) (z := 1) (g := false) rfl rfl kr (by omega) (by omega)) ?_)); refine AL.nm ?_) | ((refine AL.bx ?_); refine AL.nm ?_; refine AL.nM ?_) | refine AL.nil ?_) | ((with_reducible refine AW.on ?_); first | refine AW.seq ?_ | refine AW.skip ?_ | refine AW.exit ?_ | refine AW.ret ?_ | ((refine AW.block (id := 0) ?_); (refine AW.fk [1, 4] ?_); (refine AW.loop (fun n' t' m => ∃ k : Nat, n' = n - k ∧ k ≤ n ∧ (∀ j, j < k → rgB (nt cs j) 0 1000 = true) ∧ t' = (mtz 35 0 [(1, .pointer (some ⟨4, 0, none⟩)), (4, .int .i64 (k))]) ∧ m = [some ⟨flatP l, false, 0⟩, some ⟨flatT ts, false, 0⟩, some ⟨flatN ph, false, 0⟩, some ⟨flatN cs, false, 0⟩, some ⟨[v, w, u, .slice (some ⟨3, 0, none⟩) n INF], true, 0⟩, some ⟨D, true, 2⟩]) (n) (by exact ⟨0, rfl, Nat.zero_le _, fun j h => absurd h (by omega), rfl, rfl⟩) ?_); (rintro n' t' m ⟨k, rfl, hk, hj, rfl, rfl⟩); (refine AW.nT ?_)) | refine AW.block ?_ | (refine AW.drawF (id := 4) 7 #[0, 1, 3, 0, 8, 24, 56, 127] kr kr ?_; (conv => (arg 8; simp only [List.take_succ_cons, List.take_zero]))) | refine AW.region ?_ | (refine AW.conds rfl (fun hc => ?_) (fun hc => ?_) <;> (try replace hc := nc hc) <;> first | (exfalso; contradiction) | skip)) | ((with_reducible refine AF.on ?_); first | ((first | ((with_reducible refine AF.k_load ?_); first | (refine AF.ql rfl (SW.q (OQ.load1 (ty := 26) rfl kr (by (conv => lhs; whnf))) rfl) ?_) | refine AF.ql rfl (SW.q (OQ.loadN (ty := 25) (n := 2) rfl kr kr (by rfl)) rfl) ?_) | ((with_reducible refine AF.k_fieldAddr ?_); first | refine AF.q 0 (SW.q (OQ.fieldA (ty := 67) (i := 2) (n := 1) (off := 3) (g := false) rfl kr (by decide)) rfl) ?_ | refine AF.q 0 (SW.q (OQ.fieldA (ty := 67) (i := 0) (n := 2) (off := 0) (g := true) rfl kr (by decide)) rfl) ?_) | ((with_reducible refine AF.k_call ?_); first | refine AF.q 0 (SW.q (OQ.lenS (xt := 26) (r := (none, 1, false)) rfl kr) rfl) ?_ | refine AF.q 0 (SW.q (OQ.lenS (xt := 45) (r := (none, 2, true)) rfl kr) rfl) ?_)); refine AF.nm ?_) | ((refine AF.n1 2 (SW.acall (g := 31) rfl kr rfl ((by exact hEd _ rfl rfl)) rfl) rfl ?_); refine AF.nm ?_; (conv => (arg 10; try tactic => exact nrmF))) | refine AF.nl ?_) | ((with_reducible refine ex_on ?_); (refine ⟨n - (k + 1), _, _, by omega, ?_, k + 1, rfl, by omega, fun j h => (by rcases Nat.lt_or_eq_of_le (Nat.le_of_lt_succ h) with h | rfl; (exact hj j h); assumption), rfl, rfl⟩; exact Wk.fk [1, 4] rfl)) | ((with_reducible refine FinP.on ?_); (refine FinP.ret (.tmp wl .nil) ?_ rfl); (try simp only [pack, List.drop, List.take]); all_goals (first | (rw [e2 k (by omega) (by assumption)]; done) | (obtain rfl : k = n := (by omega); rw [ez hj]))))
theorem rCheckTask_g {m : Mem} {l : List Pn} {ts : List T3} {ph cs : List Int} {v w u x : Value} (hv : SlV [Ls.blX (flatP l), Ls.blX (flatT ts)] 0 v (flatP l) l.length) (hw : SlV [Ls.blX (flatP l), Ls.blX (flatT ts)] 1 w (flatT ts) ts.length) (hu : SlV [Ls.blX (flatP l), Ls.blX (flatT ts), Ls.blX (flatN ph)] 2 u (flatN ph) ph.length) (hx : SlV [Ls.blX (flatP l), Ls.blX (flatT ts), Ls.blX (flatN ph), Ls.blX (flatN cs)] 3 x (flatN cs) cs.length)
  (e0 : m.at 0 = Ls.blX (flatP l)) (e1 : m.at 1 = Ls.blX (flatT ts)) (e2 : m.at 2 = Ls.blX (flatN ph)) (e3 : m.at 3 = Ls.blX (flatN cs)) (hl : l.length ≤ 1000000) (ht : (ts.length : Int) ≤ 9223372036854775807) (hp : ph.length ≤ 1000000) (hc : cs.length ≤ 1000000) :
  PCalls Tryz.prog 41 [.agg #[v, w, u, x]] m (.int .i64 (tkE l ts ph cs)) := by
 have k0 := hv.ok (k := 4) (by decide)
 have k1 := hw.ok (k := 4) (by decide)
 have k2 := hu.ok (k := 4) (by decide)
 have k3 := hx.ok (k := 4) (by decide)
 have hN := fun (m : Mem) (g0 : m.at 0 = Ls.blX (flatP l)) (g1 : m.at 1 = Ls.blX (flatT ts)) (g2 : m.at 2 = Ls.blX (flatN ph)) => NetErr_g (m := m) g0 g1 g2 hv hw hu hl ht hp
 have hr : Mem.ro [Ls.blX (flatP l), Ls.blX (flatT ts), Ls.blX (flatN ph), Ls.blX (flatN cs)] := fun b blk hb => by
  match b, hb with
  | 0, hb => exact Ls.blX_ro _ _ hb
  | 1, hb => exact Ls.blX_ro _ _ hb
  | 2, hb => exact Ls.blX_ro _ _ hb
  | 3, hb => exact Ls.blX_ro _ _ hb
  | b + 4, hb => simp [Mem.at] at hb
 refine PCalls.blx [flatP l, flatT ts, flatN ph, flatN cs] ?_ (fun k c hk => ?_) ?_ rfl
 ·show PCalls _ _ _ [Ls.blX (flatP l), Ls.blX (flatT ts), Ls.blX (flatN ph), Ls.blX (flatN cs)] _
  by_cases hne : neE l ts ph = 0
  ·obtain ⟨hR, hph⟩ := neE_or hne
   have h0 : 0 < ts.length := hR.g.1
   have h2 := two_of hR.all h0
   have hle := edL_le ts
   have h80 := hR.le
   have hpos := edL_pos hR
   have f1 : Ls.blX (flatP l) = some ⟨flatP l, false, 0⟩ := if_neg (fun h => by have := (flatP_nil l).1 h; omega)
   have f2 : Ls.blX (flatT ts) = some ⟨flatT ts, false, 0⟩ := if_neg (fun h => by have := (flatT_nil ts).1 h; omega)
   obtain ⟨hpl, _⟩ := phE_0 hph
   have f4 : Ls.blX (flatN ph) = some ⟨flatN ph, false, 0⟩ := if_neg (fun h => by have := (flatN_nil ph).1 h; omega)
   have hEd : ∀ m : Mem, m.at 0 = Ls.blX (flatP l) → m.at 1 = Ls.blX (flatT ts) → ACalls Tryz.prog 31 [.agg #[v, w]] m (.slice (some ⟨m.length, 0, none⟩) (edL ts).length INF) (m ++ [some ⟨flatP (edL ts), true, 2⟩]) := fun m g0 g1 => by
    rw [(hv.pos (by omega)).1, (hw.pos h0).1]
    exact rEdges_q l ts hR INF INF (by decide) (g0.trans f1) rfl (g1.trans f2) rfl rfl rfl rfl rfl
   rw [hne] at hN
   by_cases hcl : cs.length = (edL ts).length
   ·have f3 : Ls.blX (flatN cs) = some ⟨flatN cs, false, 0⟩ := if_neg (fun h => by have := (flatN_nil cs).1 h; omega)
    rw [(hx.pos (by omega)).1, f3]
    rw [f3] at hr
    rw [f1, f2, f4] at hr hN ⊢
    rw [f1, f2] at hEd
    exact rCheckTask_y l ts ph v w u cs _ hcl hc _ (fun k hk h => tk_2 hne hcl (by omega) h) (fun h => tk_z hne hcl fun k hk => h k (by omega)) hr _ hN hEd
   ·rw [tk_10 hne hcl]
    have hx2 : ∃ xa c, x = .slice xa cs.length c := by
     rcases hx with ⟨k, h0, h1, h2, h3, h4⟩ | ⟨h1, h2⟩ | ⟨h1, h2⟩
     ·exact ⟨_, _, h1⟩
     ·exact ⟨none, 0, by rw [h1]; exact h2⟩
     ·exact ⟨_, 0, by rw [h1]; exact h2⟩
    obtain ⟨xa, cx, rfl⟩ := hx2
    rw [f1, f2, f4] at hr hN ⊢
    rw [f1, f2] at hEd
    by_cases hz : cs.length = 0
    ·have f3 : Ls.blX (flatN cs) = none := if_pos ((flatN_nil cs).2 hz)
     rw [f3] at hr ⊢
     exact rCheckTask_ln l ts ph v w u xa cx cs _ hcl hc (by omega) hr _ hN hEd
    ·have f3 : Ls.blX (flatN cs) = some ⟨flatN cs, false, 0⟩ := if_neg (fun h => hz ((flatN_nil cs).1 h))
     rw [f3] at hr ⊢
     exact rCheckTask_lb l ts ph v w u xa cx cs _ hcl hc (by omega) hr _ hN hEd
  ·rw [tk_ne hne]
   exact rCheckTask_e v w u x _ hne _ _ _ _ hr hN
 ·match k, hk with
  | 0, hk => cases hk; exact ⟨flatP_scal l, e0⟩
  | 1, hk => cases hk; exact ⟨flatT_scal ts, e1⟩
  | 2, hk => cases hk; exact ⟨flatN_scal ph, e2⟩
  | 3, hk => cases hk; exact ⟨flatN_scal cs, e3⟩
  | k + 4, hk => simp at hk
 ·show ([ok1 4 v, ok1 4 w, ok1 4 u, ok1 4 x].all id && true) = true
  rw [k0, k1, k2, k3]
  rfl
theorem rCheckTurns_t (l : List Pn) (ts : List T3) (ph cs : List Int) (hR : NetR l ts) (u : Value) (E0 : Int) (hE0 : E0 ≠ 0) (o4 : Option Blk) (hr : Mem.ro [some ⟨flatP l, false, 0⟩, some ⟨flatT ts, false, 0⟩, some ⟨flatN ph, false, 0⟩, some ⟨flatN cs, false, 0⟩, o4])
  (hT : ∀ (m : Mem) (A B : Blk) (a1 : m.at 0 = some A) (a2 : A.cells = flatP l) (b1 : m.at 1 = some B) (b2 : B.cells = flatT ts) (e4 : m.at 4 = o4) (a3 : A.obj = Ob.plain) (b3 : B.obj = Ob.plain) (a4 : A.esz = 0) (b4 : B.esz = 0), PCalls Tryz.prog 18 [.agg #[.slice (some ⟨0, 0, none⟩) l.length INF, .slice (some ⟨1, 0, none⟩) ts.length INF], u] m (.int .i64 E0)) :
  PCalls Tryz.prog 46 [.agg #[.slice (some ⟨0, 0, none⟩) l.length INF, .slice (some ⟨1, 0, none⟩) ts.length INF, .slice (some ⟨2, 0, none⟩) ph.length INF, .slice (some ⟨3, 0, none⟩) cs.length INF], u] [some ⟨flatP l, false, 0⟩, some ⟨flatT ts, false, 0⟩, some ⟨flatN ph, false, 0⟩, some ⟨flatN cs, false, 0⟩, o4] (.tuple #[.int .i64 0, .int .i64 E0]) := by
 refine PCalls.en 26 Tryz.func46 rfl (hr) rfl (fun E => ?_)
 repeat' (first | with_reducible (first | refine Then.n ?_ | refine Then.r ?_) | ((with_reducible refine AL.on ?_); first | ((first | refine AL.as ?_ | refine AL.mv ?_ | ((with_reducible refine AL.k_fieldAddr ?_); refine AL.g (OQ.fieldA (ty := 67) (i := 0) (n := 2) (off := 0) (g := true) rfl kr (by decide)) ?_) | ((with_reducible refine AL.k_load ?_); refine AL.g (OQ.loadN (ty := 25) (n := 2) rfl kr kr rfl) ?_) | ((with_reducible refine AL.k_binOp ?_); refine AL.g (OQ.neq rfl rfl) ?_)); refine AL.nm ?_) | ((refine AL.pcall (g := 18) rfl kr rfl ((by exact hT _ _ _ rfl rfl rfl rfl rfl rfl rfl rfl rfl)) ?_); refine AL.nm ?_) | ((refine AL.bx ?_); refine AL.nm ?_; refine AL.nM ?_) | refine AL.nil ?_) | ((with_reducible refine AW.on ?_); first | refine AW.seq ?_ | refine AW.ret ?_ | refine AW.region ?_ | (refine AW.conds rfl (fun hc => ?_) (fun hc => ?_) <;> (try replace hc := nc hc) <;> first | (exfalso; contradiction) | skip)) | ((with_reducible refine FinP.on ?_); (refine FinP.ret (.tmp wl (.tmp wl .nil)) ?_ rfl); (try simp only [pack, List.drop, List.take]); all_goals (rfl)))
theorem rCheckTurns_y (l : List Pn) (ts : List T3) (ph cs xs : List Int) (hT : TaskR l ts ph cs) (htu : tuR ts xs = 0) :
  PCalls Tryz.prog 46 [.agg #[.slice (some ⟨0, 0, none⟩) l.length INF, .slice (some ⟨1, 0, none⟩) ts.length INF, .slice (some ⟨2, 0, none⟩) ph.length INF, .slice (some ⟨3, 0, none⟩) cs.length INF], .slice (some ⟨4, 0, none⟩) xs.length INF] [some ⟨flatP l, false, 0⟩, some ⟨flatT ts, false, 0⟩, some ⟨flatN ph, false, 0⟩, some ⟨flatN cs, false, 0⟩, some ⟨flatN xs, false, 0⟩] (.tuple #[.int .i64 (ctI ts ph cs xs), .int .i64 (tuE ts ph xs)]) := by
 obtain ⟨hxl, hxa⟩ := tuR_0 htu
 have hxb := anyR_no hxa
 have hcl := hT.len
 have hcb := anyR_no hT.rng
 have hle := edL_le ts
 have h80 := hT.net.le
 have hpos := edL_pos hT.net
 have hTE := fun (m : Mem) (A B X : Blk) (a1 : m.at 0 = some A) (a2 : A.cells = flatP l) (b1 : m.at 1 = some B) (b2 : B.cells = flatT ts) (x1 : m.at 4 = some X) (x2 : X.cells = flatN xs) (x3 : X.obj = Ob.plain) (a3 : A.obj = Ob.plain) (b3 : B.obj = Ob.plain) (a4 : A.esz = 0) (b4 : B.esz = 0) => rTurnsErr_q (m := m) (i := 4) hT.net INF INF (.blk X (by omega) rfl x1 x2 x3) (by omega) (by decide) a1 a2 b1 b2 a3 b3 a4 b4
 rw [htu] at hTE
 have hK := fun (m : Mem) (A B F X : Blk) (a1 : m.at 0 = some A) (a2 : A.cells = flatP l) (b1 : m.at 1 = some B) (b2 : B.cells = flatT ts) (f1 : m.at 2 = some F) (f2 : F.cells = flatN ph) (x1 : m.at 4 = some X) (x2 : X.cells = flatN xs) (a3 : A.obj = Ob.plain) (b3 : B.obj = Ob.plain) (f3 : F.obj = Ob.plain) (x3 : X.obj = Ob.plain) (a4 : A.esz = 0) (b4 : B.esz = 0) => rClosed_q (m := m) l ts hT.net ph xs hT.ph htu INF INF INF INF a1 a2 b1 b2 f1 f2 rfl x1 x2 rfl a3 b3 f3 x3 a4 b4
 have hCo := fun (m : Mem) (C X : Blk) (c1 : m.at 3 = some C) (c2 : C.cells = flatN cs) (x1 : m.at 4 = some X) (x2 : X.cells = flatN xs) (c3 : C.obj = Ob.plain) (x3 : X.obj = Ob.plain) => rCostOf_q (m := m) (c := INF) (c2 := INF) cs xs (by omega) (fun k hk => ⟨hcb k (by omega), hxb k hk⟩) (by omega) c1 c2 rfl x1 x2 rfl c3 x3
 have c21 := ct_21 (ts := ts) (ph := ph) (cs := cs) (xs := xs) htu
 have c0 := ct_0 (ts := ts) (ph := ph) (cs := cs) (xs := xs) htu
 have hfb := fstN_bd (tuT ts ph xs) ts.length
 rw [← hxl] at c0
 generalize fstN (tuT ts ph xs) ts.length = FS at *
 generalize ctI ts ph cs xs = CI at *
 generalize tuE ts ph xs = TE at *
 refine PCalls.en 26 Tryz.func46 rfl (ro5p _ _ _ _ _ rfl rfl rfl rfl rfl) rfl (fun E => ?_)
 repeat' (first | with_reducible (first | refine Then.n ?_ | refine Then.r ?_) | ((with_reducible refine AL.on ?_); first | ((first | refine AL.as ?_ | refine AL.mv ?_ | ((with_reducible refine AL.k_fieldAddr ?_); first | refine AL.g (OQ.fieldA (ty := 67) (i := 0) (n := 2) (off := 0) (g := true) rfl kr (by decide)) ?_ | refine AL.g (OQ.fieldA (ty := 67) (i := 1) (n := 1) (off := 2) (g := false) rfl kr (by decide)) ?_ | refine AL.g (OQ.fieldA (ty := 67) (i := 2) (n := 1) (off := 3) (g := false) rfl kr (by decide)) ?_) | ((with_reducible refine AL.k_load ?_); first | refine AL.g (OQ.loadN (ty := 25) (n := 2) rfl kr kr rfl) ?_ | (refine AL.g (OQ.load1 (ty := 26) rfl kr wl) ?_)) | ((with_reducible refine AL.k_binOp ?_); first | refine AL.g (OQ.neq rfl rfl) ?_ | refine AL.g (OQ.geq rfl rfl) ?_)); refine AL.nm ?_) | ((first | refine AL.pcall (g := 18) rfl kr rfl ((by exact hTE _ _ _ _ rfl rfl rfl rfl rfl rfl rfl rfl rfl rfl rfl)) ?_ | refine AL.pcall (g := 19) rfl kr rfl ((by exact hK _ _ _ _ _ rfl rfl rfl rfl rfl rfl rfl rfl rfl rfl rfl rfl rfl rfl)) ?_ | refine AL.pcall (g := 92) rfl kr rfl ((by exact hCo _ _ _ rfl rfl rfl rfl rfl rfl)) ?_); refine AL.nm ?_) | ((refine AL.bx ?_); refine AL.nm ?_; refine AL.nM ?_) | refine AL.nil ?_) | ((with_reducible refine AW.on ?_); first | refine AW.seq ?_ | refine AW.skip ?_ | refine AW.ret ?_ | refine AW.region ?_ | (refine AW.conds rfl (fun hc => ?_) (fun hc => ?_) <;> (try replace hc := nc hc) <;> first | (exfalso; contradiction) | skip)) | ((with_reducible refine FinP.on ?_); (refine FinP.ret (.tmp wl (.tmp wl .nil)) ?_ rfl); (try simp only [pack, List.drop, List.take]); all_goals (first | (have hq := c21 (by omega); rw [hq.1, hq.2]; done) | (have hq := c0 (by omega); rw [hq.1, hq.2]))))
theorem rCheckPot_y (l : List Pn) (ts : List T3) (ph cs ps : List Int) (hT : TaskR l ts ph cs) (hpl : ps.length = ts.length) :
  PCalls Tryz.prog 47 [.agg #[.slice (some ⟨0, 0, none⟩) l.length INF, .slice (some ⟨1, 0, none⟩) ts.length INF, .slice (some ⟨2, 0, none⟩) ph.length INF, .slice (some ⟨3, 0, none⟩) cs.length INF], .slice (some ⟨4, 0, none⟩) ps.length INF] [some ⟨flatP l, false, 0⟩, some ⟨flatT ts, false, 0⟩, some ⟨flatN ph, false, 0⟩, some ⟨flatN cs, false, 0⟩, some ⟨flatN ps, false, 0⟩] (.tuple #[.int .i64 (cpI ts ph cs ps), .int .i64 (poE ts cs ps)]) := by
 have hcl := hT.len
 have hle := edL_le ts
 have h80 := hT.net.le
 have hkl := clL_len ts ph
 have hrS := fun (m : Mem) (A B : Blk) (a1 : m.at 0 = some A) (a2 : A.cells = flatP l) (b1 : m.at 1 = some B) (b2 : B.cells = flatT ts) (a3 : A.obj = Ob.plain) (b3 : B.obj = Ob.plain) (a4 : A.esz = 0) (b4 : B.esz = 0) => rSides_q l ts hT.net INF INF (by decide) a1 a2 b1 b2 a3 b3 a4 b4
 have hrK := fun (m : Mem) (A B X : Blk) (a1 : m.at 0 = some A) (a2 : A.cells = flatP l) (b1 : m.at 1 = some B) (b2 : B.cells = flatT ts) (x1 : m.at 2 = some X) (x2 : X.cells = flatN ph) (a3 : A.obj = Ob.plain) (b3 : B.obj = Ob.plain) (x3 : X.obj = Ob.plain) (a4 : A.esz = 0) (b4 : B.esz = 0) => rClosures_q l ts hT.net ph hT.ph INF INF INF (by decide) a1 a2 b1 b2 x1 x2 rfl a3 b3 x3 a4 b4
 have hw := fun (n : Int) (m : Mem) => rWithin_q n (-1000000) 1000000 m
 have hat := fun (m : Mem) (i : Int) (h0 : -1 ≤ i) (hi : i < ts.length) (X : Blk) (x1 : m.at 4 = some X) (x2 : X.cells = flatN ps) (x3 : X.obj = Ob.plain) => rat_q (c := INF) ps i h0 (by omega) (by omega) x1 x2 hpl x3
 have hsz := fun (n : Int) (hn : -2000000 ≤ n ∧ n ≤ 2000000) (m : Mem) => rSize_q n (by omega) m
 have hsr : ∀ k, k < (edL ts).length → (-1 ≤ (pt (sdL ts) k).x ∧ (pt (sdL ts) k).x < ts.length) ∧ (-1 ≤ (pt (sdL ts) k).y ∧ (pt (sdL ts) k).y < ts.length) := fun k hk => by
  rw [sdL_pt hk]
  exact sdP_rng ts _
 have hps : ∀ k, k < (edL ts).length → (flatP (sdL ts))[k * 2]? = some (.int .i64 (pt (sdL ts) k).x) ∧ (flatP (sdL ts))[k * 2 + 1]? = some (.int .i64 (pt (sdL ts) k).y) := fun k hk => flatP_get (sdL ts) k (by rw [sdL_len]; exact hk)
 have hgC : ∀ k, k < (edL ts).length → (flatN cs)[k]? = some (.int .i64 (nt cs k)) := fun k hk => flatN_get _ k (by omega)
 have hgP : ∀ k, k < ts.length → (flatN ps)[k]? = some (.int .i64 (nt ps k)) := fun k hk => flatN_get _ k (by omega)
 have hgK : ∀ k, k < ts.length → (flatN (clL ts ph))[k]? = some (.int .i64 (nt (clL ts ph) k)) := fun k hk => flatN_get _ k (by omega)
 have v0 : poE ts cs ps ≠ 0 → cpI ts ph cs ps = 0 := fun h => if_pos h
 have vb : poE ts cs ps = 0 → cpI ts ph cs ps = bnK (clL ts ph) ps ts.length := fun h => if_neg fun h2 => h2 h
 have e2 : ∀ k, k < ts.length → rgB (nt ps k) (-1000000) 1000000 = false → poE ts cs ps = 2 := fun k hk h => poE_2 hpl (anyR_at (by omega) h)
 have hall : (∀ k, k < ts.length → rgB (nt ps k) (-1000000) 1000000 = true) → ps.any (fun x => !rgB x (-1000000) 1000000) = false := fun h => anyR_all fun k hk => h k (by omega)
 have e22 : (∀ k, k < ts.length → rgB (nt ps k) (-1000000) 1000000 = true) → ∀ k, k < (edL ts).length → (∀ j, j < k → prF ts cs ps j = 0) → prF ts cs ps k ≠ 0 → poE ts cs ps = 22 := fun h k hk hj he => poE_22 hpl (hall h) hk hj he
 have e0 : (∀ k, k < ts.length → rgB (nt ps k) (-1000000) 1000000 = true) → (∀ j, j < (edL ts).length → prF ts cs ps j = 0) → poE ts cs ps = 0 := fun h hj => poE_0 hpl (hall h) hj
 have hpbd : (∀ k, k < ts.length → rgB (nt ps k) (-1000000) 1000000 = true) → ∀ i : Int, -1 ≤ i → i < ts.length → -1000000 ≤ po ps i ∧ po ps i ≤ 1000000 := fun h i h0 hi => po_bd (anyR_no (hall h)) h0 (by omega)
 have hbb : (∀ k, k < ts.length → rgB (nt ps k) (-1000000) 1000000 = true) → ∀ k, k < ts.length → (-(1000000000 * (k : Int)) ≤ bnK (clL ts ph) ps k ∧ bnK (clL ts ph) ps k ≤ 1000000000 * (k : Int)) ∧ (-1000000000 ≤ nt (clL ts ph) k * nt ps k ∧ nt (clL ts ph) k * nt ps k ≤ 1000000000) := fun h k hk => ⟨bnK_bd hT.net ph (anyR_no (hall h)) hpl k (by omega), bn_mul hT.net ph (anyR_no (hall h)) hpl hk⟩
 have hs : ∀ k, bnK (clL ts ph) ps (k + 1) = bnK (clL ts ph) ps k - nt (clL ts ph) k * nt ps k := fun k => rfl
 have h0 : bnK (clL ts ph) ps 0 = 0 := rfl
 have hp1 : ∀ k, (if -(po ps (pt (sdL ts) k).x - po ps (pt (sdL ts) k).y) > po ps (pt (sdL ts) k).x - po ps (pt (sdL ts) k).y then -(po ps (pt (sdL ts) k).x - po ps (pt (sdL ts) k).y) else po ps (pt (sdL ts) k).x - po ps (pt (sdL ts) k).y) > nt cs k → prF ts cs ps k ≠ 0 := fun k h => by
  unfold prF abI
  rw [if_pos h]
  decide
 have hp0 : ∀ k, (if -(po ps (pt (sdL ts) k).x - po ps (pt (sdL ts) k).y) > po ps (pt (sdL ts) k).x - po ps (pt (sdL ts) k).y then -(po ps (pt (sdL ts) k).x - po ps (pt (sdL ts) k).y) else po ps (pt (sdL ts) k).x - po ps (pt (sdL ts) k).y) ≤ nt cs k → prF ts cs ps k = 0 := fun k h => by
  unfold prF abI
  rw [if_neg (Int.not_lt.2 h)]
 clear hall
 rw [hpl]
 generalize cpI ts ph cs ps = IV at *
 generalize poE ts cs ps = EV at *
 generalize prF ts cs ps = PF at *
 generalize bnK (clL ts ph) ps = BK at *
 generalize clL ts ph = CL at *
 generalize po ps = PO at *
 refine PCalls.enJ 83 Tryz.func47 rfl (ro5p _ _ _ _ _ rfl rfl rfl rfl rfl) rfl (fun E hE => ?_)
 repeat' (first | with_reducible (first | refine Then.n ?_ | refine Then.r ?_ | refine Then.x ?_ | refine InB.n ?_ | refine InB.r ?_ | refine InB.hit ?_) | ((with_reducible refine AL.on ?_); first | ((first | refine AL.mv ?_ | refine AL.as ?_ | ((with_reducible refine AL.k_call ?_); first | refine AL.g (OQ.lenS (xt := 26) (r := (none, 1, false)) rfl kr) ?_ | refine AL.g (OQ.lenS (xt := 23) (r := (none, 3, true)) rfl kr) ?_ | refine AL.g (OQ.lenS (xt := 45) (r := (none, 2, true)) rfl kr) ?_) | ((with_reducible refine AL.k_load ?_); first | (refine AL.g (OQ.load1 (ty := 23) rfl kr (by (conv => lhs; whnf))) ?_) | (refine AL.g (OQ.load1 (ty := 3) rfl kr (by first | (exact hgP k (by omega)) | (conv => lhs; whnf))) ?_) | refine AL.g (OQ.loadN (ty := 25) (n := 2) rfl kr kr (by rfl)) ?_ | (refine AL.g (OQ.load1 (ty := 26) rfl kr (by (conv => lhs; whnf))) ?_)) | ((with_reducible refine AL.k_binOp ?_); first | refine AL.g (OQ.neq rfl rfl) ?_ | refine AL.g (OQ.lss rfl rfl) ?_ | refine AL.g (OQ.addi rfl rfl (by omega)) ?_ | refine AL.g (OQ.gtr rfl rfl) ?_ | refine AL.g (OQ.subi rfl rfl (by omega)) ?_) | ((with_reducible refine AL.k_unOp ?_); refine AL.g (OQ.not rfl) ?_)); refine AL.nm ?_) | ((first | ((with_reducible refine AL.k_call ?_); refine AL.pcall (g := 69) rfl kr rfl (hw _ _) ?_) | ((with_reducible refine AL.k_indexAddr ?_); refine AL.g (OQ.idxAddr (ty := 26) (z := 1) (g := false) rfl rfl kr (by omega) (by omega)) ?_) | ((with_reducible refine AL.k_fieldAddr ?_); first | refine AL.g (OQ.fieldA (ty := 67) (i := 0) (n := 2) (off := 0) (g := true) rfl kr (by decide)) ?_ | refine AL.g (OQ.fieldA (ty := 25) (i := 1) (n := 1) (off := 1) (g := false) rfl kr (by decide)) ?_ | refine AL.g (OQ.fieldA (ty := 67) (i := 1) (n := 1) (off := 2) (g := false) rfl kr (by decide)) ?_)); refine AL.nm ?_) | ((first | ((with_reducible refine AL.k_call ?_); first | refine AL.acall (g := 32) rfl kr rfl ((by exact hrS _ _ _ rfl rfl rfl rfl rfl rfl rfl rfl)) ?_ | refine AL.acall (g := 34) rfl kr rfl ((by exact hrK _ _ _ _ rfl rfl rfl rfl rfl rfl rfl rfl rfl rfl rfl)) ?_) | refine AL.bx ?_); refine AL.nm ?_; refine AL.nM ?_) | refine AL.nil ?_) | ((with_reducible refine AW.on ?_); first | refine AW.seq ?_ | refine AW.skip ?_ | refine AW.exit ?_ | refine AW.ret ?_ | ((refine AW.block (id := 0) ?_); (refine AW.fk [1, 2, 6] ?_); (refine AW.loop (fun n' t' m => ∃ k : Nat, n' = ts.length - k ∧ k ≤ ts.length ∧ (∀ i, i < k → rgB (nt ps i) (-1000000) 1000000 = true) ∧ t' = (mtz 85 0 [(1, .slice (some ⟨4, 0, none⟩) ts.length INF), (2, .pointer (some ⟨5, 0, none⟩)), (6, .int .i64 (k))]) ∧ m = [some ⟨flatP l, false, 0⟩, some ⟨flatT ts, false, 0⟩, some ⟨flatN ph, false, 0⟩, some ⟨flatN cs, false, 0⟩, some ⟨flatN ps, false, 0⟩, some ⟨[.slice (some ⟨0, 0, none⟩) l.length INF, .slice (some ⟨1, 0, none⟩) ts.length INF, .slice (some ⟨2, 0, none⟩) ph.length INF, .slice (some ⟨3, 0, none⟩) cs.length INF], true, 0⟩]) (ts.length) (by exact ⟨0, rfl, Nat.zero_le _, fun j h => absurd h (by omega), rfl, rfl⟩) ?_); (rintro n' t' m ⟨k, rfl, hk, hrg, rfl, rfl⟩); (refine AW.nT ?_)) | ((refine AW.block (id := 2) ?_); (refine AW.fk [1, 2, 7, 8] ?_); (refine AW.loop (fun n' t' m => ∃ j : Nat, n' = (edL ts).length - j ∧ j ≤ (edL ts).length ∧ (∀ i, i < j → PF i = 0) ∧ t' = (mtz 85 0 [(1, .slice (some ⟨4, 0, none⟩) ts.length INF), (2, .pointer (some ⟨5, 0, none⟩)), (7, .slice (some ⟨6, 0, none⟩) ((edL ts).length) INF), (8, .int .i64 (j))]) ∧ m = [some ⟨flatP l, false, 0⟩, some ⟨flatT ts, false, 0⟩, some ⟨flatN ph, false, 0⟩, some ⟨flatN cs, false, 0⟩, some ⟨flatN ps, false, 0⟩, some ⟨[.slice (some ⟨0, 0, none⟩) l.length INF, .slice (some ⟨1, 0, none⟩) ts.length INF, .slice (some ⟨2, 0, none⟩) ph.length INF, .slice (some ⟨3, 0, none⟩) cs.length INF], true, 0⟩, some ⟨flatP (sdL ts), true, 2⟩]) ((edL ts).length) (by exact ⟨0, rfl, Nat.zero_le _, fun j h => absurd h (by omega), rfl, rfl⟩) ?_); (rintro n' t' m ⟨j, rfl, hj, hpf, rfl, rfl⟩); (refine AW.nT ?_)) | ((refine AW.block (id := 4) ?_); (refine AW.fk [1, 9, 10, 11] ?_); (refine AW.loop (fun n' t' m => ∃ i : Nat, n' = ts.length - i ∧ i ≤ ts.length ∧ t' = (mtz 85 0 [(1, .slice (some ⟨4, 0, none⟩) ts.length INF), (9, .slice (some ⟨7, 0, none⟩) (ts.length) INF), (10, .int .i64 (BK i)), (11, .int .i64 (i))]) ∧ m = [some ⟨flatP l, false, 0⟩, some ⟨flatT ts, false, 0⟩, some ⟨flatN ph, false, 0⟩, some ⟨flatN cs, false, 0⟩, some ⟨flatN ps, false, 0⟩, some ⟨[.slice (some ⟨0, 0, none⟩) l.length INF, .slice (some ⟨1, 0, none⟩) ts.length INF, .slice (some ⟨2, 0, none⟩) ph.length INF, .slice (some ⟨3, 0, none⟩) cs.length INF], true, 0⟩, some ⟨flatP (sdL ts), true, 2⟩, some ⟨flatN CL, true, 1⟩]) (ts.length) (by exact ⟨0, rfl, Nat.zero_le _, by rw [h0]; rfl, rfl⟩) ?_); (rintro n' t' m ⟨i, rfl, hi, rfl, rfl⟩); (refine AW.nT ?_)) | refine AW.block ?_ | (refine AW.drawF (id := 12) 21 #[0, 0, 0, 6, 14, 30, 63, 0, 0, 0, 768, 1792, 3840, 8191, 16383, 32767, 0, 65536, 0, 458752, 983040, 2097151] kr kr ?_; (conv => (arg 8; simp only [List.take_succ_cons, List.take_zero])); ((have hq1 := hsr j (by omega); have hq2 := hpbd hrg (pt (sdL ts) j).x (by omega) (by omega); have hq3 := hpbd hrg (pt (sdL ts) j).y (by omega) (by omega)))) | (refine AW.drawF (id := 19) 10 #[0, 0, 0, 6, 14, 0, 0, 96, 224, 510, 1023, 2047] kr kr ?_; (conv => (arg 8; simp only [List.take_succ_cons, List.take_zero])); ((have hq1 := hbb hrg i (by omega); have hq2 := hs i))) | (refine AW.region (id := 8) ?_; ((obtain rfl : k = ts.length := (by omega)))) | (refine AW.region (id := 14) ?_; ((obtain rfl : j = (edL ts).length := (by omega); have hev := e0 hrg hpf))) | refine AW.region ?_ | (refine AW.conds rfl (fun hc => ?_) (fun hc => ?_) <;> (try replace hc := nc hc) <;> first | (exfalso; contradiction) | skip)) | ((with_reducible refine AF.on ?_); first | ((first | ((with_reducible refine AF.k_move ?_); (refine AF.q 0 (SW.q (OQ.move wl) rfl) ?_)) | ((with_reducible refine AF.k_load ?_); first | (refine AF.ql rfl (SW.q (OQ.load1 (ty := 3) rfl kr (by first | (first | exact (hps j (by omega)).1 | exact (hps j (by omega)).2 | exact hgC j (by omega) | exact hgK i (by omega) | exact hgP i (by omega)) | (conv => lhs; whnf))) rfl) ?_) | (refine AF.ql rfl (SW.q (OQ.load1 (ty := 26) rfl kr (by (conv => lhs; whnf))) rfl) ?_)) | ((with_reducible refine AF.k_binOp ?_); first | refine AF.q 0 (SW.q (OQ.subi rfl rfl (by omega)) rfl) ?_ | refine AF.q 0 (SW.q (OQ.muli rfl rfl (by omega)) rfl) ?_) | ((with_reducible refine AF.k_call ?_); first | refine AF.q 2 (SW.pcall (g := 94) rfl kr rfl ((by exact hat _ _ (by omega) (by omega) _ rfl rfl rfl)) rfl) ?_ | refine AF.q 2 (SW.pcall (g := 93) rfl kr rfl ((by exact hsz _ (by omega) _)) rfl) ?_) | ((with_reducible refine AF.k_indexAddr ?_); first | refine AF.q 0 (SW.q (OQ.idxAddr (ty := 45) (z := 2) (g := true) rfl rfl kr (by omega) (by omega)) rfl) ?_ | refine AF.q 0 (SW.q (OQ.idxPtr (ty := 52) (n := 1) (l := 2) (g := false) rfl rfl kr (by omega) (by omega)) rfl) ?_ | refine AF.q 0 (SW.q (OQ.idxAddr (ty := 26) (z := 1) (g := false) rfl rfl kr (by omega) (by omega)) rfl) ?_) | ((with_reducible refine AF.k_fieldAddr ?_); refine AF.q 0 (SW.q (OQ.fieldA (ty := 67) (i := 2) (n := 1) (off := 3) (g := false) rfl kr (by decide)) rfl) ?_)); refine AF.nm ?_) | refine AF.nl ?_) | ((with_reducible refine ex_on ?_); first | ((refine ⟨ts.length - (k + 1), _, _, by omega, ?_, k + 1, rfl, by omega, fun i h => (by rcases Nat.lt_or_eq_of_le (Nat.le_of_lt_succ h) with h | rfl; (exact hrg i h); assumption), rfl, rfl⟩; exact Wk.fk [1, 2, 6] rfl)) | ((have hb := hp0 j (by assumption); refine ⟨(edL ts).length - (j + 1), _, _, by omega, ?_, j + 1, rfl, by omega, fun i h => (by rcases Nat.lt_or_eq_of_le (Nat.le_of_lt_succ h) with h | rfl; (exact hpf i h); exact hb), rfl, rfl⟩; exact Wk.fk [1, 2, 7, 8] rfl)) | ((have hs2 := hs i; refine ⟨ts.length - (i + 1), _, _, by omega, ?_, i + 1, rfl, by omega, by rw [hs2], rfl⟩; exact Wk.fk [1, 9, 10, 11] rfl))) | ((with_reducible refine FinJ.on ?_); first | (have hq := e2 k (by omega) (by assumption); rw [v0 (by rw [hq]; decide), hq]; (exact FinJ.ret (.tmp wl (.tmp wl .nil)) (jle_flat rfl))) | (have hq := e22 hrg j (by omega) hpf (hp1 j (by assumption)); rw [v0 (by rw [hq]; decide), hq]; (exact FinJ.ret (.tmp wl (.tmp wl .nil)) (jle_flat rfl))) | (obtain rfl : i = ts.length := (by omega); rw [vb hev, hev]; (exact FinJ.ret (.tmp wl (.tmp wl .nil)) (jle_flat rfl)))))
end Go.Proofs.YtmohcmghbfhdlaaGreat
end
end
