/- Chapter 6: phases as the reference wraps and checks them; copies of numbers. -/
import Derived.Test.YtmohcmghbfhdlaaGreatQd
import Derived.Test.YtmohcmghbfhdlaaGreatQw
import Derived.Test.YtmohcmghbfhdlaaGreatQo
import Derived.Test.YtmohcmghbfhdlaaGreatQu
import Derived.Test.YtmohcmghbfhdlaaGreatQv
import Derived.Test.YtmohcmghbfhdlaaGreatQi
section
set_option linter.unusedSimpArgs false
set_option linter.unusedVariables false
section
namespace Go.Me
open Go.Ab Go.Proofs.YtmohcmghbfhdlaaGreat
theorem tm_e (n : Int) : n.tmod 4096 = n % 4096 ∨ (n.tmod 4096 = n % 4096 - 4096 ∧ n < 0) := by
 have h1 := Int.tmod_eq_emod (a := n) (b := 4096)
 rw [h1]
 split
 ·exact .inl (by omega)
 ·rename_i h
  exact .inr (by omega)
theorem wrI_e (n : Int) : wrI n = (n + 2048) % 4096 - 2048 := by
 unfold wrI
 have h1 := tm_e (n + 2048)
 have h2 := tm_e ((n + 2048).tmod 4096 + 4096)
 omega
theorem wrI_id (n : Int) : wrI n = n ↔ -2048 ≤ n ∧ n ≤ 2047 := by
 rw [wrI_e]
 omega
theorem ldN {m : Mem} {b n : Nat} {blk : Blk} {xs : List Int} (hb : m.at b = some blk) (hc : blk.cells = flatN xs) (hn : xs.length = n) : m.ld b 0 (n * 1) = some (flatN xs) := by
 subst hn
 unfold Mem.ld
 rw [hb]
 show (if 0 + xs.length * 1 ≤ blk.cells.length then some ((blk.cells.drop 0).take (xs.length * 1)) else none) = _
 have := flatN_len xs
 rw [hc, if_pos (by omega), List.drop_zero, Nat.mul_one, ← flatN_len, List.take_length]
theorem flatN_one (xs : List Int) : (flatN xs).all Ab.one = true := Ls.one_of_scal (flatN_scal xs)
def neE (l : List Pn) (ts : List T3) (ph : List Int) : Int := if netE l ts ≠ 0 then netE l ts else phE l ph
theorem phE_10 {l : List Pn} {ph : List Int} (h : ph.length ≠ l.length) : phE l ph = 10 := if_pos h
theorem phE_2 {l : List Pn} {ph : List Int} (h : ph.length = l.length) {k : Nat} (hk : k < ph.length) (h2 : wrI (nt ph k) ≠ nt ph k) : phE l ph = 2 := by
 unfold phE
 rw [if_neg (fun h3 => h3 h), if_pos]
 rw [List.any_eq_true]
 refine ⟨nt ph k, ?_, ?_⟩
 ·unfold nt
  rw [List.getD_eq_getElem?_getD, List.getElem?_eq_getElem hk]
  exact List.getElem_mem hk
 ·have : rgB (nt ph k) (-2048) 2047 = false := decide_eq_false fun h3 => h2 ((wrI_id _).2 h3)
  rw [this]
  rfl
theorem phE_z {l : List Pn} {ph : List Int} (h : ph.length = l.length) (h2 : ∀ k, k < ph.length → wrI (nt ph k) = nt ph k) : phE l ph = 0 := by
 unfold phE
 rw [if_neg (fun h3 => h3 h), if_neg]
 intro h3
 rw [List.any_eq_true] at h3
 obtain ⟨x, hx, h4⟩ := h3
 obtain ⟨k, hk, rfl⟩ := List.getElem_of_mem hx
 have h5 := h2 k hk
 have e : nt ph k = ph[k] := by
  unfold nt
  rw [List.getD_eq_getElem?_getD, List.getElem?_eq_getElem hk]
  rfl
 rw [e, wrI_id] at h5
 have : rgB ph[k] (-2048) 2047 = true := decide_eq_true h5
 rw [this] at h4
 cases h4
end Go.Me
namespace Go.Proofs.YtmohcmghbfhdlaaGreat
open Go Go.RowKit Go.Ab Go.Me
set_option maxRecDepth 100000
set_option maxHeartbeats 4000000
attribute [local irreducible] OQ OW AL AW AF SW
theorem Mod_q (n b : Int) (hb : 0 < b ∧ b ≤ 9000000000000000000) (m : Mem) : PCalls Tryz.prog 22 [.int .i64 n, .int .i64 b] m (.int .i64 (n % b)) := by
 have h1 := Int.tmod_eq_emod (a := n) (b := b)
 have h2 := Int.emod_nonneg n (by omega : b ≠ 0)
 have h3 := Int.emod_lt_of_pos n hb.1
 have h4 : n.tmod b = n % b ∨ n.tmod b = n % b - b := by
  rw [h1]
  split
  ·exact .inl (by omega)
  ·exact .inr (by omega)
 refine PCalls.any ?_ rfl rfl m
 refine PCalls.en 12 Tryz.func22 rfl (ro_nil) rfl (fun E => ?_)
 repeat' (first | with_reducible (refine Then.n ?_) | ((with_reducible refine AL.on ?_); first | ((first | refine AL.mv ?_ | refine AL.as ?_ | ((with_reducible refine AL.k_binOp ?_); first | refine AL.g (OQ.rem rfl rfl (by omega)) ?_ | refine AL.g (OQ.lss rfl rfl) ?_ | refine AL.g (OQ.addi rfl rfl (by omega)) ?_)); refine AL.nm ?_) | refine AL.nil ?_) | ((with_reducible refine AW.on ?_); first | refine AW.seq ?_ | refine AW.skip ?_ | refine AW.ret ?_ | refine AW.region ?_ | (refine AW.conds rfl (fun hc => ?_) (fun hc => ?_) <;> (try replace hc := nc hc) <;> skip)) | ((with_reducible refine FinP.on ?_); (refine FinP.ret (.tmp wl .nil) ?_ rfl); (try simp only [pack, List.drop, List.take]); all_goals (congr 1; omega)))
theorem Wrap_q (n : Int) (m : Mem) : PCalls Tryz.prog 23 [.int .i64 n] m (.int .i64 (wrI n)) := by
 refine PCalls.any ?_ rfl rfl m
 have hm := fun (x : Int) (m : Mem) => Mod_q x 4096 (by decide) m
 have e : wrI n = (n % 4096 + 2048) % 4096 - 2048 := by
  rw [wrI_e]
  omega
 rw [e]
 refine PCalls.en 7 Tryz.func23 rfl (ro_nil) rfl (fun E => ?_)
 repeat' (first | with_reducible (refine Then.n ?_) | ((with_reducible refine AL.on ?_); first | ((first | refine AL.as ?_ | ((with_reducible refine AL.k_binOp ?_); first | refine AL.g (OQ.addi rfl rfl (by omega)) ?_ | refine AL.g (OQ.subi rfl rfl (by omega)) ?_) | refine AL.mv ?_); refine AL.nm ?_) | ((refine AL.pcall (g := 22) rfl kr rfl (hm _ _) ?_); refine AL.nm ?_) | refine AL.nil ?_) | ((with_reducible refine AW.on ?_); first | refine AW.seq ?_ | refine AW.ret ?_ | refine AW.region ?_) | ((with_reducible refine FinP.on ?_); (refine FinP.ret (.tmp wl .nil) ?_ rfl); (try simp only [pack, List.drop, List.take]); all_goals (rfl)))
theorem CopyInts_b (xs : List Int) (c z : Nat) (hl : xs.length ≤ 1000000) (h0 : 0 < xs.length) : ACalls Tryz.prog 16 [.slice (some ⟨0, 0, none⟩) xs.length c] [some ⟨flatN xs, false, z⟩] (.slice (some ⟨1, 0, none⟩) xs.length INF) [some ⟨flatN xs, false, z⟩, some ⟨flatN xs, true, 1⟩] := by
 have hlen : 0 + xs.length = xs.length := Nat.zero_add _
 refine ACalls.en 5 Tryz.func16 rfl rfl (fun E hE => ?_)
 repeat' (first | with_reducible (refine Then.n ?_) | ((with_reducible refine AL.on ?_); first | ((first | refine AL.as ?_ | refine AL.mv ?_); refine AL.nm ?_) | ((first | ((with_reducible refine AL.k_buildSlice ?_); refine AL.w rfl (OW.buildSl0 (ty := 26) (z := (none, 1, false)) kr) ?_) | ((with_reducible refine AL.k_call ?_); refine AL.w rfl (OW.append (n := 0) (c := 0) (b := 1) (blk := ⟨[], true, 1⟩) (z := 1) (by' := 8) (zs := [.int .i64 0]) (e := 3) rfl rfl kr kr kr rfl kr (by omega) rfl rfl rfl (by decide) (Nat.le_refl _) (ldN rfl rfl rfl) (flatN_one _) (by omega) (by omega)) ?_)); refine AL.nm ?_; refine AL.nM ?_) | refine AL.nil ?_) | ((with_reducible refine AW.on ?_); first | refine AW.seq ?_ | refine AW.ret ?_ | refine AW.region ?_) | ((with_reducible refine FinA.on ?_); (rw [← hlen]; refine FinA.keep 1 [2] (.inl rfl) (.tmp wl .nil) ?_ rfl (Nat.le_of_eq hE) rfl rfl ⟨kl rfl (flatN_scal _), kl rfl (flatN_scal _), trivial⟩; rfl)))
theorem CopyInts_e (xa : Option Addr) : ACalls Tryz.prog 16 [.slice xa 0 0] [] (.slice (some ⟨0, 0, none⟩) 0 0) [some ⟨flatN [], true, 1⟩] := by
 refine ACalls.en 5 Tryz.func16 rfl rfl (fun E hE => ?_)
 repeat' (first | with_reducible (refine Then.n ?_) | ((with_reducible refine AL.on ?_); first | ((first | refine AL.as ?_ | refine AL.mv ?_); refine AL.nm ?_) | ((first | ((with_reducible refine AL.k_buildSlice ?_); refine AL.w rfl (OW.buildSl0 (ty := 26) (z := (none, 1, false)) kr) ?_) | ((with_reducible refine AL.k_call ?_); refine AL.q rfl (by exact OQ.append0 (v := undef) (e := 3) (z := 1) rfl rfl kr kr) ?_)); refine AL.nm ?_; refine AL.nM ?_) | refine AL.nil ?_) | ((with_reducible refine AW.on ?_); first | refine AW.seq ?_ | refine AW.ret ?_ | refine AW.region ?_) | ((with_reducible refine FinA.on ?_); (refine FinA.keep 0 [0] (.inl rfl) (.tmp wl .nil) ?_ rfl (Nat.le_of_eq hE) rfl rfl ⟨kl rfl rfl, trivial⟩; rfl)))
theorem CopyInts_g {m : Mem} {i : Nat} {v : Value} {xs : List Int} (h : SlV m i v (flatN xs) xs.length) (hl : xs.length ≤ 1000000) : ACalls Tryz.prog 16 [v] m (.slice (some ⟨m.length, 0, none⟩) xs.length (cpC xs.length)) (m ++ [some ⟨flatN xs, true, 1⟩]) := by
 rcases h with ⟨A, a0, rfl, a1, a2, a3⟩ | ⟨a1, rfl⟩ | ⟨a1, rfl⟩
 ·rw [show cpC xs.length = INF from if_neg (by omega)]
  exact ACalls.viaS (v := .slice (some ⟨m.length, 0, none⟩) xs.length INF) [i] [] [some ⟨flatN xs, true, 1⟩] (CopyInts_b xs INF A.esz hl a0) ⟨bS a1 a3 a2 (flatN_scal _), trivial⟩ (by simp) ⟨⟨_, rfl, rfl⟩, ⟨rfl, rfl, rfl, .inl ⟨rfl, flatN_scal _⟩⟩, trivial⟩ rfl rfl rfl rfl
 ·obtain rfl := List.eq_nil_of_length_eq_zero a1
  exact ACalls.viaS (v := .slice (some ⟨m.length, 0, none⟩) 0 0) [] [] [some ⟨flatN [], true, 1⟩] (CopyInts_e none) trivial (by simp) ⟨⟨rfl, rfl, rfl, .inl ⟨rfl, flatN_scal _⟩⟩, trivial⟩ rfl rfl rfl rfl
 ·obtain rfl := List.eq_nil_of_length_eq_zero a1
  exact ACalls.viaS (v := .slice (some ⟨m.length, 0, none⟩) 0 0) [] [] [some ⟨flatN [], true, 1⟩] (CopyInts_e (some ⟨5, 0, some default⟩)) trivial (by simp) ⟨⟨rfl, rfl, rfl, .inl ⟨rfl, flatN_scal _⟩⟩, trivial⟩ rfl rfl rfl rfl
theorem PhasesErr_e (w : Value) (l : List Pn) (h0 : 0 < l.length) (c : Nat) (xa : Option Addr) (o1 o2 : Option Blk) (hr : Mem.ro [o1, o2]) : PCalls Tryz.prog 68 [.agg #[.slice (some ⟨0, 0, none⟩) l.length c, w], .slice xa 0 0] [o1, o2] (.int .i64 10) := by
 refine PCalls.en 26 Tryz.func68 rfl (hr) rfl (fun E => ?_)
 repeat' (first | with_reducible (first | refine Then.n ?_ | refine Then.r ?_) | ((with_reducible refine AL.on ?_); first | ((first | refine AL.mv ?_ | refine AL.as ?_ | ((with_reducible refine AL.k_call ?_); first | refine AL.g (OQ.lenS (xt := 26) (r := (none, 1, false)) rfl kr) ?_ | refine AL.g (OQ.lenS (xt := 22) (r := (none, 2, true)) rfl kr) ?_) | ((with_reducible refine AL.k_binOp ?_); refine AL.g (OQ.neq rfl rfl) ?_) | ((with_reducible refine AL.k_load ?_); (refine AL.g (OQ.load1 (ty := 22) rfl kr wl) ?_)) | ((with_reducible refine AL.k_fieldAddr ?_); refine AL.g (OQ.fieldA (ty := 25) (i := 0) (n := 1) (off := 0) (g := false) rfl kr (by decide)) ?_)); refine AL.nm ?_) | ((refine AL.bx ?_); refine AL.nm ?_; refine AL.nM ?_) | refine AL.nil ?_) | ((with_reducible refine AW.on ?_); first | refine AW.seq ?_ | refine AW.ret ?_ | refine AW.region ?_ | (refine AW.conds rfl (fun hc => ?_) (fun hc => ?_) <;> (try replace hc := nc hc) <;> first | (exfalso; ((omega); done)) | skip)) | ((with_reducible refine FinP.on ?_); (refine FinP.ret (.tmp wl .nil) ?_ rfl); (try simp only [pack, List.drop, List.take]); all_goals (rfl)))
theorem PhasesErr_b (w : Value) (l : List Pn) (ph : List Int) (c c3 z : Nat) (hl : ph.length ≤ 1000000) (o1 o2 : Option Blk) (hr : Mem.ro [o1, o2, some ⟨flatN ph, false, z⟩]) : PCalls Tryz.prog 68 [.agg #[.slice (some ⟨0, 0, none⟩) l.length c, w], .slice (some ⟨2, 0, none⟩) ph.length c3] [o1, o2, some ⟨flatN ph, false, z⟩] (.int .i64 (phE l ph)) := by
 have hg := fun k (hk : k < ph.length) => flatN_get ph k hk
 have hw := fun (n : Int) (m : Mem) => Wrap_q n m
 have e1 := @phE_10 l ph
 have e2 := @phE_2 l ph
 have e3 := @phE_z l ph
 by_cases hne : ph.length ≠ l.length
 ·rw [e1 hne]
  refine PCalls.en 26 Tryz.func68 rfl (hr) rfl (fun E => ?_)
  repeat' (first | with_reducible (first | refine Then.n ?_ | refine Then.r ?_) | ((with_reducible refine AL.on ?_); first | ((first | refine AL.mv ?_ | refine AL.as ?_ | ((with_reducible refine AL.k_call ?_); first | refine AL.g (OQ.lenS (xt := 26) (r := (none, 1, false)) rfl kr) ?_ | refine AL.g (OQ.lenS (xt := 22) (r := (none, 2, true)) rfl kr) ?_) | ((with_reducible refine AL.k_binOp ?_); refine AL.g (OQ.neq rfl rfl) ?_) | ((with_reducible refine AL.k_load ?_); (refine AL.g (OQ.load1 (ty := 22) rfl kr wl) ?_)) | ((with_reducible refine AL.k_fieldAddr ?_); refine AL.g (OQ.fieldA (ty := 25) (i := 0) (n := 1) (off := 0) (g := false) rfl kr (by decide)) ?_)); refine AL.nm ?_) | ((refine AL.bx ?_); refine AL.nm ?_; refine AL.nM ?_) | refine AL.nil ?_) | ((with_reducible refine AW.on ?_); first | refine AW.seq ?_ | refine AW.ret ?_ | refine AW.region ?_ | (refine AW.conds rfl (fun hc => ?_) (fun hc => ?_) <;> (try replace hc := nc hc) <;> first | (exfalso; ((omega); done)) | skip)) | ((with_reducible refine FinP.on ?_); (refine FinP.ret (.tmp wl .nil) ?_ rfl); (try simp only [pack, List.drop, List.take]); all_goals (rfl)))
 ·have hne : ph.length = l.length := Classical.not_not.1 hne
  have e2 := fun k hk h2 => e2 (k := k) hne hk h2
  have e3 := fun h2 => e3 hne h2
  generalize phE l ph = E0 at *
  refine PCalls.en 26 Tryz.func68 rfl (hr) rfl (fun E => ?_)
  repeat' (first | with_reducible (first | refine Then.n ?_ | refine Then.r ?_ | refine Then.x ?_ | refine InB.n ?_ | refine InB.r ?_ | refine InB.hit ?_) | ((with_reducible refine AL.on ?_); first | ((first | refine AL.mv ?_ | refine AL.as ?_ | ((with_reducible refine AL.k_call ?_); first | refine AL.g (OQ.lenS (xt := 26) (r := (none, 1, false)) rfl kr) ?_ | refine AL.g (OQ.lenS (xt := 22) (r := (none, 2, true)) rfl kr) ?_) | ((with_reducible refine AL.k_binOp ?_); first | refine AL.g (OQ.neq rfl rfl) ?_ | refine AL.g (OQ.lss rfl rfl) ?_ | refine AL.g (OQ.addi rfl rfl (by omega)) ?_) | ((with_reducible refine AL.k_load ?_); (refine AL.g (OQ.load1 (ty := 22) rfl kr (by (conv => lhs; whnf))) ?_))); refine AL.nm ?_) | ((refine AL.g (OQ.fieldA (ty := 25) (i := 0) (n := 1) (off := 0) (g := false) rfl kr (by decide)) ?_); refine AL.nm ?_) | ((refine AL.bx ?_); refine AL.nm ?_; refine AL.nM ?_) | refine AL.nil ?_) | ((with_reducible refine AW.on ?_); first | refine AW.seq ?_ | refine AW.skip ?_ | refine AW.exit ?_ | refine AW.ret ?_ | ((refine AW.block (id := 0) ?_); (refine AW.fk [1, 5] ?_); (refine AW.loop (fun n' t' m => ∃ k : Nat, n' = ph.length - k ∧ k ≤ ph.length ∧ (∀ j, j < k → wrI (nt ph j) = nt ph j) ∧ t' = (mtz 28 0 [(1, .slice (some ⟨2, 0, none⟩) ph.length c3), (5, .int .i64 (k))]) ∧ m = [o1, o2, some ⟨flatN ph, false, z⟩, some ⟨[.slice (some ⟨0, 0, none⟩) l.length c, w], true, 0⟩]) (ph.length) (by exact ⟨0, rfl, Nat.zero_le _, fun j h => absurd h (by omega), rfl, rfl⟩) ?_); (rintro n' t' m ⟨k, rfl, hk, hj, rfl, rfl⟩); (refine AW.nT ?_)) | refine AW.block ?_ | (refine AW.drawF (id := 6) 9 #[0, 0, 3, 7, 15, 0, 0, 96, 224, 511] kr kr ?_; (conv => (arg 8; simp only [List.take_succ_cons, List.take_zero]))) | refine AW.region ?_ | (refine AW.conds rfl (fun hc => ?_) (fun hc => ?_) <;> (try replace hc := nc hc) <;> first | (exfalso; ((omega); done)) | skip)) | ((with_reducible refine AF.on ?_); first | ((first | ((with_reducible refine AF.k_move ?_); (refine AF.q 0 (SW.q (OQ.move wl) rfl) ?_)) | ((with_reducible refine AF.k_call ?_); refine AF.q 2 (SW.pcall (g := 23) rfl kr rfl (hw _ _) rfl) ?_) | ((with_reducible refine AF.k_load ?_); (refine AF.ql rfl (SW.q (OQ.load1 (ty := 3) rfl kr (by (exact hg k (by omega)))) rfl) ?_)) | ((with_reducible refine AF.k_indexAddr ?_); refine AF.q 0 (SW.q (OQ.idxAddr (ty := 26) (z := 1) (g := false) rfl rfl kr (by omega) (by omega)) rfl) ?_)); refine AF.nm ?_) | refine AF.nl ?_) | ((with_reducible refine ex_on ?_); (refine ⟨ph.length - (k + 1), _, _, by omega, ?_, k + 1, rfl, by omega, fun j h => (by rcases Nat.lt_or_eq_of_le (Nat.le_of_lt_succ h) with h | rfl; (exact hj j h); omega), rfl, rfl⟩; exact Wk.fk [1, 5] rfl)) | ((with_reducible refine FinP.on ?_); (refine FinP.ret (.tmp wl .nil) ?_ rfl); (try simp only [pack, List.drop, List.take]); all_goals (first | (rw [e2 k (by omega) (by omega)]; done) | (obtain rfl : k = ph.length := (by omega); rw [e3 hj]))))
end Go.Proofs.YtmohcmghbfhdlaaGreat
end
end
/- Chapter 6: the reference's edges and sides are the program's (plain). -/
section
set_option linter.unusedSimpArgs false
set_option linter.unusedVariables false
namespace Go.Me
open Go.Ab Go.Proofs.YtmohcmghbfhdlaaGreat
set_option maxRecDepth 100000
theorem lf_tri' {ts : List T3} {p : IE × Int} : ∀ n, p ∈ lf ts n → ∃ j : Nat, j < n ∧ (p.1 = ((tr ts j).1, (tr ts j).2.1) ∨ p.1 = ((tr ts j).2.1, (tr ts j).2.2) ∨ p.1 = ((tr ts j).2.2, (tr ts j).1))
 | 0, h => by unfold lf at h; cases h
 | n + 1, h => by
  unfold lf at h
  simp only [List.mem_append, List.mem_singleton] at h
  rcases h with ((h | h) | h) | h
  ·obtain ⟨j, h1, h2⟩ := lf_tri' n h
   exact ⟨j, by omega, h2⟩
  ·exact ⟨n, by omega, .inl (by rw [h])⟩
  ·exact ⟨n, by omega, .inr (.inl (by rw [h]))⟩
  ·exact ⟨n, by omega, .inr (.inr (by rw [h]))⟩
theorem lf_ne {l : List Pn} {ts : List T3} (h : NetR l ts) {p : IE × Int} (hp : p ∈ lfA ts) : p.1.1 ≠ p.1.2 := fun e => by
 obtain ⟨j, hj, h1⟩ := lf_tri' _ hp
 obtain ⟨_, h2, h3, _⟩ := trK_0 (h.all j hj)
 unfold ordB at h2
 unfold trS at h3
 rcases h1 with h1 | h1 | h1
 ·rw [h1] at e; simp only at e; omega
 ·rw [h1] at e; simp only at e
  rw [e, show cr (pt l (tr ts j).1.toNat) (pt l (tr ts j).2.2.toNat) (pt l (tr ts j).2.2.toNat) = 0 from cr_self _ _] at h3
  cases h3
 ·rw [h1] at e; simp only at e; omega
theorem pkE_at {l : List Pn} {ts : List T3} (h : NetR l ts) {p : IE × Int} (hp : p ∈ lfA ts) {x : Pn} (hx : x ∈ pkE (lfA ts) p.1) : x.x < x.y ∧ ((p.1 = (x.x, x.y)) ∨ (p.1 = (x.y, x.x) ∧ lk (lfA ts) (x.x, x.y) = -1)) := by
 have hne := lf_ne h hp
 obtain ⟨⟨a, b⟩, i⟩ := p
 unfold pkE at hx
 simp only at hx hne ⊢
 split at hx
 ·rename_i hs
  rw [List.mem_singleton] at hx
  subst hx
  simp only
  by_cases hab : a < b
  ·rw [if_neg (by omega), if_pos (show b > a by omega)]
   exact ⟨hab, .inl rfl⟩
  ·rw [if_pos (show b < a by omega), if_neg (show ¬ b > a by omega)]
   exact ⟨by omega, .inr ⟨rfl, hs.resolve_left hab⟩⟩
 ·cases hx
theorem edL_mem {l : List Pn} {ts : List T3} (h : NetR l ts) {x : Pn} : x ∈ edL ts ↔ x.x < x.y ∧ (lk (lfA ts) (x.x, x.y) ≠ -1 ∨ lk (lfA ts) (x.y, x.x) ≠ -1) := by
 unfold edL
 rw [(sortE_perm _).mem_iff]
 unfold eqS
 have hr := fun (F : Nat → List Pn) => List.mem_flatMap (f := F) (b := x) (l := List.range (lfA ts).length)
 rw [hr]
 constructor
 ·rintro ⟨j, hj, hx⟩
  rw [List.mem_range] at hj
  unfold pk at hx
  rw [List.getElem?_eq_getElem hj] at hx
  have hp := List.getElem_mem hj
  obtain ⟨h1, h2⟩ := pkE_at h hp hx
  refine ⟨h1, ?_⟩
  have hk : ((lfA ts)[j]).1 ∈ (lfA ts).map (·.1) := List.mem_map.2 ⟨_, hp, rfl⟩
  rcases h2 with h2 | ⟨h2, _⟩
  ·rw [h2] at hk
   exact .inl fun hh => (lk_no h).1 hh hk
  ·rw [h2] at hk
   exact .inr fun hh => (lk_no h).1 hh hk
 ·rintro ⟨h1, h2⟩
  have key : ∀ e : IE, lk (lfA ts) e ≠ -1 → ∃ (j : Nat) (i : Int), (lfA ts)[j]? = some (e, i) := fun e he => by
   have : e ∈ (lfA ts).map (·.1) := Classical.byContradiction fun hh => he (lk_not hh)
   obtain ⟨p, hp, rfl⟩ := List.mem_map.1 this
   obtain ⟨j, hj⟩ := List.mem_iff_getElem?.1 hp
   exact ⟨j, p.2, hj⟩
  by_cases h3 : lk (lfA ts) (x.x, x.y) ≠ -1
  ·obtain ⟨j, i, hj⟩ := key _ h3
   refine ⟨j, List.mem_range.2 (List.getElem?_eq_some_iff.1 hj).1, ?_⟩
   unfold pk
   rw [hj]
   show x ∈ pkE (lfA ts) (x.x, x.y)
   unfold pkE
   rw [if_pos (.inl h1)]
   simp only
   rw [if_neg (by omega), if_pos (by omega)]
   exact List.mem_singleton.2 rfl
  ·obtain ⟨j, i, hj⟩ := key _ (h2.resolve_left h3)
   refine ⟨j, List.mem_range.2 (List.getElem?_eq_some_iff.1 hj).1, ?_⟩
   unfold pk
   rw [hj]
   show x ∈ pkE (lfA ts) (x.y, x.x)
   unfold pkE
   rw [if_pos (.inr (Classical.not_not.1 h3))]
   simp only
   rw [if_pos (by omega), if_neg (by omega)]
   exact List.mem_singleton.2 rfl
theorem eqS_flat (ts : List T3) : eqS ts (List.range (lfA ts).length) = (lfA ts).flatMap fun p => pkE (lfA ts) p.1 := by
 have e : ∀ k, k ≤ (lfA ts).length → (List.range k).flatMap (pk ts) = ((lfA ts).take k).flatMap fun p => pkE (lfA ts) p.1 := fun k => by
  induction k with
  | zero => intro _; rfl
  | succ k ih =>
   intro hk
   have hg : (lfA ts)[k]? = some (lfA ts)[k] := List.getElem?_eq_getElem (by omega)
   have hpk : pk ts k = pkE (lfA ts) ((lfA ts)[k]).1 := by unfold pk; rw [hg]
   rw [List.range_succ, List.flatMap_append, ih (by omega), List.take_add_one, List.flatMap_append, hg]
   simp [hpk]
 have := e _ (Nat.le_refl _)
 rw [List.take_length] at this
 exact this
theorem edL_nodup {l : List Pn} {ts : List T3} (h : NetR l ts) : (edL ts).Nodup := by
 unfold edL
 rw [(sortE_perm _).nodup_iff, eqS_flat]
 unfold List.Nodup
 rw [List.pairwise_flatMap]
 refine ⟨fun p _ => ?_, ?_⟩
 ·unfold pkE
  split
  ·exact List.pairwise_singleton _ _
  ·exact List.Pairwise.nil
 ·have h2 : ((lfA ts).map (·.1)).Nodup := h.ok.nd
  unfold List.Nodup at h2
  rw [List.pairwise_map] at h2
  refine h2.imp_of_mem fun {p q} hp hq hne x hx y hy e => ?_
  subst e
  obtain ⟨_, a2⟩ := pkE_at h hp hx
  obtain ⟨_, b2⟩ := pkE_at h hq hy
  have hkp : p.1 ∈ (lfA ts).map (·.1) := List.mem_map.2 ⟨p, hp, rfl⟩
  have hkq : q.1 ∈ (lfA ts).map (·.1) := List.mem_map.2 ⟨q, hq, rfl⟩
  rcases a2 with a2 | ⟨a2, a3⟩ <;> rcases b2 with b2 | ⟨b2, b3⟩
  ·exact hne (a2.trans b2.symm)
  ·rw [a2] at hkp
   exact (lk_no h).1 b3 hkp
  ·rw [b2] at hkq
   exact (lk_no h).1 a3 hkq
  ·exact hne (a2.trans b2.symm)
def reP (ts : List T3) (i k : Nat) : List Pn := if lk (lfA ts) ((i : Int), (k : Int)) ≠ -1 ∨ lk (lfA ts) ((k : Int), (i : Int)) ≠ -1 then [⟨i, k⟩] else []
def reI (ts : List T3) (i : Nat) : Nat → List Pn
 | 0 => []
 | j + 1 => reI ts i j ++ reP ts i (i + 1 + j)
def reE (ts : List T3) (n : Nat) : Nat → List Pn
 | 0 => []
 | i + 1 => reE ts n i ++ reI ts i (n - 1 - i)
theorem reI_mem {ts : List T3} {i : Nat} {x : Pn} : ∀ j, x ∈ reI ts i j ↔ ∃ k : Nat, i < k ∧ k < i + 1 + j ∧ x = ⟨i, k⟩ ∧ (lk (lfA ts) ((i : Int), (k : Int)) ≠ -1 ∨ lk (lfA ts) ((k : Int), (i : Int)) ≠ -1)
 | 0 => by
  unfold reI
  constructor
  ·intro h; cases h
  ·rintro ⟨k, h1, h2, _⟩
   omega
 | j + 1 => by
  unfold reI
  rw [List.mem_append, reI_mem j]
  unfold reP
  constructor
  ·rintro (⟨k, h1, h2, h3, h4⟩ | hx)
   ·exact ⟨k, h1, by omega, h3, h4⟩
   ·split at hx
    ·rename_i hc
     rw [List.mem_singleton] at hx
     exact ⟨i + 1 + j, by omega, by omega, hx, hc⟩
    ·cases hx
  ·rintro ⟨k, h1, h2, h3, h4⟩
   by_cases hk : k = i + 1 + j
   ·subst hk
    rw [if_pos h4]
    exact .inr (List.mem_singleton.2 h3)
   ·exact .inl ⟨k, h1, by omega, h3, h4⟩
theorem reE_mem {ts : List T3} {n : Nat} {x : Pn} : ∀ i, i ≤ n → (x ∈ reE ts n i ↔ ∃ a k : Nat, a < i ∧ a < k ∧ k < n ∧ x = ⟨a, k⟩ ∧ (lk (lfA ts) ((a : Int), (k : Int)) ≠ -1 ∨ lk (lfA ts) ((k : Int), (a : Int)) ≠ -1))
 | 0, _ => by
  unfold reE
  constructor
  ·intro h; cases h
  ·rintro ⟨a, k, h1, _⟩
   omega
 | i + 1, hi => by
  unfold reE
  rw [List.mem_append, reE_mem i (by omega), reI_mem]
  constructor
  ·rintro (⟨a, k, h1, h2⟩ | ⟨k, h1, h2, h3⟩)
   ·exact ⟨a, k, by omega, h2⟩
   ·exact ⟨i, k, by omega, h1, by omega, h3⟩
  ·rintro ⟨a, k, h1, h2, h3, h4⟩
   by_cases ha : a = i
   ·subst ha
    exact .inr ⟨k, h2, by omega, h4⟩
   ·exact .inl ⟨a, k, by omega, h2, h3, h4⟩
theorem reI_sorted (ts : List T3) (i : Nat) : ∀ j, (reI ts i j).Pairwise lexLt
 | 0 => List.Pairwise.nil
 | j + 1 => by
  unfold reI
  rw [List.pairwise_append]
  refine ⟨reI_sorted ts i j, ?_, fun x hx y hy => ?_⟩
  ·unfold reP
   split
   ·exact List.pairwise_singleton _ _
   ·exact List.Pairwise.nil
  ·obtain ⟨k, h1, h2, rfl, _⟩ := (reI_mem j).1 hx
   unfold reP at hy
   split at hy
   ·rw [List.mem_singleton] at hy
    subst hy
    refine .inr ⟨rfl, ?_⟩
    show (k : Int) < ((i + 1 + j : Nat) : Int)
    omega
   ·cases hy
theorem reE_sorted (ts : List T3) (n : Nat) : ∀ i, i ≤ n → (reE ts n i).Pairwise lexLt
 | 0, _ => List.Pairwise.nil
 | i + 1, hi => by
  unfold reE
  rw [List.pairwise_append]
  refine ⟨reE_sorted ts n i (by omega), reI_sorted ts i _, fun x hx y hy => ?_⟩
  obtain ⟨a, k, h1, _, _, rfl, _⟩ := (reE_mem i (by omega)).1 hx
  obtain ⟨b, _, _, rfl, _⟩ := (reI_mem _).1 hy
  unfold lexLt
  simp only
  omega
theorem reE_edL {l : List Pn} {ts : List T3} (h : NetR l ts) : reE ts l.length l.length = edL ts := by
 have hs := reE_sorted ts l.length l.length (Nat.le_refl _)
 have hns : ∀ {x y : Pn}, lexLt x y → ¬ lexLt y x := fun {x y} h1 h2 => by
  unfold lexLt at h1 h2
  omega
 refine sorted_uniq ?_ (hs.imp hns) ?_
 ·refine (List.perm_ext_iff_of_nodup ?_ (edL_nodup h)).2 fun x => ?_
  ·unfold List.Nodup
   refine hs.imp fun {x y} h1 e => ?_
   subst e
   exact hns h1 h1
  ·rw [reE_mem _ (Nat.le_refl _), edL_mem h]
   constructor
   ·rintro ⟨a, k, h1, h2, h3, rfl, h4⟩
    exact ⟨by simp only; omega, h4⟩
   ·rintro ⟨h1, h2⟩
    have hx := (edL_mem h).2 ⟨h1, h2⟩
    obtain ⟨⟨r1, r2⟩, r3, r4⟩ := edL_rng h.ok x hx
    refine ⟨x.x.toNat, x.y.toNat, by omega, by omega, by omega, ?_, ?_⟩
    ·obtain ⟨a, b⟩ := x
     simp only at r1 r3 ⊢
     rw [Int.toNat_of_nonneg r1, Int.toNat_of_nonneg r3]
    ·rw [Int.toNat_of_nonneg r1, Int.toNat_of_nonneg r3]
     exact h2
 ·unfold edL
  exact sortE_pair _
end Go.Me
end
/- Chapter 6: the reference's edges and sides of a right net, and its comparison of pairs. -/
section
set_option linter.unusedSimpArgs false
set_option linter.unusedVariables false
section
namespace Go.Me
open Go.Ab Go.Proofs.YtmohcmghbfhdlaaGreat
theorem reP_0 {ts : List T3} {i k : Nat} (h1 : lk (lfA ts) ((i : Int), (k : Int)) < 0) (h2 : lk (lfA ts) ((k : Int), (i : Int)) < 0) : reP ts i k = [] := by
 unfold reP
 have a1 := lk_ge ts ts.length ((i : Int), (k : Int))
 have a2 := lk_ge ts ts.length ((k : Int), (i : Int))
 unfold lfA at *
 rw [if_neg (by omega)]
theorem reP_1 {ts : List T3} {i k : Nat} (h : 0 ≤ lk (lfA ts) ((i : Int), (k : Int)) ∨ 0 ≤ lk (lfA ts) ((k : Int), (i : Int))) : reP ts i k = [⟨i, k⟩] := by
 unfold reP
 rw [if_pos (by omega)]
def reX (ts : List T3) (n i j : Nat) : List Pn := reE ts n i ++ reI ts i j
theorem reX_row {ts : List T3} {n i : Nat} (h : i < n) : reX ts n i (n - 1 - i) = reX ts n (i + 1) 0 := by
 unfold reX
 show _ = (reE ts n i ++ reI ts i (n - 1 - i)) ++ []
 rw [List.append_nil]
theorem reX_step {ts : List T3} {n i j : Nat} : reX ts n i (j + 1) = reX ts n i j ++ reP ts i (i + 1 + j) := by
 unfold reX
 show _ ++ (reI ts i j ++ _) = _
 rw [List.append_assoc]
theorem reP_len (ts : List T3) (i k : Nat) : (reP ts i k).length ≤ 1 := by
 unfold reP
 split <;> simp
theorem reI_len (ts : List T3) (i : Nat) : ∀ j, (reI ts i j).length ≤ j
 | 0 => Nat.le_refl _
 | j + 1 => by
  unfold reI
  have := reI_len ts i j
  have := reP_len ts i (i + 1 + j)
  rw [List.length_append]
  omega
theorem reE_len (ts : List T3) (n : Nat) : ∀ i, (reE ts n i).length ≤ n * i
 | 0 => Nat.le_refl _
 | i + 1 => by
  unfold reE
  have := reE_len ts n i
  have := reI_len ts i (n - 1 - i)
  rw [List.length_append, Nat.mul_succ]
  omega
theorem reX_len (ts : List T3) {n i j : Nat} (hn : n ≤ 40) (hi : i ≤ n) (hj : j ≤ n) : (reX ts n i j).length ≤ 2000 := by
 unfold reX
 rw [List.length_append]
 have h1 := reE_len ts n i
 have h2 := reI_len ts i j
 have h3 : n * i ≤ 40 * 40 := Nat.mul_le_mul hn (by omega)
 omega
end Go.Me
namespace Go.Proofs.YtmohcmghbfhdlaaGreat
open Go Go.RowKit Go.Ab Go.Me
set_option maxRecDepth 100000
set_option maxHeartbeats 4000000
attribute [local irreducible] OQ OW AL AW AF SW
theorem rSides_0 (l : List Pn) (ts : List T3) (hR : NetR l ts) (c c2 : Nat) (hEd : ∀ (m : Mem) (A B : Blk) (a1 : m.at 0 = some A) (a2 : A.cells = flatP l) (b1 : m.at 1 = some B) (b2 : B.cells = flatT ts) (a3 : A.obj = Ob.plain) (b3 : B.obj = Ob.plain) (a4 : A.esz = 0) (b4 : B.esz = 0), ACalls Tryz.prog 31 [.agg #[.slice (some ⟨0, 0, none⟩) l.length c, .slice (some ⟨1, 0, none⟩) ts.length c2]] m (.slice (some ⟨m.length, 0, none⟩) (edL ts).length INF) (m ++ [some ⟨flatP (edL ts), true, 2⟩])) :
  ACalls Tryz.prog 32 [.agg #[.slice (some ⟨0, 0, none⟩) l.length c, .slice (some ⟨1, 0, none⟩) ts.length c2]] [some ⟨flatP l, false, 0⟩, some ⟨flatT ts, false, 0⟩] (.slice (some ⟨2, 0, none⟩) (edL ts).length INF) [some ⟨flatP l, false, 0⟩, some ⟨flatT ts, false, 0⟩, some ⟨flatP (sdL ts), true, 2⟩] := by
 have hh : ∀ (a b : Int) (m : Mem) (blk : Blk) (h1 : m.at 1 = some blk) (h2 : blk.cells = flatT ts) (h3 : blk.obj = Ob.plain), PCalls Tryz.prog 75 [.slice (some ⟨1, 0, none⟩) ts.length c2, .int .i64 a, .int .i64 b] m (.int .i64 (lk (lfA ts) (a, b))) := fun a b m blk h1 h2 h3 => has_q (c := c2) ts (Nat.le_refl _) (by have := hR.le; omega) a b h1 h2 h3
 have hps : ∀ k, k < (edL ts).length → (flatP (edL ts))[k * 2]? = some (.int .i64 (pt (edL ts) k).x) ∧ (flatP (edL ts))[k * 2 + 1]? = some (.int .i64 (pt (edL ts) k).y) := fun k hk => flatP_get (edL ts) k hk
 have hpos := edL_pos hR
 have hle := edL_le ts
 have h80 := hR.le
 have hsd : ∀ k, k < (edL ts).length → flatP ((sdL ts).take k) ++ [.int .i64 (lk (lfA ts) ((pt (edL ts) k).x, (pt (edL ts) k).y)), .int .i64 (lk (lfA ts) ((pt (edL ts) k).y, (pt (edL ts) k).x))] = flatP ((sdL ts).take (k + 1)) := fun k hk => by
  have := flatP_take (es := sdL ts) (k := k) (by rw [sdL_len]; exact hk)
  rw [sdL_pt hk] at this
  exact this
 have hfl : ∀ k, k ≤ (edL ts).length → (flatP ((sdL ts).take k)).length = k * 2 := fun k hk => by rw [flatP_len, List.length_take, sdL_len, Nat.min_eq_left hk]
 have htl : (sdL ts).take (edL ts).length = sdL ts := by rw [← sdL_len, List.take_length]
 refine ACalls.en 44 Tryz.func32 rfl rfl (fun E hE => ?_)
 repeat' (first | with_reducible (first | refine Then.n ?_ | refine Then.x ?_ | refine InB.n ?_ | refine InB.hit ?_) | ((with_reducible refine AL.on ?_); first | ((first | refine AL.mv ?_ | refine AL.as ?_ | ((with_reducible refine AL.k_load ?_); refine AL.g (OQ.loadN (ty := 25) (n := 2) rfl kr kr (by rfl)) ?_) | ((with_reducible refine AL.k_call ?_); refine AL.g (OQ.lenS (xt := 45) (r := (none, 2, true)) rfl kr) ?_) | ((with_reducible refine AL.k_binOp ?_); first | refine AL.g (OQ.lss rfl rfl) ?_ | refine AL.g (OQ.addi rfl rfl (by omega)) ?_)); refine AL.nm ?_) | ((first | ((with_reducible refine AL.k_call ?_); first | refine AL.acall (g := 31) rfl kr rfl ((by exact hEd _ _ _ rfl rfl rfl rfl rfl rfl rfl rfl)) ?_ | refine AL.w rfl (by first | exact OW.appendNil (e := 52) (z := 2) (zs := [.int .i64 0, .int .i64 0]) (by' := 16) rfl rfl kr kr kr rfl kr (by decide) rfl (by decide) (by decide) | exact OW.appendL (e := 52) (z := 2) (zs := [.int .i64 0, .int .i64 0]) (by' := 16) rfl rfl kr kr kr rfl kr (by decide) rfl rfl rfl (by decide) (by exact hfl k (by omega)) rfl rfl (by omega) (by omega)) ?_) | refine AL.bx ?_); refine AL.nm ?_; refine AL.nM ?_) | refine AL.nil ?_) | ((with_reducible refine AW.on ?_); first | refine AW.seq ?_ | refine AW.skip ?_ | refine AW.exit ?_ | refine AW.ret ?_ | ((refine AW.block (id := 0) ?_); (refine AW.fk [1, 3, 4, 5] ?_); (refine AW.loop (fun n' t' m => ∃ k : Nat, n' = (edL ts).length - k ∧ k ≤ (edL ts).length ∧ ((k = 0 ∧ t' = [jk, .pointer (some ⟨2, 0, none⟩), jk, .slice none 0 0, .slice (some ⟨3, 0, none⟩) ((edL ts).length) INF, .int .i64 (k), jk, jk, jk, jk, jk, jk, jk, jk, jk, jk, jk, jk, jk, jk, jk, jk, jk, jk, jk, jk, jk, jk, jk, jk, jk, jk, jk, jk, jk, jk, jk, jk, jk, jk, jk, jk, jk, jk, jk] ∧ m = [some ⟨flatP l, false, 0⟩, some ⟨flatT ts, false, 0⟩, some ⟨[.slice (some ⟨0, 0, none⟩) l.length c, .slice (some ⟨1, 0, none⟩) ts.length c2], true, 0⟩, some ⟨flatP (edL ts), true, 2⟩]) ∨ (0 < k ∧ t' = [jk, .pointer (some ⟨2, 0, none⟩), jk, .slice (some ⟨4, 0, none⟩) (k) INF, .slice (some ⟨3, 0, none⟩) ((edL ts).length) INF, .int .i64 (k), jk, jk, jk, jk, jk, jk, jk, jk, jk, jk, jk, jk, jk, jk, jk, jk, jk, jk, jk, jk, jk, jk, jk, jk, jk, jk, jk, jk, jk, jk, jk, jk, jk, jk, jk, jk, jk, jk, jk] ∧ m = [some ⟨flatP l, false, 0⟩, some ⟨flatT ts, false, 0⟩, some ⟨[.slice (some ⟨0, 0, none⟩) l.length c, .slice (some ⟨1, 0, none⟩) ts.length c2], true, 0⟩, some ⟨flatP (edL ts), true, 2⟩, some ⟨flatP ((sdL ts).take k), true, 2⟩]))) ((edL ts).length) (by exact ⟨0, rfl, Nat.zero_le _, .inl ⟨rfl, rfl, rfl⟩⟩) ?_); (rintro n' t' m ⟨k, rfl, hk, (⟨hk0, rfl, rfl⟩ | ⟨hk1, rfl, rfl⟩)⟩)) | refine AW.block ?_ | (refine AW.drawF (id := 6) 29 #[0, 0, 2, 0, 0, 24, 56, 120, 0, 0, 768, 1792, 3840, 8190, 0, 16384, 0, 0, 196608, 458752, 983040, 0, 0, 6291456, 14680064, 31457280, 67108862, 134217726, 268435454, 536870911, 1073741823] kr kr ?_; (conv => (arg 8; simp only [List.take_succ_cons, List.take_zero]))) | refine AW.region ?_ | (refine AW.conds rfl (fun hc => ?_) (fun hc => ?_) <;> (try replace hc := nc hc) <;> first | (exfalso; ((omega); done)) | skip)) | ((with_reducible refine AF.on ?_); first | ((first | ((with_reducible refine AF.k_move ?_); (refine AF.q 0 (SW.q (OQ.move wl) rfl) ?_)) | ((with_reducible refine AF.k_indexAddr ?_); first | refine AF.q 0 (SW.q (OQ.idxAddr (ty := 45) (z := 2) (g := true) rfl rfl kr (by omega) (by omega)) rfl) ?_ | refine AF.q 0 (SW.q (OQ.idxPtr (ty := 52) (n := 1) (l := 2) (g := false) rfl rfl kr (by omega) (by omega)) rfl) ?_) | ((with_reducible refine AF.k_load ?_); first | (refine AF.ql rfl (SW.q (OQ.load1 (ty := 23) rfl kr (by (conv => lhs; whnf))) rfl) ?_) | (refine AF.ql rfl (SW.q (OQ.load1 (ty := 3) rfl kr (by (first | exact (hps k (by omega)).1 | exact (hps k (by omega)).2))) rfl) ?_)) | ((with_reducible refine AF.k_call ?_); refine AF.q 2 (SW.pcall (g := 75) rfl kr rfl ((by exact hh _ _ _ _ rfl rfl rfl)) rfl) ?_) | ((with_reducible refine AF.k_fieldAddr ?_); refine AF.q 0 (SW.q (OQ.fieldA (ty := 25) (i := 1) (n := 1) (off := 1) (g := false) rfl kr (by decide)) rfl) ?_) | ((with_reducible refine AF.k_build ?_); refine AF.q 0 (SW.q (OQ.buildA (ty := 52) (zs := [.int .i64 0, .int .i64 0]) (n := 1) (k := 2) (g := false) kr rfl kr rfl rfl rfl) rfl) ?_)); refine AF.nm ?_) | ((refine AF.n1 0 (SW.w (OW.buildSl (ty := 45) (zs := [.int .i64 0, .int .i64 0]) (n := 2) (g := true) kr kr rfl rfl rfl (by decide) (by decide) rfl rfl) rfl) rfl ?_); refine AF.nm ?_; (conv => (arg 10; try tactic => exact nrmF))) | refine AF.nl ?_) | ((with_reducible refine ex_on ?_); first | (obtain rfl := hk0; have hf0 := hsd 0 (by omega); refine ⟨(edL ts).length - 1, [jk, .pointer (some ⟨2, 0, none⟩), jk, .slice (some ⟨4, 0, none⟩) (1) INF, .slice (some ⟨3, 0, none⟩) ((edL ts).length) INF, .int .i64 (((0 + 1 : Nat) : Int)), jk, jk, jk, jk, jk, jk, jk, jk, jk, jk, jk, jk, jk, jk, jk, jk, jk, jk, jk, jk, jk, jk, jk, jk, jk, jk, jk, jk, jk, jk, jk, jk, jk, jk, jk, jk, jk, jk, jk], [some ⟨flatP l, false, 0⟩, some ⟨flatT ts, false, 0⟩, some ⟨[.slice (some ⟨0, 0, none⟩) l.length c, .slice (some ⟨1, 0, none⟩) ts.length c2], true, 0⟩, some ⟨flatP (edL ts), true, 2⟩, some ⟨[.int .i64 (lk (lfA ts) ((pt (edL ts) 0).x, (pt (edL ts) 0).y)), .int .i64 (lk (lfA ts) ((pt (edL ts) 0).y, (pt (edL ts) 0).x))], true, 2⟩], by omega, ?_, 0 + 1, rfl, by omega, .inr ⟨by omega, rfl, by rw [← hf0]; rfl⟩⟩; exact Wk.keep 4 [5] (by rw [hE]; exact Nat.le_of_ble_eq_true rfl) rfl rfl (by repeat (first | exact RenT.nil | refine RenT.jk ?_ | refine RenT.val (by rfl) (by rfl) ?_)) ⟨kl rfl (flatP_scal l), kl rfl (flatT_scal ts), ki rfl, kl rfl (flatP_scal _), kl rfl rfl, trivial⟩) | (have hf0 := hsd k (by omega); refine ⟨(edL ts).length - (k + 1), [jk, .pointer (some ⟨2, 0, none⟩), jk, .slice (some ⟨4, 0, none⟩) (k + 1) INF, .slice (some ⟨3, 0, none⟩) ((edL ts).length) INF, .int .i64 (((k + 1 : Nat) : Int)), jk, jk, jk, jk, jk, jk, jk, jk, jk, jk, jk, jk, jk, jk, jk, jk, jk, jk, jk, jk, jk, jk, jk, jk, jk, jk, jk, jk, jk, jk, jk, jk, jk, jk, jk, jk, jk, jk, jk], [some ⟨flatP l, false, 0⟩, some ⟨flatT ts, false, 0⟩, some ⟨[.slice (some ⟨0, 0, none⟩) l.length c, .slice (some ⟨1, 0, none⟩) ts.length c2], true, 0⟩, some ⟨flatP (edL ts), true, 2⟩, some ⟨flatP ((sdL ts).take k) ++ [.int .i64 (lk (lfA ts) ((pt (edL ts) k).x, (pt (edL ts) k).y)), .int .i64 (lk (lfA ts) ((pt (edL ts) k).y, (pt (edL ts) k).x))], true, 2⟩], by omega, ?_, k + 1, rfl, by omega, .inr ⟨by omega, rfl, by rw [← hf0]⟩⟩; exact Wk.keep 4 [6] (by rw [hE]; exact Nat.le_of_ble_eq_true rfl) rfl rfl (by repeat (first | exact RenT.nil | refine RenT.jk ?_ | refine RenT.val (by rfl) (by rfl) ?_)) ⟨kl rfl (flatP_scal l), kl rfl (flatT_scal ts), ki rfl, kl rfl (flatP_scal _), ⟨_, rfl, rfl, rfl, .inl ⟨rfl, by rw [List.all_append, flatP_scal]; rfl⟩⟩, trivial⟩)) | ((with_reducible refine FinA.on ?_); (obtain rfl : k = (edL ts).length := (by omega); rw [htl]; refine FinA.keep 2 [4] (.inl rfl) (.tmp wl .nil) ?_ rfl (Nat.le_of_eq hE) rfl rfl ⟨kl rfl (flatP_scal l), kl rfl (flatT_scal ts), kl rfl (flatP_scal _), trivial⟩; rfl)))
end Go.Proofs.YtmohcmghbfhdlaaGreat
end
end
/- Chapter 6: the reference's edges of a right net. -/
section
set_option linter.unusedSimpArgs false
set_option linter.unusedVariables false
section
namespace Go.Proofs.YtmohcmghbfhdlaaGreat
open Go Go.RowKit Go.Ab Go.Me
set_option maxRecDepth 100000
set_option maxHeartbeats 4000000
attribute [local irreducible] OQ OW AL AW AF SW
theorem rEdges_0 (l : List Pn) (ts : List T3) (hR : NetR l ts) (c c2 : Nat) :
  ACalls Tryz.prog 31 [.agg #[.slice (some ⟨0, 0, none⟩) l.length c, .slice (some ⟨1, 0, none⟩) ts.length c2]] [some ⟨flatP l, false, 0⟩, some ⟨flatT ts, false, 0⟩] (.slice (some ⟨2, 0, none⟩) (edL ts).length INF) [some ⟨flatP l, false, 0⟩, some ⟨flatT ts, false, 0⟩, some ⟨flatP (edL ts), true, 2⟩] := by
 have hh : ∀ (a b : Int) (m : Mem) (blk : Blk) (h1 : m.at 1 = some blk) (h2 : blk.cells = flatT ts) (h3 : blk.obj = Ob.plain), PCalls Tryz.prog 75 [.slice (some ⟨1, 0, none⟩) ts.length c2, .int .i64 a, .int .i64 b] m (.int .i64 (lk (lfA ts) (a, b))) := fun a b m blk h1 h2 h3 => has_q (c := c2) ts (Nat.le_refl _) (by have := hR.le; omega) a b h1 h2 h3
 have h80 := hR.le
 have h40 := (cp_ok hR.cp).1
 have hn2 := two_of hR.all hR.g.1
 have hpos := edL_pos hR
 have a1 : ∀ i, reX ts l.length i (i + 1 - i - 1) = reX ts l.length i 0 := fun i => by rw [show i + 1 - i - 1 = 0 by omega]
 have a2 : ∀ i, i < l.length → reX ts l.length i (l.length - i - 1) = reX ts l.length (i + 1) 0 := fun i hi => by
  rw [show l.length - i - 1 = l.length - 1 - i by omega]
  exact reX_row hi
 have a3 : ∀ i k : Nat, i < k → (0 ≤ lk (lfA ts) ((i : Int), (k : Int)) ∨ 0 ≤ lk (lfA ts) ((k : Int), (i : Int))) → reX ts l.length i (k + 1 - i - 1) = reX ts l.length i (k - i - 1) ++ [⟨i, k⟩] := fun i k hk h => by
  rw [show k + 1 - i - 1 = (k - i - 1) + 1 by omega, reX_step, show i + 1 + (k - i - 1) = k by omega, reP_1 h]
 have a4 : ∀ i k : Nat, i < k → lk (lfA ts) ((i : Int), (k : Int)) < 0 → lk (lfA ts) ((k : Int), (i : Int)) < 0 → reX ts l.length i (k + 1 - i - 1) = reX ts l.length i (k - i - 1) := fun i k hk h1 h2 => by
  rw [show k + 1 - i - 1 = (k - i - 1) + 1 by omega, reX_step, show i + 1 + (k - i - 1) = k by omega, reP_0 h1 h2, List.append_nil]
 have a5 : reX ts l.length 0 0 = [] := rfl
 have a6 : reX ts l.length l.length 0 = edL ts := by
  rw [← reE_edL hR]
  show _ ++ [] = _
  rw [List.append_nil]
 have a7 : ∀ i k : Nat, i ≤ l.length → k ≤ l.length → (reX ts l.length i (k - i - 1)).length ≤ 2000 := fun i k h1 h2 => reX_len ts h40 h1 (by omega)
 have a8 : ∀ i : Nat, i ≤ l.length → (reX ts l.length i 0).length ≤ 2000 := fun i h1 => reX_len ts h40 h1 (by omega)
 have hfl := flatP_len
 have hsn : ∀ (X : List Pn) (i k : Nat), flatP (X ++ [⟨i, k⟩]) = flatP X ++ [.int .i64 (i : Int), .int .i64 (k : Int)] := fun X i k => flatP_snoc X ⟨i, k⟩
 generalize hRK : (fun i k : Nat => reX ts l.length i (k - i - 1)) = RK at *
 generalize hOX : (fun i : Nat => reX ts l.length i 0) = OX at *
 have e1 : ∀ i k : Nat, reX ts l.length i (k - i - 1) = RK i k := fun i k => by rw [← hRK]
 have e2 : ∀ i : Nat, reX ts l.length i 0 = OX i := fun i => by rw [← hOX]
 simp only [e1, e2] at a1 a2 a3 a4 a5 a6 a7 a8
 clear hRK hOX e1 e2
 refine ACalls.en 42 Tryz.func31 rfl rfl (fun E hE => ?_)
 repeat' (first | with_reducible (first | refine Then.n ?_ | refine Then.x ?_ | refine InB.n ?_ | refine InB.hit ?_) | ((with_reducible refine AL.on ?_); first | (refine AL.gd rfl ?_; (refine AL.gs0 rfl rfl (fun hc => ?_) (fun hc => ?_) <;> (try replace hc := nc hc) <;> first | (exfalso; contradiction) | refine AL.nm ?_)) | ((first | refine AL.mv ?_ | refine AL.as ?_ | ((with_reducible refine AL.k_binOp ?_); first | refine AL.g (OQ.lss rfl rfl) ?_ | refine AL.g (OQ.addi rfl rfl (by omega)) ?_ | refine AL.g (OQ.geq rfl rfl) ?_) | ((with_reducible refine AL.k_call ?_); refine AL.g (OQ.lenS (xt := 22) (r := (none, 2, true)) rfl kr) ?_) | ((with_reducible refine AL.k_fieldAddr ?_); first | refine AL.g (OQ.fieldA (ty := 25) (i := 0) (n := 1) (off := 0) (g := false) rfl kr (by decide)) ?_ | refine AL.g (OQ.fieldA (ty := 25) (i := 1) (n := 1) (off := 1) (g := false) rfl kr (by decide)) ?_) | ((with_reducible refine AL.k_load ?_); first | (refine AL.g (OQ.load1 (ty := 22) rfl kr wl) ?_) | (refine AL.g (OQ.load1 (ty := 23) rfl kr wl) ?_)) | ((with_reducible refine AL.k_pick ?_); first | refine AL.pT ?_ | refine AL.pF ?_)); refine AL.nm ?_) | ((first | ((with_reducible refine AL.k_call ?_); refine AL.pcall (g := 75) rfl kr rfl ((by exact hh _ _ _ _ rfl rfl rfl)) ?_) | ((with_reducible refine AL.k_build ?_); refine AL.g (OQ.buildA (ty := 52) (zs := [.int .i64 0, .int .i64 0]) (n := 1) (k := 2) (g := false) kr rfl kr rfl rfl rfl) ?_)); refine AL.nm ?_) | ((first | ((with_reducible refine AL.k_call ?_); refine AL.w rfl (by first | exact OW.appendNil (e := 52) (z := 2) (zs := [.int .i64 0, .int .i64 0]) (by' := 16) rfl rfl kr kr kr rfl kr (by decide) rfl (by decide) (by decide) | exact OW.appendL (e := 52) (z := 2) (zs := [.int .i64 0, .int .i64 0]) (by' := 16) rfl rfl kr kr kr rfl kr (by decide) rfl rfl rfl (by decide) (by exact hfl _) rfl rfl (by omega) (by omega)) ?_) | refine AL.bx ?_ | ((with_reducible refine AL.k_buildSlice ?_); refine AL.w rfl (OW.buildSl (ty := 45) (zs := [.int .i64 0, .int .i64 0]) (n := 2) (g := true) kr kr rfl rfl rfl (by decide) (by decide) rfl rfl) ?_)); refine AL.nm ?_; refine AL.nM ?_) | refine AL.nil ?_) | ((with_reducible refine AW.on ?_); first | refine AW.seq ?_ | refine AW.skip ?_ | refine AW.exit ?_ | refine AW.ret ?_ | ((refine AW.block (id := 0) ?_); (refine AW.fk [1, 3, 4] ?_); (refine AW.loop (fun n' t' m => ∃ i : Nat, n' = l.length - i ∧ i ≤ l.length ∧ ((OX i = [] ∧ t' = [jk, .pointer (some ⟨2, 0, none⟩), jk, .slice none 0 0, .int .i64 (i), jk, jk, jk, jk, jk, jk, jk, jk, jk, jk, jk, jk, jk, jk, jk, jk, jk, jk, jk, jk, jk, jk, jk, jk, jk, jk, jk, jk, jk, jk, jk, jk, jk, jk, jk, jk, jk, jk] ∧ m = [some ⟨flatP l, false, 0⟩, some ⟨flatT ts, false, 0⟩, some ⟨[.slice (some ⟨0, 0, none⟩) l.length c, .slice (some ⟨1, 0, none⟩) ts.length c2], true, 0⟩]) ∨ (0 < (OX i).length ∧ t' = [jk, .pointer (some ⟨2, 0, none⟩), jk, .slice (some ⟨3, 0, none⟩) ((OX i).length) INF, .int .i64 (i), jk, jk, jk, jk, jk, jk, jk, jk, jk, jk, jk, jk, jk, jk, jk, jk, jk, jk, jk, jk, jk, jk, jk, jk, jk, jk, jk, jk, jk, jk, jk, jk, jk, jk, jk, jk, jk, jk] ∧ m = [some ⟨flatP l, false, 0⟩, some ⟨flatT ts, false, 0⟩, some ⟨[.slice (some ⟨0, 0, none⟩) l.length c, .slice (some ⟨1, 0, none⟩) ts.length c2], true, 0⟩, some ⟨flatP (OX i), true, 2⟩]))) (l.length) (by exact ⟨0, rfl, Nat.zero_le _, .inl ⟨a5, rfl, rfl⟩⟩) ?_); (rintro n' t' m ⟨i, rfl, hi, (⟨hi0, rfl, rfl⟩ | ⟨hi1, rfl, rfl⟩)⟩)) | ((refine AW.block (id := 2) ?_); (refine AW.fk [1, 3, 4, 5] ?_); (refine AW.loop (fun n' t' m => ∃ k : Nat, n' = l.length - k ∧ i < k ∧ k ≤ l.length ∧ ((RK i k = [] ∧ t' = [jk, .pointer (some ⟨2, 0, none⟩), jk, .slice none 0 0, .int .i64 (i), .int .i64 (k), jk, jk, jk, jk, jk, jk, jk, jk, jk, jk, jk, jk, jk, jk, jk, jk, jk, jk, jk, jk, jk, jk, jk, jk, jk, jk, jk, jk, jk, jk, jk, jk, jk, jk, jk, jk, jk] ∧ m = [some ⟨flatP l, false, 0⟩, some ⟨flatT ts, false, 0⟩, some ⟨[.slice (some ⟨0, 0, none⟩) l.length c, .slice (some ⟨1, 0, none⟩) ts.length c2], true, 0⟩]) ∨ (0 < (RK i k).length ∧ t' = [jk, .pointer (some ⟨2, 0, none⟩), jk, .slice (some ⟨3, 0, none⟩) ((RK i k).length) INF, .int .i64 (i), .int .i64 (k), jk, jk, jk, jk, jk, jk, jk, jk, jk, jk, jk, jk, jk, jk, jk, jk, jk, jk, jk, jk, jk, jk, jk, jk, jk, jk, jk, jk, jk, jk, jk, jk, jk, jk, jk, jk, jk] ∧ m = [some ⟨flatP l, false, 0⟩, some ⟨flatT ts, false, 0⟩, some ⟨[.slice (some ⟨0, 0, none⟩) l.length c, .slice (some ⟨1, 0, none⟩) ts.length c2], true, 0⟩, some ⟨flatP (RK i k), true, 2⟩]))) (l.length - (i + 1)) (by first | exact ⟨i + 1, rfl, by omega, by omega, .inl ⟨(a1 i).trans hi0, rfl, rfl⟩⟩ | exact ⟨i + 1, rfl, by omega, by omega, .inr ⟨by rw [a1 i]; exact hi1, by rw [a1 i]; rfl, by rw [a1 i]⟩⟩) ?_); (rintro n' t' m ⟨k, rfl, hik, hk, (⟨hk0, rfl, rfl⟩ | ⟨hk1, rfl, rfl⟩)⟩)) | refine AW.block ?_ | (refine AW.region (id := 8) ?_; ((have q7 := a7 i k (by omega) (by omega)))) | refine AW.region ?_ | (refine AW.conds rfl (fun hc => ?_) (fun hc => ?_) <;> (try replace hc := nc hc) <;> first | (exfalso; contradiction) | skip)) | ((with_reducible refine ex_on ?_); first | ((obtain rfl : k = l.length := (by omega); have q2 := a2 i (by omega); first | (refine ⟨l.length - (i + 1), _, _, by omega, ?_, i + 1, rfl, by omega, .inl ⟨q2.symm.trans hk0, rfl, rfl⟩⟩; exact Wk.fk [1, 3, 4] rfl) | (rw [q2]; refine ⟨l.length - (i + 1), _, _, by omega, ?_, i + 1, rfl, by omega, .inr ⟨by rw [← q2]; exact hk1, rfl, rfl⟩⟩; exact Wk.fk [1, 3, 4] rfl))) | (first | (have q := a4 i k hik (by omega) (by omega); refine ⟨l.length - (k + 1), _, _, by omega, ?_, k + 1, rfl, by omega, by omega, .inl ⟨q.trans hk0, rfl, rfl⟩⟩; exact Wk.fk [1, 3, 4, 5] rfl) | (have q := a4 i k hik (by omega) (by omega); rw [← q]; refine ⟨l.length - (k + 1), _, _, by omega, ?_, k + 1, rfl, by omega, by omega, .inr ⟨by rw [q]; exact hk1, rfl, rfl⟩⟩; exact Wk.fk [1, 3, 4, 5] rfl) | (have q := a3 i k hik (by omega); rw [hk0, List.nil_append] at q; refine ⟨l.length - (k + 1), [jk, .pointer (some ⟨2, 0, none⟩), jk, .slice (some ⟨3, 0, none⟩) (1) INF, .int .i64 (i), .int .i64 (k + 1), jk, jk, jk, jk, jk, jk, jk, jk, jk, jk, jk, jk, jk, jk, jk, jk, jk, jk, jk, jk, jk, jk, jk, jk, jk, jk, jk, jk, jk, jk, jk, jk, jk, jk, jk, jk, jk], [some ⟨flatP l, false, 0⟩, some ⟨flatT ts, false, 0⟩, some ⟨[.slice (some ⟨0, 0, none⟩) l.length c, .slice (some ⟨1, 0, none⟩) ts.length c2], true, 0⟩, some ⟨[.int .i64 (i : Int), .int .i64 (k : Int)], true, 2⟩], by omega, ?_, k + 1, rfl, by omega, by omega, .inr ⟨by rw [q]; exact Nat.one_pos, by rw [q]; rfl, by rw [q]; rfl⟩⟩; exact Wk.keep 3 [4] (by rw [hE]; exact Nat.le_of_ble_eq_true rfl) rfl rfl (by repeat (first | exact RenT.nil | refine RenT.jk ?_ | refine RenT.val (by rfl) (by rfl) ?_)) ⟨kl rfl (flatP_scal l), kl rfl (flatT_scal ts), ki rfl, kl rfl rfl, trivial⟩) | (have q := a3 i k hik (by omega); refine ⟨l.length - (k + 1), [jk, .pointer (some ⟨2, 0, none⟩), jk, .slice (some ⟨3, 0, none⟩) ((RK i k).length + 1) INF, .int .i64 (i), .int .i64 (k + 1), jk, jk, jk, jk, jk, jk, jk, jk, jk, jk, jk, jk, jk, jk, jk, jk, jk, jk, jk, jk, jk, jk, jk, jk, jk, jk, jk, jk, jk, jk, jk, jk, jk, jk, jk, jk, jk], [some ⟨flatP l, false, 0⟩, some ⟨flatT ts, false, 0⟩, some ⟨[.slice (some ⟨0, 0, none⟩) l.length c, .slice (some ⟨1, 0, none⟩) ts.length c2], true, 0⟩, some ⟨flatP (RK i k) ++ [.int .i64 (i : Int), .int .i64 (k : Int)], true, 2⟩], by omega, ?_, k + 1, rfl, by omega, by omega, .inr ⟨by rw [q, List.length_append]; exact Nat.succ_pos _, by rw [q, List.length_append]; rfl, by rw [q, hsn]⟩⟩; exact Wk.keep 3 [5] (by rw [hE]; exact Nat.le_of_ble_eq_true rfl) rfl rfl (by repeat (first | exact RenT.nil | refine RenT.jk ?_ | refine RenT.val (by rfl) (by rfl) ?_)) ⟨kl rfl (flatP_scal l), kl rfl (flatT_scal ts), ki rfl, ⟨_, rfl, rfl, rfl, .inl ⟨rfl, by rw [List.all_append, flatP_scal]; rfl⟩⟩, trivial⟩))) | ((with_reducible refine FinA.on ?_); (obtain rfl : i = l.length := (by omega); first | (exfalso; rw [a6] at hi0; rw [hi0] at hpos; exact absurd hpos (by simp)) | (rw [a6]; refine FinA.keep 2 [3] (.inl rfl) (.tmp wl .nil) ?_ rfl (Nat.le_of_eq hE) rfl rfl ⟨kl rfl (flatP_scal l), kl rfl (flatT_scal ts), kl rfl (flatP_scal _), trivial⟩; rfl))))
end Go.Proofs.YtmohcmghbfhdlaaGreat
end
end
/- Chapter 6: the copy of a net in blocks, its edges, in a greater memory. -/
section
set_option linter.unusedSimpArgs false
set_option linter.unusedVariables false
section
namespace Go.Me
open Go.Ab Go.Proofs.YtmohcmghbfhdlaaGreat
theorem liB_le {l : List Pn} {ts : List T3} (h : liB l ts = true) : l.length ≤ 1000 ∧ ts.length ≤ 1000 := by
 unfold liB fwB fwT at h
 rw [Bool.and_eq_true, decide_eq_true_iff, decide_eq_true_iff] at h
 omega
end Go.Me
namespace Go.Proofs.YtmohcmghbfhdlaaGreat
open Go Go.RowKit Go.Ab Go.Me
set_option maxRecDepth 100000
end Go.Proofs.YtmohcmghbfhdlaaGreat
end
end
/- Chapter 6: edges and sides in a greater memory; those of a wrong net. -/
section
set_option linter.unusedSimpArgs false
set_option linter.unusedVariables false
section
namespace Go.Proofs.YtmohcmghbfhdlaaGreat
open Go Go.RowKit Go.Ab Go.Me
set_option maxRecDepth 100000
set_option maxHeartbeats 4000000
theorem rEdges_q {m : Mem} {bP bT : Nat} {A B : Blk} (l : List Pn) (ts : List T3) (hR : NetR l ts) (c c2 : Nat) (hne : bP ≠ bT) (a1 : m.at bP = some A) (a2 : A.cells = flatP l) (b1 : m.at bT = some B) (b2 : B.cells = flatT ts) (a3 : A.obj = Ob.plain) (b3 : B.obj = Ob.plain) (a4 : A.esz = 0) (b4 : B.esz = 0) :
  ACalls Tryz.prog 31 [.agg #[.slice (some ⟨bP, 0, none⟩) l.length c, .slice (some ⟨bT, 0, none⟩) ts.length c2]] m (.slice (some ⟨m.length, 0, none⟩) (edL ts).length INF) (m ++ [some ⟨flatP (edL ts), true, 2⟩]) := by
 have h := ACalls.viaS (m := m) (args := [.agg #[.slice (some ⟨bP, 0, none⟩) l.length c, .slice (some ⟨bT, 0, none⟩) ts.length c2]]) (v := .slice (some ⟨m.length, 0, none⟩) (edL ts).length INF) [bP, bT] [] [some ⟨flatP (edL ts), true, 2⟩] (rEdges_0 l ts hR c c2) ⟨bS a1 a3 a2 (flatP_scal _) a4, bS b1 b3 b2 (flatT_scal _) b4, trivial⟩ (by simpa using hne) ⟨⟨_, rfl, rfl⟩, ⟨_, rfl, rfl⟩, ⟨rfl, rfl, rfl, .inl ⟨rfl, flatP_scal _⟩⟩, trivial⟩ rfl rfl rfl rfl
 exact h
theorem rSides_q {m : Mem} {bP bT : Nat} {A B : Blk} (l : List Pn) (ts : List T3) (hR : NetR l ts) (c c2 : Nat) (hne : bP ≠ bT) (a1 : m.at bP = some A) (a2 : A.cells = flatP l) (b1 : m.at bT = some B) (b2 : B.cells = flatT ts) (a3 : A.obj = Ob.plain) (b3 : B.obj = Ob.plain) (a4 : A.esz = 0) (b4 : B.esz = 0) :
  ACalls Tryz.prog 32 [.agg #[.slice (some ⟨bP, 0, none⟩) l.length c, .slice (some ⟨bT, 0, none⟩) ts.length c2]] m (.slice (some ⟨m.length, 0, none⟩) (edL ts).length INF) (m ++ [some ⟨flatP (sdL ts), true, 2⟩]) := by
 have h := ACalls.viaS (m := m) (args := [.agg #[.slice (some ⟨bP, 0, none⟩) l.length c, .slice (some ⟨bT, 0, none⟩) ts.length c2]]) (v := .slice (some ⟨m.length, 0, none⟩) (edL ts).length INF) [bP, bT] [] [some ⟨flatP (sdL ts), true, 2⟩] (rSides_0 l ts hR c c2 fun m A B a1 a2 b1 b2 a3 b3 a4 b4 => rEdges_q l ts hR c c2 (by decide) a1 a2 b1 b2 a3 b3 a4 b4) ⟨bS a1 a3 a2 (flatP_scal _) a4, bS b1 b3 b2 (flatT_scal _) b4, trivial⟩ (by simpa using hne) ⟨⟨_, rfl, rfl⟩, ⟨_, rfl, rfl⟩, ⟨rfl, rfl, rfl, .inl ⟨rfl, flatP_scal _⟩⟩, trivial⟩ rfl rfl rfl rfl
 exact h
end Go.Proofs.YtmohcmghbfhdlaaGreat
end
end
