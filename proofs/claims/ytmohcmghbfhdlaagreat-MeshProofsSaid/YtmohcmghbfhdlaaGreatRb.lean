/- Chapter 6: tasks of any form as arguments: Small, the copy of a task. -/
import Derived.Test.YtmohcmghbfhdlaaGreatQd
import Derived.Test.YtmohcmghbfhdlaaGreatQx
import Derived.Test.YtmohcmghbfhdlaaGreatQy
import Derived.Test.YtmohcmghbfhdlaaGreatRa
import Derived.Test.YtmohcmghbfhdlaaGreatQq
section
set_option linter.unusedSimpArgs false
set_option linter.unusedVariables false
section
namespace Go.Me
open Go.Ab Go.Proofs.YtmohcmghbfhdlaaGreat
abbrev l5V : Value := .slice (some ⟨5, 0, some default⟩) 0 0
theorem l5_lost {ρ : Ren} {x : Value} (h : VRel ρ l5V x) : VRel ρ lostV x := VRel.to_lost5 h
theorem SlV.ok {m : Mem} {i n k : Nat} {v : Value} {cs : List Value} (h : SlV m i v cs n) (hk : i < k) : ok1 k v = true := by
 rcases h with ⟨_, h0, rfl, h2, h3, h4⟩ | ⟨h1, rfl⟩ | ⟨h1, rfl⟩
 ·exact decide_eq_true hk
 ·rfl
 ·rfl
theorem SlV.slot {m : Mem} {i n bx k : Nat} {v : Value} {cs : List Value} (h : SlV m i v cs n) (hcs : cs = [] ↔ n = 0) (he : m.at i = Ls.blX cs) (hb : Row m bx []) (hk : k < 4) :
  ∃ t v' v1, Row m t cs ∧ (∀ τ : Nat → Nat, τ k = t → τ 5 = 0 → rn1 τ v' = v) ∧ ok1 4 v' = true ∧ (∀ (ρ : Ren) x, VRel ρ v' x → VRel ρ v1 x) ∧ ∀ m' : Mem, m'.at k = some ⟨cs, false, 0⟩ → SlV m' k v1 cs n := by
 rcases h with ⟨y, h0, rfl, h2, h3, h4⟩ | ⟨h1, rfl⟩ | ⟨h1, rfl⟩
 ·have hne : cs ≠ [] := fun h => by have := hcs.1 h; omega
  have e : Ls.blX cs = some ⟨cs, false, 0⟩ := if_neg hne
  refine ⟨i, .slice (some ⟨k, 0, none⟩) n INF, .slice (some ⟨k, 0, none⟩) n INF, ⟨_, he.trans e, rfl, rfl, fun _ _ h => h⟩, fun τ h1 _ => ?_, decide_eq_true hk, fun _ _ h => h, fun m' hm => .blk _ h0 rfl hm rfl rfl⟩
  show Value.slice (some ⟨τ k, 0, none⟩) n INF = _
  rw [h1]
 ·obtain rfl := hcs.2 h1
  exact ⟨bx, .slice none 0 0, .slice none 0 0, hb, fun _ _ _ => rfl, rfl, fun _ _ h => h, fun _ _ => .nil h1 rfl⟩
 ·obtain rfl := hcs.2 h1
  refine ⟨bx, l5V, lostV, hb, fun τ _ h2 => ?_, rfl, fun _ _ h => l5_lost h, fun _ _ => .lost h1 rfl⟩
  show Value.slice (some ⟨τ 5, 0, some default⟩) 0 0 = _
  rw [h2]
theorem VRel.agg2 {ρ : Ren} {a b a' b' x : Value} (h1 : ∀ x, VRel ρ a x → VRel ρ a' x) (h2 : ∀ x, VRel ρ b x → VRel ρ b' x) (h : VRel ρ (.agg #[a, b]) x) : VRel ρ (.agg #[a', b']) x := by
 obtain ⟨xs, rfl, h3, h4⟩ := h.agg_inv
 refine .agg h3 fun i g g' => ?_
 match i, g with
 | 0, _ =>
  obtain ⟨u, e, r⟩ := h4 0 _ rfl
  rw [Array.getElem?_eq_getElem g'] at e
  cases e
  exact h1 _ r
 | 1, _ =>
  obtain ⟨u, e, r⟩ := h4 1 _ rfl
  rw [Array.getElem?_eq_getElem g'] at e
  cases e
  exact h2 _ r
theorem VRel.tup1 {ρ : Ren} {a a' x : Value} (h1 : ∀ x, VRel ρ a x → VRel ρ a' x) (h : VRel ρ (.tuple #[a]) x) : VRel ρ (.tuple #[a']) x := by
 obtain ⟨xs, rfl, h3, h4⟩ := h.tuple_inv
 refine .tuple h3 fun i g g' => ?_
 match i, g with
 | 0, _ =>
  obtain ⟨u, e, r⟩ := h4 0 _ rfl
  rw [Array.getElem?_eq_getElem g'] at e
  cases e
  exact h1 _ r
def smT (l : List Pn) (ts : List T3) (ph cs : List Int) : Bool := liB l ts && (decide ((ph.length : Int) ≤ 45) && decide ((cs.length : Int) ≤ 30))
end Go.Me
namespace Go.Proofs.YtmohcmghbfhdlaaGreat
open Go Go.RowKit Go.Ab Go.Me
set_option maxRecDepth 100000
set_option maxHeartbeats 4000000
attribute [local irreducible] OQ OW AL AW AF SW
theorem CopyTask_w (l : List Pn) (ts : List T3) (ph cs : List Int) (v w u x : Value)
  (hC : ∀ m : Mem, m.at 0 = some ⟨flatP l, false, 0⟩ → m.at 1 = some ⟨flatT ts, false, 0⟩ → ACalls Tryz.prog 15 [.agg #[v, w]] m (cpV m.length l ts) (m ++ cpM l ts))
  (hI : ∀ m : Mem, m.at 2 = some ⟨flatN ph, false, 0⟩ → ACalls Tryz.prog 16 [u] m (.slice (some ⟨m.length, 0, none⟩) ph.length (cpC ph.length)) (m ++ [some ⟨flatN ph, true, 1⟩]))
  (hJ : ∀ m : Mem, m.at 3 = some ⟨flatN cs, false, 0⟩ → ACalls Tryz.prog 16 [x] m (.slice (some ⟨m.length, 0, none⟩) cs.length (cpC cs.length)) (m ++ [some ⟨flatN cs, true, 1⟩])) :
  ACalls Tryz.prog 43 [.agg #[v, w, u, x]] [some ⟨flatP l, false, 0⟩, some ⟨flatT ts, false, 0⟩, some ⟨flatN ph, false, 0⟩, some ⟨flatN cs, false, 0⟩] (.agg #[.slice (some ⟨4, 0, none⟩) l.length (cpC l.length), .slice (some ⟨5, 0, none⟩) ts.length (cpC ts.length), .slice (some ⟨6, 0, none⟩) ph.length (cpC ph.length), .slice (some ⟨7, 0, none⟩) cs.length (cpC cs.length)])
   [some ⟨flatP l, false, 0⟩, some ⟨flatT ts, false, 0⟩, some ⟨flatN ph, false, 0⟩, some ⟨flatN cs, false, 0⟩, some ⟨flatP l, true, 2⟩, some ⟨flatT ts, true, 3⟩, some ⟨flatN ph, true, 1⟩, some ⟨flatN cs, true, 1⟩] := by
 refine ACalls.en 12 Tryz.func43 rfl rfl (fun E hE => ?_)
 repeat' (first | with_reducible (refine Then.n ?_) | ((with_reducible refine AL.on ?_); first | ((refine AL.g (OQ.buildS (ty := 67) (zs := [.slice none 0 0, .slice none 0 0, .slice none 0 0, .slice none 0 0]) (pls := [(0, 2), (2, 1), (3, 1)]) kr rfl kr rfl rfl rfl) ?_); refine AL.nm ?_) | ((first | ((with_reducible refine AL.k_call ?_); refine AL.acall (g := 16) rfl kr rfl ((by exact hJ _ rfl)) ?_) | refine AL.bx ?_ | ((with_reducible refine AL.k_alloc ?_); refine AL.w rfl (OW.alloc (ty := 67) (z := [.slice none 0 0, .slice none 0 0, .slice none 0 0, .slice none 0 0]) kr rfl) ?_) | ((with_reducible refine AL.k_store ?_); (refine AL.w rfl (OW.store (ty := 67) (n := 4) rfl wl rfl rfl kr rfl rfl (by decide) rfl (Nat.le_of_ble_eq_true rfl) (by intro r h; cases h)) ?_))); refine AL.nm ?_; refine AL.nM ?_) | refine AL.nil ?_) | ((with_reducible refine AW.on ?_); first | refine AW.seq ?_ | refine AW.ret ?_ | (refine AW.drawF (id := 1) 8 #[0, 1, 3, 0, 8, 31, 0, 64, 255, 511, 1023] kr kr ?_; (conv => (arg 8; simp only [List.take_succ_cons, List.take_zero]))) | refine AW.region ?_) | ((with_reducible refine AF.on ?_); first | ((first | ((with_reducible refine AF.k_fieldAddr ?_); first | refine AF.q 0 (SW.q (OQ.fieldA (ty := 67) (i := 0) (n := 2) (off := 0) (g := true) rfl kr (by decide)) rfl) ?_ | refine AF.q 0 (SW.q (OQ.fieldA (ty := 67) (i := 1) (n := 1) (off := 2) (g := false) rfl kr (by decide)) rfl) ?_ | refine AF.q 0 (SW.q (OQ.fieldA (ty := 67) (i := 2) (n := 1) (off := 3) (g := false) rfl kr (by decide)) rfl) ?_) | ((with_reducible refine AF.k_load ?_); first | refine AF.ql rfl (SW.q (OQ.loadN (ty := 25) (n := 2) rfl kr kr rfl) rfl) ?_ | (refine AF.ql rfl (SW.q (OQ.load1 (ty := 26) rfl kr wl) rfl) ?_))); refine AF.nm ?_) | ((first | refine AF.n2 2 (SW.acall (g := 15) rfl kr rfl ((by exact hC _ rfl rfl)) rfl) rfl rfl ?_ | refine AF.n1 2 (SW.acall (g := 16) rfl kr rfl ((by exact hI _ rfl)) rfl) rfl ?_); refine AF.nm ?_; (conv => (arg 10; try tactic => exact nrmF))) | refine AF.nl ?_) | ((with_reducible refine FinA.on ?_); (refine FinA.keep 4 [6, 7, 8, 9] (.inl rfl) (.cellN (n := 4) wl kr kr rfl .nil) ?_ rfl (Nat.le_of_eq hE) rfl rfl ⟨kl rfl (flatP_scal l), kl rfl (flatT_scal ts), kl rfl (flatN_scal _), kl rfl (flatN_scal _), kl rfl (flatP_scal l), kl rfl (flatT_scal ts), kl rfl (flatN_scal _), kl rfl (flatN_scal _), trivial⟩; rfl)))
abbrev ctM (l : List Pn) (ts : List T3) (ph cs : List Int) : Mem := [some ⟨flatP l, true, 2⟩, some ⟨flatT ts, true, 3⟩, some ⟨flatN ph, true, 1⟩, some ⟨flatN cs, true, 1⟩]
theorem CopyTask_g {m : Mem} {bx : Nat} {l : List Pn} {ts : List T3} {ph cs : List Int} {v w u x : Value} (h0 : SlV m 0 v (flatP l) l.length) (h1 : SlV m 1 w (flatT ts) ts.length) (h2 : SlV m 2 u (flatN ph) ph.length) (h3 : SlV m 3 x (flatN cs) cs.length)
  (e0 : m.at 0 = Ls.blX (flatP l)) (e1 : m.at 1 = Ls.blX (flatT ts)) (e2 : m.at 2 = Ls.blX (flatN ph)) (e3 : m.at 3 = Ls.blX (flatN cs)) (hb : Row m bx []) (hl : l.length ≤ 1000000) (ht : ts.length ≤ 1000000) (hp : ph.length ≤ 1000000) (hc : cs.length ≤ 1000000) :
  ACalls Tryz.prog 43 [.agg #[v, w, u, x]] m (.agg #[.slice (some ⟨m.length, 0, none⟩) l.length (cpC l.length), .slice (some ⟨m.length + 1, 0, none⟩) ts.length (cpC ts.length), .slice (some ⟨m.length + 2, 0, none⟩) ph.length (cpC ph.length), .slice (some ⟨m.length + 3, 0, none⟩) cs.length (cpC cs.length)]) (m ++ ctM l ts ph cs) := by
 obtain ⟨t0, v', v1, r0, n0, k0, q0, s0⟩ := h0.slot (k := 0) (flatP_nil l) e0 hb (by decide)
 obtain ⟨t1, w', w1, r1, n1, k1, q1, s1⟩ := h1.slot (k := 1) (flatT_nil ts) e1 hb (by decide)
 obtain ⟨t2, u', u1, r2, n2, k2, q2, s2⟩ := h2.slot (k := 2) (flatN_nil ph) e2 hb (by decide)
 obtain ⟨t3, x', x1, r3, n3, k3, q3, s3⟩ := h3.slot (k := 3) (flatN_nil cs) e3 hb (by decide)
 have hw := CopyTask_w l ts ph cs v' w' u' x' (fun m a b => (Copy_g (m := m) (by decide) (s0 m a) (s1 m b) hl ht).conv fun ρ y h => VRel.tup1 (fun _ => VRel.agg2 (q0 ρ) (q1 ρ)) h)
  (fun m a => (CopyInts_g (m := m) (s2 m a) hp).conv fun ρ y h => VRel.tup1 (q2 ρ) h) (fun m a => (CopyInts_g (m := m) (s3 m a) hc).conv fun ρ y h => VRel.tup1 (q3 ρ) h)
 refine ACalls.viaR [flatP l, flatT ts, flatN ph, flatN cs] [t0, t1, t2, t3] (ns := ctM l ts ph cs) hw (fun k c hk => ?_) (fun j blk hj => ?_) ?_ ?_ rfl rfl
 ·match k, hk with
  | 0, hk => cases hk; exact ⟨flatP_scal l, r0⟩
  | 1, hk => cases hk; exact ⟨flatT_scal ts, r1⟩
  | 2, hk => cases hk; exact ⟨flatN_scal ph, r2⟩
  | 3, hk => cases hk; exact ⟨flatN_scal cs, r3⟩
  | k + 4, hk => simp at hk
 ·match j, hj with
  | 0, hj => cases hj; exact ⟨rfl, flatP_scal l, rfl⟩
  | 1, hj => cases hj; exact ⟨rfl, flatT_scal ts, rfl⟩
  | 2, hj => cases hj; exact ⟨rfl, flatN_scal ph, rfl⟩
  | 3, hj => cases hj; exact ⟨rfl, flatN_scal cs, rfl⟩
  | j + 4, hj => simp [Mem.at] at hj
 ·have g0 := n0 (fun b => [t0, t1, t2, t3].getD b 0) rfl rfl
  have g1 := n1 (fun b => [t0, t1, t2, t3].getD b 0) rfl rfl
  have g2 := n2 (fun b => [t0, t1, t2, t3].getD b 0) rfl rfl
  have g3 := n3 (fun b => [t0, t1, t2, t3].getD b 0) rfl rfl
  show [Value.agg #[rn1 _ v', rn1 _ w', rn1 _ u', rn1 _ x']] = _
  rw [g0, g1, g2, g3]
 ·show ([ok1 4 v', ok1 4 w', ok1 4 u', ok1 4 x'].all id && true) = true
  rw [k0, k1, k2, k3]
  rfl
theorem Small_4 (v w : Value) (xu xx : Option Addr) (cu cx : Nat) (l : List Pn) (ts : List T3) (ph cs : List Int) (o0 o1 o2 o3 : Option Blk) (hr : Mem.ro [o0, o1, o2, o3]) (hLi : ∀ m : Mem, m.at 0 = o0 → m.at 1 = o1 → PCalls Tryz.prog 13 [.agg #[v, w]] m (.bool (liB l ts))) :
  PCalls Tryz.prog 40 [.agg #[v, w, .slice xu ph.length cu, .slice xx cs.length cx]] [o0, o1, o2, o3] (.bool (smT l ts ph cs)) := by
 have s1 : liB l ts = false → smT l ts ph cs = false := fun h => by unfold smT; rw [h]; rfl
 have s2 : liB l ts = true → ¬ (ph.length : Int) ≤ 45 → smT l ts ph cs = false := fun h h2 => by unfold smT; rw [h, decide_eq_false h2]; rfl
 have s3 : liB l ts = true → (ph.length : Int) ≤ 45 → smT l ts ph cs = decide ((cs.length : Int) ≤ 30) := fun h h2 => by unfold smT; rw [h, decide_eq_true h2]; rfl
 generalize smT l ts ph cs = SM at *
 generalize liB l ts = B0 at *
 refine PCalls.en 17 Tryz.func40 rfl (hr) rfl (fun E => ?_)
 repeat' (first | with_reducible (refine Then.n ?_) | ((with_reducible refine AL.on ?_); first | (refine AL.gd rfl ?_; (refine AL.gs1 rfl rfl (fun hc => ?_) (fun hc => ?_) <;> (try replace hc := nc hc) <;> first | (exfalso; contradiction) | refine AL.nm ?_)) | ((first | ((with_reducible refine AL.k_fieldAddr ?_); first | refine AL.g (OQ.fieldA (ty := 67) (i := 0) (n := 2) (off := 0) (g := true) rfl kr (by decide)) ?_ | refine AL.g (OQ.fieldA (ty := 67) (i := 1) (n := 1) (off := 2) (g := false) rfl kr (by decide)) ?_ | refine AL.g (OQ.fieldA (ty := 67) (i := 2) (n := 1) (off := 3) (g := false) rfl kr (by decide)) ?_) | ((with_reducible refine AL.k_load ?_); first | refine AL.g (OQ.loadN (ty := 25) (n := 2) rfl kr kr rfl) ?_ | (refine AL.g (OQ.load1 (ty := 26) rfl kr wl) ?_)) | ((with_reducible refine AL.k_call ?_); refine AL.g (OQ.lenS (xt := 26) (r := (none, 1, false)) rfl kr) ?_) | refine AL.as ?_ | refine AL.mv ?_ | ((with_reducible refine AL.k_binOp ?_); refine AL.g (OQ.leq rfl rfl) ?_) | ((with_reducible refine AL.k_pick ?_); first | refine AL.pT ?_ | refine AL.pF ?_)); refine AL.nm ?_) | ((refine AL.pcall (g := 13) rfl kr rfl ((by exact hLi _ rfl rfl)) ?_); refine AL.nm ?_) | ((refine AL.bx ?_); refine AL.nm ?_; refine AL.nM ?_) | refine AL.nil ?_) | ((with_reducible refine AW.on ?_); first | refine AW.seq ?_ | refine AW.ret ?_ | refine AW.region ?_) | ((with_reducible refine FinP.on ?_); (refine FinP.ret (.tmp wl .nil) ?_ rfl); (try simp only [pack, List.drop, List.take]); all_goals (first | (rw [s1 (by assumption)]; done) | (rw [s2 (by assumption) (by omega)]; done) | (rw [s3 (by assumption) (by omega)]))))
theorem Small_g {m : Mem} {l : List Pn} {ts : List T3} {ph cs : List Int} {v w u x : Value} (h0 : SlV m 0 v (flatP l) l.length) (h1 : SlV m 1 w (flatT ts) ts.length) (h2 : SlV m 2 u (flatN ph) ph.length) (h3 : SlV m 3 x (flatN cs) cs.length)
  (e0 : m.at 0 = Ls.blX (flatP l)) (e1 : m.at 1 = Ls.blX (flatT ts)) (e2 : m.at 2 = Ls.blX (flatN ph)) (e3 : m.at 3 = Ls.blX (flatN cs)) (hl : (l.length : Int) ≤ 9223372036854775807) (ht : (ts.length : Int) ≤ 9223372036854775807) :
  PCalls Tryz.prog 40 [.agg #[v, w, u, x]] m (.bool (smT l ts ph cs)) := by
 have hu := h2
 have hx := h3
 have k0 := h0.ok (k := 4) (by decide)
 have k1 := h1.ok (k := 4) (by decide)
 have k2 := h2.ok (k := 4) (by decide)
 have k3 := h3.ok (k := 4) (by decide)
 obtain ⟨xu, cu, rfl⟩ : ∃ xa c, u = .slice xa ph.length c := by
  rcases hu with ⟨k, h0, h1, h2, h3, h4⟩ | ⟨h1, h2⟩ | ⟨h1, h2⟩
  ·exact ⟨_, _, h1⟩
  ·exact ⟨none, 0, by rw [h1]; exact h2⟩
  ·exact ⟨_, 0, by rw [h1]; exact h2⟩
 obtain ⟨xx, cx, rfl⟩ : ∃ xa c, x = .slice xa cs.length c := by
  rcases hx with ⟨k, h0, h1, h2, h3, h4⟩ | ⟨h1, h2⟩ | ⟨h1, h2⟩
  ·exact ⟨_, _, h1⟩
  ·exact ⟨none, 0, by rw [h1]; exact h2⟩
  ·exact ⟨_, 0, by rw [h1]; exact h2⟩
 refine PCalls.blx [flatP l, flatT ts, flatN ph, flatN cs] (Small_4 v w xu xx cu cx l ts ph cs _ _ _ _ (fun b blk hb => ?_) fun m' g0 g1 => Light_g (h0.of (g0.trans e0.symm)) (h1.of (g1.trans e1.symm)) hl ht) (fun k c hk => ?_) ?_ rfl
 ·match b, hb with
  | 0, hb => exact Ls.blX_ro _ _ hb
  | 1, hb => exact Ls.blX_ro _ _ hb
  | 2, hb => exact Ls.blX_ro _ _ hb
  | 3, hb => exact Ls.blX_ro _ _ hb
  | b + 4, hb => simp [Mem.at] at hb
 ·match k, hk with
  | 0, hk => cases hk; exact ⟨flatP_scal l, e0⟩
  | 1, hk => cases hk; exact ⟨flatT_scal ts, e1⟩
  | 2, hk => cases hk; exact ⟨flatN_scal ph, e2⟩
  | 3, hk => cases hk; exact ⟨flatN_scal cs, e3⟩
  | k + 4, hk => simp at hk
 ·show ([ok1 4 v, ok1 4 w, ok1 4 _, ok1 4 _].all id && true) = true
  rw [k0, k1, k2, k3]
  rfl
end Go.Proofs.YtmohcmghbfhdlaaGreat
end
end
/- Chapter 6: the cost of turns (the reference's). -/
section
set_option linter.unusedSimpArgs false
set_option linter.unusedVariables false
section
namespace Go.Proofs.YtmohcmghbfhdlaaGreat
open Go Go.RowKit Go.Ab Go.Me
set_option maxRecDepth 100000
set_option maxHeartbeats 4000000
attribute [local irreducible] OQ OW AL AW AF SW
theorem rSize_q (n : Int) (hn : -1000000000000 ≤ n ∧ n ≤ 1000000000000) (m : Mem) : PCalls Tryz.prog 93 [.int .i64 n] m (.int .i64 (if -n > n then -n else n)) := by
 refine PCalls.any ?_ rfl rfl m
 refine PCalls.en 6 Tryz.func93 rfl (ro_nil) rfl (fun E => ?_)
 repeat' (first | with_reducible (first | refine Then.n ?_ | refine Then.r ?_ | refine Then.x ?_ | refine InB.n ?_ | refine InB.r ?_ | refine InB.hit ?_ | refine InB.miss (by decide) ?_) | ((with_reducible refine AL.on ?_); first | ((first | ((with_reducible refine AL.k_assign ?_); first | refine AL.as ?_) | ((with_reducible refine AL.k_move ?_); first | refine AL.mv ?_) | ((with_reducible refine AL.k_unOp ?_); first | refine AL.g (OQ.negi rfl (by omega)) ?_ | refine AL.g (OQ.neg rfl) ?_) | ((with_reducible refine AL.k_call ?_); first | refine AL.g (OQ.max2 rfl rfl) ?_)); refine AL.nm ?_) | refine AL.nil ?_) | ((with_reducible refine AW.on ?_); first | refine AW.seq ?_ | refine AW.skip ?_ | refine AW.exit ?_ | refine AW.ret ?_ | refine AW.block ?_ | refine AW.region ?_ | (refine AW.conds rfl (fun hc => ?_) (fun hc => ?_) <;> (try replace hc := nc hc) <;> first | (exfalso; first | contradiction | (first | omega | (simp at hc; omega)); done) | skip)) | ((with_reducible refine FinP.on ?_); (first | refine FinP.ret (.tmp wl .nil) ?_ rfl | refine FinP.end (.tmp wl .nil) ?_ rfl); (try simp only [pack, List.drop, List.take]); all_goals (rfl)))
theorem rCostOf_0 (cs xs : List Int) (hcl : cs.length = xs.length) (hb : ∀ k, k < xs.length → (0 ≤ nt cs k ∧ nt cs k ≤ 1000) ∧ (-100 ≤ nt xs k ∧ nt xs k ≤ 100)) (hl : xs.length ≤ 240) (c c2 z z1 : Nat) :
  PCalls Tryz.prog 92 [.slice (some ⟨0, 0, none⟩) xs.length c, .slice (some ⟨1, 0, none⟩) xs.length c2] [some ⟨flatN cs, false, z⟩, some ⟨flatN xs, false, z1⟩] (.int .i64 (coL cs xs xs.length)) := by
 have hgC : ∀ k, k < xs.length → (flatN cs)[k]? = some (.int .i64 (nt cs k)) := fun k hk => flatN_get _ k (by omega)
 have hgX : ∀ k, k < xs.length → (flatN xs)[k]? = some (.int .i64 (nt xs k)) := fun k hk => flatN_get _ k hk
 have hcb := coL_bd (cs := cs) (xs := xs) hb
 have hs : ∀ k, coL cs xs (k + 1) = coL cs xs k + nt cs k * (if -nt xs k > nt xs k then -nt xs k else nt xs k) := fun k => rfl
 have h0 : coL cs xs 0 = 0 := rfl
 have hm : ∀ k, k < xs.length → (0 ≤ nt cs k * (if -nt xs k > nt xs k then -nt xs k else nt xs k) ∧ nt cs k * (if -nt xs k > nt xs k then -nt xs k else nt xs k) ≤ 100000) := fun k hk =>
  abs_mul (hb k hk).1 (hb k hk).2
 have hz := fun (k : Nat) (hk : k < xs.length) (m : Mem) => rSize_q (nt xs k) (by have := (hb k hk).2; omega) m
 generalize coL cs xs = CC at *
 refine PCalls.en 24 Tryz.func92 rfl (ro2p _ _ rfl rfl) rfl (fun E => ?_)
 repeat' (first | with_reducible (first | refine Then.n ?_ | refine Then.r ?_ | refine Then.x ?_ | refine InB.n ?_ | refine InB.r ?_ | refine InB.hit ?_ | refine InB.miss (by decide) ?_) | ((with_reducible refine AL.on ?_); first | ((first | ((with_reducible refine AL.k_move ?_); first | refine AL.mv ?_) | ((with_reducible refine AL.k_assign ?_); first | refine AL.as ?_) | ((with_reducible refine AL.k_binOp ?_); first | refine AL.g (OQ.lss rfl rfl) ?_ | refine AL.g (OQ.addi rfl rfl (by omega)) ?_ | refine AL.g (OQ.add rfl rfl) ?_) | ((with_reducible refine AL.k_call ?_); first | refine AL.g (OQ.lenS (xt := 26) (r := (none, 1, false)) rfl kr) ?_)); refine AL.nm ?_) | refine AL.nil ?_) | ((with_reducible refine AW.on ?_); first | refine AW.seq ?_ | refine AW.skip ?_ | refine AW.exit ?_ | refine AW.ret ?_ | ((refine AW.block (id := 0) ?_); (refine AW.fk [0, 1, 5, 6] ?_); (refine AW.loop (fun n' t' m => ∃ k : Nat, n' = xs.length - k ∧ k ≤ xs.length ∧ t' = (mtz 26 0 [(0, .slice (some ⟨0, 0, none⟩) xs.length c), (1, .slice (some ⟨1, 0, none⟩) xs.length c2), (5, .int .i64 (CC k)), (6, .int .i64 (k))]) ∧ m = [some ⟨flatN cs, false, z⟩, some ⟨flatN xs, false, z1⟩]) (xs.length) (by exact ⟨0, rfl, Nat.zero_le _, by rw [h0]; rfl, rfl⟩) ?_); (rintro n' t' m ⟨k, rfl, hk, rfl, rfl⟩); (refine AW.nT ?_)) | refine AW.block ?_ | (refine AW.drawF (id := 5) 11 #[0, 0, 0, 6, 14, 0, 0, 96, 224, 480, 1022, 2047, 4095] kr kr ?_; (conv => (arg 8; simp only [List.take_succ_cons, List.take_zero])); ((have hq1 := hb k (by omega); have hq2 := hm k (by omega); have hq3 := hcb k (by omega)))) | refine AW.region ?_ | (refine AW.conds rfl (fun hc => ?_) (fun hc => ?_) <;> (try replace hc := nc hc) <;> first | (exfalso; first | contradiction | (first | omega | (simp at hc; done)); done) | skip)) | ((with_reducible refine AF.on ?_); first | ((first | ((with_reducible refine AF.k_move ?_); first | (refine AF.q 0 (SW.q (OQ.move wl) rfl) ?_)) | ((with_reducible refine AF.k_binOp ?_); first | refine AF.q 0 (SW.q (OQ.muli rfl rfl (by omega)) rfl) ?_ | refine AF.q 0 (SW.q (OQ.mul rfl rfl) rfl) ?_) | ((with_reducible refine AF.k_indexAddr ?_); first | refine AF.q 0 (SW.q (OQ.idxAddr (ty := 26) (z := 1) (g := false) rfl rfl kr (by first | omega | decide) (by first | omega | decide)) rfl) ?_) | ((with_reducible refine AF.k_load ?_); first | (refine AF.ql rfl (SW.q (OQ.load1 (ty := 3) rfl kr (by first | (first | exact hgC k (by omega) | exact hgX k (by omega)) | (conv => lhs; whnf))) rfl) ?_)) | ((with_reducible refine AF.k_call ?_); first | refine AF.q 2 (SW.pcall (g := 93) rfl kr rfl ((by exact hz k (by omega) _)) rfl) ?_)); refine AF.nm ?_) | refine AF.nl ?_) | ((with_reducible refine ex_on ?_); (have hs2 := hs k; refine ⟨xs.length - (k + 1), _, _, by omega, ?_, k + 1, rfl, by omega, by rw [hs2], rfl⟩; exact Wk.fk [0, 1, 5, 6] rfl)) | ((with_reducible refine FinP.on ?_); (first | refine FinP.ret (.tmp wl .nil) ?_ rfl | refine FinP.end (.tmp wl .nil) ?_ rfl); (try simp only [pack, List.drop, List.take]); all_goals ((obtain rfl : k = xs.length := (by omega); rfl))))
theorem rCostOf_q {m : Mem} {b b' n n' c c2 : Nat} {C X : Blk} (cs xs : List Int) (hcl : cs.length = xs.length) (hb : ∀ k, k < xs.length → (0 ≤ nt cs k ∧ nt cs k ≤ 1000) ∧ (-100 ≤ nt xs k ∧ nt xs k ≤ 100)) (hl : xs.length ≤ 240) (x1 : m.at b = some C) (x2 : C.cells = flatN cs) (hn : cs.length = n) (y1 : m.at b' = some X) (y2 : X.cells = flatN xs) (hn' : xs.length = n') (x3 : C.obj = Ob.plain) (y3 : X.obj = Ob.plain) :
  PCalls Tryz.prog 92 [.slice (some ⟨b, 0, none⟩) n c, .slice (some ⟨b', 0, none⟩) n' c2] m (.int .i64 (coL cs xs n')) := by
 subst hn hn'
 rw [hcl]
 exact PCalls.viaS [b, b'] (rCostOf_0 cs xs hcl hb hl c c2 C.esz X.esz) (ro2p _ _ rfl rfl) ⟨bS x1 x3 x2 (flatN_scal _), bS y1 y3 y2 (flatN_scal _), trivial⟩ rfl rfl rfl rfl
end Go.Proofs.YtmohcmghbfhdlaaGreat
end
end
