/- Chapter 6: the opening of wrong nets. -/
import Derived.Test.YtmohcmghbfhdlaaGreatQd
import Derived.Test.YtmohcmghbfhdlaaGreatQk
import Derived.Test.YtmohcmghbfhdlaaGreatQm
section
set_option linter.unusedSimpArgs false
set_option linter.unusedVariables false
section
namespace Go.Me
open Go.Ab Go.Proofs.YtmohcmghbfhdlaaGreat
def fstN (f : Nat → Int) : Nat → Int
  | 0 => -1
  | k + 1 => if fstN f k ≠ -1 then fstN f k else if f k ≠ 0 then k else -1
theorem fstN_no {f : Nat → Int} : ∀ n : Nat, (∀ j, j < n → f j = 0) → fstN f n = -1 := by
  intro n
  induction n with
  | zero => intro _; rfl
  | succ n ih =>
    intro h
    unfold fstN
    rw [if_neg (fun h2 => h2 (ih fun j hj => h j (by omega))), if_neg (fun h2 => h2 (h n (by omega)))]
theorem fstN_yes {f : Nat → Int} {k : Nat} (hk : ∀ j, j < k → f j = 0) (he : f k ≠ 0) : ∀ n : Nat, k < n → fstN f n = k := by
  intro n
  induction n with
  | zero => intro h; omega
  | succ n ih =>
    intro h
    rcases Nat.lt_or_eq_of_le (Nat.le_of_lt_succ h) with h | rfl
    · have := ih h
      unfold fstN
      rw [this, if_pos (by omega)]
    · unfold fstN
      rw [if_neg (fun h2 => h2 (fstN_no k hk)), if_pos he]
def lfA (ts : List T3) : List (IE × Int) := lf ts ts.length
def opB (l : List Pn) (ts : List T3) : Bool := (lfA ts).any fun p => decide (lk (lfA ts) (p.1.2, p.1.1) = -1) && !bdB l p.1.1.toNat p.1.2.toNat
def gpB (l : List Pn) (ts : List T3) : Bool := decide (ts.length = 0) || decide (arT l ts ts.length ≠ arS l (hl l) (hl l).length) || decide ((us ts ts.length).length ≠ l.length)
def netE (l : List Pn) (ts : List T3) : Int :=
  if cpB l ≠ 0 then cpB l else if 80 < ts.length then 8 else if fstN (trK l ts) ts.length ≠ -1 then trK l ts (fstN (trK l ts) ts.length).toNat else if opB l ts = true then 25 else if gpB l ts = true then 14 else 0
def netI (l : List Pn) (ts : List T3) : Int :=
  if cpB l ≠ 0 then 0 else if 80 < ts.length then 0 else if fstN (trK l ts) ts.length ≠ -1 then fstN (trK l ts) ts.length else 0
abbrev mpU (u : List Int) : Blk := @Blk.mk [] true 0 ⟨some (.map (mpE encI (u.map fun k => (k, Value.bool true))) (u.map fun k => (k, Value.bool true)).length)⟩
theorem lf_succ (ts : List T3) (k : Nat) : lf ts (k + 1) = lf ts k ++ [(((tr ts k).1, (tr ts k).2.1), (k : Int))] ++ [(((tr ts k).2.1, (tr ts k).2.2), (k : Int))] ++ [(((tr ts k).2.2, (tr ts k).1), (k : Int))] := rfl
theorem shp_map {κ : Type} {enc : κ → Value} {σ : Nat → Nat} {n : Nat} {A B : List (κ × Value)} (h : A = B) : (mpL enc A).shp = Blk.shpR σ n (mpL enc B) := by subst h; rfl
structure Rnd3 (ts : List T3) (k : Nat) : Prop where
  a1 : ∀ p ∈ lfV (lf ts k), okE p.1
  a2 : ∀ p ∈ lfV (lf ts k) ++ [(((tr ts k).1, (tr ts k).2.1), Value.int .i64 (k : Int))], okE p.1
  a3 : ∀ p ∈ lfV (lf ts k) ++ [(((tr ts k).1, (tr ts k).2.1), Value.int .i64 (k : Int))] ++ [(((tr ts k).2.1, (tr ts k).2.2), Value.int .i64 (k : Int))], okE p.1
  b1 : ((tr ts k).1, (tr ts k).2.1) ∉ (lfV (lf ts k)).map (·.1)
  b2 : ((tr ts k).2.1, (tr ts k).2.2) ∉ (lfV (lf ts k) ++ [(((tr ts k).1, (tr ts k).2.1), Value.int .i64 (k : Int))]).map (·.1)
  b3 : ((tr ts k).2.2, (tr ts k).1) ∉ (lfV (lf ts k) ++ [(((tr ts k).1, (tr ts k).2.1), Value.int .i64 (k : Int))] ++ [(((tr ts k).2.1, (tr ts k).2.2), Value.int .i64 (k : Int))]).map (·.1)
  o1 : okE ((tr ts k).1, (tr ts k).2.1)
  o2 : okE ((tr ts k).2.1, (tr ts k).2.2)
  o3 : okE ((tr ts k).2.2, (tr ts k).1)
  c : lfV (lf ts k) ++ [(((tr ts k).1, (tr ts k).2.1), Value.int .i64 (k : Int))] ++ [(((tr ts k).2.1, (tr ts k).2.2), Value.int .i64 (k : Int))] ++ [(((tr ts k).2.2, (tr ts k).1), Value.int .i64 (k : Int))] = lfV (lf ts (k + 1))
theorem rnd3 {l : List Pn} {ts : List T3} {k : Nat} (hl : l.length ≤ 1000) (h : LfOk l.length (lf ts k)) (he : trK l ts k = 0) : Rnd3 ts k := by
  obtain ⟨h1, h2, h3, h4⟩ := lf_step h he
  have e1 : lfV (lf ts k) ++ [(((tr ts k).1, (tr ts k).2.1), Value.int .i64 (k : Int))] = lfV (lf ts k ++ [(((tr ts k).1, (tr ts k).2.1), (k : Int))]) := by rw [lfV_app]; rfl
  have e2 : lfV (lf ts k) ++ [(((tr ts k).1, (tr ts k).2.1), Value.int .i64 (k : Int))] ++ [(((tr ts k).2.1, (tr ts k).2.2), Value.int .i64 (k : Int))] = lfV (lf ts k ++ [(((tr ts k).1, (tr ts k).2.1), (k : Int))] ++ [(((tr ts k).2.1, (tr ts k).2.2), (k : Int))]) := by rw [lfV_app, lfV_app]; rfl
  have e3 : lfV (lf ts k) ++ [(((tr ts k).1, (tr ts k).2.1), Value.int .i64 (k : Int))] ++ [(((tr ts k).2.1, (tr ts k).2.2), Value.int .i64 (k : Int))] ++ [(((tr ts k).2.2, (tr ts k).1), Value.int .i64 (k : Int))] = lfV (lf ts (k + 1)) := by rw [lf_succ, lfV_app, lfV_app, lfV_app]; rfl
  have hall := h4.okE hl
  have hA : ∀ X : List (IE × Int), (∀ p ∈ X, p ∈ lf ts (k + 1)) → ∀ p ∈ lfV X, okE p.1 := fun X hX p hp => by
    obtain ⟨q, hq, rfl⟩ := List.mem_map.1 hp
    exact hall q (hX q hq)
  have hin : ∀ q, q ∈ lf ts (k + 1) ↔ ((q ∈ lf ts k ∨ q = (((tr ts k).1, (tr ts k).2.1), (k : Int))) ∨ q = (((tr ts k).2.1, (tr ts k).2.2), (k : Int))) ∨ q = (((tr ts k).2.2, (tr ts k).1), (k : Int)) := fun q => by
    rw [lf_succ]
    simp only [List.mem_append, List.mem_singleton]
  refine ⟨hA _ fun p hp => (hin p).2 (.inl (.inl (.inl hp))), ?_, ?_, by rw [lfV_keys]; exact h1, by rw [e1, lfV_keys]; exact h2, by rw [e2, lfV_keys]; exact h3, hall (((tr ts k).1, (tr ts k).2.1), (k : Int)) ((hin _).2 (.inl (.inl (.inr rfl)))), hall (((tr ts k).2.1, (tr ts k).2.2), (k : Int)) ((hin _).2 (.inl (.inr rfl))), hall (((tr ts k).2.2, (tr ts k).1), (k : Int)) ((hin _).2 (.inr rfl)), e3⟩
  · rw [e1]
    refine hA _ fun p hp => (hin p).2 (.inl (.inl ?_))
    simpa only [List.mem_append, List.mem_singleton] using hp
  · rw [e2]
    refine hA _ fun p hp => (hin p).2 (.inl ?_)
    simpa only [List.mem_append, List.mem_singleton] using hp
theorem hl_lt {l : List Pn} (h : cpB l = 0) : ∀ k, k < (hl l).length → ot (hl l) k < l.length := fun k hk =>
  ((ordL_sorted (cp_ok h).2.2).mem _).1 (hullI_sub l _ _ (List.mem_of_getElem? (ot_lt hk)))
end Go.Me
namespace Go.Proofs.YtmohcmghbfhdlaaGreat
open Go Go.RowKit Go.Ab Go.Me
set_option maxRecDepth 100000
set_option maxHeartbeats 4000000
attribute [local irreducible] OQ OW AL AW AF SW
theorem open_c (l : List Pn) (ts : List T3) (c c2 z z1 : Nat) (hz : z = 0 ∨ z = 2) (hl : l.length ≤ 1000000) (he : cpB l ≠ 0) : PCalls Tryz.prog 71 [.agg #[.slice (some ⟨0, 0, none⟩) l.length c, .slice (some ⟨1, 0, none⟩) ts.length c2]] [some ⟨flatP l, false, z⟩, some ⟨flatT ts, false, z1⟩] (.tuple #[.pointer none, .int .i64 0, .int .i64 (cpB l)]) := by
  have hp := fun (m : Mem) (b : Nat) (blk : Blk) (h1 : m.at b = some blk) (h2 : blk.cells = flatP l) (h3 : blk.esz = 0 ∨ blk.esz = 2) (h4 : blk.obj = Ob.plain) => CheckPoints_q (c := c) l h1 h2 rfl hl h3 h4
  generalize cpA l = A0 at *
  generalize cpB l = B0 at *
  refine PCalls.en 164 Tryz.func71 rfl (ro2p _ _ rfl rfl) rfl (fun E => ?_)
  repeat' (first | with_reducible (first | refine Then.n ?_ | refine Then.r ?_) | ((with_reducible refine AL.on ?_); first | ((first | ((with_reducible refine AL.k_move ?_); (refine AL.q rfl (OQ.move wl) ?_)) | ((with_reducible refine AL.k_assign ?_); (refine AL.q rfl (OQ.assign wl) ?_)) | ((with_reducible refine AL.k_load ?_); (refine AL.q rfl (OQ.load1 (ty := 22) rfl kr wl) ?_)) | ((with_reducible refine AL.k_fieldAddr ?_); refine AL.q rfl (OQ.fieldA (ty := 25) (i := 0) (n := 1) (off := 0) (g := false) rfl kr (by decide)) ?_) | ((with_reducible refine AL.k_binOp ?_); refine AL.q rfl (OQ.neq rfl rfl) ?_) | ((with_reducible refine AL.k_extract ?_); refine AL.q rfl (OQ.extract rfl rfl) ?_)); (refine AL.nm ?_)) | ((((with_reducible refine AL.k_call ?_); refine AL.pcall (g := 121) rfl kr rfl ((by exact hp _ 0 _ rfl rfl hz rfl)) ?_)); (refine AL.nm ?_)) | ((((with_reducible refine AL.k_box ?_); (refine AL.w rfl (OW.box wl (by intro r h; cases h)) ?_))); (refine AL.nm ?_); (refine AL.nM ?_)) | refine AL.nil ?_) | ((with_reducible refine AW.on ?_); first | refine AW.seq ?_ | refine AW.ret ?_ | refine AW.region ?_ | (refine AW.conds rfl (fun hc => ?_) (fun hc => ?_) <;> (try replace hc := nc hc) <;> first | (exfalso; contradiction) | skip)) | ((with_reducible refine FinP.on ?_); (refine FinP.ret (.tmp wl (.tmp wl (.tmp wl .nil))) ?_ rfl); (try simp only [pack, List.drop, List.take]); all_goals (rfl)))
end Go.Proofs.YtmohcmghbfhdlaaGreat
end
end
/- Chapter 6: the opening of nets that are not right. -/
section
set_option linter.unusedSimpArgs false
set_option linter.unusedVariables false
section
namespace Go.Me
open Go.Ab Go.Proofs.YtmohcmghbfhdlaaGreat
theorem le_nodup {α : Type} [BEq α] [LawfulBEq α] : ∀ (l ps : List α), l.Nodup → (∀ y ∈ l, y ∈ ps) → l.length ≤ ps.length
  | [], _, _, _ => Nat.zero_le _
  | x :: l, ps, hn, h => by
    have hx := h x (by simp)
    have hn' := List.nodup_cons.1 hn
    have := le_nodup l (ps.erase x) hn'.2 fun y hy => (List.mem_erase_of_ne (fun e => hn'.1 (by rw [← e]; exact hy))).2 (h y (List.mem_cons_of_mem _ hy))
    rw [List.length_erase_of_mem hx] at this
    have : 0 < ps.length := List.length_pos_of_mem hx
    simp only [List.length_cons]
    omega
theorem seen_le {n : Nat} {seen : List Nat} (hn : seen.Nodup) (h : ∀ j ∈ seen, j < n) : seen.length ≤ n := by
  have := le_nodup seen (List.range n) hn fun y hy => List.mem_range.2 (h y hy)
  rwa [List.length_range] at this
theorem seen_snoc {j : Nat} {seen : List Nat} (hn : seen.Nodup) (hj : j ∉ seen) : (seen ++ [j]).Nodup := by
  rw [List.nodup_append]
  refine ⟨hn, by simp, fun a ha b hb e => ?_⟩
  rw [List.mem_singleton] at hb
  subst hb
  subst e
  exact hj ha
theorem tri_bd {l : List Pn} {ts : List T3} {k : Nat} (hok : ∀ k, k < l.length → (pt l k).Ok) (h : trK l ts k = 0) : -800000000 ≤ arS l [(tr ts k).1.toNat, (tr ts k).2.1.toNat, (tr ts k).2.2.toNat] 3 ∧ arS l [(tr ts k).1.toNat, (tr ts k).2.1.toNat, (tr ts k).2.2.toNat] 3 ≤ 800000000 := by
  obtain ⟨h1, _⟩ := trK_0 h
  unfold inR at h1
  rw [arS_3]
  have := cr_bd (hok (tr ts k).1.toNat (by omega)) (hok (tr ts k).2.1.toNat (by omega)) (hok (tr ts k).2.2.toNat (by omega))
  unfold cr
  omega
theorem arT_bd {l : List Pn} {ts : List T3} (hok : ∀ k, k < l.length → (pt l k).Ok) : ∀ k, (∀ j, j < k → trK l ts j = 0) → -(800000000 * (k : Int)) ≤ arT l ts k ∧ arT l ts k ≤ 800000000 * (k : Int)
  | 0, _ => by unfold arT; omega
  | k + 1, h => by
    have := arT_bd hok k fun j hj => h j (by omega)
    have := tri_bd hok (h k (by omega))
    unfold arT
    omega
theorem lfV_get {n : Nat} {L : List (IE × Int)} (h : LfOk n L) {j : Nat} {kk : IE} {v : Value} (hj : (lfV L)[j]? = some (kk, v)) : j < L.length ∧ (∃ i : Int, v = .int .i64 i ∧ (kk, i) ∈ L) ∧ (0 ≤ kk.1 ∧ kk.1 < n) ∧ (0 ≤ kk.2 ∧ kk.2 < n) := by
  unfold lfV at hj
  rw [List.getElem?_map] at hj
  cases hq : L[j]? with
  | none => rw [hq] at hj; cases hj
  | some p =>
    rw [hq] at hj
    cases hj
    have hm := List.mem_of_getElem? hq
    have := h.rng p hm
    exact ⟨(List.getElem?_eq_some_iff.1 hq).1, ⟨p.2, rfl, hm⟩, this.1, this.2.1⟩
theorem lfV_flat (L : List (IE × Int)) : ∀ p ∈ lfV L, Ab.flat1 p.2 = true := fun p hp => by
  obtain ⟨q, _, rfl⟩ := List.mem_map.1 hp
  rfl
theorem lfV_len (L : List (IE × Int)) : (lfV L).length = L.length := List.length_map _
theorem opB_yes {l : List Pn} {ts : List T3} {kk : IE} {i : Int} (hm : (kk, i) ∈ lfA ts) (h1 : lk (lfA ts) (kk.2, kk.1) = -1) (h2 : bdB l kk.1.toNat kk.2.toNat = false) : opB l ts = true := by
  unfold opB
  rw [List.any_eq_true]
  exact ⟨_, hm, by simp only; rw [h1, h2]; rfl⟩
theorem opB_no {l : List Pn} {ts : List T3} (h : ∀ p ∈ lfA ts, lk (lfA ts) (p.1.2, p.1.1) = -1 → bdB l p.1.1.toNat p.1.2.toNat = true) : opB l ts = false := by
  unfold opB
  rw [List.any_eq_false]
  intro p hp h2
  rw [Bool.and_eq_true, decide_eq_true_iff] at h2
  have := h p hp h2.1
  rw [this] at h2
  cases h2.2
end Go.Me
end
section
namespace Go.Me
open Go.Ab Go.Proofs.YtmohcmghbfhdlaaGreat
theorem hl_le {l : List Pn} (h : cpB l = 0) : (hl l).length ≤ 1000 := by
  have h40 := (cp_ok h).1
  have e : (hl l).length = _ := congrArg List.length (hullI_ou l (ordL l))
  have h1 := ouK_le (l := l) (o := ordL l) (ordL l).length
  have h2 := ouK_le (l := l) (o := (ordL l).reverse) (ordL l).length
  rw [List.length_reverse] at h2
  rw [ordL_len] at h1 h2
  rw [e, List.length_append, List.length_take, List.length_take, ordL_len]
  omega
theorem two_of {l : List Pn} {ts : List T3} (hall : ∀ j, j < ts.length → trK l ts j = 0) (h : 0 < ts.length) : 2 ≤ l.length := by
  obtain ⟨h1, h2, _⟩ := trK_0 (hall 0 h)
  unfold inR at h1
  unfold ordB at h2
  omega
end Go.Me
end
end
/- Chapter 6: the opening of nets with a wrong triangle. -/
section
set_option linter.unusedSimpArgs false
set_option linter.unusedVariables false
section
namespace Go.Proofs.YtmohcmghbfhdlaaGreat
open Go Go.RowKit Go.Ab Go.Me
set_option maxRecDepth 100000
set_option maxHeartbeats 4000000
attribute [local irreducible] OQ OW AL AW AF SW
theorem open_t (l : List Pn) (ts : List T3) (c c2 z z1 : Nat) (hz : z = 0 ∨ z = 2) (h0 : cpB l = 0) (h80 : ts.length ≤ 80) (i : Nat) (hi : i < ts.length) (hji : ∀ j, j < i → trK l ts j = 0) (hti : trK l ts i ≠ 0) :
    PCalls Tryz.prog 71 [.agg #[.slice (some ⟨0, 0, none⟩) l.length c, .slice (some ⟨1, 0, none⟩) ts.length c2]] [some ⟨flatP l, false, z⟩, some ⟨flatT ts, false, z1⟩] (.tuple #[.pointer none, .int .i64 i, .int .i64 (trK l ts i)]) := by
  obtain ⟨h40, hok, hap⟩ := cp_ok h0
  have hp := fun (m : Mem) (b : Nat) (blk : Blk) (h1 : m.at b = some blk) (h2 : blk.cells = flatP l) (h3 : blk.esz = 0 ∨ blk.esz = 2) (h4 : blk.obj = Ob.plain) => CheckPoints_q (c := c) l h1 h2 rfl (by omega) h3 h4
  rw [h0] at hp
  have hlf := fun (k : Nat) (hj : ∀ j, j < k → trK l ts j = 0) => lf_ok (l := l) (ts := ts) k hj
  have hte : ∀ (k : Nat) (hk : k < ts.length) (hj : ∀ j, j < k → trK l ts j = 0) (m : Mem) (A B N : Blk) (own : Bool) (h1 : m.at 0 = some A) (h2 : A.cells = flatP l) (h3 : m.at 1 = some B) (h4 : B.cells = flatT ts) (h5 : m.at 4 = some N) (h6 : N.cells = [.slice (some ⟨0, 0, none⟩) l.length c, .slice (some ⟨1, 0, none⟩) ts.length c2, .slice none 0 0, .map (some 3)]) (h7 : m.at 3 = some (mpX (lf ts k) own 0)) (o1 : A.obj = Ob.plain) (o2 : B.obj = Ob.plain) (o3 : N.obj = Ob.plain), PCalls Tryz.prog 127 [.pointer (some ⟨4, 0, none⟩), .int .i64 k] m (.int .i64 (trK l ts k)) := fun k hk hj m A B N own h1 h2 h3 h4 h5 h6 h7 o1 o2 o3 => triangleErr_q l ts (lf ts k) hok (by omega) (by omega) (hlf k hj).nd ((hlf k hj).okE (by omega)) hk h1 h2 h3 h4 h5 h6 h7 o1 o2 o3
  have hr3 := fun (k : Nat) (hj : ∀ j, j < k → trK l ts j = 0) (he : trK l ts k = 0) => rnd3 (l := l) (by omega) (hlf k hj) he
  have hun := us_nodup ts
  have hrd := fun (a b d : Int) (m : Mem) => around_q a b d m
  have h3t : ∀ k, trK l ts k = 0 → (0 ≤ (tr ts k).1 ∧ (tr ts k).1 < l.length) ∧ (0 ≤ (tr ts k).2.1 ∧ (tr ts k).2.1 < l.length) ∧ (0 ≤ (tr ts k).2.2 ∧ (tr ts k).2.2 < l.length) := fun k he => by
    have := (trK_0 he).1
    unfold inR at this
    omega
  have hare : ∀ (k : Nat) (he : trK l ts k = 0) (m : Mem) (b d : Nat) (blk blk2 : Blk) (h1 : m.at b = some blk) (h2 : blk.cells = flatP l) (h3 : m.at d = some blk2) (h4 : blk2.cells = [.int .i64 (tr ts k).1, .int .i64 (tr ts k).2.1, .int .i64 (tr ts k).2.2]) (o1 : blk.obj = Ob.plain) (o2 : blk2.obj = Ob.plain), PCalls Tryz.prog 129 [.slice (some ⟨b, 0, none⟩) l.length c, .slice (some ⟨d, 0, none⟩) 3 3] m (.int .i64 (arS l [(tr ts k).1.toNat, (tr ts k).2.1.toNat, (tr ts k).2.2.toNat] 3)) := fun k he m b d blk blk2 h1 h2 h3 h4 o1 o2 => by
    have hq := h3t k he
    exact area_q l [(tr ts k).1.toNat, (tr ts k).2.1.toNat, (tr ts k).2.2.toNat] hok (fun j hj => by
      match j, hj with
      | 0, _ => show (tr ts k).1.toNat < _; omega
      | 1, _ => show (tr ts k).2.1.toNat < _; omega
      | 2, _ => show (tr ts k).2.2.toNat < _; omega
      | j + 3, hj => simp at hj; omega) (by simp) h1 h2 rfl h3 (by rw [h4]; show _ = [Value.int .i64 (((tr ts k).1.toNat : Nat) : Int), Value.int .i64 (((tr ts k).2.1.toNat : Nat) : Int), Value.int .i64 (((tr ts k).2.2.toNat : Nat) : Int)]; rw [Int.toNat_of_nonneg hq.1.1, Int.toNat_of_nonneg hq.2.1.1, Int.toNat_of_nonneg hq.2.2.1]) rfl o1 o2
  have htb := fun (k : Nat) (he : trK l ts k = 0) => tri_bd (l := l) (ts := ts) (k := k) hok he
  have hab := fun (k : Nat) (hj : ∀ j, j < k → trK l ts j = 0) => arT_bd (l := l) (ts := ts) hok k hj
  refine PCalls.enJ 164 Tryz.func71 rfl (ro2p _ _ rfl rfl) rfl (fun E hE => ?_)
  repeat' (first | with_reducible (first | refine Then.n ?_ | refine Then.r ?_ | refine Then.x ?_ | refine InB.n ?_ | refine InB.r ?_ | refine InB.hit ?_) | ((with_reducible refine AL.on ?_); first | ((first | ((with_reducible refine AL.k_move ?_); (refine AL.q rfl (OQ.move wl) ?_)) | ((with_reducible refine AL.k_assign ?_); (refine AL.q rfl (OQ.assign wl) ?_)) | ((with_reducible refine AL.k_load ?_); first | (refine AL.q rfl (OQ.load1 (ty := 22) rfl kr (by (conv => lhs; whnf))) ?_) | (refine AL.q rfl (OQ.load1 (ty := 23) rfl kr (by (conv => lhs; whnf))) ?_) | refine AL.q rfl (OQ.loadN (ty := 25) (n := 2) rfl kr kr (by rfl)) ?_ | refine AL.q rfl (OQ.loadN (ty := 62) (n := 3) rfl kr kr (by first | (exact flatT_ld rfl rfl _ (by omega)) | rfl)) ?_ | (refine AL.q rfl (OQ.load1 (ty := 3) rfl kr (by (conv => lhs; whnf))) ?_)) | ((with_reducible refine AL.k_call ?_); refine AL.q rfl (OQ.lenS (xt := 23) (r := (none, 3, true)) rfl kr) ?_) | ((with_reducible refine AL.k_binOp ?_); first | refine AL.q rfl (OQ.neq rfl rfl) ?_ | refine AL.q rfl (OQ.gtr rfl rfl) ?_ | refine AL.q rfl (OQ.lss rfl rfl) ?_ | refine AL.q rfl (OQ.addi rfl rfl (by omega)) ?_) | ((with_reducible refine AL.k_extract ?_); refine AL.q rfl (OQ.extract rfl rfl) ?_) | ((with_reducible refine AL.k_index ?_); refine AL.q rfl (OQ.idxArrL (ty := 170) (n := 2) (l := 3) rfl rfl kr (by omega) (by omega) rfl) ?_)); (refine AL.nm ?_)) | ((first | ((with_reducible refine AL.k_call ?_); first | refine AL.pcall (g := 121) rfl kr rfl ((by exact hp _ 0 _ rfl rfl hz rfl)) ?_ | refine AL.pcall (g := 127) rfl kr rfl ((by exact hte k (by omega) hj _ _ _ _ _ rfl rfl rfl rfl rfl rfl rfl rfl rfl rfl)) ?_ | refine AL.pcall (g := 128) rfl kr rfl (hrd _ _ _ _) ?_) | ((with_reducible refine AL.k_fieldAddr ?_); first | refine AL.q rfl (OQ.fieldA (ty := 25) (i := 0) (n := 1) (off := 0) (g := false) rfl kr (by decide)) ?_ | refine AL.q rfl (OQ.fieldA (ty := 25) (i := 1) (n := 1) (off := 1) (g := false) rfl kr (by decide)) ?_) | ((with_reducible refine AL.k_indexAddr ?_); first | refine AL.q rfl (OQ.idxAddr (ty := 23) (z := 3) (g := true) rfl rfl kr (by omega) (by omega)) ?_ | refine AL.q rfl (OQ.idxPtr (ty := 52) (n := 1) (l := 2) (g := false) rfl rfl kr (by omega) (by omega)) ?_) | ((with_reducible refine AL.k_build ?_); refine AL.q rfl (OQ.buildS (ty := 110) (zs := [.slice none 0 0, .slice none 0 0, .slice none 0 0, .map none]) (pls := [(0, 2), (2, 1), (3, 1)]) kr rfl kr rfl rfl rfl) ?_)); (refine AL.nm ?_)) | ((first | ((with_reducible refine AL.k_store ?_); first | (refine AL.w rfl (OW.store (ty := 62) (n := 3) rfl wl rfl rfl kr rfl rfl (by decide) rfl (Nat.le_of_ble_eq_true rfl) (by intro r h; cases h)) ?_) | (refine AL.w rfl (OW.store (ty := 52) (n := 2) rfl wl rfl rfl kr rfl rfl (by decide) rfl (Nat.le_of_ble_eq_true rfl) (by intro r h; cases h)) ?_)) | ((with_reducible refine AL.k_alloc ?_); first | refine AL.w rfl (OW.alloc (ty := 62) (z := [.int .i64 0, .int .i64 0, .int .i64 0]) kr rfl) ?_ | refine AL.w rfl (OW.alloc (ty := 52) (z := [.int .i64 0, .int .i64 0]) kr rfl) ?_) | ((with_reducible refine AL.k_box ?_); (refine AL.w rfl (OW.box wl (by intro r h; cases h)) ?_)) | refine AL.w rfl OW.makeMap ?_ | refine AL.w rfl (by first | exact OW.mupdN (enc := encE) (k := ((tr ts k).1, (tr ts k).2.1)) KE hs3.o1 hs3.a1 rfl rfl rfl Tryz.underlying108 rfl hs3.b1 rfl | exact OW.mupdN (enc := encE) (k := ((tr ts k).2.1, (tr ts k).2.2)) KE hs3.o2 hs3.a2 rfl rfl rfl Tryz.underlying108 rfl hs3.b2 rfl | exact OW.mupdN (enc := encE) (k := ((tr ts k).2.2, (tr ts k).1)) KE hs3.o3 hs3.a3 rfl rfl rfl Tryz.underlying108 rfl hs3.b3 rfl | exact OW.mins (enc := encI) (l := us ts k) (k := (tr ts k).1) (v := .bool true) KI trivial (fun _ _ => trivial) rfl rfl rfl Tryz.underlying107 rfl (hun k) rfl | exact OW.mins (enc := encI) (l := insL (us ts k) (tr ts k).1) (k := (tr ts k).2.1) (v := .bool true) KI trivial (fun _ _ => trivial) rfl rfl rfl Tryz.underlying107 rfl (insL_nodup (hun k)) rfl | exact OW.mins (enc := encI) (l := insL (insL (us ts k) (tr ts k).1) (tr ts k).2.1) (k := (tr ts k).2.2) (v := .bool true) KI trivial (fun _ _ => trivial) rfl rfl rfl Tryz.underlying107 rfl (insL_nodup (insL_nodup (hun k))) rfl) ?_); (refine AL.nm ?_); (refine AL.nM ?_)) | refine AL.nil ?_) | ((with_reducible refine AW.on ?_); first | refine AW.seq ?_ | refine AW.skip ?_ | refine AW.exit ?_ | refine AW.ret ?_ | ((refine AW.block (id := 0) ?_); (refine AW.fk [1, 7, 8, 9, 36, 37, 38] ?_); (refine AW.loop (fun n' t' m => ∃ k : Nat, n' = ts.length - k ∧ k ≤ ts.length ∧ (∀ j, j < k → trK l ts j = 0) ∧ t' = [jk, .pointer (some ⟨2, 0, none⟩), jk, jk, jk, jk, jk, .pointer (some ⟨4, 0, none⟩), .int .i64 (arT l ts k), .map (some 5), jk, jk, jk, jk, jk, jk, jk, jk, jk, jk, jk, jk, jk, jk, jk, jk, jk, jk, jk, jk, jk, jk, jk, jk, jk, jk, .slice (some ⟨1, 0, none⟩) ts.length c2, .int .i64 (ts.length), .int .i64 (k), jk, jk, jk, jk, jk, jk, jk, jk, jk, jk, jk, jk, jk, jk, jk, jk, jk, jk, jk, jk, jk, jk, jk, jk, jk, jk, jk, jk, jk, jk, jk, jk, jk, jk, jk, jk, jk, jk, jk, jk, jk, jk, jk, jk, jk, jk, jk, jk, jk, jk, jk, jk, jk, jk, jk, jk, jk, jk, jk, jk, jk, jk, jk, jk, jk, jk, jk, jk, jk, jk, jk, jk, jk, jk, jk, jk, jk, jk, jk, jk, jk, jk, jk, jk, jk, jk, jk, jk, jk, jk, jk, jk, jk, jk, jk, jk, jk, jk, jk, jk, jk, jk, jk, jk, jk, jk, jk, jk, jk, jk, jk, jk, jk, jk, jk, jk, jk, jk, jk, jk, jk, jk, jk, jk, jk, jk] ∧ m = [some ⟨flatP l, false, z⟩, some ⟨flatT ts, false, z1⟩, some ⟨[.slice (some ⟨0, 0, none⟩) l.length c, .slice (some ⟨1, 0, none⟩) ts.length c2], true, 0⟩, some (mpX (lf ts k) true 0), some ⟨[.slice (some ⟨0, 0, none⟩) l.length c, .slice (some ⟨1, 0, none⟩) ts.length c2, .slice none 0 0, .map (some 3)], true, 0⟩, some (mpU (us ts k))]) (ts.length) (by exact ⟨0, rfl, Nat.zero_le _, fun j h => absurd h (by omega), rfl, rfl⟩) ?_); (rintro n' t' m ⟨k, rfl, hk, hj, rfl, rfl⟩)) | (refine AW.block (id := 2) ?_; refine AW.unroll 4 ?_) | refine AW.block ?_ | (refine AW.drawF (id := 18) 6 #[0, 1, 3, 7, 0, 0, 63] kr kr ?_; (conv => (arg 8; simp only [List.take_succ_cons, List.take_zero]))) | (refine AW.drawF (id := 21) 5 #[0, 0, 2, 0, 14, 31, 63] kr kr ?_; (conv => (arg 8; simp only [List.take_succ_cons, List.take_zero])); ((have hq1 := htb k ‹_›; have hq2 := hab k hj))) | (refine AW.region (id := 15) ?_; ((have hs3 := hr3 k hj ‹_›; have ht3 := h3t k ‹_›))) | refine AW.region ?_ | (refine AW.conds rfl (fun hc => ?_) (fun hc => ?_) <;> (try replace hc := nc hc) <;> first | (exfalso; first | contradiction | (first | omega | (exact absurd (hj i (by omega)) hti)); done) | skip)) | ((with_reducible refine AF.on ?_); first | ((first | ((with_reducible refine AF.k_move ?_); (refine AF.q 0 (SW.q (OQ.move wl) rfl) ?_)) | ((with_reducible refine AF.k_load ?_); first | (refine AF.ql rfl (SW.q (OQ.load1 (ty := 108) rfl kr (by (conv => lhs; whnf))) rfl) ?_) | refine AF.ql rfl (SW.q (OQ.loadN (ty := 52) (n := 2) rfl kr kr (by rfl)) rfl) ?_ | (refine AF.ql rfl (SW.q (OQ.load1 (ty := 22) rfl kr (by (conv => lhs; whnf))) rfl) ?_)) | ((with_reducible refine AF.k_call ?_); refine AF.q 2 (SW.pcall (g := 129) rfl kr rfl ((by exact hare k ‹_› _ 0 6 _ _ rfl rfl rfl rfl rfl rfl)) rfl) ?_) | ((with_reducible refine AF.k_fieldAddr ?_); first | refine AF.q 0 (SW.q (OQ.fieldA (ty := 110) (i := 2) (n := 1) (off := 3) (g := false) rfl kr (by decide)) rfl) ?_ | refine AF.q 0 (SW.q (OQ.fieldA (ty := 25) (i := 0) (n := 1) (off := 0) (g := false) rfl kr (by decide)) rfl) ?_) | refine AF.q 2 (SW.q (OQ.nilCheck rfl) rfl) ?_ | refine AF.q 2 (SW.q (by exact OQ.sliceA (ty := 62) (n := 3) (z := 1) (g := false) (l := 0) (h := 3) rfl kr rfl rfl rfl rfl (by decide) (by decide) (by decide)) rfl) ?_); (conv => (arg 9; try tactic => exact nrmF)); (conv => (arg 11; try simp only [List.nil_append, List.cons_append]))) | (refine AF.nil ?_ kr; (conv => (arg 4; simp only [List.drop_succ_cons, List.drop_zero, List.drop_nil])))) | with_reducible refine AR.s ?_ | ((with_reducible refine ex_on ?_); (refine ⟨ts.length - (k + 1), [jk, .pointer (some ⟨2, 0, none⟩), jk, jk, jk, jk, jk, .pointer (some ⟨4, 0, none⟩), .int .i64 (arT l ts (k + 1)), .map (some 5), jk, jk, jk, jk, jk, jk, jk, jk, jk, jk, jk, jk, jk, jk, jk, jk, jk, jk, jk, jk, jk, jk, jk, jk, jk, jk, .slice (some ⟨1, 0, none⟩) ts.length c2, .int .i64 (ts.length), .int .i64 (((k + 1 : Nat) : Int)), jk, jk, jk, jk, jk, jk, jk, jk, jk, jk, jk, jk, jk, jk, jk, jk, jk, jk, jk, jk, jk, jk, jk, jk, jk, jk, jk, jk, jk, jk, jk, jk, jk, jk, jk, jk, jk, jk, jk, jk, jk, jk, jk, jk, jk, jk, jk, jk, jk, jk, jk, jk, jk, jk, jk, jk, jk, jk, jk, jk, jk, jk, jk, jk, jk, jk, jk, jk, jk, jk, jk, jk, jk, jk, jk, jk, jk, jk, jk, jk, jk, jk, jk, jk, jk, jk, jk, jk, jk, jk, jk, jk, jk, jk, jk, jk, jk, jk, jk, jk, jk, jk, jk, jk, jk, jk, jk, jk, jk, jk, jk, jk, jk, jk, jk, jk, jk, jk, jk, jk, jk, jk, jk, jk, jk, jk], [some ⟨flatP l, false, z⟩, some ⟨flatT ts, false, z1⟩, some ⟨[.slice (some ⟨0, 0, none⟩) l.length c, .slice (some ⟨1, 0, none⟩) ts.length c2], true, 0⟩, some (mpX (lf ts (k + 1)) true 0), some ⟨[.slice (some ⟨0, 0, none⟩) l.length c, .slice (some ⟨1, 0, none⟩) ts.length c2, .slice none 0 0, .map (some 3)], true, 0⟩, some (mpU (us ts (k + 1)))], by omega, ?_, k + 1, rfl, by omega, fun j h => (by rcases Nat.lt_or_eq_of_le (Nat.le_of_lt_succ h) with h | rfl; (exact hj j h); assumption), rfl, rfl⟩; exact Wk.keep 6 [] (by rw [hE]; exact (by decide : 2 ≤ 6)) rfl rfl (by repeat (first | exact RenT.nil | refine RenT.jk ?_ | refine RenT.val (by rfl) (by rfl) ?_)) ⟨⟨_, rfl, rfl, rfl, .inl ⟨rfl, flatP_scal l⟩⟩, ⟨_, rfl, rfl, rfl, .inl ⟨rfl, flatT_scal ts⟩⟩, ⟨_, rfl, rfl, rfl, .inr ⟨rfl, rfl⟩⟩, ⟨_, rfl, rfl, shp_map hs3.c, .inl ⟨rfl, rfl⟩⟩, ⟨_, rfl, rfl, rfl, .inr ⟨rfl, rfl⟩⟩, ⟨_, rfl, rfl, rfl, .inl ⟨rfl, rfl⟩⟩, trivial⟩)) | ((with_reducible refine FinJ.on ?_); (have hki : k = i := (by rcases Nat.lt_trichotomy k i with h | h | h; (exact absurd (hji k h) (by assumption)); (exact h); (exact absurd (hj i h) hti)); subst hki; exact FinJ.ret (.tmp wl (.tmp wl (.tmp wl .nil))) (jle_flat rfl))))
end Go.Proofs.YtmohcmghbfhdlaaGreat
end
end
/- Chapter 6: the opening of nets with a point beyond an edge. -/
section
set_option linter.unusedSimpArgs false
set_option linter.unusedVariables false
section
namespace Go.Proofs.YtmohcmghbfhdlaaGreat
open Go Go.RowKit Go.Ab Go.Me
set_option maxRecDepth 100000
set_option maxHeartbeats 4000000
attribute [local irreducible] OQ OW AL AW AF SW
theorem open_o (l : List Pn) (ts : List T3) (c c2 z z1 : Nat) (hz : z = 0 ∨ z = 2) (h0 : cpB l = 0) (h80 : ts.length ≤ 80) (hall : ∀ j, j < ts.length → trK l ts j = 0) (hop : opB l ts = true) :
    PCalls Tryz.prog 71 [.agg #[.slice (some ⟨0, 0, none⟩) l.length c, .slice (some ⟨1, 0, none⟩) ts.length c2]] [some ⟨flatP l, false, z⟩, some ⟨flatT ts, false, z1⟩] (.tuple #[.pointer none, .int .i64 0, .int .i64 25]) := by
  obtain ⟨h40, hok, hap⟩ := cp_ok h0
  have hp := fun (m : Mem) (b : Nat) (blk : Blk) (h1 : m.at b = some blk) (h2 : blk.cells = flatP l) (h3 : blk.esz = 0 ∨ blk.esz = 2) (h4 : blk.obj = Ob.plain) => CheckPoints_q (c := c) l h1 h2 rfl (by omega) h3 h4
  rw [h0] at hp
  have hlf := fun (k : Nat) (hj : ∀ j, j < k → trK l ts j = 0) => lf_ok (l := l) (ts := ts) k hj
  have hte : ∀ (k : Nat) (hk : k < ts.length) (hj : ∀ j, j < k → trK l ts j = 0) (m : Mem) (A B N : Blk) (own : Bool) (h1 : m.at 0 = some A) (h2 : A.cells = flatP l) (h3 : m.at 1 = some B) (h4 : B.cells = flatT ts) (h5 : m.at 4 = some N) (h6 : N.cells = [.slice (some ⟨0, 0, none⟩) l.length c, .slice (some ⟨1, 0, none⟩) ts.length c2, .slice none 0 0, .map (some 3)]) (h7 : m.at 3 = some (mpX (lf ts k) own 0)) (o1 : A.obj = Ob.plain) (o2 : B.obj = Ob.plain) (o3 : N.obj = Ob.plain), PCalls Tryz.prog 127 [.pointer (some ⟨4, 0, none⟩), .int .i64 k] m (.int .i64 (trK l ts k)) := fun k hk hj m A B N own h1 h2 h3 h4 h5 h6 h7 o1 o2 o3 => triangleErr_q l ts (lf ts k) hok (by omega) (by omega) (hlf k hj).nd ((hlf k hj).okE (by omega)) hk h1 h2 h3 h4 h5 h6 h7 o1 o2 o3
  have hr3 := fun (k : Nat) (hj : ∀ j, j < k → trK l ts j = 0) (he : trK l ts k = 0) => rnd3 (l := l) (by omega) (hlf k hj) he
  have hun := us_nodup ts
  have hrd := fun (a b d : Int) (m : Mem) => around_q a b d m
  have h3t : ∀ k, trK l ts k = 0 → (0 ≤ (tr ts k).1 ∧ (tr ts k).1 < l.length) ∧ (0 ≤ (tr ts k).2.1 ∧ (tr ts k).2.1 < l.length) ∧ (0 ≤ (tr ts k).2.2 ∧ (tr ts k).2.2 < l.length) := fun k he => by
    have := (trK_0 he).1
    unfold inR at this
    omega
  have hare : ∀ (k : Nat) (he : trK l ts k = 0) (m : Mem) (b d : Nat) (blk blk2 : Blk) (h1 : m.at b = some blk) (h2 : blk.cells = flatP l) (h3 : m.at d = some blk2) (h4 : blk2.cells = [.int .i64 (tr ts k).1, .int .i64 (tr ts k).2.1, .int .i64 (tr ts k).2.2]) (o1 : blk.obj = Ob.plain) (o2 : blk2.obj = Ob.plain), PCalls Tryz.prog 129 [.slice (some ⟨b, 0, none⟩) l.length c, .slice (some ⟨d, 0, none⟩) 3 3] m (.int .i64 (arS l [(tr ts k).1.toNat, (tr ts k).2.1.toNat, (tr ts k).2.2.toNat] 3)) := fun k he m b d blk blk2 h1 h2 h3 h4 o1 o2 => by
    have hq := h3t k he
    exact area_q l [(tr ts k).1.toNat, (tr ts k).2.1.toNat, (tr ts k).2.2.toNat] hok (fun j hj => by
      match j, hj with
      | 0, _ => show (tr ts k).1.toNat < _; omega
      | 1, _ => show (tr ts k).2.1.toNat < _; omega
      | 2, _ => show (tr ts k).2.2.toNat < _; omega
      | j + 3, hj => simp at hj; omega) (by simp) h1 h2 rfl h3 (by rw [h4]; show _ = [Value.int .i64 (((tr ts k).1.toNat : Nat) : Int), Value.int .i64 (((tr ts k).2.1.toNat : Nat) : Int), Value.int .i64 (((tr ts k).2.2.toNat : Nat) : Int)]; rw [Int.toNat_of_nonneg hq.1.1, Int.toNat_of_nonneg hq.2.1.1, Int.toNat_of_nonneg hq.2.2.1]) rfl o1 o2
  have htb := fun (k : Nat) (he : trK l ts k = 0) => tri_bd (l := l) (ts := ts) (k := k) hok he
  have hab := fun (k : Nat) (hj : ∀ j, j < k → trK l ts j = 0) => arT_bd (l := l) (ts := ts) hok k hj
  have hLf : LfOk l.length (lfA ts) := hlf ts.length hall
  have hat : ∀ (a b : Int) (hab : okE (a, b)) (m : Mem) (A B N : Blk) (own : Bool) (h1 : m.at 0 = some A) (h2 : A.cells = flatP l) (h3 : m.at 1 = some B) (h4 : B.cells = flatT ts) (h5 : m.at 4 = some N) (h6 : N.cells = [.slice (some ⟨0, 0, none⟩) l.length c, .slice (some ⟨1, 0, none⟩) ts.length c2, .slice none 0 0, .map (some 3)]) (h7 : m.at 3 = some (mpX (lf ts ts.length) own 0)) (o1 : A.obj = Ob.plain) (o2 : B.obj = Ob.plain) (o3 : N.obj = Ob.plain), PCalls Tryz.prog 130 [.pointer (some ⟨4, 0, none⟩), .int .i64 a, .int .i64 b] m (.int .i64 (lk (lfA ts) (a, b))) := fun a b hab m A B N own h1 h2 h3 h4 h5 h6 h7 o1 o2 o3 => at_q l ts (lfA ts) hLf.nd (hLf.okE (by omega)) a b hab h1 h2 h3 h4 h5 h6 h7 rfl o1 o2 o3
  have hcf := fun (a b : Int) (ha : 0 ≤ a ∧ a < l.length) (hb : 0 ≤ b ∧ b < l.length) (m : Mem) (bE : Nat) (A B X D : Blk) (h1 : m.at 0 = some A) (h2 : A.cells = flatP l) (h3 : m.at 1 = some B) (h4 : B.cells = flatT ts) (h5 : m.at 2 = some X) (h6 : X.cells = [.slice (some ⟨0, 0, none⟩) l.length c, .slice (some ⟨1, 0, none⟩) ts.length c2]) (h7 : m.at bE = some D) (h8 : D.cells = [.int .i64 a, .int .i64 b]) (o1 : A.obj = Ob.plain) (o2 : B.obj = Ob.plain) (o3 : X.obj = Ob.plain) (o4 : D.obj = Ob.plain) => ContainsF_q (c3 := c) l ts hok (by omega) a b ha hb rfl rfl h1 h2 h3 h4 h5 h6 h7 h8 o1 o2 o3 o4
  have hVf := lfV_flat (lfA ts)
  have hVl := lfV_len (lfA ts)
  have hnoop : (∀ j, j < (lfA ts).length → (∀ (kk : IE) (v : Value), (lfV (lfA ts))[j]? = some (kk, v) → lk (lfA ts) (kk.2, kk.1) = -1 → bdB l kk.1.toNat kk.2.toNat = true)) → opB l ts = false := fun h => opB_no fun p hp h1 => by
    obtain ⟨j, hj⟩ := List.mem_iff_getElem?.1 hp
    exact h j (List.getElem?_eq_some_iff.1 hj).1 p.1 (.int .i64 p.2) (by unfold lfV; rw [List.getElem?_map, hj]; rfl) h1
  refine PCalls.enJ 164 Tryz.func71 rfl (ro2p _ _ rfl rfl) rfl (fun E hE => ?_)
  repeat' (first | with_reducible (first | refine Then.n ?_ | refine Then.r ?_ | refine Then.x ?_ | refine InB.n ?_ | refine InB.r ?_ | refine InB.hit ?_) | ((with_reducible refine AL.on ?_); first | (refine AL.gd rfl ?_; (refine AL.gs1 rfl rfl (fun hc => ?_) (fun hc => ?_) <;> (try replace hc := nc hc) <;> first | (exfalso; contradiction) | (refine AL.nm ?_))) | ((first | ((with_reducible refine AL.k_move ?_); (refine AL.q rfl (OQ.move wl) ?_)) | ((with_reducible refine AL.k_assign ?_); (refine AL.q rfl (OQ.assign wl) ?_)) | ((with_reducible refine AL.k_load ?_); first | (refine AL.q rfl (OQ.load1 (ty := 22) rfl kr (by (conv => lhs; whnf))) ?_) | (refine AL.q rfl (OQ.load1 (ty := 23) rfl kr (by (conv => lhs; whnf))) ?_) | refine AL.q rfl (OQ.loadN (ty := 25) (n := 2) rfl kr kr (by rfl)) ?_ | refine AL.q rfl (OQ.loadN (ty := 62) (n := 3) rfl kr kr (by first | (exact flatT_ld rfl rfl _ (by omega)) | rfl)) ?_ | (refine AL.q rfl (OQ.load1 (ty := 3) rfl kr (by (conv => lhs; whnf))) ?_) | (refine AL.q rfl (OQ.load1 (ty := 108) rfl kr (by (conv => lhs; whnf))) ?_)) | ((with_reducible refine AL.k_call ?_); refine AL.q rfl (OQ.lenS (xt := 23) (r := (none, 3, true)) rfl kr) ?_) | ((with_reducible refine AL.k_binOp ?_); first | refine AL.q rfl (OQ.neq rfl rfl) ?_ | refine AL.q rfl (OQ.gtr rfl rfl) ?_ | refine AL.q rfl (OQ.lss rfl rfl) ?_ | refine AL.q rfl (OQ.addi rfl rfl (by omega)) ?_ | refine AL.q rfl (OQ.eql rfl rfl) ?_) | ((with_reducible refine AL.k_extract ?_); refine AL.q rfl (OQ.extract rfl rfl) ?_) | ((with_reducible refine AL.k_pick ?_); first | (refine AL.q rfl (OQ.pickT rfl (by with_reducible rfl) wl) ?_) | (refine AL.q rfl (OQ.pickF rfl (by with_reducible rfl) wl) ?_)) | ((with_reducible refine AL.k_index ?_); refine AL.q rfl (OQ.idxArrL (ty := 170) (n := 2) (l := 3) rfl rfl kr (by omega) (by omega) rfl) ?_) | refine AL.q rfl (OQ.nilCheck rfl) ?_ | refine AL.q rfl (OQ.mentry (b := 3) (j := j) (seen := seen) (k := kk) (l := lfV (lfA ts)) rfl rfl rfl hj rfl rfl) ?_); (refine AL.nm ?_)) | ((first | ((with_reducible refine AL.k_call ?_); first | refine AL.pcall (g := 121) rfl kr rfl ((by exact hp _ 0 _ rfl rfl hz rfl)) ?_ | refine AL.pcall (g := 127) rfl kr rfl ((by exact hte k (by omega) hj _ _ _ _ _ rfl rfl rfl rfl rfl rfl rfl rfl rfl rfl)) ?_ | refine AL.pcall (g := 128) rfl kr rfl (hrd _ _ _ _) ?_ | refine AL.pcall (g := 130) rfl kr rfl ((by exact hat _ _ ⟨⟨by omega, by omega⟩, by omega, by omega⟩ _ _ _ _ _ rfl rfl rfl rfl rfl rfl rfl rfl rfl rfl)) ?_ | refine AL.pcall (g := 131) rfl kr rfl ((by exact hcf _ _ hr1 hr2 _ 7 _ _ _ _ rfl rfl rfl rfl rfl rfl rfl rfl rfl rfl rfl rfl)) ?_) | ((with_reducible refine AL.k_fieldAddr ?_); first | refine AL.q rfl (OQ.fieldA (ty := 25) (i := 0) (n := 1) (off := 0) (g := false) rfl kr (by decide)) ?_ | refine AL.q rfl (OQ.fieldA (ty := 25) (i := 1) (n := 1) (off := 1) (g := false) rfl kr (by decide)) ?_ | refine AL.q rfl (OQ.fieldA (ty := 110) (i := 2) (n := 1) (off := 3) (g := false) rfl kr (by decide)) ?_) | ((with_reducible refine AL.k_indexAddr ?_); first | refine AL.q rfl (OQ.idxAddr (ty := 23) (z := 3) (g := true) rfl rfl kr (by omega) (by omega)) ?_ | refine AL.q rfl (OQ.idxPtr (ty := 52) (n := 1) (l := 2) (g := false) rfl rfl kr (by omega) (by omega)) ?_) | ((with_reducible refine AL.k_build ?_); refine AL.q rfl (OQ.buildS (ty := 110) (zs := [.slice none 0 0, .slice none 0 0, .slice none 0 0, .map none]) (pls := [(0, 2), (2, 1), (3, 1)]) kr rfl kr rfl rfl rfl) ?_) | refine AL.q rfl OQ.mkfn ?_); (refine AL.nm ?_)) | ((first | ((with_reducible refine AL.k_store ?_); first | (refine AL.w rfl (OW.store (ty := 62) (n := 3) rfl wl rfl rfl kr rfl rfl (by decide) rfl (Nat.le_of_ble_eq_true rfl) (by intro r h; cases h)) ?_) | (refine AL.w rfl (OW.store (ty := 52) (n := 2) rfl wl rfl rfl kr rfl rfl (by decide) rfl (Nat.le_of_ble_eq_true rfl) (by intro r h; cases h)) ?_)) | ((with_reducible refine AL.k_alloc ?_); first | refine AL.w rfl (OW.alloc (ty := 62) (z := [.int .i64 0, .int .i64 0, .int .i64 0]) kr rfl) ?_ | refine AL.w rfl (OW.alloc (ty := 52) (z := [.int .i64 0, .int .i64 0]) kr rfl) ?_) | ((with_reducible refine AL.k_box ?_); (refine AL.w rfl (OW.box wl (by intro r h; cases h)) ?_)) | refine AL.w rfl OW.makeMap ?_ | refine AL.w rfl (by first | exact OW.mupdN (enc := encE) (k := ((tr ts k).1, (tr ts k).2.1)) KE hs3.o1 hs3.a1 rfl rfl rfl Tryz.underlying108 rfl hs3.b1 rfl | exact OW.mupdN (enc := encE) (k := ((tr ts k).2.1, (tr ts k).2.2)) KE hs3.o2 hs3.a2 rfl rfl rfl Tryz.underlying108 rfl hs3.b2 rfl | exact OW.mupdN (enc := encE) (k := ((tr ts k).2.2, (tr ts k).1)) KE hs3.o3 hs3.a3 rfl rfl rfl Tryz.underlying108 rfl hs3.b3 rfl | exact OW.mins (enc := encI) (l := us ts k) (k := (tr ts k).1) (v := .bool true) KI trivial (fun _ _ => trivial) rfl rfl rfl Tryz.underlying107 rfl (hun k) rfl | exact OW.mins (enc := encI) (l := insL (us ts k) (tr ts k).1) (k := (tr ts k).2.1) (v := .bool true) KI trivial (fun _ _ => trivial) rfl rfl rfl Tryz.underlying107 rfl (insL_nodup (hun k)) rfl | exact OW.mins (enc := encI) (l := insL (insL (us ts k) (tr ts k).1) (tr ts k).2.1) (k := (tr ts k).2.2) (v := .bool true) KI trivial (fun _ _ => trivial) rfl rfl rfl Tryz.underlying107 rfl (insL_nodup (insL_nodup (hun k))) rfl) ?_ | refine AL.w rfl (OW.rangeMap rfl Tryz.underlying108 rfl) ?_ | refine (AL.mnext (b := 3) (enc := encE) (l := lfV (lfA ts)) KE rfl rfl rfl hVf (fun hdone => ?_) (fun j kk v hj hns => ?_))); (refine AL.nm ?_); (refine AL.nM ?_)) | refine AL.nil ?_) | ((with_reducible refine AW.on ?_); first | refine AW.seq ?_ | refine AW.skip ?_ | refine AW.exit ?_ | refine AW.ret ?_ | ((refine AW.block (id := 0) ?_); (refine AW.fk [1, 7, 8, 9, 36, 37, 38] ?_); (refine AW.loop (fun n' t' m => ∃ k : Nat, n' = ts.length - k ∧ k ≤ ts.length ∧ (∀ j, j < k → trK l ts j = 0) ∧ t' = [jk, .pointer (some ⟨2, 0, none⟩), jk, jk, jk, jk, jk, .pointer (some ⟨4, 0, none⟩), .int .i64 (arT l ts k), .map (some 5), jk, jk, jk, jk, jk, jk, jk, jk, jk, jk, jk, jk, jk, jk, jk, jk, jk, jk, jk, jk, jk, jk, jk, jk, jk, jk, .slice (some ⟨1, 0, none⟩) ts.length c2, .int .i64 (ts.length), .int .i64 (k), jk, jk, jk, jk, jk, jk, jk, jk, jk, jk, jk, jk, jk, jk, jk, jk, jk, jk, jk, jk, jk, jk, jk, jk, jk, jk, jk, jk, jk, jk, jk, jk, jk, jk, jk, jk, jk, jk, jk, jk, jk, jk, jk, jk, jk, jk, jk, jk, jk, jk, jk, jk, jk, jk, jk, jk, jk, jk, jk, jk, jk, jk, jk, jk, jk, jk, jk, jk, jk, jk, jk, jk, jk, jk, jk, jk, jk, jk, jk, jk, jk, jk, jk, jk, jk, jk, jk, jk, jk, jk, jk, jk, jk, jk, jk, jk, jk, jk, jk, jk, jk, jk, jk, jk, jk, jk, jk, jk, jk, jk, jk, jk, jk, jk, jk, jk, jk, jk, jk, jk, jk, jk, jk, jk, jk, jk] ∧ m = [some ⟨flatP l, false, z⟩, some ⟨flatT ts, false, z1⟩, some ⟨[.slice (some ⟨0, 0, none⟩) l.length c, .slice (some ⟨1, 0, none⟩) ts.length c2], true, 0⟩, some (mpX (lf ts k) true 0), some ⟨[.slice (some ⟨0, 0, none⟩) l.length c, .slice (some ⟨1, 0, none⟩) ts.length c2, .slice none 0 0, .map (some 3)], true, 0⟩, some (mpU (us ts k))]) (ts.length) (by exact ⟨0, rfl, Nat.zero_le _, fun j h => absurd h (by omega), rfl, rfl⟩) ?_); (rintro n' t' m ⟨k, rfl, hk, hj, rfl, rfl⟩)) | (refine AW.block (id := 2) ?_; refine AW.unroll 4 ?_) | ((refine AW.block (id := 4) ?_); (refine AW.fk [1, 7, 8, 9, 76] ?_); (refine AW.loop (fun n' t' m => ∃ seen : List Nat, n' = (lfA ts).length - seen.length ∧ seen.Nodup ∧ (∀ j ∈ seen, j < (lfA ts).length ∧ (∀ (kk : IE) (v : Value), (lfV (lfA ts))[j]? = some (kk, v) → lk (lfA ts) (kk.2, kk.1) = -1 → bdB l kk.1.toNat kk.2.toNat = true)) ∧ t' = [jk, .pointer (some ⟨2, 0, none⟩), jk, jk, jk, jk, jk, .pointer (some ⟨4, 0, none⟩), .int .i64 (arT l ts ts.length), .map (some 5), jk, jk, jk, jk, jk, jk, jk, jk, jk, jk, jk, jk, jk, jk, jk, jk, jk, jk, jk, jk, jk, jk, jk, jk, jk, jk, jk, jk, jk, jk, jk, jk, jk, jk, jk, jk, jk, jk, jk, jk, jk, jk, jk, jk, jk, jk, jk, jk, jk, jk, jk, jk, jk, jk, jk, jk, jk, jk, jk, jk, jk, jk, jk, jk, jk, jk, .pointer (some ⟨6, 0, none⟩), jk, jk, jk, jk, jk, jk, jk, jk, jk, jk, jk, jk, jk, jk, jk, jk, jk, jk, jk, jk, jk, jk, jk, jk, jk, jk, jk, jk, jk, jk, jk, jk, jk, jk, jk, jk, jk, jk, jk, jk, jk, jk, jk, jk, jk, jk, jk, jk, jk, jk, jk, jk, jk, jk, jk, jk, jk, jk, jk, jk, jk, jk, jk, jk, jk, jk, jk, jk, jk, jk, jk, jk, jk, jk, jk, jk, jk, jk, jk, jk, jk, jk, jk, jk, jk, jk, jk, jk] ∧ m = [some ⟨flatP l, false, z⟩, some ⟨flatT ts, false, z1⟩, some ⟨[.slice (some ⟨0, 0, none⟩) l.length c, .slice (some ⟨1, 0, none⟩) ts.length c2], true, 0⟩, some (mpX (lf ts ts.length) true 0), some ⟨[.slice (some ⟨0, 0, none⟩) l.length c, .slice (some ⟨1, 0, none⟩) ts.length c2, .slice none 0 0, .map (some 3)], true, 0⟩, some (mpU (us ts ts.length)), some (itL 3 (lfV (lfA ts)).length (seen))]) ((lfA ts).length) (by exact ⟨[], rfl, List.nodup_nil, fun j h => absurd h (by simp), rfl, rfl⟩) ?_); (rintro n' t' m ⟨seen, rfl, hnd, hG, rfl, rfl⟩)) | refine AW.block ?_ | (refine AW.drawF (id := 18) 6 #[0, 1, 3, 7, 0, 0, 63] kr kr ?_; (conv => (arg 8; simp only [List.take_succ_cons, List.take_zero]))) | (refine AW.drawF (id := 21) 5 #[0, 0, 2, 0, 14, 31, 63] kr kr ?_; (conv => (arg 8; simp only [List.take_succ_cons, List.take_zero])); ((have hq1 := htb k ‹_›; have hq2 := hab k hj))) | (refine AW.region (id := 15) ?_; ((have hs3 := hr3 k hj ‹_›; have ht3 := h3t k ‹_›))) | (refine AW.region (id := 23) ?_; ((obtain rfl : k = ts.length := (by omega)))) | (refine AW.region (id := 25) ?_; ((obtain ⟨hjl, ⟨vi, rfl, hmm⟩, hr1, hr2⟩ := lfV_get hLf hj))) | refine AW.region ?_ | (refine AW.conds rfl (fun hc => ?_) (fun hc => ?_) <;> (try replace hc := nc hc) <;> first | (exfalso; first | contradiction | (first | omega | (exact absurd (hall k (by omega)) (by assumption)) | (exact absurd (hnoop fun j hj => (hG j (hdone j (by rw [hVl]; exact hj))).2) (by rw [hop]; decide))); done) | skip)) | ((with_reducible refine AF.on ?_); first | ((first | ((with_reducible refine AF.k_move ?_); (refine AF.q 0 (SW.q (OQ.move wl) rfl) ?_)) | ((with_reducible refine AF.k_load ?_); first | (refine AF.ql rfl (SW.q (OQ.load1 (ty := 108) rfl kr (by (conv => lhs; whnf))) rfl) ?_) | refine AF.ql rfl (SW.q (OQ.loadN (ty := 52) (n := 2) rfl kr kr (by rfl)) rfl) ?_ | (refine AF.ql rfl (SW.q (OQ.load1 (ty := 22) rfl kr (by (conv => lhs; whnf))) rfl) ?_)) | ((with_reducible refine AF.k_call ?_); refine AF.q 2 (SW.pcall (g := 129) rfl kr rfl ((by exact hare k ‹_› _ 0 6 _ _ rfl rfl rfl rfl rfl rfl)) rfl) ?_) | ((with_reducible refine AF.k_fieldAddr ?_); first | refine AF.q 0 (SW.q (OQ.fieldA (ty := 110) (i := 2) (n := 1) (off := 3) (g := false) rfl kr (by decide)) rfl) ?_ | refine AF.q 0 (SW.q (OQ.fieldA (ty := 25) (i := 0) (n := 1) (off := 0) (g := false) rfl kr (by decide)) rfl) ?_) | refine AF.q 2 (SW.q (OQ.nilCheck rfl) rfl) ?_ | refine AF.q 2 (SW.q (by exact OQ.sliceA (ty := 62) (n := 3) (z := 1) (g := false) (l := 0) (h := 3) rfl kr rfl rfl rfl rfl (by decide) (by decide) (by decide)) rfl) ?_); (conv => (arg 9; try tactic => exact nrmF)); (conv => (arg 11; try simp only [List.nil_append, List.cons_append]))) | (refine AF.nil ?_ kr; (conv => (arg 4; simp only [List.drop_succ_cons, List.drop_zero, List.drop_nil])))) | with_reducible refine AR.s ?_ | ((with_reducible refine ex_on ?_); first | ((refine ⟨ts.length - (k + 1), [jk, .pointer (some ⟨2, 0, none⟩), jk, jk, jk, jk, jk, .pointer (some ⟨4, 0, none⟩), .int .i64 (arT l ts (k + 1)), .map (some 5), jk, jk, jk, jk, jk, jk, jk, jk, jk, jk, jk, jk, jk, jk, jk, jk, jk, jk, jk, jk, jk, jk, jk, jk, jk, jk, .slice (some ⟨1, 0, none⟩) ts.length c2, .int .i64 (ts.length), .int .i64 (((k + 1 : Nat) : Int)), jk, jk, jk, jk, jk, jk, jk, jk, jk, jk, jk, jk, jk, jk, jk, jk, jk, jk, jk, jk, jk, jk, jk, jk, jk, jk, jk, jk, jk, jk, jk, jk, jk, jk, jk, jk, jk, jk, jk, jk, jk, jk, jk, jk, jk, jk, jk, jk, jk, jk, jk, jk, jk, jk, jk, jk, jk, jk, jk, jk, jk, jk, jk, jk, jk, jk, jk, jk, jk, jk, jk, jk, jk, jk, jk, jk, jk, jk, jk, jk, jk, jk, jk, jk, jk, jk, jk, jk, jk, jk, jk, jk, jk, jk, jk, jk, jk, jk, jk, jk, jk, jk, jk, jk, jk, jk, jk, jk, jk, jk, jk, jk, jk, jk, jk, jk, jk, jk, jk, jk, jk, jk, jk, jk, jk, jk], [some ⟨flatP l, false, z⟩, some ⟨flatT ts, false, z1⟩, some ⟨[.slice (some ⟨0, 0, none⟩) l.length c, .slice (some ⟨1, 0, none⟩) ts.length c2], true, 0⟩, some (mpX (lf ts (k + 1)) true 0), some ⟨[.slice (some ⟨0, 0, none⟩) l.length c, .slice (some ⟨1, 0, none⟩) ts.length c2, .slice none 0 0, .map (some 3)], true, 0⟩, some (mpU (us ts (k + 1)))], by omega, ?_, k + 1, rfl, by omega, fun j h => (by rcases Nat.lt_or_eq_of_le (Nat.le_of_lt_succ h) with h | rfl; (exact hj j h); assumption), rfl, rfl⟩; exact Wk.keep 6 [] (by rw [hE]; exact (by decide : 2 ≤ 6)) rfl rfl (by repeat (first | exact RenT.nil | refine RenT.jk ?_ | refine RenT.val (by rfl) (by rfl) ?_)) ⟨⟨_, rfl, rfl, rfl, .inl ⟨rfl, flatP_scal l⟩⟩, ⟨_, rfl, rfl, rfl, .inl ⟨rfl, flatT_scal ts⟩⟩, ⟨_, rfl, rfl, rfl, .inr ⟨rfl, rfl⟩⟩, ⟨_, rfl, rfl, shp_map hs3.c, .inl ⟨rfl, rfl⟩⟩, ⟨_, rfl, rfl, rfl, .inr ⟨rfl, rfl⟩⟩, ⟨_, rfl, rfl, rfl, .inl ⟨rfl, rfl⟩⟩, trivial⟩)) | ((have hG2 : ∀ x ∈ seen ++ [j], x < (lfA ts).length ∧ (∀ (kk : IE) (v : Value), (lfV (lfA ts))[x]? = some (kk, v) → lk (lfA ts) (kk.2, kk.1) = -1 → bdB l kk.1.toNat kk.2.toNat = true) := (fun x hx => by rcases List.mem_append.1 hx with h | h; (exact hG x h); (rw [List.mem_singleton] at h; subst h; exact ⟨hjl, fun kk' v' h' h1 => by rw [hj] at h'; cases h'; first | exact absurd h1 (by assumption) | assumption⟩)); have hsl := seen_le (seen_snoc hnd hns) (fun x hx => (hG2 x hx).1); rw [List.length_append] at hsl; refine ⟨(lfA ts).length - (seen ++ [j]).length, [jk, .pointer (some ⟨2, 0, none⟩), jk, jk, jk, jk, jk, .pointer (some ⟨4, 0, none⟩), .int .i64 (arT l ts ts.length), .map (some 5), jk, jk, jk, jk, jk, jk, jk, jk, jk, jk, jk, jk, jk, jk, jk, jk, jk, jk, jk, jk, jk, jk, jk, jk, jk, jk, jk, jk, jk, jk, jk, jk, jk, jk, jk, jk, jk, jk, jk, jk, jk, jk, jk, jk, jk, jk, jk, jk, jk, jk, jk, jk, jk, jk, jk, jk, jk, jk, jk, jk, jk, jk, jk, jk, jk, jk, .pointer (some ⟨6, 0, none⟩), jk, jk, jk, jk, jk, jk, jk, jk, jk, jk, jk, jk, jk, jk, jk, jk, jk, jk, jk, jk, jk, jk, jk, jk, jk, jk, jk, jk, jk, jk, jk, jk, jk, jk, jk, jk, jk, jk, jk, jk, jk, jk, jk, jk, jk, jk, jk, jk, jk, jk, jk, jk, jk, jk, jk, jk, jk, jk, jk, jk, jk, jk, jk, jk, jk, jk, jk, jk, jk, jk, jk, jk, jk, jk, jk, jk, jk, jk, jk, jk, jk, jk, jk, jk, jk, jk, jk, jk], [some ⟨flatP l, false, z⟩, some ⟨flatT ts, false, z1⟩, some ⟨[.slice (some ⟨0, 0, none⟩) l.length c, .slice (some ⟨1, 0, none⟩) ts.length c2], true, 0⟩, some (mpX (lf ts ts.length) true 0), some ⟨[.slice (some ⟨0, 0, none⟩) l.length c, .slice (some ⟨1, 0, none⟩) ts.length c2, .slice none 0 0, .map (some 3)], true, 0⟩, some (mpU (us ts ts.length)), some (itL 3 (lfV (lfA ts)).length (seen ++ [j]))], by (rw [List.length_append]; simp only [List.length_cons, List.length_nil] at hsl ⊢; omega), ?_, seen ++ [j], rfl, seen_snoc hnd hns, hG2, rfl, rfl⟩; exact Wk.keep 7 [] (by rw [hE]; exact (by decide : 2 ≤ 7)) rfl rfl (by repeat (first | exact RenT.nil | refine RenT.jk ?_ | refine RenT.val (by rfl) (by rfl) ?_)) ⟨⟨_, rfl, rfl, rfl, .inl ⟨rfl, flatP_scal l⟩⟩, ⟨_, rfl, rfl, rfl, .inl ⟨rfl, flatT_scal ts⟩⟩, ⟨_, rfl, rfl, rfl, .inr ⟨rfl, rfl⟩⟩, ⟨_, rfl, rfl, rfl, .inl ⟨rfl, rfl⟩⟩, ⟨_, rfl, rfl, rfl, .inr ⟨rfl, rfl⟩⟩, ⟨_, rfl, rfl, rfl, .inl ⟨rfl, rfl⟩⟩, ⟨_, rfl, rfl, rfl, .inl ⟨rfl, rfl⟩⟩, trivial⟩))) | ((with_reducible refine FinJ.on ?_); exact FinJ.ret (.tmp wl (.tmp wl (.tmp wl .nil))) (jle_flat rfl)))
end Go.Proofs.YtmohcmghbfhdlaaGreat
end
end
