/- Chapter 6: triangles held against each other; the points beyond an edge. -/
import Derived.Test.YtmohcmghbfhdlaaGreatQd
import Derived.Test.YtmohcmghbfhdlaaGreatQi
import Derived.Shelf.SlSortCmp.NoneTotal
import Derived.Test.YtmohcmghbfhdlaaGreatProg
section
set_option linter.unusedSimpArgs false
set_option linter.unusedVariables false
section
namespace Go.Me
open Go.Ab
def cmp3 (a b : T3) : Int := if Go.Proofs.YtmohcmghbfhdlaaGreat.cmpI a.1 b.1 ≠ 0 then Go.Proofs.YtmohcmghbfhdlaaGreat.cmpI a.1 b.1 else if Go.Proofs.YtmohcmghbfhdlaaGreat.cmpI a.2.1 b.2.1 ≠ 0 then Go.Proofs.YtmohcmghbfhdlaaGreat.cmpI a.2.1 b.2.1 else Go.Proofs.YtmohcmghbfhdlaaGreat.cmpI a.2.2 b.2.2
def rtI (l : List Pn) (a b : Nat) : Nat → Int
 | 0 => -1
 | k + 1 => if rtI l a b k ≠ -1 then rtI l a b k else if sgn (cr (pt l a) (pt l b) (pt l k)) < 0 then k else -1
theorem rtI_no {l : List Pn} {a b : Nat} : ∀ n : Nat, (∀ j, j < n → ¬ sgn (cr (pt l a) (pt l b) (pt l j)) < 0) → rtI l a b n = -1 := by
 intro n
 induction n with
 | zero => intro _; rfl
 | succ n ih =>
  intro h
  unfold rtI
  rw [if_neg (fun h2 => h2 (ih fun j hj => h j (by omega))), if_neg (h n (by omega))]
theorem rtI_yes {l : List Pn} {a b k : Nat} (hk : ∀ j, j < k → ¬ sgn (cr (pt l a) (pt l b) (pt l j)) < 0) (he : sgn (cr (pt l a) (pt l b) (pt l k)) < 0) : ∀ n : Nat, k < n → rtI l a b n = k := by
 intro n
 induction n with
 | zero => intro h; omega
 | succ n ih =>
  intro h
  rcases Nat.lt_or_eq_of_le (Nat.le_of_lt_succ h) with h | rfl
  ·have := ih h
   unfold rtI
   rw [this, if_pos (by omega)]
  ·unfold rtI
   rw [if_neg (fun h2 => h2 (rtI_no k hk)), if_pos he]
theorem rtI_bd {l : List Pn} {a b : Nat} : 0 ≤ rtI l a b l.length ↔ bdB l a b = false := by
 constructor
 ·intro h
  apply Classical.byContradiction
  intro h2
  have h3 : bdB l a b = true := by simpa using h2
  unfold bdB at h3
  rw [decide_eq_true_iff] at h3
  rw [rtI_no l.length (fun j hj => by have := h3 j hj; omega)] at h
  omega
 ·intro h
  unfold bdB at h
  rw [decide_eq_false_iff_not] at h
  apply Classical.byContradiction
  intro h2
  apply h
  intro n hn
  apply Classical.byContradiction
  intro h3
  have h4 : ∀ k, k < l.length → (∀ j, j < k → ¬ sgn (cr (pt l a) (pt l b) (pt l j)) < 0) := by
   intro k hk j hj hlt
   have : ∃ i, i < l.length ∧ sgn (cr (pt l a) (pt l b) (pt l i)) < 0 ∧ ∀ j, j < i → ¬ sgn (cr (pt l a) (pt l b) (pt l j)) < 0 := by
    induction j using Nat.strongRecOn with
    | ind j ih =>
     by_cases hex : ∃ i, i < j ∧ sgn (cr (pt l a) (pt l b) (pt l i)) < 0
     ·obtain ⟨i, h5, h6⟩ := hex
      exact ih i h5 (by omega) h6
     ·exact ⟨j, by omega, hlt, fun i hi h6 => hex ⟨i, hi, h6⟩⟩
   obtain ⟨i, h5, h6, h7⟩ := this
   rw [rtI_yes h7 h6 l.length h5] at h2
   omega
  have := rtI_yes (h4 n hn) (by omega) l.length hn
  omega
end Go.Me
namespace Go.Proofs.YtmohcmghbfhdlaaGreat
open Go Go.RowKit Go.Ab Go.Me
set_option maxRecDepth 100000
set_option maxHeartbeats 4000000
attribute [local irreducible] OQ OW AL AW AF SW
theorem Cmp3_0 (t : T3) (ts : List T3) (k c c2 z z2 : Nat) (hk : k < ts.length) (hl : ts.length ≤ 1000000) : PCalls Tryz.prog 157 [.slice (some ⟨0, 0, none⟩) 3 c, .slice (some ⟨1, k * 3, none⟩) 3 c2] [some ⟨[.int .i64 t.1, .int .i64 t.2.1, .int .i64 t.2.2], false, z⟩, some ⟨flatT ts, false, z2⟩] (.int .i64 (cmp3 t (tr ts k))) := by
 obtain ⟨g0, g1, g2⟩ := flatT_get ts k hk
 have hc2 := fun (a b : Int) (m : Mem) => Compare_q a b m
 generalize tr ts k = u at *
 have e1 : cmpI t.1 u.1 ≠ 0 → cmp3 t u = cmpI t.1 u.1 := fun h => if_pos h
 have e2 : cmpI t.1 u.1 = 0 → cmpI t.2.1 u.2.1 ≠ 0 → cmp3 t u = cmpI t.2.1 u.2.1 := fun h h2 => by unfold cmp3; rw [if_neg (fun h3 => h3 h), if_pos h2]
 have e3 : cmpI t.1 u.1 = 0 → cmpI t.2.1 u.2.1 = 0 → cmp3 t u = cmpI t.2.2 u.2.2 := fun h h2 => by unfold cmp3; rw [if_neg (fun h3 => h3 h), if_neg (fun h3 => h3 h2)]
 generalize cmp3 t u = C at *
 refine PCalls.en 34 Tryz.func157 rfl (ro2p _ _ rfl rfl) rfl (fun E => ?_)
 repeat' (first | with_reducible (first | refine Then.n ?_ | refine Then.r ?_ | refine Then.x ?_ | refine InB.n ?_ | refine InB.r ?_ | refine InB.hit ?_) | ((with_reducible refine AL.on ?_); first | ((first | refine AL.mv ?_ | refine AL.as ?_ | ((with_reducible refine AL.k_call ?_); refine AL.g (OQ.lenS (xt := 26) (r := (none, 1, false)) rfl kr) ?_) | ((with_reducible refine AL.k_binOp ?_); first | refine AL.g (OQ.lss rfl rfl) ?_ | refine AL.g (OQ.geq rfl rfl) ?_ | refine AL.g (OQ.neq rfl rfl) ?_ | refine AL.g (OQ.addi rfl rfl (by omega)) ?_) | ((with_reducible refine AL.k_load ?_); (refine AL.g (OQ.load1 (ty := 3) rfl kr (by first | (first | exact g0 | exact g1 | exact g2) | (conv => lhs; whnf))) ?_))); refine AL.nm ?_) | ((first | ((with_reducible refine AL.k_call ?_); refine AL.pcall (g := 147) rfl kr rfl (hc2 _ _ _) ?_) | ((with_reducible refine AL.k_indexAddr ?_); refine AL.g (OQ.idxAddr (ty := 26) (z := 1) (g := false) rfl rfl kr (by omega) (by omega)) ?_)); refine AL.nm ?_) | refine AL.nil ?_) | ((with_reducible refine AW.on ?_); first | refine AW.seq ?_ | refine AW.skip ?_ | refine AW.exit ?_ | refine AW.ret ?_ | (refine AW.block (id := 0) ?_; refine AW.unroll 4 ?_) | refine AW.block ?_ | refine AW.region ?_ | (refine AW.conds rfl (fun hc => ?_) (fun hc => ?_) <;> (try replace hc := nc hc) <;> first | (exfalso; contradiction) | skip)) | with_reducible refine AR.s ?_ | ((with_reducible refine FinP.on ?_); (refine FinP.ret (.tmp wl .nil) ?_ rfl); (try simp only [pack, List.drop, List.take]); all_goals (congr 1; first | exact (e1 ‹_›).symm | exact (e2 ‹_› ‹_›).symm | exact (e3 ‹_› ‹_›).symm | (rw [e3 ‹_› ‹_›]; omega))))
theorem beyond_0 (l : List Pn) (ts : List T3) (hok : ∀ k, k < l.length → (pt l k).Ok) (a b : Nat) (ha : a < l.length) (hb : b < l.length) (p : Pn) (hp : p.Ok) (c c2 z z1 z2 z3 : Nat) (hl : l.length ≤ 1000000) :
  PCalls Tryz.prog 132 [ptV p, .pointer (some ⟨2, 0, none⟩), .pointer (some ⟨3, 0, none⟩)] [some ⟨flatP l, false, z⟩, some ⟨flatT ts, false, z1⟩, some ⟨[.slice (some ⟨0, 0, none⟩) l.length c, .slice (some ⟨1, 0, none⟩) ts.length c2], false, z2⟩, some ⟨[.int .i64 a, .int .i64 b], false, z3⟩] (.bool (decide (sgn (cr (pt l a) (pt l b) p) < 0))) := by
 have hld := fun (k : Nat) (hk : k < l.length) (r : Mem) => flatP_ld (m := some ⟨flatP l, false, z⟩ :: r) (b := 0) (l := l) rfl rfl k hk
 have ht := fun (m : Mem) => turn_q (hok a ha) (hok b hb) hp m
 refine PCalls.en 17 Tryz.func132 rfl (ro4p _ _ _ _ rfl rfl rfl rfl) rfl (fun E => ?_)
 repeat' (first | with_reducible (refine Then.n ?_) | ((with_reducible refine AL.on ?_); first | ((first | refine AL.as ?_ | ((with_reducible refine AL.k_binOp ?_); refine AL.g (OQ.lss rfl rfl) ?_)); refine AL.nm ?_) | ((refine AL.pcall (g := 133) rfl kr rfl (ht _) ?_); refine AL.nm ?_) | ((refine AL.bx ?_); refine AL.nm ?_; refine AL.nM ?_) | refine AL.nil ?_) | ((with_reducible refine AW.on ?_); first | refine AW.seq ?_ | refine AW.ret ?_ | (refine AW.drawF (id := 1) 13 #[0, 1, 0, 4, 15, 31, 0, 64, 0, 256, 960, 1984, 0, 8191, 16383, 32767] kr kr ?_; (conv => (arg 8; simp only [List.take_succ_cons, List.take_zero]))) | refine AW.region ?_) | ((with_reducible refine AF.on ?_); first | ((first | ((with_reducible refine AF.k_load ?_); first | (refine AF.ql rfl (SW.q (OQ.load1 (ty := 22) rfl kr (by (conv => lhs; whnf))) rfl) ?_) | (refine AF.ql rfl (SW.q (OQ.load1 (ty := 3) rfl kr (by (conv => lhs; whnf))) rfl) ?_) | refine AF.ql rfl (SW.q (OQ.loadN (ty := 65) (n := 2) rfl kr kr (by first | (exact hld _ (by omega) _) | rfl)) rfl) ?_) | ((with_reducible refine AF.k_indexAddr ?_); first | refine AF.q 0 (SW.q (OQ.idxPtr (ty := 52) (n := 1) (l := 2) (g := false) rfl rfl kr (by omega) (by omega)) rfl) ?_ | refine AF.q 0 (SW.q (OQ.idxAddr (ty := 22) (z := 2) (g := true) rfl rfl kr (by omega) (by omega)) rfl) ?_) | ((with_reducible refine AF.k_fieldAddr ?_); refine AF.q 0 (SW.q (OQ.fieldA (ty := 25) (i := 0) (n := 1) (off := 0) (g := false) rfl kr (by decide)) rfl) ?_)); refine AF.nm ?_) | refine AF.nl ?_) | ((with_reducible refine FinP.on ?_); (refine FinP.ret (.tmp wl .nil) ?_ rfl); (try simp only [pack, List.drop, List.take]); all_goals (rfl)))
theorem IndexF_0 (l : List Pn) (ts : List T3) (hok : ∀ k, k < l.length → (pt l k).Ok) (a b : Nat) (ha : a < l.length) (hb : b < l.length) (c c2 c3 z z1 z2 z3 : Nat) (hl : l.length ≤ 1000000) :
  PCalls Tryz.prog 161 [.slice (some ⟨0, 0, none⟩) l.length c3, .func (.func 132) #[] #[.pointer (some ⟨2, 0, none⟩), .pointer (some ⟨3, 0, none⟩)]] [some ⟨flatP l, false, z⟩, some ⟨flatT ts, false, z1⟩, some ⟨[.slice (some ⟨0, 0, none⟩) l.length c, .slice (some ⟨1, 0, none⟩) ts.length c2], false, z2⟩, some ⟨[.int .i64 a, .int .i64 b], false, z3⟩] (.int .i64 (rtI l a b l.length)) := by
 have hld := fun (k : Nat) (hk : k < l.length) (r : Mem) => flatP_ld (m := some ⟨flatP l, false, z⟩ :: r) (b := 0) (l := l) rfl rfl k hk
 have hcl := fun (k : Nat) (hk : k < l.length) => beyond_0 l ts hok a b ha hb (pt l k) (hok k hk) c c2 z z1 z2 z3 hl
 have hno := rtI_no (l := l) (a := a) (b := b) l.length
 have hyes := fun (k : Nat) (h1 : k < l.length) (hj : ∀ j, j < k → ¬ sgn (cr (pt l a) (pt l b) (pt l j)) < 0) (he : sgn (cr (pt l a) (pt l b) (pt l k)) < 0) => rtI_yes hj he l.length h1
 generalize rtI l a b l.length = E0 at *
 refine PCalls.en 17 Tryz.func161 rfl (ro4p _ _ _ _ rfl rfl rfl rfl) rfl (fun E => ?_)
 repeat' (first | with_reducible (first | refine Then.n ?_ | refine Then.r ?_ | refine Then.x ?_ | refine InB.n ?_ | refine InB.r ?_ | refine InB.hit ?_) | ((with_reducible refine AL.on ?_); first | ((first | refine AL.mv ?_ | refine AL.as ?_ | ((with_reducible refine AL.k_call ?_); refine AL.g (OQ.lenS (xt := 22) (r := (none, 2, true)) rfl kr) ?_) | ((with_reducible refine AL.k_binOp ?_); first | refine AL.g (OQ.lss rfl rfl) ?_ | refine AL.g (OQ.addi rfl rfl (by omega)) ?_) | ((with_reducible refine AL.k_load ?_); refine AL.g (OQ.loadN (ty := 65) (n := 2) rfl kr kr (by (exact hld _ (by omega) _))) ?_)); refine AL.nm ?_) | ((first | ((with_reducible refine AL.k_call ?_); refine AL.pcall rfl (by kernel_rfl) rfl ((by exact hcl k (by omega))) ?_) | ((with_reducible refine AL.k_indexAddr ?_); refine AL.g (OQ.idxAddr (ty := 22) (z := 2) (g := true) rfl rfl kr (by omega) (by omega)) ?_)); refine AL.nm ?_) | refine AL.nil ?_) | ((with_reducible refine AW.on ?_); first | refine AW.seq ?_ | refine AW.skip ?_ | refine AW.exit ?_ | refine AW.ret ?_ | ((refine AW.block (id := 0) ?_); (refine AW.fk [0, 1, 7, 8] ?_); (refine AW.loop (fun n' t' m => ∃ k : Nat, n' = l.length - k ∧ k ≤ l.length ∧ (∀ j, j < k → ¬ sgn (cr (pt l a) (pt l b) (pt l j)) < 0) ∧ t' = (mtz 19 0 [(0, .slice (some ⟨0, 0, none⟩) l.length c3), (1, .func (.func 132) #[] #[.pointer (some ⟨2, 0, none⟩), .pointer (some ⟨3, 0, none⟩)]), (7, .int .i64 (l.length)), (8, .int .i64 (k))]) ∧ m = [some ⟨flatP l, false, z⟩, some ⟨flatT ts, false, z1⟩, some ⟨[.slice (some ⟨0, 0, none⟩) l.length c, .slice (some ⟨1, 0, none⟩) ts.length c2], false, z2⟩, some ⟨[.int .i64 a, .int .i64 b], false, z3⟩]) (l.length) (by exact ⟨0, rfl, Nat.zero_le _, fun j h => absurd h (by omega), rfl, rfl⟩) ?_); (rintro n' t' m ⟨k, rfl, hk, hj, rfl, rfl⟩); (refine AW.nT ?_)) | refine AW.block ?_ | refine AW.region ?_ | (refine AW.conds rfl (fun hc => ?_) (fun hc => ?_) <;> (try replace hc := nc hc) <;> skip)) | ((with_reducible refine ex_on ?_); (refine ⟨l.length - (k + 1), _, _, by omega, ?_, k + 1, rfl, by omega, fun j h => (by rcases Nat.lt_or_eq_of_le (Nat.le_of_lt_succ h) with h | rfl; (exact hj j h); (omega)), rfl, rfl⟩; exact Wk.fk [0, 1, 7, 8] rfl)) | ((with_reducible refine FinP.on ?_); (refine FinP.ret (.tmp wl .nil) ?_ rfl); (try simp only [pack, List.drop, List.take]); all_goals (symm; first | (rw [hyes k (by omega) hj (by assumption)]; done) | (obtain rfl : k = l.length := (by omega); rw [hno hj]))))
theorem ContainsF_0 (l : List Pn) (ts : List T3) (hok : ∀ k, k < l.length → (pt l k).Ok) (a b : Nat) (ha : a < l.length) (hb : b < l.length) (c c2 c3 z z1 z2 z3 : Nat) (hl : l.length ≤ 1000000) :
  PCalls Tryz.prog 131 [.slice (some ⟨0, 0, none⟩) l.length c3, .func (.func 132) #[] #[.pointer (some ⟨2, 0, none⟩), .pointer (some ⟨3, 0, none⟩)]] [some ⟨flatP l, false, z⟩, some ⟨flatT ts, false, z1⟩, some ⟨[.slice (some ⟨0, 0, none⟩) l.length c, .slice (some ⟨1, 0, none⟩) ts.length c2], false, z2⟩, some ⟨[.int .i64 a, .int .i64 b], false, z3⟩] (.bool (!bdB l a b)) := by
 have hi := IndexF_0 l ts hok a b ha hb c c2 c3 z z1 z2 z3 hl
 have hb2 := rtI_bd (l := l) (a := a) (b := b)
 have e : (!bdB l a b) = decide (0 ≤ rtI l a b l.length) := by
  cases h : bdB l a b with
  | true => rw [h] at hb2; symm; exact decide_eq_false (fun h2 => by have := hb2.1 h2; cases this)
  | false => symm; exact decide_eq_true (hb2.2 h)
 rw [e]
 generalize rtI l a b l.length = E0 at *
 refine PCalls.en 7 Tryz.func131 rfl (ro4p _ _ _ _ rfl rfl rfl rfl) rfl (fun E => ?_)
 repeat' (first | with_reducible (refine Then.n ?_) | ((with_reducible refine AL.on ?_); first | ((first | refine AL.as ?_ | refine AL.mv ?_ | ((with_reducible refine AL.k_binOp ?_); refine AL.g (OQ.geq rfl rfl) ?_)); refine AL.nm ?_) | ((refine AL.pcall (g := 161) rfl kr rfl ((by exact hi)) ?_); refine AL.nm ?_) | refine AL.nil ?_) | ((with_reducible refine AW.on ?_); first | refine AW.seq ?_ | refine AW.ret ?_ | refine AW.region ?_) | ((with_reducible refine FinP.on ?_); (refine FinP.ret (.tmp wl .nil) ?_ rfl); (try simp only [pack, List.drop, List.take]); all_goals (rfl)))
end Go.Proofs.YtmohcmghbfhdlaaGreat
end
end
/- Chapter 6: a triangle's error. -/
section
set_option linter.unusedSimpArgs false
set_option linter.unusedVariables false
section
namespace Go.Me
open Go.Ab
def inR (n : Nat) (t : T3) : Prop := (0 ≤ t.1 ∧ t.1 ≤ (n : Int) - 1) ∧ (0 ≤ t.2.1 ∧ t.2.1 ≤ (n : Int) - 1) ∧ (0 ≤ t.2.2 ∧ t.2.2 ≤ (n : Int) - 1)
instance (n : Nat) (t : T3) : Decidable (inR n t) := by unfold inR; infer_instance
def ordB (ts : List T3) (i : Nat) : Prop := (tr ts i).2.1 ≤ (tr ts i).1 ∨ (tr ts i).2.2 ≤ (tr ts i).1 ∨ (0 < i ∧ cmp3 (tr ts i) (tr ts (i - 1)) ≤ 0)
instance (ts : List T3) (i : Nat) : Decidable (ordB ts i) := by unfold ordB; infer_instance
def trS (l : List Pn) (t : T3) : Int := sgn (cr (pt l t.1.toNat) (pt l t.2.1.toNat) (pt l t.2.2.toNat))
def trE (l : List Pn) (ts : List T3) (L : List (IE × Int)) (i : Nat) : Int :=
 if inR l.length (tr ts i) then (if ordB ts i then 9 else if trS l (tr ts i) ≠ 1 then 13 else if lk L ((tr ts i).1, (tr ts i).2.1) ≠ -1 ∨ lk L ((tr ts i).2.1, (tr ts i).2.2) ≠ -1 ∨ lk L ((tr ts i).2.2, (tr ts i).1) ≠ -1 then 28 else 0) else 6
end Go.Me
namespace Go.Proofs.YtmohcmghbfhdlaaGreat
open Go Go.RowKit Go.Ab Go.Me
set_option maxRecDepth 100000
set_option maxHeartbeats 4000000
attribute [local irreducible] OQ OW AL AW AF SW
theorem Hid_mk {p : Prop} (h : p) : Hid p := h
theorem Cmp3_q {m : Mem} {b d k c c2 : Nat} {blk blk2 : Blk} (t : T3) (ts : List T3) (hk : k < ts.length) (hl : ts.length ≤ 1000000) (hb : m.at b = some blk) (hc : blk.cells = [.int .i64 t.1, .int .i64 t.2.1, .int .i64 t.2.2]) (hd : m.at d = some blk2) (hc2 : blk2.cells = flatT ts) (ho : blk.obj = Ob.plain := by rfl) (ho2 : blk2.obj = Ob.plain := by rfl) :
  PCalls Tryz.prog 157 [.slice (some ⟨b, 0, none⟩) 3 c, .slice (some ⟨d, k * 3, none⟩) 3 c2] m (.int .i64 (cmp3 t (tr ts k))) :=
 PCalls.viaS [b, d] (Cmp3_0 t ts k c c2 blk.esz blk2.esz hk hl) (ro2p _ _ rfl rfl) ⟨⟨_, hb, by unfold Blk.shp Blk.shpR; rw [ho]; rfl, (fun h => nomatch h), .inl ⟨hc, rfl⟩⟩, bS hd ho2 hc2 (flatT_scal _), trivial⟩ rfl rfl rfl rfl
abbrev mpX (L : List (IE × Int)) (own : Bool) (z : Nat) : Blk := @Blk.mk [] own z ⟨some (.map (mpE encE (lfV L)) (lfV L).length)⟩
theorem at_q {m : Mem} {bP bT bN bL n c k c2 : Nat} {A B N : Blk} {own : Bool} {z : Nat} (l : List Pn) (ts : List T3) (L : List (IE × Int)) (hn : (L.map (·.1)).Nodup) (hL : ∀ p ∈ L, okE p.1) (a b : Int) (hab : okE (a, b))
  (hP : m.at bP = some A) (hPc : A.cells = flatP l) (hT : m.at bT = some B) (hTc : B.cells = flatT ts) (hN : m.at bN = some N) (hNc : N.cells = [.slice (some ⟨bP, 0, none⟩) n c, .slice (some ⟨bT, 0, none⟩) k c2, .slice none 0 0, .map (some bL)])
  (hM : m.at bL = some (mpX L own z)) (hz : z = 0) (hPo : A.obj = Ob.plain := by rfl) (hTo : B.obj = Ob.plain := by rfl) (hNo : N.obj = Ob.plain := by rfl) :
  PCalls Tryz.prog 130 [.pointer (some ⟨bN, 0, none⟩), .int .i64 a, .int .i64 b] m (.int .i64 (lk L (a, b))) := by
 subst hz
 exact PCalls.viaS [bP, bT, bN, bL] (at_0 ⟨flatP l, false, A.esz⟩ ⟨flatT ts, false, B.esz⟩ rfl rfl n c k c2 N.esz (.slice none 0 0) L hn hL a b hab) (ro4p _ _ _ _ rfl rfl rfl rfl)
  ⟨bS hP hPo hPc (flatP_scal _), bS hT hTo hTc (flatT_scal _), bI hN hNo hNc, ⟨_, hM, rfl, (fun h => nomatch h), .inl ⟨rfl, rfl⟩⟩, trivial⟩ rfl rfl rfl rfl
theorem triangleErr_0 (l : List Pn) (ts : List T3) (L : List (IE × Int)) (hok : ∀ k, k < l.length → (pt l k).Ok) (hl : l.length ≤ 1000) (hts : ts.length ≤ 1000) (hn : (L.map (·.1)).Nodup) (hL : ∀ p ∈ L, okE p.1) (i c c2 z z1 z2 : Nat) (hi : i < ts.length) :
  PCalls Tryz.prog 127 [.pointer (some ⟨2, 0, none⟩), .int .i64 i] [some ⟨flatP l, false, z⟩, some ⟨flatT ts, false, z1⟩, some ⟨[.slice (some ⟨0, 0, none⟩) l.length c, .slice (some ⟨1, 0, none⟩) ts.length c2, .slice none 0 0, .map (some 3)], false, z2⟩, some (mpX L false 0)] (.int .i64 (trE l ts L i)) := by
 refine PCalls.strip ?_ rfl
 show PCalls _ _ _ [some ⟨flatP l, false, 0⟩, some ⟨flatT ts, false, 0⟩, some ⟨[.slice (some ⟨0, 0, none⟩) l.length c, .slice (some ⟨1, 0, none⟩) ts.length c2, .slice none 0 0, .map (some 3)], false, 0⟩, some (mpX L false 0)] _
 have hld := fun (k : Nat) (hk : k < l.length) (r : Mem) => flatP_ld (m := some ⟨flatP l, false, 0⟩ :: r) (b := 0) (l := l) rfl rfl k hk
 have hldT := fun (k : Nat) (hk : k < ts.length) (a : Option Blk) (r : Mem) => flatT_ld (m := a :: some ⟨flatT ts, false, 0⟩ :: r) (b := 1) (ts := ts) rfl rfl k hk
 have hw := fun (x : Int) (m : Mem) => within_q x 0 ((l.length : Int) - 1) m
 have hrt : ∀ {x : Int}, rgB x 0 ((l.length : Int) - 1) = true → 0 ≤ x ∧ x ≤ (l.length : Int) - 1 := fun h => rgB_true.1 h
 have hrf : ∀ {x : Int}, rgB x 0 ((l.length : Int) - 1) = false → ¬ (0 ≤ x ∧ x ≤ (l.length : Int) - 1) := fun h h2 => by rw [rgB_true.2 h2] at h; cases h
 have hcm := fun (h0 : 0 < i) (m : Mem) (b d c c2 : Nat) (blk blk2 : Blk) (h1 : m.at b = some blk) (h2 : blk.cells = [.int .i64 (tr ts i).1, .int .i64 (tr ts i).2.1, .int .i64 (tr ts i).2.2]) (h3 : m.at d = some blk2) (h4 : blk2.cells = flatT ts) (o1 : blk.obj = Ob.plain) (o2 : blk2.obj = Ob.plain) => Cmp3_q (c := c) (c2 := c2) (k := ((i : Int) - 1).toNat) (tr ts i) ts (by omega) (by omega) h1 h2 h3 h4 o1 o2
 have hat := fun (a b : Int) (hab : okE (a, b)) (m : Mem) (A B N : Blk) (own : Bool) (h1 : m.at 0 = some A) (h2 : A.cells = flatP l) (h3 : m.at 1 = some B) (h4 : B.cells = flatT ts) (h5 : m.at 2 = some N) (h6 : N.cells = [.slice (some ⟨0, 0, none⟩) l.length c, .slice (some ⟨1, 0, none⟩) ts.length c2, .slice none 0 0, .map (some 3)]) (h7 : m.at 3 = some (mpX L own 0)) (o1 : A.obj = Ob.plain) (o2 : B.obj = Ob.plain) (o3 : N.obj = Ob.plain) => at_q l ts L hn hL a b hab h1 h2 h3 h4 h5 h6 h7 rfl o1 o2 o3
 have htn := fun (a b d : Int) (ha : 0 ≤ a ∧ a ≤ (l.length : Int) - 1) (hb : 0 ≤ b ∧ b ≤ (l.length : Int) - 1) (hd : 0 ≤ d ∧ d ≤ (l.length : Int) - 1) (m : Mem) => turn_q (hok a.toNat (by omega)) (hok b.toNat (by omega)) (hok d.toNat (by omega)) m
 have har := fun (a b d : Int) (m : Mem) => around_q a b d m
 have E6 : ¬ inR l.length (tr ts i) → trE l ts L i = 6 := fun h => if_neg h
 have E9 : inR l.length (tr ts i) → ordB ts i → trE l ts L i = 9 := fun h h2 => by unfold trE; rw [if_pos h, if_pos h2]
 have E13 : inR l.length (tr ts i) → ¬ ordB ts i → trS l (tr ts i) ≠ 1 → trE l ts L i = 13 := fun h h2 h3 => by unfold trE; rw [if_pos h, if_neg h2, if_pos h3]
 have E28 : inR l.length (tr ts i) → ¬ ordB ts i → trS l (tr ts i) = 1 → (lk L ((tr ts i).1, (tr ts i).2.1) ≠ -1 ∨ lk L ((tr ts i).2.1, (tr ts i).2.2) ≠ -1 ∨ lk L ((tr ts i).2.2, (tr ts i).1) ≠ -1) → trE l ts L i = 28 := fun h h2 h3 h4 => by unfold trE; rw [if_pos h, if_neg h2, if_neg (fun h5 => h5 h3), if_pos h4]
 have E0 : inR l.length (tr ts i) → ¬ ordB ts i → trS l (tr ts i) = 1 → ¬ (lk L ((tr ts i).1, (tr ts i).2.1) ≠ -1 ∨ lk L ((tr ts i).2.1, (tr ts i).2.2) ≠ -1 ∨ lk L ((tr ts i).2.2, (tr ts i).1) ≠ -1) → trE l ts L i = 0 := fun h h2 h3 h4 => by unfold trE; rw [if_pos h, if_neg h2, if_neg (fun h5 => h5 h3), if_neg h4]
 have ht1 : (((i : Nat) : Int) - 1).toNat = i - 1 := by omega
 simp only [inR, ordB, trS] at E6 E9 E13 E28 E0
 rw [← ht1] at E9 E13 E28 E0
 generalize trE l ts L i = V at *
 have HE := Hid_mk (And.intro E6 (And.intro E9 (And.intro E13 (And.intro E28 E0))))
 clear E6 E9 E13 E28 E0
 refine PCalls.en 105 Tryz.func127 rfl (ro4p _ _ _ _ rfl rfl rfl rfl) rfl (fun E => ?_)
 repeat' (first | with_reducible (first | refine Then.n ?_ | refine Then.r ?_ | refine Then.x ?_ | refine InB.n ?_ | refine InB.r ?_ | refine InB.hit ?_) | ((with_reducible refine AL.on ?_); first | (refine AL.gd rfl ?_; first | (refine AL.gskip rfl rfl ?_; refine AL.nm ?_) | (refine AL.gs1 rfl rfl (fun hc => ?_) (fun hc => ?_) <;> (try replace hc := nc hc) <;> first | (exfalso; contradiction) | refine AL.nm ?_) | (refine AL.gs0 rfl rfl (fun hc => ?_) (fun hc => ?_) <;> (try replace hc := nc hc) <;> first | (exfalso; contradiction) | refine AL.nm ?_)) | ((first | ((with_reducible refine AL.k_load ?_); first | (refine AL.g (OQ.load1 (ty := 23) rfl kr (by (conv => lhs; whnf))) ?_) | refine AL.g (OQ.loadN (ty := 62) (n := 3) rfl kr kr (by first | (exact hldT _ (by omega) _ _) | rfl)) ?_ | (refine AL.g (OQ.load1 (ty := 22) rfl kr (by (conv => lhs; whnf))) ?_) | (refine AL.g (OQ.load1 (ty := 3) rfl kr (by (conv => lhs; whnf))) ?_)) | refine AL.mv ?_ | ((with_reducible refine AL.k_binOp ?_); first | refine AL.g (OQ.lss rfl rfl) ?_ | refine AL.g (OQ.subi rfl rfl (by omega)) ?_ | refine AL.g (OQ.addi rfl rfl (by omega)) ?_ | refine AL.g (OQ.leq rfl rfl) ?_ | refine AL.g (OQ.neq rfl rfl) ?_) | refine AL.as ?_ | ((with_reducible refine AL.k_call ?_); refine AL.g (OQ.lenS (xt := 22) (r := (none, 2, true)) rfl kr) ?_) | ((with_reducible refine AL.k_pick ?_); first | refine AL.pT ?_ | refine AL.pF ?_) | ((with_reducible refine AL.k_index ?_); first | refine AL.g (OQ.idxArr1 (ty := 62) (n := 1) (l := 3) rfl rfl kr (by omega) (by omega) rfl) ?_ | refine AL.g (OQ.idxArrL (ty := 170) (n := 2) (l := 3) rfl rfl kr (by omega) (by omega) rfl) ?_) | ((with_reducible refine AL.k_unOp ?_); refine AL.g (OQ.not rfl) ?_) | refine AL.g (OQ.nilCheck rfl) ?_); refine AL.nm ?_) | ((first | ((with_reducible refine AL.k_indexAddr ?_); first | refine AL.g (OQ.idxAddr (ty := 23) (z := 3) (g := true) rfl rfl kr (by omega) (by omega)) ?_ | refine AL.g (OQ.idxPtr (ty := 52) (n := 1) (l := 2) (g := false) rfl rfl kr (by omega) (by omega)) ?_) | ((with_reducible refine AL.k_fieldAddr ?_); first | refine AL.g (OQ.fieldA (ty := 110) (i := 0) (n := 2) (off := 0) (g := true) rfl kr (by decide)) ?_ | refine AL.g (OQ.fieldA (ty := 25) (i := 1) (n := 1) (off := 1) (g := false) rfl kr (by decide)) ?_ | refine AL.g (OQ.fieldA (ty := 25) (i := 0) (n := 1) (off := 0) (g := false) rfl kr (by decide)) ?_) | ((with_reducible refine AL.k_call ?_); first | refine AL.pcall (g := 89) rfl kr rfl (hw _ _) ?_ | refine AL.pcall (g := 157) rfl kr rfl ((by exact hcm (by omega) _ _ _ _ _ _ _ rfl rfl rfl rfl rfl rfl)) ?_ | refine AL.pcall (g := 133) rfl kr rfl ((by exact htn _ _ _ (by omega) (by omega) (by omega) _)) ?_ | refine AL.pcall (g := 128) rfl kr rfl (har _ _ _ _) ?_ | refine AL.pcall (g := 130) rfl kr rfl ((by exact hat _ _ ⟨⟨by omega, by omega⟩, by omega, by omega⟩ _ _ _ _ _ rfl rfl rfl rfl rfl rfl rfl rfl rfl rfl)) ?_)); refine AL.nm ?_) | ((first | ((with_reducible refine AL.k_alloc ?_); first | refine AL.w rfl (OW.alloc (ty := 62) (z := [.int .i64 0, .int .i64 0, .int .i64 0]) kr rfl) ?_ | refine AL.w rfl (OW.alloc (ty := 52) (z := [.int .i64 0, .int .i64 0]) kr rfl) ?_) | ((with_reducible refine AL.k_store ?_); first | (refine AL.w rfl (OW.store (ty := 62) (n := 3) rfl wl rfl rfl kr rfl rfl (by decide) rfl (Nat.le_of_ble_eq_true rfl) (by intro r h; cases h)) ?_) | (refine AL.w rfl (OW.store (ty := 52) (n := 2) rfl wl rfl rfl kr rfl rfl (by decide) rfl (Nat.le_of_ble_eq_true rfl) (by intro r h; cases h)) ?_))); refine AL.nm ?_; refine AL.nM ?_) | refine AL.nil ?_) | ((with_reducible refine AW.on ?_); first | refine AW.seq ?_ | refine AW.skip ?_ | refine AW.exit ?_ | refine AW.ret ?_ | (refine AW.block (id := 0) ?_; refine AW.unroll 4 ?_) | (refine AW.block (id := 3) ?_; refine AW.unroll 4 ?_) | refine AW.block ?_ | (refine AW.drawF (id := 8) 26 #[0, 1, 0, 4, 15, 31, 63, 127, 63, 319, 1023, 2047, 4095, 8191, 16383, 32767, 65535, 65535, 196607, 458751, 983039, 2031615, 65535, 4259839, 16711679, 33488895, 67108863, 134217727, 268435455, 536870911, 1073741823] kr kr ?_; (conv => (arg 8; simp only [List.take_succ_cons, List.take_zero])); ((have q1 := hrt (x := (tr ts i).1) (by assumption); have q2 := hrt (x := (tr ts i).2.1) (by assumption); have q3 := hrt (x := (tr ts i).2.2) (by assumption)))) | (refine AW.drawF (id := 10) 27 #[0, 1, 3, 7, 15, 0, 32, 127, 255, 0, 512, 1536, 3584, 7680, 0, 16384, 65024, 130560, 0, 262144, 786432, 1835008, 3932160, 0, 8388608, 33292288, 66846720, 134217727, 268435455, 536870911] kr kr ?_; (conv => (arg 8; simp only [List.take_succ_cons, List.take_zero]))) | refine AW.region ?_ | (refine AW.conds rfl (fun hc => ?_) (fun hc => ?_) <;> (try replace hc := nc hc) <;> first | (exfalso; contradiction) | skip)) | ((with_reducible refine AF.on ?_); first | (refine AF.q 0 (SW.skip rfl rfl) ?_; refine AF.nm ?_) | ((first | refine AF.q 0 (SW.no1 rfl rfl (by with_reducible rfl)) ?_ | refine AF.q 0 (SW.no0 rfl rfl (by with_reducible rfl)) ?_); refine AF.nm ?_) | ((first | ((with_reducible refine AF.k_load ?_); first | (refine AF.ql rfl (SW.q (OQ.load1 (ty := 3) rfl kr (by (conv => lhs; whnf))) rfl) ?_) | (refine AF.ql rfl (SW.yes (SW.q (OQ.load1 (ty := 3) rfl kr (by (conv => lhs; whnf))) rfl) rfl rfl (by with_reducible rfl)) ?_) | (refine AF.ql rfl (SW.yes (SW.q (OQ.load1 (ty := 23) rfl kr (by (conv => lhs; whnf))) rfl) rfl rfl (by with_reducible rfl)) ?_) | (refine AF.ql rfl (SW.q (OQ.load1 (ty := 22) rfl kr (by (conv => lhs; whnf))) rfl) ?_) | refine AF.ql rfl (SW.q (OQ.loadN (ty := 65) (n := 2) rfl kr kr (by (exact hld _ (by omega) _))) rfl) ?_) | ((with_reducible refine AF.k_move ?_); first | (refine AF.q 0 (SW.q (OQ.move wl) rfl) ?_) | (refine AF.q 0 (SW.yes (SW.q (OQ.move wl) rfl) rfl rfl (by with_reducible rfl)) ?_)) | ((with_reducible refine AF.k_indexAddr ?_); first | refine AF.q 0 (SW.q (OQ.idxPtr (ty := 62) (n := 1) (l := 3) (g := false) rfl rfl kr (by omega) (by omega)) rfl) ?_ | refine AF.q 0 (SW.yes (SW.q (OQ.idxPtr (ty := 62) (n := 1) (l := 3) (g := false) rfl rfl kr (by omega) (by omega)) rfl) rfl rfl (by with_reducible rfl)) ?_ | refine AF.q 0 (SW.yes (SW.q (OQ.idxAddr (ty := 23) (z := 3) (g := true) rfl rfl kr (by omega) (by omega)) rfl) rfl rfl (by with_reducible rfl)) ?_ | refine AF.q 0 (SW.q (OQ.idxAddr (ty := 22) (z := 2) (g := true) rfl rfl kr (by omega) (by omega)) rfl) ?_) | ((with_reducible refine AF.k_binOp ?_); first | refine AF.q 0 (SW.q (OQ.geq rfl rfl) rfl) ?_ | refine AF.q 0 (SW.yes (SW.q (OQ.geq rfl rfl) rfl) rfl rfl (by with_reducible rfl)) ?_ | refine AF.q 0 (SW.yes (SW.q (OQ.gtr rfl rfl) rfl) rfl rfl (by with_reducible rfl)) ?_ | refine AF.q 0 (SW.yes (SW.q (OQ.subi rfl rfl (by omega)) rfl) rfl rfl (by with_reducible rfl)) ?_) | ((with_reducible refine AF.k_fieldAddr ?_); first | refine AF.q 0 (SW.yes (SW.q (OQ.fieldA (ty := 110) (i := 0) (n := 2) (off := 0) (g := true) rfl kr (by decide)) rfl) rfl rfl (by with_reducible rfl)) ?_ | refine AF.q 0 (SW.yes (SW.q (OQ.fieldA (ty := 25) (i := 1) (n := 1) (off := 1) (g := false) rfl kr (by decide)) rfl) rfl rfl (by with_reducible rfl)) ?_ | refine AF.q 0 (SW.q (OQ.fieldA (ty := 110) (i := 0) (n := 2) (off := 0) (g := true) rfl kr (by decide)) rfl) ?_ | refine AF.q 0 (SW.q (OQ.fieldA (ty := 25) (i := 0) (n := 1) (off := 0) (g := false) rfl kr (by decide)) rfl) ?_) | ((with_reducible refine AF.k_pick ?_); first | (refine AF.q 0 (SW.q (OQ.pickT rfl (by with_reducible rfl) wl) rfl) ?_) | (refine AF.q 0 (SW.q (OQ.pickF rfl (by with_reducible rfl) wl) rfl) ?_)) | refine AF.q 2 (SW.yes (SW.q (by exact OQ.sliceA (ty := 62) (n := 3) (z := 1) (g := false) (l := 0) (h := 3) rfl kr rfl rfl rfl rfl (by decide) (by decide) (by decide)) rfl) rfl rfl (by with_reducible rfl)) ?_ | refine AF.q 2 (SW.yes (SW.q (OQ.nilCheck rfl) rfl) rfl rfl (by with_reducible rfl)) ?_ | refine AF.q 2 (SW.q (OQ.nilCheck rfl) rfl) ?_); refine AF.nm ?_) | (refine AF.gs1 rfl rfl (fun hc => ?_) (fun hc => ?_) <;> (fail_if_success (with_reducible exact lit_no hc)) <;> (try replace hc := nc hc) <;> skip) | (refine AF.gs0 rfl rfl (fun hc => ?_) (fun hc => ?_) <;> (fail_if_success (with_reducible exact lit_no hc)) <;> (try replace hc := nc hc) <;> skip) | refine AF.nl ?_) | with_reducible refine AR.s ?_ | ((with_reducible refine FinP.on ?_); (refine FinP.ret (.tmp wl .nil) ?_ rfl); (try simp only [pack, List.drop, List.take]); all_goals (congr 1; first | (have q := hrf ‹rgB _ _ _ = false›; exact (HE.out.1 (by omega)).symm) | exact (HE.out.2.1 (by omega) (by omega)).symm | exact (HE.out.2.2.1 (by omega) (by omega) (by omega)).symm | exact (HE.out.2.2.2.1 (by omega) (by omega) (by omega) (by omega)).symm | exact (HE.out.2.2.2.2 (by omega) (by omega) (by omega) (by omega)).symm)))
end Go.Proofs.YtmohcmghbfhdlaaGreat
end
end
/- Chapter 6: what the opening of a net needs, in a greater memory; the plain words on nets. -/
section
set_option linter.unusedSimpArgs false
set_option linter.unusedVariables false
section
namespace Go.Me
open Go.Ab Go.Proofs.YtmohcmghbfhdlaaGreat
def lf (ts : List T3) : Nat → List (IE × Int)
 | 0 => []
 | k + 1 => lf ts k ++ [(((tr ts k).1, (tr ts k).2.1), (k : Int))] ++ [(((tr ts k).2.1, (tr ts k).2.2), (k : Int))] ++ [(((tr ts k).2.2, (tr ts k).1), (k : Int))]
def us (ts : List T3) : Nat → List Int
 | 0 => []
 | k + 1 => insL (insL (insL (us ts k) (tr ts k).1) (tr ts k).2.1) (tr ts k).2.2
def arT (l : List Pn) (ts : List T3) : Nat → Int
 | 0 => 0
 | k + 1 => arT l ts k + arS l [(tr ts k).1.toNat, (tr ts k).2.1.toNat, (tr ts k).2.2.toNat] 3
theorem us_nodup (ts : List T3) : ∀ k, (us ts k).Nodup
 | 0 => List.nodup_nil
 | k + 1 => insL_nodup (insL_nodup (insL_nodup (us_nodup ts k)))
def trK (l : List Pn) (ts : List T3) (k : Nat) : Int := trE l ts (lf ts k) k
theorem trK_0 {l : List Pn} {ts : List T3} {k : Nat} (h : trK l ts k = 0) : inR l.length (tr ts k) ∧ ¬ ordB ts k ∧ trS l (tr ts k) = 1 ∧ lk (lf ts k) ((tr ts k).1, (tr ts k).2.1) = -1 ∧ lk (lf ts k) ((tr ts k).2.1, (tr ts k).2.2) = -1 ∧ lk (lf ts k) ((tr ts k).2.2, (tr ts k).1) = -1 := by
 unfold trK trE at h
 by_cases h1 : inR l.length (tr ts k)
 ·rw [if_pos h1] at h
  by_cases h2 : ordB ts k
  ·rw [if_pos h2] at h; cases h
  ·rw [if_neg h2] at h
   by_cases h3 : trS l (tr ts k) ≠ 1
   ·rw [if_pos h3] at h; cases h
   ·rw [if_neg h3] at h
    by_cases h4 : lk (lf ts k) ((tr ts k).1, (tr ts k).2.1) ≠ -1 ∨ lk (lf ts k) ((tr ts k).2.1, (tr ts k).2.2) ≠ -1 ∨ lk (lf ts k) ((tr ts k).2.2, (tr ts k).1) ≠ -1
    ·rw [if_pos h4] at h; cases h
    ·exact ⟨h1, h2, by omega, by omega, by omega, by omega⟩
 ·rw [if_neg h1] at h; cases h
structure LfOk (n : Nat) (L : List (IE × Int)) : Prop where
 nd : (L.map (·.1)).Nodup
 rng : ∀ p ∈ L, (0 ≤ p.1.1 ∧ p.1.1 < n) ∧ (0 ≤ p.1.2 ∧ p.1.2 < n) ∧ 0 ≤ p.2
theorem lk_notin {L : List (IE × Int)} {e : IE} (h0 : ∀ p ∈ L, 0 ≤ p.2) (h : lk L e = -1) : e ∉ L.map (·.1) := fun hm => by
 have := h0 _ (lk_mem hm)
 simp only at this
 omega
theorem lf_step {l : List Pn} {ts : List T3} {k : Nat} (h : LfOk l.length (lf ts k)) (he : trK l ts k = 0) :
  (((tr ts k).1, (tr ts k).2.1) ∉ (lf ts k).map (·.1)) ∧ (((tr ts k).2.1, (tr ts k).2.2) ∉ (lf ts k ++ [(((tr ts k).1, (tr ts k).2.1), (k : Int))]).map (·.1)) ∧
  (((tr ts k).2.2, (tr ts k).1) ∉ (lf ts k ++ [(((tr ts k).1, (tr ts k).2.1), (k : Int))] ++ [(((tr ts k).2.1, (tr ts k).2.2), (k : Int))]).map (·.1)) ∧ LfOk l.length (lf ts (k + 1)) := by
 obtain ⟨h1, h2, h3, h4, h5, h6⟩ := trK_0 he
 have hn0 : ∀ p ∈ lf ts k, 0 ≤ p.2 := fun p hp => (h.rng p hp).2.2
 have n1 := lk_notin hn0 h4
 have n2 := lk_notin hn0 h5
 have n3 := lk_notin hn0 h6
 unfold inR at h1
 unfold ordB at h2
 generalize hT : tr ts k = t at *
 obtain ⟨a, b, c⟩ := t
 simp only at h1 h2 n1 n2 n3 ⊢
 have hab : a < b := by omega
 have hac : a < c := by omega
 have hbc : b ≠ c := fun e => by
  subst e
  unfold trS at h3
  simp only at h3
  rw [show cr (pt l a.toNat) (pt l b.toNat) (pt l b.toNat) = 0 from cr_self _ _] at h3
  cases h3
 have q2 : (b, c) ∉ (lf ts k ++ [((a, b), (k : Int))]).map (·.1) := by
  rw [List.map_append, List.mem_append, not_or]
  refine ⟨n2, ?_⟩
  simp only [List.map_cons, List.map_nil, List.mem_singleton, Prod.mk.injEq]
  omega
 have q3 : (c, a) ∉ (lf ts k ++ [((a, b), (k : Int))] ++ [((b, c), (k : Int))]).map (·.1) := by
  rw [List.map_append, List.map_append, List.mem_append, List.mem_append, not_or, not_or]
  refine ⟨⟨n3, ?_⟩, ?_⟩ <;> simp only [List.map_cons, List.map_nil, List.mem_singleton, Prod.mk.injEq] <;> omega
 refine ⟨n1, q2, q3, ?_, ?_⟩
 ·unfold lf
  rw [hT, List.map_append, List.nodup_append]
  refine ⟨?_, by simp, fun x hx y hy e => ?_⟩
  ·rw [List.map_append, List.nodup_append]
   refine ⟨?_, by simp, fun x hx y hy e => ?_⟩
   ·rw [List.map_append, List.nodup_append]
    refine ⟨h.nd, by simp, fun x hx y hy e => ?_⟩
    simp only [List.map_cons, List.map_nil, List.mem_singleton] at hy
    subst hy; subst e
    exact n1 hx
   ·simp only [List.map_cons, List.map_nil, List.mem_singleton] at hy
    subst hy; subst e
    exact q2 hx
  ·simp only [List.map_cons, List.map_nil, List.mem_singleton] at hy
   subst hy; subst e
   exact q3 hx
 ·unfold lf
  rw [hT]
  intro p hp
  simp only [List.mem_append, List.mem_singleton] at hp
  rcases hp with ((hp | rfl) | rfl) | rfl
  ·exact h.rng p hp
  all_goals simp only; omega
theorem lf_ok {l : List Pn} {ts : List T3} : ∀ k, (∀ j, j < k → trK l ts j = 0) → LfOk l.length (lf ts k)
 | 0, _ => ⟨List.nodup_nil, fun p hp => by simp [lf] at hp⟩
 | k + 1, h => (lf_step (lf_ok k fun j hj => h j (by omega)) (h k (by omega))).2.2.2
theorem lfV_app (A B : List (IE × Int)) : lfV (A ++ B) = lfV A ++ lfV B := List.map_append
theorem LfOk.okE {n : Nat} {L : List (IE × Int)} (h : LfOk n L) (hn : n ≤ 1000) : ∀ p ∈ L, okE p.1 := fun p hp => by
 have := h.rng p hp
 unfold Go.Proofs.YtmohcmghbfhdlaaGreat.okE
 omega
theorem arS_3 (l : List Pn) (a b c : Nat) : arS l [a, b, c] 3 = cr (pt l a) (pt l b) (pt l c) := by
 simp [arS, ot]
 unfold cr
 grind
end Go.Me
namespace Go.Proofs.YtmohcmghbfhdlaaGreat
open Go Go.RowKit Go.Ab Go.Me
set_option maxRecDepth 100000
set_option maxHeartbeats 4000000
attribute [local irreducible] OQ OW AL AW AF SW
theorem area_q {m : Mem} {b d n k c c2 : Nat} {blk blk2 : Blk} (l : List Pn) (o : List Nat) (hok : ∀ k, k < l.length → (pt l k).Ok) (ho : ∀ k, k < o.length → ot o k < l.length) (hl : o.length ≤ 1000) (hb : m.at b = some blk) (hc : blk.cells = flatP l) (hn : l.length = n) (hd : m.at d = some blk2) (hc2 : blk2.cells = flatO o) (hk : o.length = k) (o1 : blk.obj = Ob.plain := by rfl) (o2 : blk2.obj = Ob.plain := by rfl) :
  PCalls Tryz.prog 129 [.slice (some ⟨b, 0, none⟩) n c, .slice (some ⟨d, 0, none⟩) k c2] m (.int .i64 (arS l o k)) := by
 subst hn hk
 exact PCalls.viaS [b, d] (area_0 l o hok ho c c2 blk.esz blk2.esz hl) (ro2p _ _ rfl rfl) ⟨bS hb o1 hc (flatP_scal _), bS hd o2 hc2 (flatO_scal _), trivial⟩ rfl rfl rfl rfl
theorem triangleErr_q {m : Mem} {bP bT bN bL i c c2 : Nat} {A B N : Blk} {own : Bool} (l : List Pn) (ts : List T3) (L : List (IE × Int)) (hok : ∀ k, k < l.length → (pt l k).Ok) (hl : l.length ≤ 1000) (hts : ts.length ≤ 1000) (hn : (L.map (·.1)).Nodup) (hL : ∀ p ∈ L, okE p.1) (hi : i < ts.length)
  (hP : m.at bP = some A) (hPc : A.cells = flatP l) (hT : m.at bT = some B) (hTc : B.cells = flatT ts) (hN : m.at bN = some N) (hNc : N.cells = [.slice (some ⟨bP, 0, none⟩) l.length c, .slice (some ⟨bT, 0, none⟩) ts.length c2, .slice none 0 0, .map (some bL)])
  (hM : m.at bL = some (mpX L own 0)) (hPo : A.obj = Ob.plain := by rfl) (hTo : B.obj = Ob.plain := by rfl) (hNo : N.obj = Ob.plain := by rfl) :
  PCalls Tryz.prog 127 [.pointer (some ⟨bN, 0, none⟩), .int .i64 i] m (.int .i64 (trE l ts L i)) :=
 PCalls.viaS [bP, bT, bN, bL] (triangleErr_0 l ts L hok hl hts hn hL i c c2 A.esz B.esz N.esz hi) (ro4p _ _ _ _ rfl rfl rfl rfl)
  ⟨bS hP hPo hPc (flatP_scal _), bS hT hTo hTc (flatT_scal _), bI hN hNo hNc, ⟨_, hM, rfl, (fun h => nomatch h), .inl ⟨rfl, rfl⟩⟩, trivial⟩ rfl rfl rfl rfl
theorem ContainsF_q {m : Mem} {bP bT bX bE n k c c2 c3 : Nat} {A B X D : Blk} (l : List Pn) (ts : List T3) (hok : ∀ k, k < l.length → (pt l k).Ok) (hl : l.length ≤ 1000) (a b : Int) (ha : 0 ≤ a ∧ a < l.length) (hb : 0 ≤ b ∧ b < l.length) (hn : l.length = n) (hk : ts.length = k)
  (hP : m.at bP = some A) (hPc : A.cells = flatP l) (hT : m.at bT = some B) (hTc : B.cells = flatT ts) (hX : m.at bX = some X) (hXc : X.cells = [.slice (some ⟨bP, 0, none⟩) n c, .slice (some ⟨bT, 0, none⟩) k c2])
  (hD : m.at bE = some D) (hDc : D.cells = [.int .i64 a, .int .i64 b]) (hPo : A.obj = Ob.plain := by rfl) (hTo : B.obj = Ob.plain := by rfl) (hXo : X.obj = Ob.plain := by rfl) (hDo : D.obj = Ob.plain := by rfl) :
  PCalls Tryz.prog 131 [.slice (some ⟨bP, 0, none⟩) n c3, .func (.func 132) #[] #[.pointer (some ⟨bX, 0, none⟩), .pointer (some ⟨bE, 0, none⟩)]] m (.bool (!bdB l a.toNat b.toNat)) := by
 subst hn hk
 obtain ⟨a', rfl⟩ : ∃ a' : Nat, a = a' := ⟨a.toNat, by omega⟩
 obtain ⟨b', rfl⟩ : ∃ b' : Nat, b = b' := ⟨b.toNat, by omega⟩
 exact PCalls.viaS [bP, bT, bX, bE] (ContainsF_0 l ts hok a' b' (by omega) (by omega) c c2 c3 A.esz B.esz X.esz D.esz (by omega)) (ro4p _ _ _ _ rfl rfl rfl rfl)
  ⟨bS hP hPo hPc (flatP_scal _), bS hT hTo hTc (flatT_scal _), bI hX hXo hXc, ⟨_, hD, by unfold Blk.shp Blk.shpR; rw [hDo]; rfl, (fun h => nomatch h), .inl ⟨hDc, rfl⟩⟩, trivial⟩ rfl rfl rfl rfl
end Go.Proofs.YtmohcmghbfhdlaaGreat
end
end
/- The library's sorts at this program (laid by the kit's own command, in plain words). -/
section
set_option linter.unusedSimpArgs false
set_option linter.unusedVariables false
namespace Go.Proofs
open Go.Shelf
def Tryz.laysF6_ren : Go.Shelf.Ren := ⟨fun | 6 => 152 | 15 => 145 | 14 => 174 | 28 => 171 | 29 => 172 | 20 => 181 | 21 => 182 | 22 => 183 | 23 => 184 | 24 => 185 | 25 => 186 | 26 => 187 | 27 => 188 | 46 => 198 | 47 => 177 | 48 => 178 | 49 => 199 | 50 => 200 | 57 => 204 | n => n, fun | 22 => 26 | 24 => 3 | 25 => 38 | 3 => 3 | 39 => 187 | 0 => 0 | 53 => 205 | 55 => 179 | 4 => 4 | 46 => 199 | 45 => 198 | 50 => 126 | 5 => 5 | 9 => 9 | 66 => 209 | 70 => 213 | 76 => 225 | 77 => 48 | n => n, fun | n => n⟩
theorem Tryz.laysF6 : Go.Proofs.SlLaysF.n6 Tryz.prog Tryz.laysF6_ren := {
 mixed := by kernel_rfl
 f6 := ⟨Tryz.f152.name, by decide, Tryz.func152.trans (congrArg some (by kernel_rfl))⟩
 f14 := ⟨Tryz.f174.name, by decide, Tryz.func174.trans (congrArg some (by kernel_rfl))⟩
 f15 := Tryz.func145.trans (congrArg some (by kernel_rfl))
 f20 := ⟨Tryz.f181.name, by decide, Tryz.func181.trans (congrArg some (by kernel_rfl))⟩
 f21 := ⟨Tryz.f182.name, by decide, Tryz.func182.trans (congrArg some (by kernel_rfl))⟩
 f22 := ⟨Tryz.f183.name, by decide, Tryz.func183.trans (congrArg some (by kernel_rfl))⟩
 f23 := ⟨Tryz.f184.name, by decide, Tryz.func184.trans (congrArg some (by kernel_rfl))⟩
 f24 := ⟨Tryz.f185.name, by decide, Tryz.func185.trans (congrArg some (by kernel_rfl))⟩
 f25 := ⟨Tryz.f186.name, by decide, Tryz.func186.trans (congrArg some (by kernel_rfl))⟩
 f26 := ⟨Tryz.f187.name, by decide, Tryz.func187.trans (congrArg some (by kernel_rfl))⟩
 f27 := ⟨Tryz.f188.name, by decide, Tryz.func188.trans (congrArg some (by kernel_rfl))⟩
 f28 := Tryz.func171.trans (congrArg some (by kernel_rfl))
 f29 := Tryz.func172.trans (congrArg some (by kernel_rfl))
 f46 := ⟨Tryz.f198.name, by decide, Tryz.func198.trans (congrArg some (by kernel_rfl))⟩
 f47 := Tryz.func177.trans (congrArg some (by kernel_rfl))
 f48 := Tryz.func178.trans (congrArg some (by kernel_rfl))
 f49 := ⟨Tryz.f199.name, by decide, Tryz.func199.trans (congrArg some (by kernel_rfl))⟩
 f50 := ⟨Tryz.f200.name, by decide, Tryz.func200.trans (congrArg some (by kernel_rfl))⟩
 f57 := ⟨Tryz.f204.name, by decide, Tryz.func204.trans (congrArg some (by kernel_rfl))⟩
 t0 := Tryz.underlying0
 a0 := Tryz.isAgg0
 z0 := Tryz.sizeOf0
 v0 := Tryz.zeroValue0
 t3 := Tryz.underlying3
 a3 := Tryz.isAgg3
 z3 := Tryz.sizeOf3
 v3 := Tryz.zeroValue3
 t4 := Tryz.underlying4
 a4 := Tryz.isAgg4
 z4 := Tryz.sizeOf4
 v4 := Tryz.zeroValue4
 t5 := Tryz.underlying5
 a5 := Tryz.isAgg5
 z5 := Tryz.sizeOf5
 v5 := Tryz.zeroValue5
 t9 := Tryz.underlying9
 a9 := Tryz.isAgg9
 z9 := Tryz.sizeOf9
 v9 := Tryz.zeroValue9
 t22 := Tryz.underlying26
 a22 := Tryz.isAgg26
 z22 := Tryz.sizeOf26
 v22 := Tryz.zeroValue26
 a24 := Tryz.isAgg3
 z24 := Tryz.sizeOf3
 t25 := Tryz.underlying38
 a25 := Tryz.isAgg38
 z25 := Tryz.sizeOf38
 v25 := Tryz.zeroValue38
 t39 := Tryz.underlying187
 a39 := Tryz.isAgg187
 z39 := Tryz.sizeOf187
 v39 := Tryz.zeroValue187
 t45 := Tryz.underlying198
 a45 := Tryz.isAgg198
 z45 := Tryz.sizeOf198
 v45 := Tryz.zeroValue198
 t46 := Tryz.underlying199
 a46 := Tryz.isAgg199
 z46 := Tryz.sizeOf199
 v46 := Tryz.zeroValue199
 t50 := Tryz.underlying126
 a50 := Tryz.isAgg126
 z50 := Tryz.sizeOf126
 v50 := Tryz.zeroValue126
 t53 := Tryz.underlying205
 a53 := Tryz.isAgg205
 z53 := Tryz.sizeOf205
 v53 := Tryz.zeroValue205
 t55 := Tryz.underlying179
 a55 := Tryz.isAgg179
 z55 := Tryz.sizeOf179
 v55 := Tryz.zeroValue179
 t66 := Tryz.underlying209
 a66 := Tryz.isAgg209
 z66 := Tryz.sizeOf209
 v66 := Tryz.zeroValue209
 t70 := Tryz.underlying213
 a70 := Tryz.isAgg213
 z70 := Tryz.sizeOf213
 v70 := Tryz.zeroValue213
 t76 := Tryz.underlying225
 a76 := Tryz.isAgg225
 z76 := Tryz.sizeOf225
 v76 := Tryz.zeroValue225
 t77 := Tryz.underlying48
 a77 := Tryz.isAgg48
 z77 := Tryz.sizeOf48
 v77 := Tryz.zeroValue48 }
def Tryz.laysK6_ren : Go.Shelf.Ren := ⟨fun | 6 => 111 | 15 => 145 | 14 => 144 | 28 => 171 | 29 => 172 | 20 => 163 | 21 => 164 | 22 => 165 | 23 => 166 | 24 => 167 | 25 => 168 | 26 => 169 | 27 => 170 | 46 => 176 | 47 => 177 | 48 => 178 | 49 => 179 | 50 => 180 | 57 => 197 | n => n, fun | 22 => 45 | 24 => 52 | 25 => 160 | 3 => 3 | 39 => 187 | 0 => 0 | 53 => 205 | 55 => 179 | 4 => 4 | 46 => 199 | 45 => 198 | 50 => 126 | 5 => 5 | 9 => 9 | 66 => 209 | 70 => 213 | 76 => 225 | 77 => 48 | n => n, fun | n => n⟩
theorem Tryz.laysK6 : Go.Proofs.SlLaysF0.n6 Tryz.prog Tryz.laysK6_ren := {
 mixed := by kernel_rfl
 f6 := ⟨Tryz.f111.name, by decide, Tryz.func111.trans (congrArg some (by kernel_rfl))⟩
 f14 := ⟨Tryz.f144.name, by decide, Tryz.func144.trans (congrArg some (by kernel_rfl))⟩
 f15 := Tryz.func145.trans (congrArg some (by kernel_rfl))
 f20 := ⟨Tryz.f163.name, by decide, Tryz.func163.trans (congrArg some (by kernel_rfl))⟩
 f21 := ⟨Tryz.f164.name, by decide, Tryz.func164.trans (congrArg some (by kernel_rfl))⟩
 f22 := ⟨Tryz.f165.name, by decide, Tryz.func165.trans (congrArg some (by kernel_rfl))⟩
 f23 := ⟨Tryz.f166.name, by decide, Tryz.func166.trans (congrArg some (by kernel_rfl))⟩
 f24 := ⟨Tryz.f167.name, by decide, Tryz.func167.trans (congrArg some (by kernel_rfl))⟩
 f25 := ⟨Tryz.f168.name, by decide, Tryz.func168.trans (congrArg some (by kernel_rfl))⟩
 f26 := ⟨Tryz.f169.name, by decide, Tryz.func169.trans (congrArg some (by kernel_rfl))⟩
 f27 := ⟨Tryz.f170.name, by decide, Tryz.func170.trans (congrArg some (by kernel_rfl))⟩
 f28 := Tryz.func171.trans (congrArg some (by kernel_rfl))
 f29 := Tryz.func172.trans (congrArg some (by kernel_rfl))
 f46 := ⟨Tryz.f176.name, by decide, Tryz.func176.trans (congrArg some (by kernel_rfl))⟩
 f47 := Tryz.func177.trans (congrArg some (by kernel_rfl))
 f48 := Tryz.func178.trans (congrArg some (by kernel_rfl))
 f49 := ⟨Tryz.f179.name, by decide, Tryz.func179.trans (congrArg some (by kernel_rfl))⟩
 f50 := ⟨Tryz.f180.name, by decide, Tryz.func180.trans (congrArg some (by kernel_rfl))⟩
 f57 := ⟨Tryz.f197.name, by decide, Tryz.func197.trans (congrArg some (by kernel_rfl))⟩
 t0 := Tryz.underlying0
 a0 := Tryz.isAgg0
 z0 := Tryz.sizeOf0
 v0 := Tryz.zeroValue0
 t3 := Tryz.underlying3
 a3 := Tryz.isAgg3
 z3 := Tryz.sizeOf3
 v3 := Tryz.zeroValue3
 t4 := Tryz.underlying4
 a4 := Tryz.isAgg4
 z4 := Tryz.sizeOf4
 v4 := Tryz.zeroValue4
 t5 := Tryz.underlying5
 a5 := Tryz.isAgg5
 z5 := Tryz.sizeOf5
 v5 := Tryz.zeroValue5
 t9 := Tryz.underlying9
 a9 := Tryz.isAgg9
 z9 := Tryz.sizeOf9
 v9 := Tryz.zeroValue9
 t22 := Tryz.underlying45
 a22 := Tryz.isAgg45
 z22 := Tryz.sizeOf45
 v22 := Tryz.zeroValue45
 t25 := Tryz.underlying160
 a25 := Tryz.isAgg160
 z25 := Tryz.sizeOf160
 v25 := Tryz.zeroValue160
 t39 := Tryz.underlying187
 a39 := Tryz.isAgg187
 z39 := Tryz.sizeOf187
 v39 := Tryz.zeroValue187
 t45 := Tryz.underlying198
 a45 := Tryz.isAgg198
 z45 := Tryz.sizeOf198
 v45 := Tryz.zeroValue198
 t46 := Tryz.underlying199
 a46 := Tryz.isAgg199
 z46 := Tryz.sizeOf199
 v46 := Tryz.zeroValue199
 t50 := Tryz.underlying126
 a50 := Tryz.isAgg126
 z50 := Tryz.sizeOf126
 v50 := Tryz.zeroValue126
 t53 := Tryz.underlying205
 a53 := Tryz.isAgg205
 z53 := Tryz.sizeOf205
 v53 := Tryz.zeroValue205
 t55 := Tryz.underlying179
 a55 := Tryz.isAgg179
 z55 := Tryz.sizeOf179
 v55 := Tryz.zeroValue179
 t66 := Tryz.underlying209
 a66 := Tryz.isAgg209
 z66 := Tryz.sizeOf209
 v66 := Tryz.zeroValue209
 t70 := Tryz.underlying213
 a70 := Tryz.isAgg213
 z70 := Tryz.sizeOf213
 v70 := Tryz.zeroValue213
 t76 := Tryz.underlying225
 a76 := Tryz.isAgg225
 z76 := Tryz.sizeOf225
 v76 := Tryz.zeroValue225
 t77 := Tryz.underlying48
 a77 := Tryz.isAgg48
 z77 := Tryz.sizeOf48
 v77 := Tryz.zeroValue48 }
end Go.Proofs
end
