/- Chapter 6: which points are right: both sides. -/
import Derived.Test.YtmohcmghbfhdlaaGreatQd
import Derived.Test.YtmohcmghbfhdlaaGreatQf
section
set_option linter.unusedSimpArgs false
set_option linter.unusedVariables false
section
namespace Go.Me
open Go.Ab
def idxP (l : List Pn) (p : Pn) : Nat → Int
 | 0 => -1
 | k + 1 => if idxP l p k ≠ -1 then idxP l p k else if (p.x, p.y) = ((pt l k).x, (pt l k).y) then k else -1
theorem idxP_no {l : List Pn} {p : Pn} : ∀ n : Nat, (∀ j, j < n → ¬ (p.x, p.y) = ((pt l j).x, (pt l j).y)) → idxP l p n = -1 := by
 intro n
 induction n with
 | zero => intro _; rfl
 | succ n ih =>
  intro h
  unfold idxP
  rw [if_neg (fun h2 => h2 (ih fun j hj => h j (by omega))), if_neg (h n (by omega))]
theorem idxP_yes {l : List Pn} {p : Pn} {k : Nat} (hk : ∀ j, j < k → ¬ (p.x, p.y) = ((pt l j).x, (pt l j).y)) (he : (p.x, p.y) = ((pt l k).x, (pt l k).y)) : ∀ n : Nat, k < n → idxP l p n = k := by
 intro n
 induction n with
 | zero => intro h; omega
 | succ n ih =>
  intro h
  rcases Nat.lt_or_eq_of_le (Nat.le_of_lt_succ h) with h | rfl
  ·have := ih h
   unfold idxP
   rw [this, if_pos (by omega)]
  ·unfold idxP
   rw [if_neg (fun h2 => h2 (idxP_no k hk)), if_pos he]
theorem idxP_bd (l : List Pn) (p : Pn) : ∀ n : Nat, -1 ≤ idxP l p n ∧ idxP l p n < n := by
 intro n
 induction n with
 | zero => unfold idxP; omega
 | succ n ih =>
  unfold idxP
  repeat' split
  all_goals omega
def ptE (l : List Pn) (i : Nat) : Int := if okP (pt l i) = false then 2 else if idxP l (pt l i) i = -1 then 0 else 5
def cpN (l : List Pn) : Nat → Int
 | 0 => -1
 | k + 1 => if cpN l k ≠ -1 then cpN l k else if ptE l k ≠ 0 then k else -1
def cpA (l : List Pn) : Int := if 40 < l.length then 0 else if cpN l l.length = -1 then 0 else cpN l l.length
def cpB (l : List Pn) : Int := if 40 < l.length then 8 else if cpN l l.length = -1 then 0 else ptE l (cpN l l.length).toNat
theorem cpN_no {l : List Pn} : ∀ n : Nat, (∀ j, j < n → ptE l j = 0) → cpN l n = -1 := by
 intro n
 induction n with
 | zero => intro _; rfl
 | succ n ih =>
  intro h
  unfold cpN
  rw [if_neg (fun h2 => h2 (ih fun j hj => h j (by omega))), if_neg (fun h2 => h2 (h n (by omega)))]
theorem cpN_yes {l : List Pn} {k : Nat} (hk : ∀ j, j < k → ptE l j = 0) (he : ptE l k ≠ 0) : ∀ n : Nat, k < n → cpN l n = k := by
 intro n
 induction n with
 | zero => intro h; omega
 | succ n ih =>
  intro h
  rcases Nat.lt_or_eq_of_le (Nat.le_of_lt_succ h) with h | rfl
  ·have := ih h
   unfold cpN
   rw [this, if_pos (by omega)]
  ·unfold cpN
   rw [if_neg (fun h2 => h2 (cpN_no k hk)), if_pos he]
theorem ptE_bd (l : List Pn) (i : Nat) : ptE l i = 0 ∨ ptE l i = 2 ∨ ptE l i = 5 := by
 unfold ptE
 repeat' split
 all_goals simp
end Go.Me
namespace Go.Ab
section
variable {P : Program} {t : T} {m : Mem} {dst : Option Tmp} {rt ty ty' : TypeId} {pos : String} {after : Array Edge} {guard : Option (Nat × Bool)} {x y : Operand}
theorem OQ.sliceTo {lo hi : Option Operand} {b n c z k : Nat} {g : Bool} {blk : Blk} (hx : t.ev x = .slice (some ⟨b, 0, none⟩) n c) (hf : elemOf' P ty = some (none, z, g)) (hb : m.at b = some blk) (hz : blk.esz = 0 ∨ blk.esz = z)
  (hl : bnd t lo 0 = some 0) (hh : bnd t hi n = some (k : Int)) (h2 : k ≤ n) : OQ P ⟨dst, .slice ty x lo hi none, rt, pos, after, guard⟩ t m (.slice (some ⟨b, 0, none⟩) k c) := by
 have := OQ.sliceS (dst := dst) (rt := rt) (pos := pos) (after := after) (guard := guard) hx hf hb hz hl hh (by decide) (by omega) (by omega)
 simpa using this
end
end Go.Ab
namespace Go.Proofs.YtmohcmghbfhdlaaGreat
open Go Go.RowKit Go.Ab Go.Me
set_option maxRecDepth 100000
set_option maxHeartbeats 4000000
theorem eqr_t65 (d : Nat) (w : World) (a0 a1 b0 b1 : Int) : (Op.equalIn (d + 2) 65 (.agg #[.int .i64 a0, .int .i64 a1]) (.agg #[.int .i64 b0, .int .i64 b1])).run Tryz.prog w = .ok (decide ((a0, a1) = (b0, b1))) w := by
 unfold Op.equalIn
 simp [Tryz.underlying65, run_underlying, go_sem, List.forIn_cons]
 by_cases h0 : a0 = b0
 case neg => simp [h0]
 by_cases h1 : a1 = b1
 case neg => simp [h0, h1]
 simp [h0, h1]
theorem eql_t65 {t : T} {m : Mem} {dst : Option Tmp} {rt ty' : TypeId} {pos : String} {after : Array Edge} {guard : Option (Nat × Bool)} {x y : Operand} {a0 a1 b0 b1 : Int} (hx : t.ev x = (.agg #[.int .i64 a0, .int .i64 a1])) (hy : t.ev y = (.agg #[.int .i64 b0, .int .i64 b1])) :
  OQ Tryz.prog ⟨dst, .binOp .eql 65 x y ty', rt, pos, after, guard⟩ t m (.bool (decide ((a0, a1) = (b0, b1)))) := by
 refine OQ.closed (fun cs b => by simp) (fun z hz => ?_) (fun w => ?_) rfl
 ·simp [Op.operands] at hz
  rcases hz with rfl | rfl
  ·rw [hx]; rfl
  ·rw [hy]; rfl
 ·have e := eqr_t65 9998 w a0 a1 b0 b1
  have hgt : (Tryz.prog).eqGuardType (Tryz.prog).depth 65 = false := by kernel_rfl
  have hg : (eqGuard .eql 65 x y (t.ev x) (t.ev y)).run Tryz.prog w = .ok () w := by
   rw [hx, hy]
   simp [eqGuard, program, Sem.run, Sem.run_bind, hgt]
  rw [hx, hy] at hg
  simp only [execOp, hx, hy, Sem.run_bind, hg, Result.andThen_ok, binOp, Op.equal, Op.maxDepth]
  erw [e]
  simp [go_sem]
attribute [local irreducible] OQ OW AL AW AF SW
theorem Index_0 (l : List Pn) (p : Pn) (n c z : Nat) (hn : n ≤ l.length) (hl : l.length ≤ 1000000) : PCalls Tryz.prog 138 [.slice (some ⟨0, 0, none⟩) n c, ptV p] [some ⟨flatP l, false, z⟩] (.int .i64 (idxP l p n)) := by
 have hld := fun (k : Nat) (hk : k < l.length) (r : Mem) => flatP_ld (m := some ⟨flatP l, false, z⟩ :: r) (b := 0) (l := l) rfl rfl k hk
 have hno := idxP_no (l := l) (p := p) n
 have hyes := fun (k : Nat) (h1 : k < n) (hj : ∀ j, j < k → ¬ (p.x, p.y) = ((pt l j).x, (pt l j).y)) (he : (p.x, p.y) = ((pt l k).x, (pt l k).y)) => idxP_yes hj he n h1
 generalize idxP l p n = E0 at *
 refine PCalls.en 17 Tryz.func138 rfl (ro1p _ rfl) rfl (fun E => ?_)
 repeat' (first | with_reducible (first | refine Then.n ?_ | refine Then.r ?_ | refine Then.x ?_ | refine InB.n ?_ | refine InB.r ?_ | refine InB.hit ?_) | ((with_reducible refine AL.on ?_); first | ((first | refine AL.mv ?_ | refine AL.as ?_ | ((with_reducible refine AL.k_binOp ?_); first | refine AL.g (OQ.lss rfl rfl) ?_ | refine AL.q rfl (eql_t65 rfl rfl) ?_ | refine AL.g (OQ.addi rfl rfl (by omega)) ?_) | ((with_reducible refine AL.k_call ?_); refine AL.g (OQ.lenS (xt := 22) (r := (none, 2, true)) rfl kr) ?_)); refine AL.nm ?_) | ((refine AL.bx ?_); refine AL.nm ?_; refine AL.nM ?_) | refine AL.nil ?_) | ((with_reducible refine AW.on ?_); first | refine AW.seq ?_ | refine AW.skip ?_ | refine AW.exit ?_ | refine AW.ret ?_ | ((refine AW.block (id := 0) ?_); (refine AW.fk [0, 3, 7, 8] ?_); (refine AW.loop (fun n' t' m => ∃ k : Nat, n' = n - k ∧ k ≤ n ∧ (∀ j, j < k → ¬ (p.x, p.y) = ((pt l j).x, (pt l j).y)) ∧ t' = (mtz 19 0 [(0, .slice (some ⟨0, 0, none⟩) n c), (3, .pointer (some ⟨1, 0, none⟩)), (7, .int .i64 (n)), (8, .int .i64 (k))]) ∧ m = [some ⟨flatP l, false, z⟩, some ⟨[.int .i64 (p.x), .int .i64 (p.y)], true, 0⟩]) (n) (by exact ⟨0, rfl, Nat.zero_le _, fun j h => absurd h (by omega), rfl, rfl⟩) ?_); (rintro n' t' m ⟨k, rfl, hk, hj, rfl, rfl⟩); (refine AW.nT ?_)) | refine AW.block ?_ | (refine AW.drawF (id := 4) 5 #[0, 0, 0, 6, 14, 31] kr kr ?_; (conv => (arg 8; simp only [List.take_succ_cons, List.take_zero]))) | refine AW.region ?_ | (refine AW.conds rfl (fun hc => ?_) (fun hc => ?_) <;> (try replace hc := nc hc) <;> skip)) | ((with_reducible refine AF.on ?_); first | ((first | ((with_reducible refine AF.k_move ?_); (refine AF.q 0 (SW.q (OQ.move wl) rfl) ?_)) | ((with_reducible refine AF.k_load ?_); refine AF.ql rfl (SW.q (OQ.loadN (ty := 65) (n := 2) rfl kr kr (by first | (exact hld _ (by omega) _) | rfl)) rfl) ?_) | ((with_reducible refine AF.k_indexAddr ?_); refine AF.q 0 (SW.q (OQ.idxAddr (ty := 22) (z := 2) (g := true) rfl rfl kr (by omega) (by omega)) rfl) ?_)); refine AF.nm ?_) | refine AF.nl ?_) | ((with_reducible refine ex_on ?_); (refine ⟨n - (k + 1), _, _, by omega, ?_, k + 1, rfl, by omega, fun j h => (by rcases Nat.lt_or_eq_of_le (Nat.le_of_lt_succ h) with h | rfl; (exact hj j h); (assumption)), rfl, rfl⟩; exact Wk.fk [0, 3, 7, 8] rfl)) | ((with_reducible refine FinP.on ?_); (refine FinP.ret (.tmp wl .nil) ?_ rfl); (try simp only [pack, List.drop, List.take]); all_goals (symm; first | (rw [hyes k (by omega) hj (by assumption)]; done) | (obtain rfl : k = n := (by omega); rw [hno hj]))))
theorem Index_q {m : Mem} {b n c : Nat} {blk : Blk} (l : List Pn) (p : Pn) (hb : m.at b = some blk) (hc : blk.cells = flatP l) (hn : n ≤ l.length) (hl : l.length ≤ 1000000) (ho : blk.obj = Ob.plain := by rfl) : PCalls Tryz.prog 138 [.slice (some ⟨b, 0, none⟩) n c, ptV p] m (.int .i64 (idxP l p n)) := by
 exact PCalls.viaS [b] (Index_0 l p n c blk.esz hn hl) (ro1p _ rfl) ⟨bS hb ho hc (flatP_scal _), trivial⟩ rfl rfl rfl rfl
theorem Contains_0 (l : List Pn) (p : Pn) (n c z : Nat) (hn : n ≤ l.length) (hl : l.length ≤ 1000000) : PCalls Tryz.prog 98 [.slice (some ⟨0, 0, none⟩) n c, ptV p] [some ⟨flatP l, false, z⟩] (.bool (decide (0 ≤ idxP l p n))) := by
 have hi := fun (m : Mem) (b : Nat) (blk : Blk) (h1 : m.at b = some blk) (h2 : blk.cells = flatP l) (h3 : blk.obj = Ob.plain) => Index_q (n := n) (c := c) l p h1 h2 hn hl h3
 generalize idxP l p n = E0 at *
 refine PCalls.en 7 Tryz.func98 rfl (ro1p _ rfl) rfl (fun E => ?_)
 repeat' (first | with_reducible (refine Then.n ?_) | ((with_reducible refine AL.on ?_); first | ((first | refine AL.as ?_ | refine AL.mv ?_ | ((with_reducible refine AL.k_load ?_); refine AL.g (OQ.loadN (ty := 65) (n := 2) rfl kr kr rfl) ?_) | ((with_reducible refine AL.k_binOp ?_); refine AL.g (OQ.geq rfl rfl) ?_)); refine AL.nm ?_) | ((refine AL.pcall (g := 138) rfl kr rfl ((by exact hi _ 0 _ rfl rfl rfl)) ?_); refine AL.nm ?_) | ((refine AL.bx ?_); refine AL.nm ?_; refine AL.nM ?_) | refine AL.nil ?_) | ((with_reducible refine AW.on ?_); first | refine AW.seq ?_ | refine AW.ret ?_ | refine AW.region ?_) | ((with_reducible refine FinP.on ?_); (refine FinP.ret (.tmp wl .nil) ?_ rfl); (try simp only [pack, List.drop, List.take]); all_goals (rfl)))
theorem Contains_q {m : Mem} {b n c : Nat} {blk : Blk} (l : List Pn) (p : Pn) (hb : m.at b = some blk) (hc : blk.cells = flatP l) (hn : n ≤ l.length) (hl : l.length ≤ 1000000) (ho : blk.obj = Ob.plain := by rfl) : PCalls Tryz.prog 98 [.slice (some ⟨b, 0, none⟩) n c, ptV p] m (.bool (decide (0 ≤ idxP l p n))) := by
 exact PCalls.viaS [b] (Contains_0 l p n c blk.esz hn hl) (ro1p _ rfl) ⟨bS hb ho hc (flatP_scal _), trivial⟩ rfl rfl rfl rfl
theorem pointErr_0 (l : List Pn) (i c z : Nat) (hi : i < l.length) (hl : l.length ≤ 1000000) : PCalls Tryz.prog 100 [.slice (some ⟨0, 0, none⟩) l.length c, .int .i64 i] [some ⟨flatP l, false, z⟩] (.int .i64 (ptE l i)) := by
 have hld := fun (k : Nat) (hk : k < l.length) (r : Mem) => flatP_ld (m := some ⟨flatP l, false, z⟩ :: r) (b := 0) (l := l) rfl rfl k hk
 have hw := fun (p : Pn) (m : Mem) => isPoint_q p m
 have h2 : okP (pt l i) = false → ptE l i = 2 := fun h => by unfold ptE; rw [if_pos h]
 have h5 : okP (pt l i) = true → ∀ k, k < i → (∀ j, j < k → ¬ ((pt l i).x, (pt l i).y) = ((pt l j).x, (pt l j).y)) → ((pt l i).x, (pt l i).y) = ((pt l k).x, (pt l k).y) → ptE l i = 5 := fun h k hk hj he => by
  unfold ptE
  rw [if_neg (by rw [h]; decide), if_neg]
  rw [idxP_yes hj he i hk]
  omega
 have h0 : okP (pt l i) = true → (∀ j, j < i → ¬ ((pt l i).x, (pt l i).y) = ((pt l j).x, (pt l j).y)) → ptE l i = 0 := fun h hj => by
  unfold ptE
  rw [if_neg (by rw [h]; decide), if_pos (idxP_no i hj)]
 generalize ptE l i = E0 at *
 refine PCalls.en 24 Tryz.func100 rfl (ro1p _ rfl) rfl (fun E => ?_)
 repeat' (first | with_reducible (first | refine Then.n ?_ | refine Then.r ?_ | refine Then.x ?_ | refine InB.n ?_ | refine InB.r ?_ | refine InB.hit ?_) | ((with_reducible refine AL.on ?_); first | ((first | refine AL.mv ?_ | refine AL.as ?_ | ((with_reducible refine AL.k_load ?_); refine AL.g (OQ.loadN (ty := 65) (n := 2) rfl kr kr (by (exact hld _ (by omega) _))) ?_) | ((with_reducible refine AL.k_binOp ?_); first | refine AL.g (OQ.lss rfl rfl) ?_ | refine AL.q rfl (eql_t65 rfl rfl) ?_ | refine AL.g (OQ.addi rfl rfl (by omega)) ?_) | ((with_reducible refine AL.k_unOp ?_); refine AL.g (OQ.not rfl) ?_)); refine AL.nm ?_) | ((first | ((with_reducible refine AL.k_indexAddr ?_); refine AL.g (OQ.idxAddr (ty := 22) (z := 2) (g := true) rfl rfl kr (by omega) (by omega)) ?_) | ((with_reducible refine AL.k_call ?_); refine AL.pcall (g := 140) rfl kr rfl (hw _ _) ?_)); refine AL.nm ?_) | refine AL.nil ?_) | ((with_reducible refine AW.on ?_); first | refine AW.seq ?_ | refine AW.skip ?_ | refine AW.exit ?_ | refine AW.ret ?_ | ((refine AW.block (id := 0) ?_); (refine AW.fk [0, 1, 5] ?_); (refine AW.loop (fun n' t' m => ∃ k : Nat, n' = i - k ∧ k ≤ i ∧ (∀ j, j < k → ¬ ((pt l i).x, (pt l i).y) = ((pt l j).x, (pt l j).y)) ∧ t' = (mtz 26 0 [(0, .slice (some ⟨0, 0, none⟩) l.length c), (1, .int .i64 (i)), (5, .int .i64 (k))]) ∧ m = [some ⟨flatP l, false, z⟩]) (i) (by exact ⟨0, rfl, Nat.zero_le _, fun j h => absurd h (by omega), rfl, rfl⟩) ?_); (rintro n' t' m ⟨k, rfl, hk, hj, rfl, rfl⟩); (refine AW.nT ?_)) | refine AW.block ?_ | (refine AW.drawF (id := 6) 8 #[0, 0, 3, 7, 0, 0, 48, 112, 255] kr kr ?_; (conv => (arg 8; simp only [List.take_succ_cons, List.take_zero]))) | refine AW.region ?_ | (refine AW.conds rfl (fun hc => ?_) (fun hc => ?_) <;> (try replace hc := nc hc) <;> skip)) | ((with_reducible refine AF.on ?_); first | ((first | ((with_reducible refine AF.k_move ?_); (refine AF.q 0 (SW.q (OQ.move wl) rfl) ?_)) | ((with_reducible refine AF.k_indexAddr ?_); refine AF.q 0 (SW.q (OQ.idxAddr (ty := 22) (z := 2) (g := true) rfl rfl kr (by omega) (by omega)) rfl) ?_) | ((with_reducible refine AF.k_load ?_); refine AF.ql rfl (SW.q (OQ.loadN (ty := 65) (n := 2) rfl kr kr (by (exact hld _ (by omega) _))) rfl) ?_)); refine AF.nm ?_) | refine AF.nl ?_) | ((with_reducible refine ex_on ?_); (refine ⟨i - (k + 1), _, _, by omega, ?_, k + 1, rfl, by omega, fun j h => (by rcases Nat.lt_or_eq_of_le (Nat.le_of_lt_succ h) with h | rfl; (exact hj j h); (exact fun h => ‹¬ _› h.symm)), rfl, rfl⟩; exact Wk.fk [0, 1, 5] rfl)) | ((with_reducible refine FinP.on ?_); (refine FinP.ret (.tmp wl .nil) ?_ rfl); (try simp only [pack, List.drop, List.take]); all_goals (symm; first | (rw [h2 (by first | assumption | simp_all)]; done) | (rw [h5 (by assumption) k (by omega) hj (by exact hc.symm)]; done) | (obtain rfl : k = i := (by omega); rw [h0 (by assumption) hj]))))
theorem pointErr_q {m : Mem} {b i n c : Nat} {blk : Blk} (l : List Pn) (hb : m.at b = some blk) (hc : blk.cells = flatP l) (hn : l.length = n) (hi : i < l.length) (hl : l.length ≤ 1000000) (ho : blk.obj = Ob.plain := by rfl) : PCalls Tryz.prog 100 [.slice (some ⟨b, 0, none⟩) n c, .int .i64 i] m (.int .i64 (ptE l i)) := by
 subst hn
 exact PCalls.viaS [b] (pointErr_0 l i c blk.esz hi hl) (ro1p _ rfl) ⟨bS hb ho hc (flatP_scal _), trivial⟩ rfl rfl rfl rfl
theorem rCheckPoints_0 (l : List Pn) (c z : Nat) (hl : l.length ≤ 1000000) : PCalls Tryz.prog 59 [.slice (some ⟨0, 0, none⟩) l.length c] [some ⟨flatP l, false, z⟩] (.tuple #[.int .i64 (cpA l), .int .i64 (cpB l)]) := by
 have hp := fun (m : Mem) (i b : Nat) (blk : Blk) (h1 : m.at b = some blk) (h2 : blk.cells = flatP l) (hi : i < l.length) (h3 : blk.obj = Ob.plain) => pointErr_q (c := c) l h1 h2 rfl hi hl h3
 have h8 : 40 < l.length → cpA l = 0 ∧ cpB l = 8 := fun h => by unfold cpA cpB; rw [if_pos h, if_pos h]; exact ⟨rfl, rfl⟩
 have hy : ¬ 40 < l.length → ∀ k, k < l.length → (∀ j, j < k → ptE l j = 0) → ptE l k ≠ 0 → cpA l = k ∧ cpB l = ptE l k := fun h k hk hj he => by
  unfold cpA cpB
  rw [if_neg h, if_neg h, cpN_yes hj he _ hk, if_neg (by omega), if_neg (by omega)]
  exact ⟨rfl, rfl⟩
 have h0 : ¬ 40 < l.length → (∀ j, j < l.length → ptE l j = 0) → cpA l = 0 ∧ cpB l = 0 := fun h hj => by
  unfold cpA cpB
  rw [if_neg h, if_neg h, cpN_no _ hj, if_pos rfl, if_pos rfl]
  exact ⟨rfl, rfl⟩
 have hb := ptE_bd l
 generalize cpA l = A0 at *
 generalize cpB l = B0 at *
 generalize ptE l = F at *
 refine PCalls.en 21 Tryz.func59 rfl (ro1p _ rfl) rfl (fun E => ?_)
 repeat' (first | with_reducible (first | refine Then.n ?_ | refine Then.r ?_ | refine Then.x ?_ | refine InB.n ?_ | refine InB.r ?_ | refine InB.hit ?_) | ((with_reducible refine AL.on ?_); first | ((first | refine AL.as ?_ | refine AL.mv ?_ | ((with_reducible refine AL.k_binOp ?_); first | refine AL.g (OQ.gtr rfl rfl) ?_ | refine AL.g (OQ.lss rfl rfl) ?_ | refine AL.g (OQ.neq rfl rfl) ?_ | refine AL.g (OQ.addi rfl rfl (by omega)) ?_) | ((with_reducible refine AL.k_call ?_); refine AL.g (OQ.lenS (xt := 22) (r := (none, 2, true)) rfl kr) ?_)); refine AL.nm ?_) | ((refine AL.pcall (g := 100) rfl kr rfl ((by exact hp _ _ 0 _ rfl rfl (by omega) rfl)) ?_); refine AL.nm ?_) | refine AL.nil ?_) | ((with_reducible refine AW.on ?_); first | refine AW.seq ?_ | refine AW.skip ?_ | refine AW.exit ?_ | refine AW.ret ?_ | ((refine AW.block (id := 0) ?_); (refine AW.fk [0, 4] ?_); (refine AW.loop (fun n' t' m => ∃ k : Nat, n' = l.length - k ∧ k ≤ l.length ∧ (∀ j, j < k → F j = 0) ∧ t' = (mtz 22 0 [(0, .slice (some ⟨0, 0, none⟩) l.length c), (4, .int .i64 (k))]) ∧ m = [some ⟨flatP l, false, z⟩]) (l.length) (by exact ⟨0, rfl, Nat.zero_le _, fun j h => absurd h (by omega), rfl, rfl⟩) ?_); (rintro n' t' m ⟨k, rfl, hk, hj, rfl, rfl⟩); (refine AW.nT ?_)) | refine AW.block ?_ | refine AW.region ?_ | (refine AW.conds rfl (fun hc => ?_) (fun hc => ?_) <;> (try replace hc := nc hc) <;> skip)) | ((with_reducible refine ex_on ?_); (refine ⟨l.length - (k + 1), _, _, by omega, ?_, k + 1, rfl, by omega, fun j h => (by rcases Nat.lt_or_eq_of_le (Nat.le_of_lt_succ h) with h | rfl; (exact hj j h); (assumption)), rfl, rfl⟩; exact Wk.fk [0, 4] rfl)) | ((with_reducible refine FinP.on ?_); (refine FinP.ret (.tmp wl (.tmp wl .nil)) ?_ rfl); (try simp only [pack, List.drop, List.take]); all_goals (symm; first | (rw [(h8 (by omega)).1, (h8 (by omega)).2]; done) | (rw [(hy (by omega) k (by omega) hj (by assumption)).1, (hy (by omega) k (by omega) hj (by assumption)).2]; done) | (obtain rfl : k = l.length := (by omega); rw [(h0 (by omega) hj).1, (h0 (by omega) hj).2]))))
theorem rCheckPoints_q {m : Mem} {b n c : Nat} {blk : Blk} (l : List Pn) (hb : m.at b = some blk) (hc : blk.cells = flatP l) (hn : l.length = n) (hl : l.length ≤ 1000000) (ho : blk.obj = Ob.plain := by rfl) : PCalls Tryz.prog 59 [.slice (some ⟨b, 0, none⟩) n c] m (.tuple #[.int .i64 (cpA l), .int .i64 (cpB l)]) := by
 subst hn
 exact PCalls.viaS [b] (rCheckPoints_0 l c blk.esz hl) (ro1p _ rfl) ⟨bS hb ho hc (flatP_scal _), trivial⟩ rfl rfl rfl rfl
theorem CheckPoints_0 (l : List Pn) (c z : Nat) (hl : l.length ≤ 1000000) (hz : z = 0 ∨ z = 2) : PCalls Tryz.prog 121 [.slice (some ⟨0, 0, none⟩) l.length c] [some ⟨flatP l, false, z⟩] (.tuple #[.int .i64 (cpA l), .int .i64 (cpB l)]) := by
 have hld := fun (k : Nat) (hk : k < l.length) (r : Mem) => flatP_ld (m := some ⟨flatP l, false, z⟩ :: r) (b := 0) (l := l) rfl rfl k hk
 have hp := fun (m : Mem) (k b : Nat) (blk : Blk) (h1 : m.at b = some blk) (h2 : blk.cells = flatP [pt l k]) (h3 : blk.obj = Ob.plain) => placeErr_q (n := 1) (c := 1) [pt l k] h1 h2 rfl (by simp) h3
 have hq := fun (m : Mem) (k b : Nat) (blk : Blk) (h1 : m.at b = some blk) (h2 : blk.cells = flatP l) (hk : k ≤ l.length) (h3 : blk.obj = Ob.plain) => Contains_q (n := k) (c := c) l (pt l k) h1 h2 hk hl h3
 have hpl : ∀ k, plE [pt l k] = 0 ∧ okP (pt l k) = true ∨ plE [pt l k] = 2 ∧ okP (pt l k) = false := fun k => by
  rw [plE_cons, plE_nil]
  cases okP (pt l k) <;> simp
 have hbd := fun k => idxP_bd l (pt l k) k
 have e2 : ∀ k, plE [pt l k] ≠ 0 → ptE l k = 2 := fun k h => by
  rcases hpl k with h2 | h2
  ·exact absurd h2.1 h
  ·unfold ptE; rw [if_pos h2.2]
 have e5 : ∀ k, plE [pt l k] = 0 → 0 ≤ idxP l (pt l k) k → ptE l k = 5 := fun k h h3 => by
  rcases hpl k with h2 | h2
  ·unfold ptE; rw [if_neg (by rw [h2.2]; decide), if_neg (by omega)]
  ·omega
 have e0 : ∀ k, plE [pt l k] = 0 → ¬ 0 ≤ idxP l (pt l k) k → ptE l k = 0 := fun k h h3 => by
  have := hbd k
  rcases hpl k with h2 | h2
  ·unfold ptE; rw [if_neg (by rw [h2.2]; decide), if_pos (by omega)]
  ·omega
 have h8 : 40 < l.length → cpA l = 0 ∧ cpB l = 8 := fun h => by unfold cpA cpB; rw [if_pos h, if_pos h]; exact ⟨rfl, rfl⟩
 have hy : ¬ 40 < l.length → ∀ k, k < l.length → (∀ j, j < k → ptE l j = 0) → ∀ e, ptE l k = e → e ≠ 0 → cpA l = k ∧ cpB l = e := fun h k hk hj e he h0 => by
  subst he
  unfold cpA cpB
  rw [if_neg h, if_neg h, cpN_yes hj h0 _ hk, if_neg (by omega), if_neg (by omega)]
  exact ⟨rfl, rfl⟩
 have h0 : ¬ 40 < l.length → (∀ j, j < l.length → ptE l j = 0) → cpA l = 0 ∧ cpB l = 0 := fun h hj => by
  unfold cpA cpB
  rw [if_neg h, if_neg h, cpN_no _ hj, if_pos rfl, if_pos rfl]
  exact ⟨rfl, rfl⟩
 generalize cpA l = A0 at *
 generalize cpB l = B0 at *
 generalize ptE l = F at *
 refine PCalls.enJ 29 Tryz.func121 rfl (ro1p _ rfl) rfl (fun E hE => ?_)
 repeat' (first | with_reducible (first | refine Then.n ?_ | refine Then.r ?_ | refine Then.x ?_ | refine InB.n ?_ | refine InB.r ?_ | refine InB.hit ?_) | ((with_reducible refine AL.on ?_); first | ((first | refine AL.as ?_ | refine AL.mv ?_ | ((with_reducible refine AL.k_call ?_); refine AL.g (OQ.lenS (xt := 22) (r := (none, 2, true)) rfl kr) ?_) | ((with_reducible refine AL.k_binOp ?_); first | refine AL.g (OQ.gtr rfl rfl) ?_ | refine AL.g (OQ.lss rfl rfl) ?_ | refine AL.g (OQ.neq rfl rfl) ?_ | refine AL.g (OQ.addi rfl rfl (by omega)) ?_) | ((with_reducible refine AL.k_load ?_); refine AL.g (OQ.loadN (ty := 65) (n := 2) rfl kr kr (by first | (exact hld _ (by omega) _) | rfl)) ?_)); refine AL.nm ?_) | ((first | ((with_reducible refine AL.k_call ?_); first | refine AL.pcall (g := 97) rfl kr rfl ((by exact hp _ k _ _ rfl rfl rfl)) ?_ | refine AL.pcall (g := 98) rfl kr rfl ((by exact hq _ k 0 _ rfl rfl (by omega) rfl)) ?_) | ((with_reducible refine AL.k_indexAddr ?_); refine AL.g (OQ.idxAddr (ty := 22) (z := 2) (g := true) rfl rfl kr (by omega) (by omega)) ?_)); refine AL.nm ?_) | ((first | ((with_reducible refine AL.k_alloc ?_); refine AL.w rfl (OW.alloc (ty := 65) (z := [.int .i64 0, .int .i64 0]) kr rfl) ?_) | ((with_reducible refine AL.k_store ?_); (refine AL.w rfl (OW.store (ty := 65) (n := 2) rfl wl rfl rfl kr rfl rfl (by decide) rfl (Nat.le_of_ble_eq_true rfl) (by intro r h; cases h)) ?_)) | ((with_reducible refine AL.k_buildSlice ?_); refine AL.w rfl (OW.buildSl (ty := 22) (zs := [.int .i64 0, .int .i64 0]) (n := 2) (g := true) kr kr rfl rfl rfl (by decide) (by decide) rfl rfl) ?_)); refine AL.nm ?_; refine AL.nM ?_) | refine AL.nil ?_) | ((with_reducible refine AW.on ?_); first | refine AW.seq ?_ | refine AW.skip ?_ | refine AW.exit ?_ | refine AW.ret ?_ | ((refine AW.block (id := 0) ?_); (refine AW.fk [0, 9, 10, 11] ?_); (refine AW.loop (fun n' t' m => ∃ k : Nat, n' = l.length - k ∧ k ≤ l.length ∧ (∀ j, j < k → F j = 0) ∧ t' = (mtz 30 0 [(0, .slice (some ⟨0, 0, none⟩) l.length c), (9, .slice (some ⟨0, 0, none⟩) l.length c), (10, .int .i64 (l.length)), (11, .int .i64 (k))]) ∧ m = [some ⟨flatP l, false, z⟩]) (l.length) (by exact ⟨0, rfl, Nat.zero_le _, fun j h => absurd h (by omega), rfl, rfl⟩) ?_); (rintro n' t' m ⟨k, rfl, hk, hj, rfl, rfl⟩); (refine AW.nT ?_)) | refine AW.block ?_ | (refine AW.drawF (id := 8) 4 #[0, 0, 3, 0, 15, 31] kr kr ?_; (conv => (arg 8; simp only [List.take_succ_cons, List.take_zero]))) | refine AW.region ?_ | (refine AW.conds rfl (fun hc => ?_) (fun hc => ?_) <;> (try replace hc := nc hc) <;> skip)) | ((with_reducible refine AF.on ?_); first | ((first | ((with_reducible refine AF.k_move ?_); (refine AF.q 0 (SW.q (OQ.move wl) rfl) ?_)) | ((with_reducible refine AF.k_load ?_); refine AF.ql rfl (SW.q (OQ.loadN (ty := 65) (n := 2) rfl kr kr (by rfl)) rfl) ?_) | refine AF.q 2 (SW.q (by exact OQ.sliceTo (ty := 22) (k := k) (z := 2) (g := true) rfl kr rfl hz rfl rfl (by omega)) rfl) ?_); refine AF.nm ?_) | refine AF.nl ?_) | ((with_reducible refine ex_on ?_); (refine ⟨l.length - (k + 1), _, _, by omega, ?_, k + 1, rfl, by omega, fun j h => (by rcases Nat.lt_or_eq_of_le (Nat.le_of_lt_succ h) with h | rfl; (exact hj j h); (exact e0 _ (by assumption) (by omega))), rfl, rfl⟩; exact Wk.keep 1 [] (Nat.le_of_eq hE) rfl rfl (by repeat (first | exact RenT.nil | refine RenT.jk ?_ | refine RenT.val (by rfl) (by rfl) ?_)) ⟨kl rfl (flatP_scal l), trivial⟩)) | ((with_reducible refine FinJ.on ?_); first | (rw [(h8 (by omega)).1, (h8 (by omega)).2]; exact FinJ.ret (.tmp wl (.tmp wl .nil)) (jle_flat rfl)) | (rw [(hy (by omega) k (by omega) hj 2 (e2 k ‹_›) (by decide)).1, (hy (by omega) k (by omega) hj 2 (e2 k ‹_›) (by decide)).2]; exact FinJ.ret (.tmp wl (.tmp wl .nil)) (jle_flat rfl)) | (rw [(hy (by omega) k (by omega) hj 5 (e5 k (by assumption) (by assumption)) (by decide)).1, (hy (by omega) k (by omega) hj 5 (e5 k (by assumption) (by assumption)) (by decide)).2]; exact FinJ.ret (.tmp wl (.tmp wl .nil)) (jle_flat rfl)) | (obtain rfl : k = l.length := (by omega); rw [(h0 (by omega) hj).1, (h0 (by omega) hj).2]; exact FinJ.ret (.tmp wl (.tmp wl .nil)) (jle_flat rfl))))
end Go.Proofs.YtmohcmghbfhdlaaGreat
end
end
/- Chapter 6: the order of the points; the pieces of the hull. -/
section
set_option linter.unusedSimpArgs false
set_option linter.unusedVariables false
section
namespace Go.Me
open Go.Ab
theorem flatP_get : ∀ (l : List Pn) (k : Nat), k < l.length → (flatP l)[k * 2]? = some (.int .i64 (pt l k).x) ∧ (flatP l)[k * 2 + 1]? = some (.int .i64 (pt l k).y) := by
 intro l
 induction l with
 | nil => intro k h; simp at h
 | cons a l ih =>
  intro k h
  have e : flatP (a :: l) = .int .i64 a.x :: .int .i64 a.y :: flatP l := rfl
  rw [e]
  cases k with
  | zero => exact ⟨rfl, rfl⟩
  | succ k =>
   have h2 := ih k (by simpa using h)
   rw [show (k + 1) * 2 = k * 2 + 1 + 1 by omega, List.getElem?_cons_succ, List.getElem?_cons_succ, List.getElem?_cons_succ, List.getElem?_cons_succ]
   exact h2
end Go.Me
namespace Go.Proofs.YtmohcmghbfhdlaaGreat
open Go Go.RowKit Go.Ab Go.Me
set_option maxRecDepth 100000
set_option maxHeartbeats 4000000
attribute [local irreducible] OQ OW AL AW AF SW
theorem Or_0 (a b : Int) (c z : Nat) : PCalls Tryz.prog 146 [.slice (some ⟨0, 0, none⟩) 2 c] [some ⟨[.int .i64 a, .int .i64 b], false, z⟩] (.int .i64 (if a ≠ 0 then a else b)) := by
 have h1 : a ≠ 0 → (if a ≠ 0 then a else b) = a := fun h => if_pos h
 have h2 : a = 0 → (if a ≠ 0 then a else b) = b := fun h => if_neg (fun h3 => h3 h)
 generalize (if a ≠ 0 then a else b) = E0 at *
 refine PCalls.en 17 Tryz.func146 rfl (ro1p _ rfl) rfl (fun E => ?_)
 repeat' (first | with_reducible (first | refine Then.n ?_ | refine Then.r ?_ | refine Then.x ?_ | refine InB.n ?_ | refine InB.r ?_ | refine InB.hit ?_) | ((with_reducible refine AL.on ?_); first | ((first | refine AL.mv ?_ | refine AL.as ?_ | ((with_reducible refine AL.k_binOp ?_); first | refine AL.g (OQ.lss rfl rfl) ?_ | refine AL.g (OQ.neq rfl rfl) ?_ | refine AL.g (OQ.addi rfl rfl (by omega)) ?_) | ((with_reducible refine AL.k_call ?_); refine AL.g (OQ.lenS (xt := 26) (r := (none, 1, false)) rfl kr) ?_) | ((with_reducible refine AL.k_indexAddr ?_); refine AL.g (OQ.idxAddr (ty := 26) (z := 1) (g := false) rfl rfl kr (by omega) (by omega)) ?_) | ((with_reducible refine AL.k_load ?_); (refine AL.g (OQ.load1 (ty := 3) rfl kr wl) ?_))); refine AL.nm ?_) | refine AL.nil ?_) | ((with_reducible refine AW.on ?_); first | refine AW.seq ?_ | refine AW.skip ?_ | refine AW.exit ?_ | refine AW.ret ?_ | (refine AW.block (id := 0) ?_; refine AW.unroll 3 ?_) | refine AW.block ?_ | refine AW.region ?_ | (refine AW.conds rfl (fun hc => ?_) (fun hc => ?_) <;> (try replace hc := nc hc) <;> first | (exfalso; contradiction) | skip)) | with_reducible refine AR.s ?_ | ((with_reducible refine FinP.on ?_); (refine FinP.ret (.tmp wl .nil) ?_ rfl); (try simp only [pack, List.drop, List.take]); all_goals (congr 1; omega)))
theorem Or_q {m : Mem} {k c : Nat} {blk : Blk} (a b : Int) (hb : m.at k = some blk) (hc : blk.cells = [.int .i64 a, .int .i64 b]) (ho : blk.obj = Ob.plain := by rfl) : PCalls Tryz.prog 146 [.slice (some ⟨k, 0, none⟩) 2 c] m (.int .i64 (if a ≠ 0 then a else b)) := by
 exact PCalls.viaS [k] (Or_0 a b c blk.esz) (ro1p _ rfl) ⟨⟨_, hb, by unfold Blk.shp Blk.shpR; rw [ho]; rfl, (fun h => nomatch h), .inl ⟨hc, rfl⟩⟩, trivial⟩ rfl rfl rfl rfl
def ordP (p q : Pn) : Int := if cmpI p.x q.x ≠ 0 then cmpI p.x q.x else cmpI p.y q.y
theorem ro2p (b c : Blk) (h : b.own = false) (h' : c.own = false) : Mem.ro [some b, some c] := fun k blk hk => by
 match k, hk with
 | 0, hk => cases hk; exact h
 | 1, hk => cases hk; exact h'
theorem less_0 (l : List Pn) (i k c z z1 : Nat) (hi : i < l.length) (hk : k < l.length) : PCalls Tryz.prog 153 [.int .i64 i, .int .i64 k, .pointer (some ⟨1, 0, none⟩)] [some ⟨flatP l, false, z⟩, some ⟨[.slice (some ⟨0, 0, none⟩) l.length c], false, z1⟩] (.int .i64 (ordP (pt l i) (pt l k))) := by
 have hg := flatP_get l
 have hc2 := fun (a b : Int) (m : Mem) => Compare_q a b m
 have ho := fun (m : Mem) (b : Nat) (blk : Blk) (h1 : m.at b = some blk) (h2 : blk.cells = [.int .i64 (cmpI (pt l i).x (pt l k).x), .int .i64 (cmpI (pt l i).y (pt l k).y)]) (h3 : blk.obj = Ob.plain) => Or_q (c := 2) _ _ h1 h2 h3
 unfold ordP
 generalize cmpI = cmpF at *
 refine PCalls.en 27 Tryz.func153 rfl (ro2p _ _ rfl rfl) rfl (fun E => ?_)
 repeat' (first | with_reducible (refine Then.n ?_) | ((with_reducible refine AL.on ?_); first | ((refine AL.as ?_); refine AL.nm ?_) | ((first | refine AL.pcall (g := 147) rfl kr rfl (hc2 _ _ _) ?_ | refine AL.pcall (g := 146) rfl kr rfl ((by exact ho _ _ _ rfl rfl rfl)) ?_); refine AL.nm ?_) | ((refine AL.w rfl (OW.buildSl (ty := 26) (zs := [.int .i64 0]) (n := 1) (g := false) kr kr rfl rfl rfl (by decide) (by decide) rfl rfl) ?_); refine AL.nm ?_; refine AL.nM ?_) | refine AL.nil ?_) | ((with_reducible refine AW.on ?_); first | refine AW.seq ?_ | refine AW.ret ?_ | (refine AW.drawF (id := 1) 21 #[0, 0, 3, 7, 15, 0, 0, 96, 224, 480, 1023, 0, 0, 6144, 14336, 30720, 0, 0, 196608, 458752, 983040, 2097151, 4194303, 8388607, 16777215] kr kr ?_; (conv => (arg 8; simp only [List.take_succ_cons, List.take_zero]))) | refine AW.region ?_) | ((with_reducible refine AF.on ?_); first | ((first | ((with_reducible refine AF.k_load ?_); first | (refine AF.ql rfl (SW.q (OQ.load1 (ty := 22) rfl kr (by (conv => lhs; whnf))) rfl) ?_) | (refine AF.ql rfl (SW.q (OQ.load1 (ty := 3) rfl kr (by (first | exact (hg _ (by omega)).1 | exact (hg _ (by omega)).2))) rfl) ?_)) | ((with_reducible refine AF.k_move ?_); (refine AF.q 0 (SW.q (OQ.move wl) rfl) ?_)) | ((with_reducible refine AF.k_indexAddr ?_); refine AF.q 0 (SW.q (OQ.idxAddr (ty := 22) (z := 2) (g := true) rfl rfl kr (by omega) (by omega)) rfl) ?_) | ((with_reducible refine AF.k_fieldAddr ?_); first | refine AF.q 0 (SW.q (OQ.fieldA (ty := 65) (i := 0) (n := 1) (off := 0) (g := false) rfl kr (by decide)) rfl) ?_ | refine AF.q 0 (SW.q (OQ.fieldA (ty := 65) (i := 1) (n := 1) (off := 1) (g := false) rfl kr (by decide)) rfl) ?_) | ((with_reducible refine AF.k_call ?_); refine AF.q 2 (SW.pcall (g := 147) rfl kr rfl (hc2 _ _ _) rfl) ?_)); refine AF.nm ?_) | refine AF.nl ?_) | ((with_reducible refine FinP.on ?_); (refine FinP.ret (.tmp wl .nil) ?_ rfl); (try simp only [pack, List.drop, List.take]); all_goals (rfl)))
end Go.Proofs.YtmohcmghbfhdlaaGreat
end
end
/- Chapter 6: the pieces of the reference's hull. -/
section
set_option linter.unusedSimpArgs false
set_option linter.unusedVariables false
section
namespace Go.Me
open Go.Ab
def bdB (l : List Pn) (i k : Nat) : Bool := decide (∀ n, n < l.length → 0 ≤ sgn (cr (pt l i) (pt l k) (pt l n)))
theorem sgn_nn (n : Int) : 0 ≤ sgn n ↔ 0 ≤ n := by
 unfold sgn
 repeat' split
 all_goals omega
theorem sgn_z (n : Int) : sgn n = 0 ↔ n = 0 := by
 unfold sgn
 repeat' split
 all_goals omega
theorem bdB_true {l : List Pn} {i k : Nat} : bdB l i k = true ↔ Bord l (pt l i) (pt l k) := by
 unfold bdB
 rw [decide_eq_true_iff]
 constructor
 ·intro h q hq
  obtain ⟨n, hn, rfl⟩ := mem_pt hq
  exact (sgn_nn _).1 (h n hn)
 ·intro h n hn
  exact (sgn_nn _).2 (h _ (pt_mem hn))
def sgB (p a b : Pn) : Bool := decide (sgn (cr a b p) = 0) && (rgB p.x (if b.x < a.x then b.x else a.x) (if b.x > a.x then b.x else a.x) && rgB p.y (if b.y < a.y then b.y else a.y) (if b.y > a.y then b.y else a.y))
theorem sgB_true {p a b : Pn} : sgB p a b = true ↔ OnSeg p a b := by
 unfold sgB rgB OnSeg
 rw [Bool.and_eq_true, Bool.and_eq_true, decide_eq_true_iff, decide_eq_true_iff, decide_eq_true_iff, sgn_z]
 have e1 : ∀ u v : Int, (if v < u then v else u) = min u v := fun u v => by split <;> omega
 have e2 : ∀ u v : Int, (if v > u then v else u) = max u v := fun u v => by split <;> omega
 rw [e1, e1, e2, e2]
end Go.Me
namespace Go.Proofs.YtmohcmghbfhdlaaGreat
open Go Go.RowKit Go.Ab Go.Me
set_option maxRecDepth 100000
set_option maxHeartbeats 4000000
attribute [local irreducible] OQ OW AL AW AF SW
theorem Border_0 (l : List Pn) (hok : ∀ k, k < l.length → (pt l k).Ok) (i k c z : Nat) (hl : l.length ≤ 1000000) (hi : i < l.length) (hk : k < l.length) : PCalls Tryz.prog 76 [.slice (some ⟨0, 0, none⟩) l.length c, .int .i64 i, .int .i64 k] [some ⟨flatP l, false, z⟩] (.bool (bdB l i k)) := by
 have hld := fun (k : Nat) (hk : k < l.length) (r : Mem) => flatP_ld (m := some ⟨flatP l, false, z⟩ :: r) (b := 0) (l := l) rfl rfl k hk
 have ht := fun (n : Nat) (hn : n < l.length) (m : Mem) => rTurn_q (hok i hi) (hok k hk) (hok n hn) m
 have hno : ∀ n, n < l.length → sgn (cr (pt l i) (pt l k) (pt l n)) < 0 → bdB l i k = false := fun n hn h => decide_eq_false fun h2 => by
  have := h2 n hn
  omega
 have hyes : (∀ n, n < l.length → 0 ≤ sgn (cr (pt l i) (pt l k) (pt l n))) → bdB l i k = true := fun h => decide_eq_true h
 generalize bdB l i k = E0 at *
 refine PCalls.en 25 Tryz.func76 rfl (ro1p _ rfl) rfl (fun E => ?_)
 repeat' (first | with_reducible (first | refine Then.n ?_ | refine Then.r ?_ | refine Then.x ?_ | refine InB.n ?_ | refine InB.r ?_ | refine InB.hit ?_) | ((with_reducible refine AL.on ?_); first | ((first | refine AL.mv ?_ | refine AL.as ?_ | ((with_reducible refine AL.k_binOp ?_); first | refine AL.g (OQ.lss rfl rfl) ?_ | refine AL.g (OQ.addi rfl rfl (by omega)) ?_) | ((with_reducible refine AL.k_call ?_); refine AL.g (OQ.lenS (xt := 22) (r := (none, 2, true)) rfl kr) ?_)); refine AL.nm ?_) | ((refine AL.pcall (g := 84) rfl kr rfl (ht _ (by omega) _) ?_); refine AL.nm ?_) | refine AL.nil ?_) | ((with_reducible refine AW.on ?_); first | refine AW.seq ?_ | refine AW.skip ?_ | refine AW.exit ?_ | refine AW.ret ?_ | ((refine AW.block (id := 0) ?_); (refine AW.fk [0, 1, 2, 7] ?_); (refine AW.loop (fun n' t' m => ∃ n : Nat, n' = l.length - n ∧ n ≤ l.length ∧ (∀ j, j < n → 0 ≤ sgn (cr (pt l i) (pt l k) (pt l j))) ∧ t' = (mtz 28 0 [(0, .slice (some ⟨0, 0, none⟩) l.length c), (1, .int .i64 (i)), (2, .int .i64 (k)), (7, .int .i64 (n))]) ∧ m = [some ⟨flatP l, false, z⟩]) (l.length) (by exact ⟨0, rfl, Nat.zero_le _, fun j h => absurd h (by omega), rfl, rfl⟩) ?_); (rintro n' t' m ⟨n, rfl, hn, hj, rfl, rfl⟩); (refine AW.nT ?_)) | refine AW.block ?_ | (refine AW.drawF (id := 4) 12 #[0, 0, 3, 7, 0, 0, 48, 112, 0, 0, 768, 1792, 4095, 8191] kr kr ?_; (conv => (arg 8; simp only [List.take_succ_cons, List.take_zero]))) | refine AW.region ?_ | (refine AW.conds rfl (fun hc => ?_) (fun hc => ?_) <;> (try replace hc := nc hc) <;> skip)) | ((with_reducible refine AF.on ?_); first | ((first | ((with_reducible refine AF.k_move ?_); (refine AF.q 0 (SW.q (OQ.move wl) rfl) ?_)) | ((with_reducible refine AF.k_indexAddr ?_); refine AF.q 0 (SW.q (OQ.idxAddr (ty := 22) (z := 2) (g := true) rfl rfl kr (by omega) (by omega)) rfl) ?_) | ((with_reducible refine AF.k_load ?_); refine AF.ql rfl (SW.q (OQ.loadN (ty := 65) (n := 2) rfl kr kr (by (exact hld _ (by omega) _))) rfl) ?_)); refine AF.nm ?_) | refine AF.nl ?_) | ((with_reducible refine ex_on ?_); (refine ⟨l.length - (n + 1), _, _, by omega, ?_, n + 1, rfl, by omega, fun j h => (by rcases Nat.lt_or_eq_of_le (Nat.le_of_lt_succ h) with h | rfl; (exact hj j h); omega), rfl, rfl⟩; exact Wk.fk [0, 1, 2, 7] rfl)) | ((with_reducible refine FinP.on ?_); (refine FinP.ret (.tmp wl .nil) ?_ rfl); (try simp only [pack, List.drop, List.take]); all_goals (symm; first | (rw [hno n (by omega) (by omega)]; done) | (obtain rfl : n = l.length := (by omega); rw [hyes hj]))))
theorem Border_q {m : Mem} {b n c : Nat} {blk : Blk} (l : List Pn) (hok : ∀ k, k < l.length → (pt l k).Ok) (i k : Nat) (hi : i < l.length) (hk : k < l.length) (hb : m.at b = some blk) (hc : blk.cells = flatP l) (hn : l.length = n) (hl : l.length ≤ 1000000) (ho : blk.obj = Ob.plain := by rfl) : PCalls Tryz.prog 76 [.slice (some ⟨b, 0, none⟩) n c, .int .i64 i, .int .i64 k] m (.bool (bdB l i k)) := by
 subst hn
 exact PCalls.viaS [b] (Border_0 l hok i k c blk.esz hl hi hk) (ro1p _ rfl) ⟨bS hb ho hc (flatP_scal _), trivial⟩ rfl rfl rfl rfl
theorem onSegment_q {p a b : Pn} (hp : p.Ok) (ha : a.Ok) (hb : b.Ok) (m : Mem) : PCalls Tryz.prog 120 [ptV p, ptV a, ptV b] m (.bool (sgB p a b)) := by
 refine PCalls.any ?_ rfl rfl m
 have ht := fun m => rTurn_q ha hb hp m
 have h1 := fun m => rWithin_q p.x (if b.x < a.x then b.x else a.x) (if b.x > a.x then b.x else a.x) m
 have h2 := fun m => rWithin_q p.y (if b.y < a.y then b.y else a.y) (if b.y > a.y then b.y else a.y) m
 unfold sgB
 generalize rgB p.x (if b.x < a.x then b.x else a.x) (if b.x > a.x then b.x else a.x) = A at *
 generalize rgB p.y (if b.y < a.y then b.y else a.y) (if b.y > a.y then b.y else a.y) = B at *
 generalize sgn (cr a b p) = s at *
 by_cases hs : s = 0
 ·subst hs
  cases A <;> cases B
  all_goals
   refine PCalls.en 39 Tryz.func120 rfl (ro_nil) rfl (fun E => ?_)
   repeat' (first | with_reducible (refine Then.n ?_) | ((with_reducible refine AL.on ?_); first | (refine AL.gd rfl ?_; (refine AL.gs1 rfl rfl (fun hc => ?_) (fun hc => ?_) <;> (try replace hc := nc hc) <;> first | (exfalso; contradiction) | refine AL.nm ?_)) | ((first | ((with_reducible refine AL.k_load ?_); first | refine AL.g (OQ.loadN (ty := 65) (n := 2) rfl kr kr rfl) ?_ | (refine AL.g (OQ.load1 (ty := 3) rfl kr wl) ?_)) | ((with_reducible refine AL.k_fieldAddr ?_); first | refine AL.g (OQ.fieldA (ty := 65) (i := 0) (n := 1) (off := 0) (g := false) rfl kr (by decide)) ?_ | refine AL.g (OQ.fieldA (ty := 65) (i := 1) (n := 1) (off := 1) (g := false) rfl kr (by decide)) ?_) | ((with_reducible refine AL.k_call ?_); first | refine AL.g (OQ.min2 rfl rfl) ?_ | refine AL.g (OQ.max2 rfl rfl) ?_) | refine AL.as ?_ | refine AL.mv ?_ | ((with_reducible refine AL.k_pick ?_); first | refine AL.pT ?_ | refine AL.pF ?_) | ((with_reducible refine AL.k_binOp ?_); refine AL.g (OQ.eql rfl rfl) ?_)); refine AL.nm ?_) | ((first | refine AL.pcall (g := 84) rfl kr rfl (ht _) ?_ | refine AL.pcall (g := 69) rfl kr rfl ((by first | exact h1 _ | exact h2 _)) ?_); refine AL.nm ?_) | ((refine AL.bx ?_); refine AL.nm ?_; refine AL.nM ?_) | refine AL.nil ?_) | ((with_reducible refine AW.on ?_); first | refine AW.seq ?_ | refine AW.ret ?_ | refine AW.region ?_) | ((with_reducible refine FinP.on ?_); (refine FinP.ret (.tmp wl .nil) ?_ rfl); (try simp only [pack, List.drop, List.take]); all_goals (rfl)))
 ·rw [decide_eq_false hs]
  refine PCalls.en 39 Tryz.func120 rfl (ro_nil) rfl (fun E => ?_)
  repeat' (first | with_reducible (refine Then.n ?_) | ((with_reducible refine AL.on ?_); first | (refine AL.gd rfl ?_; (refine AL.gs1 rfl rfl (fun hc => ?_) (fun hc => ?_) <;> (try replace hc := nc hc) <;> first | (exfalso; contradiction) | refine AL.nm ?_)) | ((first | ((with_reducible refine AL.k_load ?_); first | refine AL.g (OQ.loadN (ty := 65) (n := 2) rfl kr kr rfl) ?_ | (refine AL.g (OQ.load1 (ty := 3) rfl kr wl) ?_)) | ((with_reducible refine AL.k_fieldAddr ?_); first | refine AL.g (OQ.fieldA (ty := 65) (i := 0) (n := 1) (off := 0) (g := false) rfl kr (by decide)) ?_ | refine AL.g (OQ.fieldA (ty := 65) (i := 1) (n := 1) (off := 1) (g := false) rfl kr (by decide)) ?_) | ((with_reducible refine AL.k_call ?_); first | refine AL.g (OQ.min2 rfl rfl) ?_ | refine AL.g (OQ.max2 rfl rfl) ?_) | refine AL.as ?_ | refine AL.mv ?_ | ((with_reducible refine AL.k_pick ?_); first | refine AL.pT ?_ | refine AL.pF ?_) | ((with_reducible refine AL.k_binOp ?_); refine AL.g (OQ.eql rfl rfl) ?_)); refine AL.nm ?_) | ((first | refine AL.pcall (g := 84) rfl kr rfl (ht _) ?_ | refine AL.pcall (g := 69) rfl kr rfl ((by first | exact h1 _ | exact h2 _)) ?_); refine AL.nm ?_) | ((refine AL.bx ?_); refine AL.nm ?_; refine AL.nM ?_) | refine AL.nil ?_) | ((with_reducible refine AW.on ?_); first | refine AW.seq ?_ | refine AW.ret ?_ | refine AW.region ?_) | ((with_reducible refine FinP.on ?_); (refine FinP.ret (.tmp wl .nil) ?_ rfl); (try simp only [pack, List.drop, List.take]); all_goals (rfl)))
end Go.Proofs.YtmohcmghbfhdlaaGreat
end
end
/- Chapter 6: the reference's hull of points on a line. -/
section
set_option linter.unusedSimpArgs false
set_option linter.unusedVariables false
section
namespace Go.Me
open Go.Ab
def flK (l : List Pn) : Nat → Bool
 | 0 => true
 | k + 1 => flK l k && decide (sgn (cr (pt l 0) (pt l 1) (pt l (k + 2))) = 0)
theorem flK_true {l : List Pn} : ∀ k : Nat, flK l k = true ↔ ∀ i, 2 ≤ i → i < k + 2 → cr (pt l 0) (pt l 1) (pt l i) = 0 := by
 intro k
 induction k with
 | zero => exact ⟨fun _ i h1 h2 => by omega, fun _ => rfl⟩
 | succ k ih =>
  unfold flK
  rw [Bool.and_eq_true, decide_eq_true_iff, sgn_z, ih]
  constructor
  ·rintro ⟨h1, h2⟩ i h3 h4
   rcases Nat.lt_or_eq_of_le (Nat.le_of_lt_succ h4) with h | rfl
   ·exact h1 i h3 h
   ·exact h2
  ·intro h
   exact ⟨fun i h3 h4 => h i h3 (by omega), h (k + 2) (by omega) (by omega)⟩
theorem flK_flat {l : List Pn} : flK l (l.length - 2) = true ↔ FlatR l := by
 rw [flK_true]
 unfold FlatR
 constructor
 ·intro h i h1 h2
  exact h i h1 (by omega)
 ·intro h i h1 h2
  exact h i h1 (by omega)
end Go.Me
namespace Go.Proofs.YtmohcmghbfhdlaaGreat
open Go Go.RowKit Go.Ab Go.Me
set_option maxRecDepth 100000
set_option maxHeartbeats 4000000
attribute [local irreducible] OQ OW AL AW AF SW
theorem rHull_f (l : List Pn) (hok : ∀ k, k < l.length → (pt l k).Ok) (c z : Nat) (hl : l.length ≤ 1000000) (hf : flK l (l.length - 2) = true) : PCalls Tryz.prog 60 [.slice (some ⟨0, 0, none⟩) l.length c] [some ⟨flatP l, false, z⟩] (.slice none 0 0) := by
 have hld := fun (k : Nat) (hk : k < l.length) (r : Mem) => flatP_ld (m := some ⟨flatP l, false, z⟩ :: r) (b := 0) (l := l) rfl rfl k hk
 have hld0 := hld 0
 have hld1 := hld 1
 have ht := fun (n : Nat) (h2 : 2 ≤ n) (hn : n < l.length) (m : Mem) => rTurn_q (hok 0 (by omega)) (hok 1 (by omega)) (hok n hn) m
 have hFt : ∀ k, flK l k = true → flK l (k + 1) = decide (sgn (cr (pt l 0) (pt l 1) (pt l (k + 2))) = 0) := fun k h => by
  show (flK l k && _) = _
  rw [h, Bool.true_and]
 have hFf : ∀ k, flK l k = false → flK l (k + 1) = false := fun k h => by
  show (flK l k && _) = _
  rw [h, Bool.false_and]
 have hF0 : flK l 0 = true := rfl
 generalize flK l = F at *
 refine PCalls.en 138 Tryz.func60 rfl (ro1p _ rfl) rfl (fun E => ?_)
 repeat' (first | with_reducible (first | refine Then.n ?_ | refine Then.r ?_ | refine Then.x ?_ | refine InB.n ?_ | refine InB.hit ?_) | ((with_reducible refine AL.on ?_); first | (refine AL.gd rfl ?_; (refine AL.gs1 rfl rfl (fun hc => ?_) (fun hc => ?_) <;> (try replace hc := nc hc) <;> first | (exfalso; contradiction) | refine AL.nm ?_)) | ((first | refine AL.mv ?_ | refine AL.as ?_ | ((with_reducible refine AL.k_binOp ?_); first | refine AL.g (OQ.lss rfl rfl) ?_ | refine AL.g (OQ.eql rfl rfl) ?_ | refine AL.g (OQ.addi rfl rfl (by omega)) ?_) | ((with_reducible refine AL.k_call ?_); refine AL.g (OQ.lenS (xt := 22) (r := (none, 2, true)) rfl kr) ?_) | ((with_reducible refine AL.k_pick ?_); first | refine AL.pT ?_ | refine AL.pF ?_)); refine AL.nm ?_) | ((((with_reducible refine AL.k_call ?_); refine AL.pcall (g := 84) rfl kr rfl ((by exact ht (k + 2) (by omega) (by omega) _)) ?_)); refine AL.nm ?_) | refine AL.nil ?_) | ((with_reducible refine AW.on ?_); first | refine AW.seq ?_ | refine AW.skip ?_ | refine AW.exit ?_ | refine AW.ret ?_ | ((refine AW.block (id := 0) ?_); (refine AW.fk [0, 3, 4] ?_); (refine AW.loop (fun n' t' m => ∃ k : Nat, n' = l.length - 2 - k ∧ (k = 0 ∨ k + 2 ≤ l.length) ∧ t' = (mtz 139 0 [(0, .slice (some ⟨0, 0, none⟩) l.length c), (3, .bool (F k)), (4, .int .i64 (((k + 2 : Nat) : Int)))]) ∧ m = [some ⟨flatP l, false, z⟩]) (l.length - 2) (by exact ⟨0, rfl, .inl rfl, by rw [hF0]; rfl, rfl⟩) ?_); (rintro n' t' m ⟨k, rfl, hk, rfl, rfl⟩); (refine AW.nT ?_)) | refine AW.block ?_ | (refine AW.drawF (id := 5) 12 #[0, 1, 3, 7, 15, 3, 35, 99, 3, 3, 771, 1795, 4095, 8191, 16383, 32767] kr kr ?_; (conv => (arg 8; simp only [List.take_succ_cons, List.take_zero]))) | (refine AW.region (id := 6) ?_; ((obtain rfl : k = l.length - 2 := (by omega)))) | refine AW.region ?_ | (refine AW.conds rfl (fun hc => ?_) (fun hc => ?_) <;> (try replace hc := nc hc) <;> first | (exfalso; (((exfalso; simp_all; done)); done)) | skip)) | ((with_reducible refine AF.on ?_); first | ((refine AF.q 0 (SW.no1 rfl rfl (by with_reducible rfl)) ?_); refine AF.nm ?_) | ((first | ((with_reducible refine AF.k_move ?_); first | (refine AF.q 0 (SW.q (OQ.move wl) rfl) ?_) | (refine AF.q 0 (SW.yes (SW.q (OQ.move wl) rfl) rfl rfl (by with_reducible rfl)) ?_)) | ((with_reducible refine AF.k_indexAddr ?_); refine AF.q 0 (SW.yes (SW.q (OQ.idxAddr (ty := 22) (z := 2) (g := true) rfl rfl kr (by omega) (by omega)) rfl) rfl rfl (by with_reducible rfl)) ?_) | ((with_reducible refine AF.k_load ?_); refine AF.ql rfl (SW.yes (SW.q (OQ.loadN (ty := 65) (n := 2) rfl kr kr (by (first | exact hld0 (by omega) _ | exact hld1 (by omega) _ | exact hld _ (by omega) _))) rfl) rfl rfl (by with_reducible rfl)) ?_)); refine AF.nm ?_) | (refine AF.gs1 rfl rfl (fun hc => ?_) (fun hc => ?_) <;> (fail_if_success (with_reducible exact lit_no hc)) <;> (try replace hc := nc hc) <;> skip) | refine AF.nl ?_) | ((with_reducible refine ex_on ?_); (refine ⟨l.length - 2 - (k + 1), _, _, by omega, ?_, k + 1, rfl, by omega, rfl, rfl⟩; first | (rw [hFt k ‹_›]; exact Wk.fk [0, 3, 4] rfl) | (rw [hFf k ‹_›]; exact Wk.fk [0, 3, 4] rfl))) | ((with_reducible refine FinP.on ?_); (refine FinP.ret (.tmp wl .nil) ?_ rfl); (try simp only [pack, List.drop, List.take]); all_goals (rfl)))
end Go.Proofs.YtmohcmghbfhdlaaGreat
end
end
/- Chapter 6: small functions of the nets; the area of a ring of corners. -/
section
set_option linter.unusedSimpArgs false
set_option linter.unusedVariables false
section
namespace Go.Me
open Go.Ab
def wrI (n : Int) : Int := ((n + 2048).tmod 4096 + 4096).tmod 4096 - 2048
theorem tmod_b (a : Int) : -4095 ≤ a.tmod 4096 ∧ a.tmod 4096 ≤ 4095 := by
 have h : (a.tmod 4096).natAbs < 4096 := by
  rw [Int.natAbs_tmod]
  exact Nat.mod_lt _ (by decide)
 omega
theorem wrI_bd (n : Int) : -2048 ≤ wrI n ∧ wrI n ≤ 2047 := by
 have h1 := tmod_b (n + 2048)
 have h2 := Int.tmod_nonneg (a := (n + 2048).tmod 4096 + 4096) 4096 (by omega)
 have h3 := tmod_b ((n + 2048).tmod 4096 + 4096)
 unfold wrI
 omega
def flatO (o : List Nat) : List Value := o.map fun n : Nat => .int .i64 (n : Int)
def ot (o : List Nat) (k : Nat) : Nat := o.getD k 0
theorem flatO_scal (o : List Nat) : (flatO o).all Ab.scal = true := by
 unfold flatO
 rw [List.all_map]
 exact List.all_eq_true.2 fun _ _ => rfl
theorem flatO_get (o : List Nat) (k : Nat) (hk : k < o.length) : (flatO o)[k]? = some (.int .i64 (ot o k)) := by
 unfold flatO ot
 rw [List.getElem?_map, List.getElem?_eq_getElem hk, List.getD_eq_getElem?_getD, List.getElem?_eq_getElem hk]
 rfl
def arS (l : List Pn) (o : List Nat) : Nat → Int
 | 0 => 0
 | k + 1 => arS l o k + ((pt l (ot o k)).x * (pt l (ot o ((k + 1) % o.length))).y - (pt l (ot o k)).y * (pt l (ot o ((k + 1) % o.length))).x)
end Go.Me
namespace Go.Proofs.YtmohcmghbfhdlaaGreat
open Go Go.RowKit Go.Ab Go.Me
set_option maxRecDepth 100000
set_option maxHeartbeats 4000000
attribute [local irreducible] OQ OW AL AW AF SW
theorem wrap_q (n : Int) (hn : -1000000000 ≤ n ∧ n ≤ 1000000000) (m : Mem) : PCalls Tryz.prog 126 [.int .i64 n] m (.int .i64 (wrI n)) := by
 refine PCalls.any ?_ rfl rfl m
 have h1 := tmod_b (n + 2048)
 have h3 := tmod_b ((n + 2048).tmod 4096 + 4096)
 unfold wrI
 refine PCalls.en 8 Tryz.func126 rfl (ro_nil) rfl (fun E => ?_)
 repeat' (first | with_reducible (refine Then.n ?_) | ((with_reducible refine AL.on ?_); first | ((first | ((with_reducible refine AL.k_binOp ?_); first | refine AL.g (OQ.addi rfl rfl (by omega)) ?_ | refine AL.g (OQ.rem rfl rfl (by omega)) ?_ | refine AL.g (OQ.subi rfl rfl (by omega)) ?_) | refine AL.as ?_ | refine AL.mv ?_); refine AL.nm ?_) | refine AL.nil ?_) | ((with_reducible refine AW.on ?_); first | refine AW.seq ?_ | refine AW.ret ?_ | refine AW.region ?_) | ((with_reducible refine FinP.on ?_); (refine FinP.ret (.tmp wl .nil) ?_ rfl); (try simp only [pack, List.drop, List.take]); all_goals (rfl)))
theorem around_q (a b c : Int) (m : Mem) : PCalls Tryz.prog 128 [.agg #[.int .i64 a, .int .i64 b, .int .i64 c]] m (.agg #[.int .i64 a, .int .i64 b, .int .i64 b, .int .i64 c, .int .i64 c, .int .i64 a]) := by
 refine PCalls.any ?_ rfl rfl m
 refine PCalls.en 18 Tryz.func128 rfl (ro_nil) rfl (fun E => ?_)
 repeat' (first | with_reducible (refine Then.n ?_) | ((with_reducible refine AL.on ?_); first | ((first | ((with_reducible refine AL.k_indexAddr ?_); refine AL.g (OQ.idxPtr (ty := 62) (n := 1) (l := 3) (g := false) rfl rfl kr (by omega) (by omega)) ?_) | ((with_reducible refine AL.k_load ?_); (refine AL.g (OQ.load1 (ty := 3) rfl kr wl) ?_))); refine AL.nm ?_) | ((first | refine AL.g (OQ.buildA (ty := 52) (zs := [.int .i64 0, .int .i64 0]) (n := 1) (k := 2) (g := false) kr rfl kr rfl rfl rfl) ?_ | refine AL.g (OQ.buildA (ty := 170) (zs := [.int .i64 0, .int .i64 0, .int .i64 0, .int .i64 0, .int .i64 0, .int .i64 0]) (n := 2) (k := 3) (g := true) kr rfl kr rfl rfl rfl) ?_); refine AL.nm ?_) | ((first | refine AL.bx ?_ | ((with_reducible refine AL.k_alloc ?_); refine AL.w rfl (OW.alloc (ty := 170) (z := [.int .i64 0, .int .i64 0, .int .i64 0, .int .i64 0, .int .i64 0, .int .i64 0]) kr rfl) ?_) | ((with_reducible refine AL.k_store ?_); (refine AL.w rfl (OW.store (ty := 170) (n := 6) rfl wl rfl rfl kr rfl rfl (by decide) rfl (Nat.le_of_ble_eq_true rfl) (by intro r h; cases h)) ?_))); refine AL.nm ?_; refine AL.nM ?_) | refine AL.nil ?_) | ((with_reducible refine AW.on ?_); first | refine AW.seq ?_ | refine AW.ret ?_ | refine AW.region ?_) | ((with_reducible refine FinP.on ?_); (refine FinP.ret (.cellN (n := 6) wl kr kr rfl .nil) ?_ rfl); (try simp only [pack, List.drop, List.take]); all_goals (rfl)))
theorem tooMuch_q (n : Int) (m : Mem) : PCalls Tryz.prog 136 [.int .i64 n] m (.bool (!rgB n 0 1000)) := by
 refine PCalls.any ?_ rfl rfl m
 have hw := fun m => within_q n 0 1000 m
 refine PCalls.en 5 Tryz.func136 rfl (ro_nil) rfl (fun E => ?_)
 repeat' (first | with_reducible (refine Then.n ?_) | ((with_reducible refine AL.on ?_); first | ((first | refine AL.as ?_ | refine AL.mv ?_ | ((with_reducible refine AL.k_unOp ?_); refine AL.g (OQ.not rfl) ?_)); refine AL.nm ?_) | ((refine AL.pcall (g := 89) rfl kr rfl (hw _) ?_); refine AL.nm ?_) | refine AL.nil ?_) | ((with_reducible refine AW.on ?_); first | refine AW.seq ?_ | refine AW.ret ?_ | refine AW.region ?_) | ((with_reducible refine FinP.on ?_); (refine FinP.ret (.tmp wl .nil) ?_ rfl); (try simp only [pack, List.drop, List.take]); all_goals (rfl)))
theorem byEdges_q (a b c d : Int) (m : Mem) : PCalls Tryz.prog 112 [.agg #[.int .i64 a, .int .i64 b], .agg #[.int .i64 c, .int .i64 d]] m (.int .i64 (ordP ⟨a, b⟩ ⟨c, d⟩)) := by
 refine PCalls.any ?_ rfl rfl m
 have hc := fun (a b : Int) (m : Mem) => Compare_q a b m
 have ho := fun (m : Mem) (k : Nat) (blk : Blk) (h1 : m.at k = some blk) (h2 : blk.cells = [.int .i64 (cmpI a c), .int .i64 (cmpI b d)]) (h3 : blk.obj = Ob.plain) => Or_q (c := 2) _ _ h1 h2 h3
 unfold ordP
 generalize cmpI = cmpF at *
 refine PCalls.en 15 Tryz.func112 rfl (ro_nil) rfl (fun E => ?_)
 repeat' (first | with_reducible (refine Then.n ?_) | ((with_reducible refine AL.on ?_); first | ((refine AL.as ?_); refine AL.nm ?_) | ((first | refine AL.pcall (g := 147) rfl kr rfl (hc _ _ _) ?_ | refine AL.pcall (g := 146) rfl kr rfl ((by exact ho _ _ _ rfl rfl rfl)) ?_); refine AL.nm ?_) | ((first | refine AL.bx ?_ | ((with_reducible refine AL.k_buildSlice ?_); refine AL.w rfl (OW.buildSl (ty := 26) (zs := [.int .i64 0]) (n := 1) (g := false) kr kr rfl rfl rfl (by decide) (by decide) rfl rfl) ?_)); refine AL.nm ?_; refine AL.nM ?_) | refine AL.nil ?_) | ((with_reducible refine AW.on ?_); first | refine AW.seq ?_ | refine AW.ret ?_ | (refine AW.drawF (id := 1) 9 #[0, 1, 0, 4, 15, 0, 32, 0, 128, 511, 1023, 2047, 4095] kr kr ?_; (conv => (arg 8; simp only [List.take_succ_cons, List.take_zero]))) | refine AW.region ?_) | ((with_reducible refine AF.on ?_); first | ((first | ((with_reducible refine AF.k_indexAddr ?_); refine AF.q 0 (SW.q (OQ.idxPtr (ty := 52) (n := 1) (l := 2) (g := false) rfl rfl kr (by omega) (by omega)) rfl) ?_) | ((with_reducible refine AF.k_load ?_); (refine AF.ql rfl (SW.q (OQ.load1 (ty := 3) rfl kr wl) rfl) ?_)) | ((with_reducible refine AF.k_call ?_); refine AF.q 2 (SW.pcall (g := 147) rfl kr rfl (hc _ _ _) rfl) ?_)); refine AF.nm ?_) | refine AF.nl ?_) | ((with_reducible refine FinP.on ?_); (refine FinP.ret (.tmp wl .nil) ?_ rfl); (try simp only [pack, List.drop, List.take]); all_goals (rfl)))
end Go.Proofs.YtmohcmghbfhdlaaGreat
end
end
