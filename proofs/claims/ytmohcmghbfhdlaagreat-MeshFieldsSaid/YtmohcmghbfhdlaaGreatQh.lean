/- Chapter 6: the pieces of the reference's hull. -/
import Derived.Test.YtmohcmghbfhdlaaGreatQd
import Derived.Test.YtmohcmghbfhdlaaGreatQg
section
set_option linter.unusedSimpArgs false
set_option linter.unusedVariables false
section
namespace Go.Me
open Go.Ab
def bdB (l : List Pn) (i k : Nat) : Bool := decide (∀ n, n < l.length → 0 ≤ sgn (cr (pt l i) (pt l k) (pt l n)))
theorem sgn_nn (n : Int) : 0 ≤ sgn n ↔ 0 ≤ n := by
 unfold sgn
 repeat' split
 all_goals omega
theorem sgn_z (n : Int) : sgn n = 0 ↔ n = 0 := by
 unfold sgn
 repeat' split
 all_goals omega
theorem bdB_true {l : List Pn} {i k : Nat} : bdB l i k = true ↔ Bord l (pt l i) (pt l k) := by
 unfold bdB
 rw [decide_eq_true_iff]
 constructor
 ·intro h q hq
  obtain ⟨n, hn, rfl⟩ := mem_pt hq
  exact (sgn_nn _).1 (h n hn)
 ·intro h n hn
  exact (sgn_nn _).2 (h _ (pt_mem hn))
def sgB (p a b : Pn) : Bool := decide (sgn (cr a b p) = 0) && (rgB p.x (if b.x < a.x then b.x else a.x) (if b.x > a.x then b.x else a.x) && rgB p.y (if b.y < a.y then b.y else a.y) (if b.y > a.y then b.y else a.y))
theorem sgB_true {p a b : Pn} : sgB p a b = true ↔ OnSeg p a b := by
 unfold sgB rgB OnSeg
 rw [Bool.and_eq_true, Bool.and_eq_true, decide_eq_true_iff, decide_eq_true_iff, decide_eq_true_iff, sgn_z]
 have e1 : ∀ u v : Int, (if v < u then v else u) = min u v := fun u v => by split <;> omega
 have e2 : ∀ u v : Int, (if v > u then v else u) = max u v := fun u v => by split <;> omega
 rw [e1, e1, e2, e2]
end Go.Me
namespace Go.Proofs.YtmohcmghbfhdlaaGreat
open Go Go.RowKit Go.Ab Go.Me
set_option maxRecDepth 100000
set_option maxHeartbeats 4000000
attribute [local irreducible] OQ OW AL AW AF SW
theorem Border_0 (l : List Pn) (hok : ∀ k, k < l.length → (pt l k).Ok) (i k c z : Nat) (hl : l.length ≤ 1000000) (hi : i < l.length) (hk : k < l.length) : PCalls Tryz.prog 76 [.slice (some ⟨0, 0, none⟩) l.length c, .int .i64 i, .int .i64 k] [some ⟨flatP l, false, z⟩] (.bool (bdB l i k)) := by
 have hld := fun (k : Nat) (hk : k < l.length) (r : Mem) => flatP_ld (m := some ⟨flatP l, false, z⟩ :: r) (b := 0) (l := l) rfl rfl k hk
 have ht := fun (n : Nat) (hn : n < l.length) (m : Mem) => rTurn_q (hok i hi) (hok k hk) (hok n hn) m
 have hno : ∀ n, n < l.length → sgn (cr (pt l i) (pt l k) (pt l n)) < 0 → bdB l i k = false := fun n hn h => decide_eq_false fun h2 => by
  have := h2 n hn
  omega
 have hyes : (∀ n, n < l.length → 0 ≤ sgn (cr (pt l i) (pt l k) (pt l n))) → bdB l i k = true := fun h => decide_eq_true h
 generalize bdB l i k = E0 at *
 refine PCalls.en 25 Tryz.func76 rfl (ro1p _ rfl) rfl (fun E => ?_)
 repeat' (first | with_reducible (first | refine Then.n ?_ | refine Then.r ?_ | refine Then.x ?_ | refine InB.n ?_ | refine InB.r ?_ | refine InB.hit ?_) | ((with_reducible refine AL.on ?_); first | ((first | refine AL.mv ?_ | refine AL.as ?_ | ((with_reducible refine AL.k_binOp ?_); first | refine AL.g (OQ.lss rfl rfl) ?_ | refine AL.g (OQ.addi rfl rfl (by omega)) ?_) | ((with_reducible refine AL.k_call ?_); refine AL.g (OQ.lenS (xt := 22) (r := (none, 2, true)) rfl kr) ?_)); refine AL.nm ?_) | ((refine AL.pcall (g := 84) rfl kr rfl (ht _ (by omega) _) ?_); refine AL.nm ?_) | refine AL.nil ?_) | ((with_reducible refine AW.on ?_); first | refine AW.seq ?_ | refine AW.skip ?_ | refine AW.exit ?_ | refine AW.ret ?_ | ((refine AW.block (id := 0) ?_); (refine AW.fk [0, 1, 2, 7] ?_); (refine AW.loop (fun n' t' m => ∃ n : Nat, n' = l.length - n ∧ n ≤ l.length ∧ (∀ j, j < n → 0 ≤ sgn (cr (pt l i) (pt l k) (pt l j))) ∧ t' = (mtz 28 0 [(0, .slice (some ⟨0, 0, none⟩) l.length c), (1, .int .i64 (i)), (2, .int .i64 (k)), (7, .int .i64 (n))]) ∧ m = [some ⟨flatP l, false, z⟩]) (l.length) (by exact ⟨0, rfl, Nat.zero_le _, fun j h => absurd h (by omega), rfl, rfl⟩) ?_); (rintro n' t' m ⟨n, rfl, hn, hj, rfl, rfl⟩); (refine AW.nT ?_)) | refine AW.block ?_ | (refine AW.drawF (id := 4) 12 #[0, 0, 3, 7, 0, 0, 48, 112, 0, 0, 768, 1792, 4095, 8191] kr kr ?_; (conv => (arg 8; simp only [List.take_succ_cons, List.take_zero]))) | refine AW.region ?_ | (refine AW.conds rfl (fun hc => ?_) (fun hc => ?_) <;> (try replace hc := nc hc) <;> skip)) | ((with_reducible refine AF.on ?_); first | ((first | ((with_reducible refine AF.k_move ?_); (refine AF.q 0 (SW.q (OQ.move wl) rfl) ?_)) | ((with_reducible refine AF.k_indexAddr ?_); refine AF.q 0 (SW.q (OQ.idxAddr (ty := 22) (z := 2) (g := true) rfl rfl kr (by omega) (by omega)) rfl) ?_) | ((with_reducible refine AF.k_load ?_); refine AF.ql rfl (SW.q (OQ.loadN (ty := 65) (n := 2) rfl kr kr (by (exact hld _ (by omega) _))) rfl) ?_)); refine AF.nm ?_) | refine AF.nl ?_) | ((with_reducible refine ex_on ?_); (refine ⟨l.length - (n + 1), _, _, by omega, ?_, n + 1, rfl, by omega, fun j h => (by rcases Nat.lt_or_eq_of_le (Nat.le_of_lt_succ h) with h | rfl; (exact hj j h); omega), rfl, rfl⟩; exact Wk.fk [0, 1, 2, 7] rfl)) | ((with_reducible refine FinP.on ?_); (refine FinP.ret (.tmp wl .nil) ?_ rfl); (try simp only [pack, List.drop, List.take]); all_goals (symm; first | (rw [hno n (by omega) (by omega)]; done) | (obtain rfl : n = l.length := (by omega); rw [hyes hj]))))
theorem Border_q {m : Mem} {b n c : Nat} {blk : Blk} (l : List Pn) (hok : ∀ k, k < l.length → (pt l k).Ok) (i k : Nat) (hi : i < l.length) (hk : k < l.length) (hb : m.at b = some blk) (hc : blk.cells = flatP l) (hn : l.length = n) (hl : l.length ≤ 1000000) (ho : blk.obj = Ob.plain := by rfl) : PCalls Tryz.prog 76 [.slice (some ⟨b, 0, none⟩) n c, .int .i64 i, .int .i64 k] m (.bool (bdB l i k)) := by
 subst hn
 exact PCalls.viaS [b] (Border_0 l hok i k c blk.esz hl hi hk) (ro1p _ rfl) ⟨bS hb ho hc (flatP_scal _), trivial⟩ rfl rfl rfl rfl
theorem onSegment_q {p a b : Pn} (hp : p.Ok) (ha : a.Ok) (hb : b.Ok) (m : Mem) : PCalls Tryz.prog 120 [ptV p, ptV a, ptV b] m (.bool (sgB p a b)) := by
 refine PCalls.any ?_ rfl rfl m
 have ht := fun m => rTurn_q ha hb hp m
 have h1 := fun m => rWithin_q p.x (if b.x < a.x then b.x else a.x) (if b.x > a.x then b.x else a.x) m
 have h2 := fun m => rWithin_q p.y (if b.y < a.y then b.y else a.y) (if b.y > a.y then b.y else a.y) m
 unfold sgB
 generalize rgB p.x (if b.x < a.x then b.x else a.x) (if b.x > a.x then b.x else a.x) = A at *
 generalize rgB p.y (if b.y < a.y then b.y else a.y) (if b.y > a.y then b.y else a.y) = B at *
 generalize sgn (cr a b p) = s at *
 by_cases hs : s = 0
 ·subst hs
  cases A <;> cases B
  all_goals
   refine PCalls.en 39 Tryz.func120 rfl (ro_nil) rfl (fun E => ?_)
   repeat' (first | with_reducible (refine Then.n ?_) | ((with_reducible refine AL.on ?_); first | (refine AL.gd rfl ?_; (refine AL.gs1 rfl rfl (fun hc => ?_) (fun hc => ?_) <;> (try replace hc := nc hc) <;> first | (exfalso; contradiction) | refine AL.nm ?_)) | ((first | ((with_reducible refine AL.k_load ?_); first | refine AL.g (OQ.loadN (ty := 65) (n := 2) rfl kr kr rfl) ?_ | (refine AL.g (OQ.load1 (ty := 3) rfl kr wl) ?_)) | ((with_reducible refine AL.k_fieldAddr ?_); first | refine AL.g (OQ.fieldA (ty := 65) (i := 0) (n := 1) (off := 0) (g := false) rfl kr (by decide)) ?_ | refine AL.g (OQ.fieldA (ty := 65) (i := 1) (n := 1) (off := 1) (g := false) rfl kr (by decide)) ?_) | ((with_reducible refine AL.k_call ?_); first | refine AL.g (OQ.min2 rfl rfl) ?_ | refine AL.g (OQ.max2 rfl rfl) ?_) | refine AL.as ?_ | refine AL.mv ?_ | ((with_reducible refine AL.k_pick ?_); first | refine AL.pT ?_ | refine AL.pF ?_) | ((with_reducible refine AL.k_binOp ?_); refine AL.g (OQ.eql rfl rfl) ?_)); refine AL.nm ?_) | ((first | refine AL.pcall (g := 84) rfl kr rfl (ht _) ?_ | refine AL.pcall (g := 69) rfl kr rfl ((by first | exact h1 _ | exact h2 _)) ?_); refine AL.nm ?_) | ((refine AL.bx ?_); refine AL.nm ?_; refine AL.nM ?_) | refine AL.nil ?_) | ((with_reducible refine AW.on ?_); first | refine AW.seq ?_ | refine AW.ret ?_ | refine AW.region ?_) | ((with_reducible refine FinP.on ?_); (refine FinP.ret (.tmp wl .nil) ?_ rfl); (try simp only [pack, List.drop, List.take]); all_goals (rfl)))
 ·rw [decide_eq_false hs]
  refine PCalls.en 39 Tryz.func120 rfl (ro_nil) rfl (fun E => ?_)
  repeat' (first | with_reducible (refine Then.n ?_) | ((with_reducible refine AL.on ?_); first | (refine AL.gd rfl ?_; (refine AL.gs1 rfl rfl (fun hc => ?_) (fun hc => ?_) <;> (try replace hc := nc hc) <;> first | (exfalso; contradiction) | refine AL.nm ?_)) | ((first | ((with_reducible refine AL.k_load ?_); first | refine AL.g (OQ.loadN (ty := 65) (n := 2) rfl kr kr rfl) ?_ | (refine AL.g (OQ.load1 (ty := 3) rfl kr wl) ?_)) | ((with_reducible refine AL.k_fieldAddr ?_); first | refine AL.g (OQ.fieldA (ty := 65) (i := 0) (n := 1) (off := 0) (g := false) rfl kr (by decide)) ?_ | refine AL.g (OQ.fieldA (ty := 65) (i := 1) (n := 1) (off := 1) (g := false) rfl kr (by decide)) ?_) | ((with_reducible refine AL.k_call ?_); first | refine AL.g (OQ.min2 rfl rfl) ?_ | refine AL.g (OQ.max2 rfl rfl) ?_) | refine AL.as ?_ | refine AL.mv ?_ | ((with_reducible refine AL.k_pick ?_); first | refine AL.pT ?_ | refine AL.pF ?_) | ((with_reducible refine AL.k_binOp ?_); refine AL.g (OQ.eql rfl rfl) ?_)); refine AL.nm ?_) | ((first | refine AL.pcall (g := 84) rfl kr rfl (ht _) ?_ | refine AL.pcall (g := 69) rfl kr rfl ((by first | exact h1 _ | exact h2 _)) ?_); refine AL.nm ?_) | ((refine AL.bx ?_); refine AL.nm ?_; refine AL.nM ?_) | refine AL.nil ?_) | ((with_reducible refine AW.on ?_); first | refine AW.seq ?_ | refine AW.ret ?_ | refine AW.region ?_) | ((with_reducible refine FinP.on ?_); (refine FinP.ret (.tmp wl .nil) ?_ rfl); (try simp only [pack, List.drop, List.take]); all_goals (rfl)))
end Go.Proofs.YtmohcmghbfhdlaaGreat
end
end
/- Chapter 6: the reference's hull of points on a line. -/
section
set_option linter.unusedSimpArgs false
set_option linter.unusedVariables false
section
namespace Go.Me
open Go.Ab
def flK (l : List Pn) : Nat → Bool
 | 0 => true
 | k + 1 => flK l k && decide (sgn (cr (pt l 0) (pt l 1) (pt l (k + 2))) = 0)
theorem flK_true {l : List Pn} : ∀ k : Nat, flK l k = true ↔ ∀ i, 2 ≤ i → i < k + 2 → cr (pt l 0) (pt l 1) (pt l i) = 0 := by
 intro k
 induction k with
 | zero => exact ⟨fun _ i h1 h2 => by omega, fun _ => rfl⟩
 | succ k ih =>
  unfold flK
  rw [Bool.and_eq_true, decide_eq_true_iff, sgn_z, ih]
  constructor
  ·rintro ⟨h1, h2⟩ i h3 h4
   rcases Nat.lt_or_eq_of_le (Nat.le_of_lt_succ h4) with h | rfl
   ·exact h1 i h3 h
   ·exact h2
  ·intro h
   exact ⟨fun i h3 h4 => h i h3 (by omega), h (k + 2) (by omega) (by omega)⟩
theorem flK_flat {l : List Pn} : flK l (l.length - 2) = true ↔ FlatR l := by
 rw [flK_true]
 unfold FlatR
 constructor
 ·intro h i h1 h2
  exact h i h1 (by omega)
 ·intro h i h1 h2
  exact h i h1 (by omega)
end Go.Me
namespace Go.Proofs.YtmohcmghbfhdlaaGreat
open Go Go.RowKit Go.Ab Go.Me
set_option maxRecDepth 100000
set_option maxHeartbeats 4000000
attribute [local irreducible] OQ OW AL AW AF SW
theorem rHull_f (l : List Pn) (hok : ∀ k, k < l.length → (pt l k).Ok) (c z : Nat) (hl : l.length ≤ 1000000) (hf : flK l (l.length - 2) = true) : PCalls Tryz.prog 60 [.slice (some ⟨0, 0, none⟩) l.length c] [some ⟨flatP l, false, z⟩] (.slice none 0 0) := by
 have hld := fun (k : Nat) (hk : k < l.length) (r : Mem) => flatP_ld (m := some ⟨flatP l, false, z⟩ :: r) (b := 0) (l := l) rfl rfl k hk
 have hld0 := hld 0
 have hld1 := hld 1
 have ht := fun (n : Nat) (h2 : 2 ≤ n) (hn : n < l.length) (m : Mem) => rTurn_q (hok 0 (by omega)) (hok 1 (by omega)) (hok n hn) m
 have hFt : ∀ k, flK l k = true → flK l (k + 1) = decide (sgn (cr (pt l 0) (pt l 1) (pt l (k + 2))) = 0) := fun k h => by
  show (flK l k && _) = _
  rw [h, Bool.true_and]
 have hFf : ∀ k, flK l k = false → flK l (k + 1) = false := fun k h => by
  show (flK l k && _) = _
  rw [h, Bool.false_and]
 have hF0 : flK l 0 = true := rfl
 generalize flK l = F at *
 refine PCalls.en 138 Tryz.func60 rfl (ro1p _ rfl) rfl (fun E => ?_)
 repeat' (first | with_reducible (first | refine Then.n ?_ | refine Then.r ?_ | refine Then.x ?_ | refine InB.n ?_ | refine InB.hit ?_) | ((with_reducible refine AL.on ?_); first | (refine AL.gd rfl ?_; (refine AL.gs1 rfl rfl (fun hc => ?_) (fun hc => ?_) <;> (try replace hc := nc hc) <;> first | (exfalso; contradiction) | refine AL.nm ?_)) | ((first | refine AL.mv ?_ | refine AL.as ?_ | ((with_reducible refine AL.k_binOp ?_); first | refine AL.g (OQ.lss rfl rfl) ?_ | refine AL.g (OQ.eql rfl rfl) ?_ | refine AL.g (OQ.addi rfl rfl (by omega)) ?_) | ((with_reducible refine AL.k_call ?_); refine AL.g (OQ.lenS (xt := 22) (r := (none, 2, true)) rfl kr) ?_) | ((with_reducible refine AL.k_pick ?_); first | refine AL.pT ?_ | refine AL.pF ?_)); refine AL.nm ?_) | ((((with_reducible refine AL.k_call ?_); refine AL.pcall (g := 84) rfl kr rfl ((by exact ht (k + 2) (by omega) (by omega) _)) ?_)); refine AL.nm ?_) | refine AL.nil ?_) | ((with_reducible refine AW.on ?_); first | refine AW.seq ?_ | refine AW.skip ?_ | refine AW.exit ?_ | refine AW.ret ?_ | ((refine AW.block (id := 0) ?_); (refine AW.fk [0, 3, 4] ?_); (refine AW.loop (fun n' t' m => ∃ k : Nat, n' = l.length - 2 - k ∧ (k = 0 ∨ k + 2 ≤ l.length) ∧ t' = (mtz 139 0 [(0, .slice (some ⟨0, 0, none⟩) l.length c), (3, .bool (F k)), (4, .int .i64 (((k + 2 : Nat) : Int)))]) ∧ m = [some ⟨flatP l, false, z⟩]) (l.length - 2) (by exact ⟨0, rfl, .inl rfl, by rw [hF0]; rfl, rfl⟩) ?_); (rintro n' t' m ⟨k, rfl, hk, rfl, rfl⟩); (refine AW.nT ?_)) | refine AW.block ?_ | (refine AW.drawF (id := 5) 12 #[0, 1, 3, 7, 15, 3, 35, 99, 3, 3, 771, 1795, 4095, 8191, 16383, 32767] kr kr ?_; (conv => (arg 8; simp only [List.take_succ_cons, List.take_zero]))) | (refine AW.region (id := 6) ?_; ((obtain rfl : k = l.length - 2 := (by omega)))) | refine AW.region ?_ | (refine AW.conds rfl (fun hc => ?_) (fun hc => ?_) <;> (try replace hc := nc hc) <;> first | (exfalso; (((exfalso; simp_all; done)); done)) | skip)) | ((with_reducible refine AF.on ?_); first | ((refine AF.q 0 (SW.no1 rfl rfl (by with_reducible rfl)) ?_); refine AF.nm ?_) | ((first | ((with_reducible refine AF.k_move ?_); first | (refine AF.q 0 (SW.q (OQ.move wl) rfl) ?_) | (refine AF.q 0 (SW.yes (SW.q (OQ.move wl) rfl) rfl rfl (by with_reducible rfl)) ?_)) | ((with_reducible refine AF.k_indexAddr ?_); refine AF.q 0 (SW.yes (SW.q (OQ.idxAddr (ty := 22) (z := 2) (g := true) rfl rfl kr (by omega) (by omega)) rfl) rfl rfl (by with_reducible rfl)) ?_) | ((with_reducible refine AF.k_load ?_); refine AF.ql rfl (SW.yes (SW.q (OQ.loadN (ty := 65) (n := 2) rfl kr kr (by (first | exact hld0 (by omega) _ | exact hld1 (by omega) _ | exact hld _ (by omega) _))) rfl) rfl rfl (by with_reducible rfl)) ?_)); refine AF.nm ?_) | (refine AF.gs1 rfl rfl (fun hc => ?_) (fun hc => ?_) <;> (fail_if_success (with_reducible exact lit_no hc)) <;> (try replace hc := nc hc) <;> skip) | refine AF.nl ?_) | ((with_reducible refine ex_on ?_); (refine ⟨l.length - 2 - (k + 1), _, _, by omega, ?_, k + 1, rfl, by omega, rfl, rfl⟩; first | (rw [hFt k ‹_›]; exact Wk.fk [0, 3, 4] rfl) | (rw [hFf k ‹_›]; exact Wk.fk [0, 3, 4] rfl))) | ((with_reducible refine FinP.on ?_); (refine FinP.ret (.tmp wl .nil) ?_ rfl); (try simp only [pack, List.drop, List.take]); all_goals (rfl)))
end Go.Proofs.YtmohcmghbfhdlaaGreat
end
end
/- Chapter 6: small functions of the nets; the area of a ring of corners. -/
section
set_option linter.unusedSimpArgs false
set_option linter.unusedVariables false
section
namespace Go.Me
open Go.Ab
def wrI (n : Int) : Int := ((n + 2048).tmod 4096 + 4096).tmod 4096 - 2048
theorem tmod_b (a : Int) : -4095 ≤ a.tmod 4096 ∧ a.tmod 4096 ≤ 4095 := by
 have h : (a.tmod 4096).natAbs < 4096 := by
  rw [Int.natAbs_tmod]
  exact Nat.mod_lt _ (by decide)
 omega
theorem wrI_bd (n : Int) : -2048 ≤ wrI n ∧ wrI n ≤ 2047 := by
 have h1 := tmod_b (n + 2048)
 have h2 := Int.tmod_nonneg (a := (n + 2048).tmod 4096 + 4096) 4096 (by omega)
 have h3 := tmod_b ((n + 2048).tmod 4096 + 4096)
 unfold wrI
 omega
def flatO (o : List Nat) : List Value := o.map fun n : Nat => .int .i64 (n : Int)
def ot (o : List Nat) (k : Nat) : Nat := o.getD k 0
theorem flatO_scal (o : List Nat) : (flatO o).all Ab.scal = true := by
 unfold flatO
 rw [List.all_map]
 exact List.all_eq_true.2 fun _ _ => rfl
theorem flatO_get (o : List Nat) (k : Nat) (hk : k < o.length) : (flatO o)[k]? = some (.int .i64 (ot o k)) := by
 unfold flatO ot
 rw [List.getElem?_map, List.getElem?_eq_getElem hk, List.getD_eq_getElem?_getD, List.getElem?_eq_getElem hk]
 rfl
def arS (l : List Pn) (o : List Nat) : Nat → Int
 | 0 => 0
 | k + 1 => arS l o k + ((pt l (ot o k)).x * (pt l (ot o ((k + 1) % o.length))).y - (pt l (ot o k)).y * (pt l (ot o ((k + 1) % o.length))).x)
end Go.Me
namespace Go.Proofs.YtmohcmghbfhdlaaGreat
open Go Go.RowKit Go.Ab Go.Me
set_option maxRecDepth 100000
set_option maxHeartbeats 4000000
attribute [local irreducible] OQ OW AL AW AF SW
theorem wrap_q (n : Int) (hn : -1000000000 ≤ n ∧ n ≤ 1000000000) (m : Mem) : PCalls Tryz.prog 126 [.int .i64 n] m (.int .i64 (wrI n)) := by
 refine PCalls.any ?_ rfl rfl m
 have h1 := tmod_b (n + 2048)
 have h3 := tmod_b ((n + 2048).tmod 4096 + 4096)
 unfold wrI
 refine PCalls.en 8 Tryz.func126 rfl (ro_nil) rfl (fun E => ?_)
 repeat' (first | with_reducible (refine Then.n ?_) | ((with_reducible refine AL.on ?_); first | ((first | ((with_reducible refine AL.k_binOp ?_); first | refine AL.g (OQ.addi rfl rfl (by omega)) ?_ | refine AL.g (OQ.rem rfl rfl (by omega)) ?_ | refine AL.g (OQ.subi rfl rfl (by omega)) ?_) | refine AL.as ?_ | refine AL.mv ?_); refine AL.nm ?_) | refine AL.nil ?_) | ((with_reducible refine AW.on ?_); first | refine AW.seq ?_ | refine AW.ret ?_ | refine AW.region ?_) | ((with_reducible refine FinP.on ?_); (refine FinP.ret (.tmp wl .nil) ?_ rfl); (try simp only [pack, List.drop, List.take]); all_goals (rfl)))
theorem around_q (a b c : Int) (m : Mem) : PCalls Tryz.prog 128 [.agg #[.int .i64 a, .int .i64 b, .int .i64 c]] m (.agg #[.int .i64 a, .int .i64 b, .int .i64 b, .int .i64 c, .int .i64 c, .int .i64 a]) := by
 refine PCalls.any ?_ rfl rfl m
 refine PCalls.en 18 Tryz.func128 rfl (ro_nil) rfl (fun E => ?_)
 repeat' (first | with_reducible (refine Then.n ?_) | ((with_reducible refine AL.on ?_); first | ((first | ((with_reducible refine AL.k_indexAddr ?_); refine AL.g (OQ.idxPtr (ty := 62) (n := 1) (l := 3) (g := false) rfl rfl kr (by omega) (by omega)) ?_) | ((with_reducible refine AL.k_load ?_); (refine AL.g (OQ.load1 (ty := 3) rfl kr wl) ?_))); refine AL.nm ?_) | ((first | refine AL.g (OQ.buildA (ty := 52) (zs := [.int .i64 0, .int .i64 0]) (n := 1) (k := 2) (g := false) kr rfl kr rfl rfl rfl) ?_ | refine AL.g (OQ.buildA (ty := 170) (zs := [.int .i64 0, .int .i64 0, .int .i64 0, .int .i64 0, .int .i64 0, .int .i64 0]) (n := 2) (k := 3) (g := true) kr rfl kr rfl rfl rfl) ?_); refine AL.nm ?_) | ((first | refine AL.bx ?_ | ((with_reducible refine AL.k_alloc ?_); refine AL.w rfl (OW.alloc (ty := 170) (z := [.int .i64 0, .int .i64 0, .int .i64 0, .int .i64 0, .int .i64 0, .int .i64 0]) kr rfl) ?_) | ((with_reducible refine AL.k_store ?_); (refine AL.w rfl (OW.store (ty := 170) (n := 6) rfl wl rfl rfl kr rfl rfl (by decide) rfl (Nat.le_of_ble_eq_true rfl) (by intro r h; cases h)) ?_))); refine AL.nm ?_; refine AL.nM ?_) | refine AL.nil ?_) | ((with_reducible refine AW.on ?_); first | refine AW.seq ?_ | refine AW.ret ?_ | refine AW.region ?_) | ((with_reducible refine FinP.on ?_); (refine FinP.ret (.cellN (n := 6) wl kr kr rfl .nil) ?_ rfl); (try simp only [pack, List.drop, List.take]); all_goals (rfl)))
theorem tooMuch_q (n : Int) (m : Mem) : PCalls Tryz.prog 136 [.int .i64 n] m (.bool (!rgB n 0 1000)) := by
 refine PCalls.any ?_ rfl rfl m
 have hw := fun m => within_q n 0 1000 m
 refine PCalls.en 5 Tryz.func136 rfl (ro_nil) rfl (fun E => ?_)
 repeat' (first | with_reducible (refine Then.n ?_) | ((with_reducible refine AL.on ?_); first | ((first | refine AL.as ?_ | refine AL.mv ?_ | ((with_reducible refine AL.k_unOp ?_); refine AL.g (OQ.not rfl) ?_)); refine AL.nm ?_) | ((refine AL.pcall (g := 89) rfl kr rfl (hw _) ?_); refine AL.nm ?_) | refine AL.nil ?_) | ((with_reducible refine AW.on ?_); first | refine AW.seq ?_ | refine AW.ret ?_ | refine AW.region ?_) | ((with_reducible refine FinP.on ?_); (refine FinP.ret (.tmp wl .nil) ?_ rfl); (try simp only [pack, List.drop, List.take]); all_goals (rfl)))
theorem byEdges_q (a b c d : Int) (m : Mem) : PCalls Tryz.prog 112 [.agg #[.int .i64 a, .int .i64 b], .agg #[.int .i64 c, .int .i64 d]] m (.int .i64 (ordP ⟨a, b⟩ ⟨c, d⟩)) := by
 refine PCalls.any ?_ rfl rfl m
 have hc := fun (a b : Int) (m : Mem) => Compare_q a b m
 have ho := fun (m : Mem) (k : Nat) (blk : Blk) (h1 : m.at k = some blk) (h2 : blk.cells = [.int .i64 (cmpI a c), .int .i64 (cmpI b d)]) (h3 : blk.obj = Ob.plain) => Or_q (c := 2) _ _ h1 h2 h3
 unfold ordP
 generalize cmpI = cmpF at *
 refine PCalls.en 15 Tryz.func112 rfl (ro_nil) rfl (fun E => ?_)
 repeat' (first | with_reducible (refine Then.n ?_) | ((with_reducible refine AL.on ?_); first | ((refine AL.as ?_); refine AL.nm ?_) | ((first | refine AL.pcall (g := 147) rfl kr rfl (hc _ _ _) ?_ | refine AL.pcall (g := 146) rfl kr rfl ((by exact ho _ _ _ rfl rfl rfl)) ?_); refine AL.nm ?_) | ((first | refine AL.bx ?_ | ((with_reducible refine AL.k_buildSlice ?_); refine AL.w rfl (OW.buildSl (ty := 26) (zs := [.int .i64 0]) (n := 1) (g := false) kr kr rfl rfl rfl (by decide) (by decide) rfl rfl) ?_)); refine AL.nm ?_; refine AL.nM ?_) | refine AL.nil ?_) | ((with_reducible refine AW.on ?_); first | refine AW.seq ?_ | refine AW.ret ?_ | (refine AW.drawF (id := 1) 9 #[0, 1, 0, 4, 15, 0, 32, 0, 128, 511, 1023, 2047, 4095] kr kr ?_; (conv => (arg 8; simp only [List.take_succ_cons, List.take_zero]))) | refine AW.region ?_) | ((with_reducible refine AF.on ?_); first | ((first | ((with_reducible refine AF.k_indexAddr ?_); refine AF.q 0 (SW.q (OQ.idxPtr (ty := 52) (n := 1) (l := 2) (g := false) rfl rfl kr (by omega) (by omega)) rfl) ?_) | ((with_reducible refine AF.k_load ?_); (refine AF.ql rfl (SW.q (OQ.load1 (ty := 3) rfl kr wl) rfl) ?_)) | ((with_reducible refine AF.k_call ?_); refine AF.q 2 (SW.pcall (g := 147) rfl kr rfl (hc _ _ _) rfl) ?_)); refine AF.nm ?_) | refine AF.nl ?_) | ((with_reducible refine FinP.on ?_); (refine FinP.ret (.tmp wl .nil) ?_ rfl); (try simp only [pack, List.drop, List.take]); all_goals (rfl)))
end Go.Proofs.YtmohcmghbfhdlaaGreat
end
end
/- Chapter 6: the area of a ring of corners. -/
section
set_option linter.unusedSimpArgs false
set_option linter.unusedVariables false
section
namespace Go.Me
open Go.Ab
theorem tmod_nat (k n : Nat) : ((k : Int) + 1).tmod n = (((k + 1) % n : Nat) : Int) := by
 rw [Int.ofNat_tmod]
 rfl
theorem arS_bd {l : List Pn} {o : List Nat} (hok : ∀ k, k < o.length → (pt l (ot o k)).Ok) : ∀ k : Nat, k ≤ o.length → -200000000 * (k : Int) ≤ arS l o k ∧ arS l o k ≤ 200000000 * k := by
 intro k
 induction k with
 | zero => intro _; simp [arS]
 | succ k ih =>
  intro h
  have h1 := ih (by omega)
  have h2 := (hok k (by omega)).b
  have h3 := (hok ((k + 1) % o.length) (Nat.mod_lt _ (by omega))).b
  have h4 := mul_bd (m := (pt l (ot o k)).x) (n := (pt l (ot o ((k + 1) % o.length))).y) (a := 10000) (b := 10000) h2.1 h3.2 (by decide)
  have h5 := mul_bd (m := (pt l (ot o k)).y) (n := (pt l (ot o ((k + 1) % o.length))).x) (a := 10000) (b := 10000) h2.2 h3.1 (by decide)
  unfold arS
  omega
end Go.Me
namespace Go.Proofs.YtmohcmghbfhdlaaGreat
open Go Go.RowKit Go.Ab Go.Me
set_option maxRecDepth 100000
set_option maxHeartbeats 4000000
attribute [local irreducible] OQ OW AL AW AF SW
theorem area_0 (l : List Pn) (o : List Nat) (hok : ∀ k, k < l.length → (pt l k).Ok) (ho : ∀ k, k < o.length → ot o k < l.length) (c c2 z z2 : Nat) (hl : o.length ≤ 1000) :
  PCalls Tryz.prog 129 [.slice (some ⟨0, 0, none⟩) l.length c, .slice (some ⟨1, 0, none⟩) o.length c2] [some ⟨flatP l, false, z⟩, some ⟨flatO o, false, z2⟩] (.int .i64 (arS l o o.length)) := by
 have hld := fun (k : Nat) (hk : k < l.length) (r : Mem) => flatP_ld (m := some ⟨flatP l, false, z⟩ :: r) (b := 0) (l := l) rfl rfl k hk
 have hg := fun (k : Nat) (hk : k < o.length) => flatO_get o k hk
 have hn : ∀ k, k < o.length → ((k : Int) + 1).tmod o.length = (((k + 1) % o.length : Nat) : Int) := fun k _ => tmod_nat k o.length
 have hm : ∀ k, k < o.length → (k + 1) % o.length < o.length := fun k hk => Nat.mod_lt _ (by omega)
 have hpb := fun (k : Nat) (hk : k < o.length) => (hok _ (ho k hk)).b
 have hab := arS_bd (l := l) (o := o) fun k hk => hok _ (ho k hk)
 have hs : ∀ k, arS l o (k + 1) = arS l o k + ((pt l (ot o k)).x * (pt l (ot o ((k + 1) % o.length))).y - (pt l (ot o k)).y * (pt l (ot o ((k + 1) % o.length))).x) := fun k => rfl
 have h00 : arS l o 0 = 0 := rfl
 have hg2 : ∀ k, k < o.length → (flatO o)[(((k : Int) + 1).tmod o.length).toNat]? = some (.int .i64 (ot o ((k + 1) % o.length))) := fun k hk => by
  rw [hn k hk]
  exact hg _ (hm k hk)
 generalize arS l o = F at *
 refine PCalls.enJ 45 Tryz.func129 rfl (ro2p _ _ rfl rfl) rfl (fun E hE => ?_)
 repeat' (first | with_reducible (first | refine Then.n ?_ | refine Then.x ?_ | refine InB.n ?_ | refine InB.hit ?_) | ((with_reducible refine AL.on ?_); first | ((first | refine AL.mv ?_ | ((with_reducible refine AL.k_binOp ?_); first | refine AL.g (OQ.lss rfl rfl) ?_ | refine AL.g (OQ.muli rfl rfl (by omega)) ?_ | refine AL.g (OQ.subi rfl rfl (by omega)) ?_ | refine AL.g (OQ.addi rfl rfl (by omega)) ?_) | ((with_reducible refine AL.k_load ?_); (refine AL.g (OQ.load1 (ty := 3) rfl kr (by first | (exact hg _ (by omega)) | (conv => lhs; whnf))) ?_)) | refine AL.as ?_ | ((with_reducible refine AL.k_call ?_); refine AL.g (OQ.lenS (xt := 26) (r := (none, 1, false)) rfl kr) ?_)); refine AL.nm ?_) | ((first | ((with_reducible refine AL.k_indexAddr ?_); refine AL.g (OQ.idxAddr (ty := 26) (z := 1) (g := false) rfl rfl kr (by omega) (by omega)) ?_) | ((with_reducible refine AL.k_fieldAddr ?_); first | refine AL.g (OQ.fieldA (ty := 65) (i := 0) (n := 1) (off := 0) (g := false) rfl kr (by decide)) ?_ | refine AL.g (OQ.fieldA (ty := 65) (i := 1) (n := 1) (off := 1) (g := false) rfl kr (by decide)) ?_)); refine AL.nm ?_) | (((refine AL.w rfl (OW.store (ty := 65) (n := 2) rfl wl rfl rfl kr rfl rfl (by decide) rfl (Nat.le_of_ble_eq_true rfl) (by intro r h; cases h)) ?_)); refine AL.nm ?_; refine AL.nM ?_) | refine AL.nil ?_) | ((with_reducible refine AW.on ?_); first | refine AW.seq ?_ | refine AW.skip ?_ | refine AW.exit ?_ | refine AW.ret ?_ | ((refine AW.block (id := 0) ?_); (refine AW.fk [0, 1, 5, 10, 11, 12] ?_); (refine AW.loop (fun n' t' m => ∃ k : Nat, n' = o.length - k ∧ k ≤ o.length ∧ t' = (mtz 47 0 [(0, .slice (some ⟨0, 0, none⟩) l.length c), (1, .slice (some ⟨1, 0, none⟩) o.length c2), (5, .int .i64 (F k)), (10, .slice (some ⟨1, 0, none⟩) o.length c2), (11, .int .i64 (o.length)), (12, .int .i64 (k))]) ∧ m = [some ⟨flatP l, false, z⟩, some ⟨flatO o, false, z2⟩]) (o.length) (by exact ⟨0, rfl, Nat.zero_le _, by rw [h00]; rfl, rfl⟩) ?_); (rintro n' t' m ⟨k, rfl, hk, rfl, rfl⟩); (refine AW.nT ?_)) | refine AW.block ?_ | (refine AW.drawF (id := 5) 18 #[0, 0, 3, 7, 0, 0, 0, 64, 0, 256, 960, 2016, 4064, 8176, 16368, 0, 0, 98319, 262143] kr kr ?_; (conv => (arg 8; simp only [List.take_succ_cons, List.take_zero])); ((have hk3 : k < o.length := (by omega); have e1 := hn k hk3; have e2 := hm k hk3; have e3 := ho k hk3; have e4 := ho _ e2; have e5 := hpb k hk3; have e6 := hpb _ e2; have e7 := hab k (by omega); have e8 := mul_bd (m := (pt l (ot o k)).x) (n := (pt l (ot o ((k + 1) % o.length))).y) (a := 10000) (b := 10000) e5.1 e6.2 (by decide); have e9 := mul_bd (m := (pt l (ot o k)).y) (n := (pt l (ot o ((k + 1) % o.length))).x) (a := 10000) (b := 10000) e5.2 e6.1 (by decide)))) | refine AW.region ?_ | (refine AW.conds rfl (fun hc => ?_) (fun hc => ?_) <;> (try replace hc := nc hc) <;> skip)) | ((with_reducible refine AF.on ?_); first | ((first | ((with_reducible refine AF.k_move ?_); (refine AF.q 0 (SW.q (OQ.move wl) rfl) ?_)) | ((with_reducible refine AF.k_load ?_); first | refine AF.ql rfl (SW.q (OQ.loadN (ty := 65) (n := 2) rfl kr kr (by (first | exact hld _ (ho k (by omega)) _ | exact hld _ (ho _ (hm k (by omega))) _))) rfl) ?_ | (refine AF.ql rfl (SW.q (OQ.load1 (ty := 3) rfl kr (by (exact hg2 k (by omega)))) rfl) ?_)) | ((with_reducible refine AF.k_binOp ?_); first | refine AF.q 0 (SW.q (OQ.addi rfl rfl (by omega)) rfl) ?_ | refine AF.q 0 (SW.q (OQ.rem rfl rfl (by omega)) rfl) ?_) | ((with_reducible refine AF.k_indexAddr ?_); first | refine AF.q 0 (SW.q (OQ.idxAddr (ty := 22) (z := 2) (g := true) rfl rfl kr (by omega) (by omega)) rfl) ?_ | refine AF.q 0 (SW.q (OQ.idxAddr (ty := 26) (z := 1) (g := false) rfl rfl kr (by omega) (by omega)) rfl) ?_) | ((with_reducible refine AF.k_call ?_); refine AF.q 0 (SW.q (OQ.lenS (xt := 26) (r := (none, 1, false)) rfl kr) rfl) ?_)); refine AF.nm ?_) | ((first | ((with_reducible refine AF.k_alloc ?_); refine AF.n1 0 (SW.w (OW.alloc (ty := 65) (z := [.int .i64 0, .int .i64 0]) kr rfl) rfl) rfl ?_) | ((with_reducible refine AF.k_store ?_); (refine AF.sl rfl (SW.w (OW.store (ty := 65) (n := 2) rfl wl rfl rfl kr rfl rfl (by decide) rfl (Nat.le_of_ble_eq_true rfl) (by intro r h; cases h)) rfl) rfl ?_))); refine AF.nm ?_; (conv => (arg 10; try tactic => exact nrmF))) | refine AF.nl ?_) | ((with_reducible refine ex_on ?_); (refine ⟨o.length - (k + 1), _, _, by omega, ?_, k + 1, rfl, by omega, rfl, rfl⟩; rw [hs k]; exact Wk.keep 2 [] (Nat.le_of_eq hE) rfl rfl (by repeat (first | exact RenT.nil | refine RenT.jk ?_ | refine RenT.val (by rfl) (by rfl) ?_)) ⟨kl rfl (flatP_scal l), kl rfl (flatO_scal o), trivial⟩)) | ((with_reducible refine FinJ.on ?_); (obtain rfl : k = o.length := (by omega); exact FinJ.ret (.tmp wl .nil) (jle_flat rfl))))
end Go.Proofs.YtmohcmghbfhdlaaGreat
end
end
/- Chapter 6: Hull of wrong points. -/
section
set_option linter.unusedSimpArgs false
set_option linter.unusedVariables false
section
namespace Go.Proofs.YtmohcmghbfhdlaaGreat
open Go Go.RowKit Go.Ab Go.Me
set_option maxRecDepth 100000
set_option maxHeartbeats 4000000
attribute [local irreducible] OQ OW AL AW AF SW
theorem CheckPoints_q {m : Mem} {b n c : Nat} {blk : Blk} (l : List Pn) (hb : m.at b = some blk) (hc : blk.cells = flatP l) (hn : l.length = n) (hl : l.length ≤ 1000000) (hz : blk.esz = 0 ∨ blk.esz = 2) (ho : blk.obj = Ob.plain := by rfl) : PCalls Tryz.prog 121 [.slice (some ⟨b, 0, none⟩) n c] m (.tuple #[.int .i64 (cpA l), .int .i64 (cpB l)]) := by
 subst hn
 exact PCalls.viaS [b] (CheckPoints_0 l c blk.esz hl hz) (ro1p _ rfl) ⟨bS hb ho hc (flatP_scal _), trivial⟩ rfl rfl rfl rfl
theorem rHull_fq {m : Mem} {b n c : Nat} {blk : Blk} (l : List Pn) (hok : ∀ k, k < l.length → (pt l k).Ok) (hf : flK l (l.length - 2) = true) (hb : m.at b = some blk) (hc : blk.cells = flatP l) (hn : l.length = n) (hl : l.length ≤ 1000000) (ho : blk.obj = Ob.plain := by rfl) : PCalls Tryz.prog 60 [.slice (some ⟨b, 0, none⟩) n c] m (.slice none 0 0) := by
 subst hn
 exact PCalls.viaS [b] (rHull_f l hok c blk.esz hl hf) (ro1p _ rfl) ⟨bS hb ho hc (flatP_scal _), trivial⟩ rfl rfl rfl rfl
end Go.Proofs.YtmohcmghbfhdlaaGreat
end
end
/- Chapter 6: slices.Reverse of numbers, in place. -/
section
set_option linter.unusedSimpArgs false
set_option linter.unusedVariables false
section
namespace Go.Me
open Go.Ab
def rvK (o : List Nat) : Nat → List Nat
 | 0 => o
 | k + 1 => ((rvK o k).set k (ot (rvK o k) (o.length - 1 - k))).set (o.length - 1 - k) (ot (rvK o k) k)
theorem rvK_len (o : List Nat) : ∀ k, (rvK o k).length = o.length := by
 intro k
 induction k with
 | zero => rfl
 | succ k ih => unfold rvK; rw [List.length_set, List.length_set, ih]
theorem flatO_set (o : List Nat) (k x : Nat) : flatO (o.set k x) = (flatO o).set k (.int .i64 x) := by
 unfold flatO
 rw [List.map_set]
theorem rvK_step (o : List Nat) (k : Nat) : flatO (rvK o (k + 1)) = ((flatO (rvK o k)).set k (.int .i64 (ot (rvK o k) (o.length - 1 - k)))).set (o.length - 1 - k) (.int .i64 (ot (rvK o k) k)) := by
 rw [← flatO_set, ← flatO_set]
 rfl
theorem flatO_len (o : List Nat) : (flatO o).length = o.length := List.length_map _
end Go.Me
namespace Go.Proofs.YtmohcmghbfhdlaaGreat
open Go Go.RowKit Go.Ab Go.Me
set_option maxRecDepth 100000
set_option maxHeartbeats 4000000
attribute [local irreducible] OQ OW AL AW AF SW
theorem Reverse_c (o : List Nat) (c z : Nat) (hl : o.length ≤ 1000) : ACalls Tryz.prog 159 [.slice (some ⟨0, 0, none⟩) o.length c] [some ⟨flatO o, true, z⟩] (.tuple #[]) [some ⟨flatO (rvK o (o.length / 2)), true, z⟩] := by
 have hlen := rvK_len o
 have hfl := fun k => (flatO_len (rvK o k)).trans (rvK_len o k)
 have g1 := fun (k : Nat) (hk : k < o.length) => flatO_get (rvK o k) k (by rw [rvK_len]; exact hk)
 have g2 := fun (k : Nat) (hk : k < o.length) => flatO_get (rvK o k) (o.length - 1 - k) (by rw [rvK_len]; omega)
 have ht : ∀ k, k < o.length → ((o.length : Int) - 1 - k).toNat = o.length - 1 - k := fun k hk => by omega
 have g3 : ∀ k, k < o.length → (flatO (rvK o k))[((o.length : Int) - 1 - k).toNat]? = some (.int .i64 (ot (rvK o k) (o.length - 1 - k))) := fun k hk => by rw [ht k hk]; exact g2 k hk
 have hS := rvK_step o
 have h0 : rvK o 0 = o := rfl
 have hsc := fun k => flatO_scal (rvK o k)
 refine ACalls.en 27 Tryz.func159 rfl rfl (fun E hE => ?_)
 repeat' (first | with_reducible (first | refine Then.n ?_ | refine Then.x ?_ | refine InB.n ?_ | refine InB.hit ?_) | ((with_reducible refine AL.on ?_); first | ((first | refine AL.mv ?_ | ((with_reducible refine AL.k_binOp ?_); first | refine AL.g (OQ.subi rfl rfl (by omega)) ?_ | refine AL.g (OQ.lss rfl rfl) ?_ | refine AL.g (OQ.addi rfl rfl (by omega)) ?_) | refine AL.as ?_ | ((with_reducible refine AL.k_call ?_); refine AL.g (OQ.lenS (xt := 26) (r := (none, 1, false)) rfl kr) ?_)); refine AL.nm ?_) | ((refine AL.g (OQ.idxAddr (ty := 26) (z := 1) (g := false) rfl rfl kr (by omega) (by omega)) ?_); refine AL.nm ?_) | (((refine AL.w rfl (OW.store (ty := 3) (n := 1) rfl wl rfl rfl kr rfl rfl (by decide) rfl (by (((simp only [List.length_set, hfl]; omega)))) (by intro r h; cases h)) ?_)); refine AL.nm ?_; refine AL.nM ?_) | refine AL.nil ?_) | ((with_reducible refine AW.on ?_); first | refine AW.seq ?_ | refine AW.skip ?_ | refine AW.exit ?_ | ((refine AW.block (id := 0) ?_); (refine AW.fk [0, 2, 3] ?_); (refine AW.loop (fun n' t' m => ∃ k : Nat, n' = o.length - k ∧ k + k ≤ o.length ∧ t' = [.slice (some ⟨0, 0, none⟩) o.length c, jk, .int .i64 (k), .int .i64 ((o.length : Int) - 1 - k), jk, jk, jk, jk, jk, jk, jk, jk, jk, jk, jk, jk, jk, jk, jk, jk, jk, jk, jk, jk, jk, jk, jk, jk] ∧ m = [some ⟨flatO (rvK o k), true, z⟩]) (o.length) (by exact ⟨0, rfl, by omega, by simp, by rw [h0]⟩) ?_); (rintro n' t' m ⟨k, rfl, hk, rfl, rfl⟩)) | refine AW.block ?_ | (refine AW.drawF (id := 3) 14 #[0, 0, 0, 0, 0, 0, 48, 112, 0, 0, 768, 1792, 4083, 8179, 16383, 32767] kr kr ?_; (conv => (arg 8; simp only [List.take_succ_cons, List.take_zero])); ((have hk3 : k < o.length := (by omega); have e1 := hfl k; have e2 := ht k hk3))) | refine AW.region ?_ | (refine AW.conds rfl (fun hc => ?_) (fun hc => ?_) <;> (try replace hc := nc hc) <;> skip)) | ((with_reducible refine AF.on ?_); first | ((first | ((with_reducible refine AF.k_move ?_); (refine AF.q 0 (SW.q (OQ.move wl) rfl) ?_)) | ((with_reducible refine AF.k_indexAddr ?_); refine AF.q 0 (SW.q (OQ.idxAddr (ty := 26) (z := 1) (g := false) rfl rfl kr (by omega) (by omega)) rfl) ?_) | ((with_reducible refine AF.k_load ?_); (refine AF.ql rfl (SW.q (OQ.load1 (ty := 3) rfl kr (by (first | exact g3 k (by omega) | exact g1 k (by omega)))) rfl) ?_))); refine AF.nm ?_) | (((refine AF.sl rfl (SW.w (OW.store (ty := 3) (n := 1) rfl wl rfl rfl kr rfl rfl (by decide) rfl (by (((simp only [List.length_set, hfl]; omega)))) (by intro r h; cases h)) rfl) rfl ?_)); refine AF.nm ?_; (conv => (arg 10; try tactic => exact nrmF))) | refine AF.nl ?_) | ((with_reducible refine ex_on ?_); (rw [show (o.length : Int) - 1 - k - 1 = (o.length : Int) - 1 - ((k + 1 : Nat) : Int) by omega, ht k (by omega)]; refine ⟨o.length - (k + 1), _, _, by omega, ?_, k + 1, rfl, by omega, rfl, rfl⟩; have hs2 := hsc (k + 1); rw [hS k] at hs2 ⊢; exact Wk.keep 1 [] (by rw [hE]; exact Nat.le_refl 1) rfl rfl (by repeat (first | exact RenT.nil | refine RenT.jk ?_ | refine RenT.val (by rfl) (by rfl) ?_)) ⟨⟨_, rfl, rfl, rfl, .inl ⟨rfl, hs2⟩⟩, trivial⟩)) | ((with_reducible refine FinA.on ?_); (obtain rfl : k = o.length / 2 := (by omega); refine FinA.keep 1 [] (.inr rfl) .nil rfl rfl (Nat.le_of_eq hE) rfl rfl ⟨kl rfl (hsc _), trivial⟩)))
end Go.Proofs.YtmohcmghbfhdlaaGreat
end
end
/- Chapter 6: the swaps make the list reversed. -/
section
set_option linter.unusedSimpArgs false
set_option linter.unusedVariables false
section
namespace Go.Me
theorem ot_set (A : List Nat) (i x j : Nat) (hj : j < A.length) : ot (A.set i x) j = if i = j then x else ot A j := by
 unfold ot
 rw [List.getD_eq_getElem?_getD, List.getD_eq_getElem?_getD, List.getElem?_set]
 by_cases h : i = j
 ·subst h
  simp [hj]
 ·simp [h]
theorem rvK_get (o : List Nat) : ∀ k, k + k ≤ o.length → ∀ j, j < o.length → ot (rvK o k) j = if j < k ∨ o.length ≤ j + k then ot o (o.length - 1 - j) else ot o j := by
 intro k
 induction k with
 | zero =>
  intro _ j hj
  rw [if_neg (by omega)]
  rfl
 | succ k ih =>
  intro hk j hj
  have ih := ih (by omega)
  unfold rvK
  rw [ot_set _ _ _ _ (by rw [List.length_set, rvK_len]; exact hj), ot_set _ _ _ _ (by rw [rvK_len]; exact hj), ih k (by omega), ih (o.length - 1 - k) (by omega), ih j hj]
  by_cases h1 : o.length - 1 - k = j
  ·rw [if_pos h1, if_neg (by omega), if_pos (by omega), ← h1, show o.length - 1 - (o.length - 1 - k) = k by omega]
  ·rw [if_neg h1]
   by_cases h2 : k = j
   ·subst h2
    rw [if_pos rfl, if_neg (by omega), if_pos (by omega)]
   ·rw [if_neg h2]
    by_cases h3 : j < k ∨ o.length ≤ j + k
    ·rw [if_pos h3, if_pos (by omega)]
    ·rw [if_neg h3, if_neg (by omega)]
theorem ot_eq (A : List Nat) (j : Nat) (h : j < A.length) : A[j] = ot A j := by
 unfold ot
 rw [List.getD_eq_getElem?_getD, List.getElem?_eq_getElem h]
 rfl
theorem rvK_rev (o : List Nat) : rvK o (o.length / 2) = o.reverse := by
 refine List.ext_getElem (by rw [rvK_len, List.length_reverse]) fun j h1 h2 => ?_
 rw [rvK_len] at h1
 rw [ot_eq, rvK_get o _ (by omega) j h1, List.getElem_reverse, ot_eq]
 by_cases h : j < o.length / 2 ∨ o.length ≤ j + o.length / 2
 ·rw [if_pos h]
 ·rw [if_neg h, show o.length - 1 - j = j by omega]
end Go.Me
end
end
/- Chapter 6: slices.Reverse in a greater memory. -/
section
set_option linter.unusedSimpArgs false
set_option linter.unusedVariables false
section
namespace Go.Proofs.YtmohcmghbfhdlaaGreat
open Go Go.RowKit Go.Ab Go.Me
set_option maxRecDepth 100000
set_option maxHeartbeats 4000000
attribute [local irreducible] OQ OW AL AW AF SW
theorem Reverse_q {m : Mem} {b n c z : Nat} (o : List Nat) (hb : m.at b = some ⟨flatO o, true, z⟩) (hn : o.length = n) (hl : o.length ≤ 1000) : ACalls Tryz.prog 159 [.slice (some ⟨b, 0, none⟩) n c] m (.tuple #[]) (setAll m [(b, some ⟨flatO o.reverse, true, z⟩)]) := by
 subst hn
 have h := Reverse_c o c z hl
 rw [rvK_rev] at h
 have h2 := ACalls.viaS (m := m) (args := [.slice (some ⟨b, 0, none⟩) o.length c]) (v := .tuple #[]) [b] [(b, some ⟨flatO o.reverse, true, z⟩)] [] h ⟨⟨_, hb, rfl, (fun _ => rfl), .inl ⟨rfl, flatO_scal _⟩⟩, trivial⟩ (by simp) ?_ rfl rfl rfl rfl
 ·rw [List.append_nil] at h2
  exact h2
 ·exact ⟨rfl, ⟨rfl, rfl, rfl, .inl ⟨rfl, flatO_scal _⟩⟩, trivial⟩
end Go.Proofs.YtmohcmghbfhdlaaGreat
end
end
/- Chapter 6: the closure of the sort, in a greater memory. -/
section
set_option linter.unusedSimpArgs false
set_option linter.unusedVariables false
section
namespace Go.Proofs.YtmohcmghbfhdlaaGreat
open Go Go.RowKit Go.Ab Go.Me
set_option maxRecDepth 100000
set_option maxHeartbeats 4000000
attribute [local irreducible] OQ OW AL AW AF SW
theorem less_q {m : Mem} {b d c : Nat} {blk blk2 : Blk} (l : List Pn) (i k : Nat) (hi : i < l.length) (hk : k < l.length) (hb : m.at b = some blk) (hc : blk.cells = flatP l) (ho : blk.obj = Ob.plain) (hd : m.at d = some blk2) (hc2 : blk2.cells = [.slice (some ⟨b, 0, none⟩) l.length c]) (ho2 : blk2.obj = Ob.plain) :
  PCalls Tryz.prog 153 [.int .i64 i, .int .i64 k, .pointer (some ⟨d, 0, none⟩)] m (.int .i64 (ordP (pt l i) (pt l k))) := by
 exact PCalls.viaS [b, d] (less_0 l i k c blk.esz blk2.esz hi hk) (ro2p _ _ rfl rfl) ⟨bS hb ho hc (flatP_scal _), bI hd ho2 hc2, trivial⟩ rfl rfl rfl rfl
end Go.Proofs.YtmohcmghbfhdlaaGreat
end
end
/- Chapter 6: the order of points is total. -/
section
set_option linter.unusedSimpArgs false
set_option linter.unusedVariables false
section
namespace Go.Me
theorem ordP_neg (p q : Pn) : Go.Proofs.YtmohcmghbfhdlaaGreat.ordP p q < 0 ↔ lexLt p q := by
 unfold Go.Proofs.YtmohcmghbfhdlaaGreat.ordP Go.Proofs.YtmohcmghbfhdlaaGreat.cmpI lexLt
 repeat' split
 all_goals omega
theorem ordP_tie {p q : Pn} (h1 : ¬ Go.Proofs.YtmohcmghbfhdlaaGreat.ordP p q < 0) (h2 : ¬ Go.Proofs.YtmohcmghbfhdlaaGreat.ordP q p < 0) : p = q := by
 rw [ordP_neg] at h1 h2
 unfold lexLt at h1 h2
 obtain ⟨a, b⟩ := p
 obtain ⟨c, d⟩ := q
 simp only at h1 h2
 obtain rfl : a = c := by omega
 obtain rfl : b = d := by omega
 rfl
theorem lexLt_or {p q : Pn} (h : p ≠ q) : lexLt p q ∨ lexLt q p := by
 rcases Classical.em (Go.Proofs.YtmohcmghbfhdlaaGreat.ordP p q < 0) with h1 | h1
 ·exact .inl ((ordP_neg p q).1 h1)
 ·rcases Classical.em (Go.Proofs.YtmohcmghbfhdlaaGreat.ordP q p < 0) with h2 | h2
  ·exact .inr ((ordP_neg q p).1 h2)
  ·exact absurd (ordP_tie h1 h2) h
end Go.Me
end
end
/- The small memory: calls that hang on the first blocks of the world (package variables that the library reads): they lie as in the world W0. -/
section
set_option linter.unusedSimpArgs false
set_option linter.unusedVariables false
namespace Go
open Go.RowKit
namespace Ab
section
variable {P : Program} {E : Env} {ops : Array Oper} {rest : List Oper} {t : T} {m : Mem} {Q : Post}
end
end Ab
end Go
end
