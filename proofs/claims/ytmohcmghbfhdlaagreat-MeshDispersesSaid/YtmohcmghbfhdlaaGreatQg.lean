/- Chapter 6: the order of the points; the pieces of the hull. -/
import Derived.Test.YtmohcmghbfhdlaaGreatQd
import Derived.Test.YtmohcmghbfhdlaaGreatQf
import Derived.MapKept
import Derived.WideKeyArr
import Derived.Laws.IdiomRangeMap
section
set_option linter.unusedSimpArgs false
set_option linter.unusedVariables false
section
namespace Go.Me
open Go.Ab
theorem flatP_get : ∀ (l : List Pn) (k : Nat), k < l.length → (flatP l)[k * 2]? = some (.int .i64 (pt l k).x) ∧ (flatP l)[k * 2 + 1]? = some (.int .i64 (pt l k).y) := by
 intro l
 induction l with
 | nil => intro k h; simp at h
 | cons a l ih =>
  intro k h
  have e : flatP (a :: l) = .int .i64 a.x :: .int .i64 a.y :: flatP l := rfl
  rw [e]
  cases k with
  | zero => exact ⟨rfl, rfl⟩
  | succ k =>
   have h2 := ih k (by simpa using h)
   rw [show (k + 1) * 2 = k * 2 + 1 + 1 by omega, List.getElem?_cons_succ, List.getElem?_cons_succ, List.getElem?_cons_succ, List.getElem?_cons_succ]
   exact h2
end Go.Me
namespace Go.Proofs.YtmohcmghbfhdlaaGreat
open Go Go.RowKit Go.Ab Go.Me
set_option maxRecDepth 100000
set_option maxHeartbeats 4000000
attribute [local irreducible] OQ OW AL AW AF SW
theorem Or_0 (a b : Int) (c z : Nat) : PCalls Tryz.prog 146 [.slice (some ⟨0, 0, none⟩) 2 c] [some ⟨[.int .i64 a, .int .i64 b], false, z⟩] (.int .i64 (if a ≠ 0 then a else b)) := by
 have h1 : a ≠ 0 → (if a ≠ 0 then a else b) = a := fun h => if_pos h
 have h2 : a = 0 → (if a ≠ 0 then a else b) = b := fun h => if_neg (fun h3 => h3 h)
 generalize (if a ≠ 0 then a else b) = E0 at *
 refine PCalls.en 17 Tryz.func146 rfl (ro1p _ rfl) rfl (fun E => ?_)
 repeat' (first | with_reducible (first | refine Then.n ?_ | refine Then.r ?_ | refine Then.x ?_ | refine InB.n ?_ | refine InB.r ?_ | refine InB.hit ?_) | ((with_reducible refine AL.on ?_); first | ((first | refine AL.mv ?_ | refine AL.as ?_ | ((with_reducible refine AL.k_binOp ?_); first | refine AL.g (OQ.lss rfl rfl) ?_ | refine AL.g (OQ.neq rfl rfl) ?_ | refine AL.g (OQ.addi rfl rfl (by omega)) ?_) | ((with_reducible refine AL.k_call ?_); refine AL.g (OQ.lenS (xt := 26) (r := (none, 1, false)) rfl kr) ?_) | ((with_reducible refine AL.k_indexAddr ?_); refine AL.g (OQ.idxAddr (ty := 26) (z := 1) (g := false) rfl rfl kr (by omega) (by omega)) ?_) | ((with_reducible refine AL.k_load ?_); (refine AL.g (OQ.load1 (ty := 3) rfl kr wl) ?_))); refine AL.nm ?_) | refine AL.nil ?_) | ((with_reducible refine AW.on ?_); first | refine AW.seq ?_ | refine AW.skip ?_ | refine AW.exit ?_ | refine AW.ret ?_ | (refine AW.block (id := 0) ?_; refine AW.unroll 3 ?_) | refine AW.block ?_ | refine AW.region ?_ | (refine AW.conds rfl (fun hc => ?_) (fun hc => ?_) <;> (try replace hc := nc hc) <;> first | (exfalso; contradiction) | skip)) | with_reducible refine AR.s ?_ | ((with_reducible refine FinP.on ?_); (refine FinP.ret (.tmp wl .nil) ?_ rfl); (try simp only [pack, List.drop, List.take]); all_goals (congr 1; omega)))
theorem Or_q {m : Mem} {k c : Nat} {blk : Blk} (a b : Int) (hb : m.at k = some blk) (hc : blk.cells = [.int .i64 a, .int .i64 b]) (ho : blk.obj = Ob.plain := by rfl) : PCalls Tryz.prog 146 [.slice (some ⟨k, 0, none⟩) 2 c] m (.int .i64 (if a ≠ 0 then a else b)) := by
 exact PCalls.viaS [k] (Or_0 a b c blk.esz) (ro1p _ rfl) ⟨⟨_, hb, by unfold Blk.shp Blk.shpR; rw [ho]; rfl, (fun h => nomatch h), .inl ⟨hc, rfl⟩⟩, trivial⟩ rfl rfl rfl rfl
def ordP (p q : Pn) : Int := if cmpI p.x q.x ≠ 0 then cmpI p.x q.x else cmpI p.y q.y
theorem ro2p (b c : Blk) (h : b.own = false) (h' : c.own = false) : Mem.ro [some b, some c] := fun k blk hk => by
 match k, hk with
 | 0, hk => cases hk; exact h
 | 1, hk => cases hk; exact h'
theorem less_0 (l : List Pn) (i k c z z1 : Nat) (hi : i < l.length) (hk : k < l.length) : PCalls Tryz.prog 153 [.int .i64 i, .int .i64 k, .pointer (some ⟨1, 0, none⟩)] [some ⟨flatP l, false, z⟩, some ⟨[.slice (some ⟨0, 0, none⟩) l.length c], false, z1⟩] (.int .i64 (ordP (pt l i) (pt l k))) := by
 have hg := flatP_get l
 have hc2 := fun (a b : Int) (m : Mem) => Compare_q a b m
 have ho := fun (m : Mem) (b : Nat) (blk : Blk) (h1 : m.at b = some blk) (h2 : blk.cells = [.int .i64 (cmpI (pt l i).x (pt l k).x), .int .i64 (cmpI (pt l i).y (pt l k).y)]) (h3 : blk.obj = Ob.plain) => Or_q (c := 2) _ _ h1 h2 h3
 unfold ordP
 generalize cmpI = cmpF at *
 refine PCalls.en 27 Tryz.func153 rfl (ro2p _ _ rfl rfl) rfl (fun E => ?_)
 repeat' (first | with_reducible (refine Then.n ?_) | ((with_reducible refine AL.on ?_); first | ((refine AL.as ?_); refine AL.nm ?_) | ((first | refine AL.pcall (g := 147) rfl kr rfl (hc2 _ _ _) ?_ | refine AL.pcall (g := 146) rfl kr rfl ((by exact ho _ _ _ rfl rfl rfl)) ?_); refine AL.nm ?_) | ((refine AL.w rfl (OW.buildSl (ty := 26) (zs := [.int .i64 0]) (n := 1) (g := false) kr kr rfl rfl rfl (by decide) (by decide) rfl rfl) ?_); refine AL.nm ?_; refine AL.nM ?_) | refine AL.nil ?_) | ((with_reducible refine AW.on ?_); first | refine AW.seq ?_ | refine AW.ret ?_ | (refine AW.drawF (id := 1) 21 #[0, 0, 3, 7, 15, 0, 0, 96, 224, 480, 1023, 0, 0, 6144, 14336, 30720, 0, 0, 196608, 458752, 983040, 2097151, 4194303, 8388607, 16777215] kr kr ?_; (conv => (arg 8; simp only [List.take_succ_cons, List.take_zero]))) | refine AW.region ?_) | ((with_reducible refine AF.on ?_); first | ((first | ((with_reducible refine AF.k_load ?_); first | (refine AF.ql rfl (SW.q (OQ.load1 (ty := 22) rfl kr (by (conv => lhs; whnf))) rfl) ?_) | (refine AF.ql rfl (SW.q (OQ.load1 (ty := 3) rfl kr (by (first | exact (hg _ (by omega)).1 | exact (hg _ (by omega)).2))) rfl) ?_)) | ((with_reducible refine AF.k_move ?_); (refine AF.q 0 (SW.q (OQ.move wl) rfl) ?_)) | ((with_reducible refine AF.k_indexAddr ?_); refine AF.q 0 (SW.q (OQ.idxAddr (ty := 22) (z := 2) (g := true) rfl rfl kr (by omega) (by omega)) rfl) ?_) | ((with_reducible refine AF.k_fieldAddr ?_); first | refine AF.q 0 (SW.q (OQ.fieldA (ty := 65) (i := 0) (n := 1) (off := 0) (g := false) rfl kr (by decide)) rfl) ?_ | refine AF.q 0 (SW.q (OQ.fieldA (ty := 65) (i := 1) (n := 1) (off := 1) (g := false) rfl kr (by decide)) rfl) ?_) | ((with_reducible refine AF.k_call ?_); refine AF.q 2 (SW.pcall (g := 147) rfl kr rfl (hc2 _ _ _) rfl) ?_)); refine AF.nm ?_) | refine AF.nl ?_) | ((with_reducible refine FinP.on ?_); (refine FinP.ret (.tmp wl .nil) ?_ rfl); (try simp only [pack, List.drop, List.take]); all_goals (rfl)))
end Go.Proofs.YtmohcmghbfhdlaaGreat
end
end
/- Chapter 6: the pieces of the reference's hull. -/
section
set_option linter.unusedSimpArgs false
set_option linter.unusedVariables false
section
namespace Go.Me
open Go.Ab
def bdB (l : List Pn) (i k : Nat) : Bool := decide (∀ n, n < l.length → 0 ≤ sgn (cr (pt l i) (pt l k) (pt l n)))
theorem sgn_nn (n : Int) : 0 ≤ sgn n ↔ 0 ≤ n := by
 unfold sgn
 repeat' split
 all_goals omega
theorem sgn_z (n : Int) : sgn n = 0 ↔ n = 0 := by
 unfold sgn
 repeat' split
 all_goals omega
theorem bdB_true {l : List Pn} {i k : Nat} : bdB l i k = true ↔ Bord l (pt l i) (pt l k) := by
 unfold bdB
 rw [decide_eq_true_iff]
 constructor
 ·intro h q hq
  obtain ⟨n, hn, rfl⟩ := mem_pt hq
  exact (sgn_nn _).1 (h n hn)
 ·intro h n hn
  exact (sgn_nn _).2 (h _ (pt_mem hn))
def sgB (p a b : Pn) : Bool := decide (sgn (cr a b p) = 0) && (rgB p.x (if b.x < a.x then b.x else a.x) (if b.x > a.x then b.x else a.x) && rgB p.y (if b.y < a.y then b.y else a.y) (if b.y > a.y then b.y else a.y))
theorem sgB_true {p a b : Pn} : sgB p a b = true ↔ OnSeg p a b := by
 unfold sgB rgB OnSeg
 rw [Bool.and_eq_true, Bool.and_eq_true, decide_eq_true_iff, decide_eq_true_iff, decide_eq_true_iff, sgn_z]
 have e1 : ∀ u v : Int, (if v < u then v else u) = min u v := fun u v => by split <;> omega
 have e2 : ∀ u v : Int, (if v > u then v else u) = max u v := fun u v => by split <;> omega
 rw [e1, e1, e2, e2]
end Go.Me
namespace Go.Proofs.YtmohcmghbfhdlaaGreat
open Go Go.RowKit Go.Ab Go.Me
set_option maxRecDepth 100000
set_option maxHeartbeats 4000000
attribute [local irreducible] OQ OW AL AW AF SW
end Go.Proofs.YtmohcmghbfhdlaaGreat
end
end
/- Chapter 6: the reference's hull of points on a line. -/
section
set_option linter.unusedSimpArgs false
set_option linter.unusedVariables false
section
namespace Go.Me
open Go.Ab
def flK (l : List Pn) : Nat → Bool
 | 0 => true
 | k + 1 => flK l k && decide (sgn (cr (pt l 0) (pt l 1) (pt l (k + 2))) = 0)
theorem flK_true {l : List Pn} : ∀ k : Nat, flK l k = true ↔ ∀ i, 2 ≤ i → i < k + 2 → cr (pt l 0) (pt l 1) (pt l i) = 0 := by
 intro k
 induction k with
 | zero => exact ⟨fun _ i h1 h2 => by omega, fun _ => rfl⟩
 | succ k ih =>
  unfold flK
  rw [Bool.and_eq_true, decide_eq_true_iff, sgn_z, ih]
  constructor
  ·rintro ⟨h1, h2⟩ i h3 h4
   rcases Nat.lt_or_eq_of_le (Nat.le_of_lt_succ h4) with h | rfl
   ·exact h1 i h3 h
   ·exact h2
  ·intro h
   exact ⟨fun i h3 h4 => h i h3 (by omega), h (k + 2) (by omega) (by omega)⟩
theorem flK_flat {l : List Pn} : flK l (l.length - 2) = true ↔ FlatR l := by
 rw [flK_true]
 unfold FlatR
 constructor
 ·intro h i h1 h2
  exact h i h1 (by omega)
 ·intro h i h1 h2
  exact h i h1 (by omega)
end Go.Me
namespace Go.Proofs.YtmohcmghbfhdlaaGreat
open Go Go.RowKit Go.Ab Go.Me
set_option maxRecDepth 100000
set_option maxHeartbeats 4000000
attribute [local irreducible] OQ OW AL AW AF SW
end Go.Proofs.YtmohcmghbfhdlaaGreat
end
end
/- Chapter 6: small functions of the nets; the area of a ring of corners. -/
section
set_option linter.unusedSimpArgs false
set_option linter.unusedVariables false
section
namespace Go.Me
open Go.Ab
def wrI (n : Int) : Int := ((n + 2048).tmod 4096 + 4096).tmod 4096 - 2048
theorem tmod_b (a : Int) : -4095 ≤ a.tmod 4096 ∧ a.tmod 4096 ≤ 4095 := by
 have h : (a.tmod 4096).natAbs < 4096 := by
  rw [Int.natAbs_tmod]
  exact Nat.mod_lt _ (by decide)
 omega
theorem wrI_bd (n : Int) : -2048 ≤ wrI n ∧ wrI n ≤ 2047 := by
 have h1 := tmod_b (n + 2048)
 have h2 := Int.tmod_nonneg (a := (n + 2048).tmod 4096 + 4096) 4096 (by omega)
 have h3 := tmod_b ((n + 2048).tmod 4096 + 4096)
 unfold wrI
 omega
def flatO (o : List Nat) : List Value := o.map fun n : Nat => .int .i64 (n : Int)
def ot (o : List Nat) (k : Nat) : Nat := o.getD k 0
theorem flatO_scal (o : List Nat) : (flatO o).all Ab.scal = true := by
 unfold flatO
 rw [List.all_map]
 exact List.all_eq_true.2 fun _ _ => rfl
theorem flatO_get (o : List Nat) (k : Nat) (hk : k < o.length) : (flatO o)[k]? = some (.int .i64 (ot o k)) := by
 unfold flatO ot
 rw [List.getElem?_map, List.getElem?_eq_getElem hk, List.getD_eq_getElem?_getD, List.getElem?_eq_getElem hk]
 rfl
def arS (l : List Pn) (o : List Nat) : Nat → Int
 | 0 => 0
 | k + 1 => arS l o k + ((pt l (ot o k)).x * (pt l (ot o ((k + 1) % o.length))).y - (pt l (ot o k)).y * (pt l (ot o ((k + 1) % o.length))).x)
end Go.Me
namespace Go.Proofs.YtmohcmghbfhdlaaGreat
open Go Go.RowKit Go.Ab Go.Me
set_option maxRecDepth 100000
set_option maxHeartbeats 4000000
attribute [local irreducible] OQ OW AL AW AF SW
theorem wrap_q (n : Int) (hn : -1000000000 ≤ n ∧ n ≤ 1000000000) (m : Mem) : PCalls Tryz.prog 126 [.int .i64 n] m (.int .i64 (wrI n)) := by
 refine PCalls.any ?_ rfl rfl m
 have h1 := tmod_b (n + 2048)
 have h3 := tmod_b ((n + 2048).tmod 4096 + 4096)
 unfold wrI
 refine PCalls.en 8 Tryz.func126 rfl (ro_nil) rfl (fun E => ?_)
 repeat' (first | with_reducible (refine Then.n ?_) | ((with_reducible refine AL.on ?_); first | ((first | ((with_reducible refine AL.k_binOp ?_); first | refine AL.g (OQ.addi rfl rfl (by omega)) ?_ | refine AL.g (OQ.rem rfl rfl (by omega)) ?_ | refine AL.g (OQ.subi rfl rfl (by omega)) ?_) | refine AL.as ?_ | refine AL.mv ?_); refine AL.nm ?_) | refine AL.nil ?_) | ((with_reducible refine AW.on ?_); first | refine AW.seq ?_ | refine AW.ret ?_ | refine AW.region ?_) | ((with_reducible refine FinP.on ?_); (refine FinP.ret (.tmp wl .nil) ?_ rfl); (try simp only [pack, List.drop, List.take]); all_goals (rfl)))
theorem around_q (a b c : Int) (m : Mem) : PCalls Tryz.prog 128 [.agg #[.int .i64 a, .int .i64 b, .int .i64 c]] m (.agg #[.int .i64 a, .int .i64 b, .int .i64 b, .int .i64 c, .int .i64 c, .int .i64 a]) := by
 refine PCalls.any ?_ rfl rfl m
 refine PCalls.en 18 Tryz.func128 rfl (ro_nil) rfl (fun E => ?_)
 repeat' (first | with_reducible (refine Then.n ?_) | ((with_reducible refine AL.on ?_); first | ((first | ((with_reducible refine AL.k_indexAddr ?_); refine AL.g (OQ.idxPtr (ty := 62) (n := 1) (l := 3) (g := false) rfl rfl kr (by omega) (by omega)) ?_) | ((with_reducible refine AL.k_load ?_); (refine AL.g (OQ.load1 (ty := 3) rfl kr wl) ?_))); refine AL.nm ?_) | ((first | refine AL.g (OQ.buildA (ty := 52) (zs := [.int .i64 0, .int .i64 0]) (n := 1) (k := 2) (g := false) kr rfl kr rfl rfl rfl) ?_ | refine AL.g (OQ.buildA (ty := 170) (zs := [.int .i64 0, .int .i64 0, .int .i64 0, .int .i64 0, .int .i64 0, .int .i64 0]) (n := 2) (k := 3) (g := true) kr rfl kr rfl rfl rfl) ?_); refine AL.nm ?_) | ((first | refine AL.bx ?_ | ((with_reducible refine AL.k_alloc ?_); refine AL.w rfl (OW.alloc (ty := 170) (z := [.int .i64 0, .int .i64 0, .int .i64 0, .int .i64 0, .int .i64 0, .int .i64 0]) kr rfl) ?_) | ((with_reducible refine AL.k_store ?_); (refine AL.w rfl (OW.store (ty := 170) (n := 6) rfl wl rfl rfl kr rfl rfl (by decide) rfl (Nat.le_of_ble_eq_true rfl) (by intro r h; cases h)) ?_))); refine AL.nm ?_; refine AL.nM ?_) | refine AL.nil ?_) | ((with_reducible refine AW.on ?_); first | refine AW.seq ?_ | refine AW.ret ?_ | refine AW.region ?_) | ((with_reducible refine FinP.on ?_); (refine FinP.ret (.cellN (n := 6) wl kr kr rfl .nil) ?_ rfl); (try simp only [pack, List.drop, List.take]); all_goals (rfl)))
theorem tooMuch_q (n : Int) (m : Mem) : PCalls Tryz.prog 136 [.int .i64 n] m (.bool (!rgB n 0 1000)) := by
 refine PCalls.any ?_ rfl rfl m
 have hw := fun m => within_q n 0 1000 m
 refine PCalls.en 5 Tryz.func136 rfl (ro_nil) rfl (fun E => ?_)
 repeat' (first | with_reducible (refine Then.n ?_) | ((with_reducible refine AL.on ?_); first | ((first | refine AL.as ?_ | refine AL.mv ?_ | ((with_reducible refine AL.k_unOp ?_); refine AL.g (OQ.not rfl) ?_)); refine AL.nm ?_) | ((refine AL.pcall (g := 89) rfl kr rfl (hw _) ?_); refine AL.nm ?_) | refine AL.nil ?_) | ((with_reducible refine AW.on ?_); first | refine AW.seq ?_ | refine AW.ret ?_ | refine AW.region ?_) | ((with_reducible refine FinP.on ?_); (refine FinP.ret (.tmp wl .nil) ?_ rfl); (try simp only [pack, List.drop, List.take]); all_goals (rfl)))
theorem byEdges_q (a b c d : Int) (m : Mem) : PCalls Tryz.prog 112 [.agg #[.int .i64 a, .int .i64 b], .agg #[.int .i64 c, .int .i64 d]] m (.int .i64 (ordP ⟨a, b⟩ ⟨c, d⟩)) := by
 refine PCalls.any ?_ rfl rfl m
 have hc := fun (a b : Int) (m : Mem) => Compare_q a b m
 have ho := fun (m : Mem) (k : Nat) (blk : Blk) (h1 : m.at k = some blk) (h2 : blk.cells = [.int .i64 (cmpI a c), .int .i64 (cmpI b d)]) (h3 : blk.obj = Ob.plain) => Or_q (c := 2) _ _ h1 h2 h3
 unfold ordP
 generalize cmpI = cmpF at *
 refine PCalls.en 15 Tryz.func112 rfl (ro_nil) rfl (fun E => ?_)
 repeat' (first | with_reducible (refine Then.n ?_) | ((with_reducible refine AL.on ?_); first | ((refine AL.as ?_); refine AL.nm ?_) | ((first | refine AL.pcall (g := 147) rfl kr rfl (hc _ _ _) ?_ | refine AL.pcall (g := 146) rfl kr rfl ((by exact ho _ _ _ rfl rfl rfl)) ?_); refine AL.nm ?_) | ((first | refine AL.bx ?_ | ((with_reducible refine AL.k_buildSlice ?_); refine AL.w rfl (OW.buildSl (ty := 26) (zs := [.int .i64 0]) (n := 1) (g := false) kr kr rfl rfl rfl (by decide) (by decide) rfl rfl) ?_)); refine AL.nm ?_; refine AL.nM ?_) | refine AL.nil ?_) | ((with_reducible refine AW.on ?_); first | refine AW.seq ?_ | refine AW.ret ?_ | (refine AW.drawF (id := 1) 9 #[0, 1, 0, 4, 15, 0, 32, 0, 128, 511, 1023, 2047, 4095] kr kr ?_; (conv => (arg 8; simp only [List.take_succ_cons, List.take_zero]))) | refine AW.region ?_) | ((with_reducible refine AF.on ?_); first | ((first | ((with_reducible refine AF.k_indexAddr ?_); refine AF.q 0 (SW.q (OQ.idxPtr (ty := 52) (n := 1) (l := 2) (g := false) rfl rfl kr (by omega) (by omega)) rfl) ?_) | ((with_reducible refine AF.k_load ?_); (refine AF.ql rfl (SW.q (OQ.load1 (ty := 3) rfl kr wl) rfl) ?_)) | ((with_reducible refine AF.k_call ?_); refine AF.q 2 (SW.pcall (g := 147) rfl kr rfl (hc _ _ _) rfl) ?_)); refine AF.nm ?_) | refine AF.nl ?_) | ((with_reducible refine FinP.on ?_); (refine FinP.ret (.tmp wl .nil) ?_ rfl); (try simp only [pack, List.drop, List.take]); all_goals (rfl)))
end Go.Proofs.YtmohcmghbfhdlaaGreat
end
end
/- Chapter 6: the area of a ring of corners. -/
section
set_option linter.unusedSimpArgs false
set_option linter.unusedVariables false
section
namespace Go.Me
open Go.Ab
theorem tmod_nat (k n : Nat) : ((k : Int) + 1).tmod n = (((k + 1) % n : Nat) : Int) := by
 rw [Int.ofNat_tmod]
 rfl
theorem arS_bd {l : List Pn} {o : List Nat} (hok : ∀ k, k < o.length → (pt l (ot o k)).Ok) : ∀ k : Nat, k ≤ o.length → -200000000 * (k : Int) ≤ arS l o k ∧ arS l o k ≤ 200000000 * k := by
 intro k
 induction k with
 | zero => intro _; simp [arS]
 | succ k ih =>
  intro h
  have h1 := ih (by omega)
  have h2 := (hok k (by omega)).b
  have h3 := (hok ((k + 1) % o.length) (Nat.mod_lt _ (by omega))).b
  have h4 := mul_bd (m := (pt l (ot o k)).x) (n := (pt l (ot o ((k + 1) % o.length))).y) (a := 10000) (b := 10000) h2.1 h3.2 (by decide)
  have h5 := mul_bd (m := (pt l (ot o k)).y) (n := (pt l (ot o ((k + 1) % o.length))).x) (a := 10000) (b := 10000) h2.2 h3.1 (by decide)
  unfold arS
  omega
end Go.Me
namespace Go.Proofs.YtmohcmghbfhdlaaGreat
open Go Go.RowKit Go.Ab Go.Me
set_option maxRecDepth 100000
set_option maxHeartbeats 4000000
attribute [local irreducible] OQ OW AL AW AF SW
theorem area_0 (l : List Pn) (o : List Nat) (hok : ∀ k, k < l.length → (pt l k).Ok) (ho : ∀ k, k < o.length → ot o k < l.length) (c c2 z z2 : Nat) (hl : o.length ≤ 1000) :
  PCalls Tryz.prog 129 [.slice (some ⟨0, 0, none⟩) l.length c, .slice (some ⟨1, 0, none⟩) o.length c2] [some ⟨flatP l, false, z⟩, some ⟨flatO o, false, z2⟩] (.int .i64 (arS l o o.length)) := by
 have hld := fun (k : Nat) (hk : k < l.length) (r : Mem) => flatP_ld (m := some ⟨flatP l, false, z⟩ :: r) (b := 0) (l := l) rfl rfl k hk
 have hg := fun (k : Nat) (hk : k < o.length) => flatO_get o k hk
 have hn : ∀ k, k < o.length → ((k : Int) + 1).tmod o.length = (((k + 1) % o.length : Nat) : Int) := fun k _ => tmod_nat k o.length
 have hm : ∀ k, k < o.length → (k + 1) % o.length < o.length := fun k hk => Nat.mod_lt _ (by omega)
 have hpb := fun (k : Nat) (hk : k < o.length) => (hok _ (ho k hk)).b
 have hab := arS_bd (l := l) (o := o) fun k hk => hok _ (ho k hk)
 have hs : ∀ k, arS l o (k + 1) = arS l o k + ((pt l (ot o k)).x * (pt l (ot o ((k + 1) % o.length))).y - (pt l (ot o k)).y * (pt l (ot o ((k + 1) % o.length))).x) := fun k => rfl
 have h00 : arS l o 0 = 0 := rfl
 have hg2 : ∀ k, k < o.length → (flatO o)[(((k : Int) + 1).tmod o.length).toNat]? = some (.int .i64 (ot o ((k + 1) % o.length))) := fun k hk => by
  rw [hn k hk]
  exact hg _ (hm k hk)
 generalize arS l o = F at *
 refine PCalls.enJ 45 Tryz.func129 rfl (ro2p _ _ rfl rfl) rfl (fun E hE => ?_)
 repeat' (first | with_reducible (first | refine Then.n ?_ | refine Then.x ?_ | refine InB.n ?_ | refine InB.hit ?_) | ((with_reducible refine AL.on ?_); first | ((first | refine AL.mv ?_ | ((with_reducible refine AL.k_binOp ?_); first | refine AL.g (OQ.lss rfl rfl) ?_ | refine AL.g (OQ.muli rfl rfl (by omega)) ?_ | refine AL.g (OQ.subi rfl rfl (by omega)) ?_ | refine AL.g (OQ.addi rfl rfl (by omega)) ?_) | ((with_reducible refine AL.k_load ?_); (refine AL.g (OQ.load1 (ty := 3) rfl kr (by first | (exact hg _ (by omega)) | (conv => lhs; whnf))) ?_)) | refine AL.as ?_ | ((with_reducible refine AL.k_call ?_); refine AL.g (OQ.lenS (xt := 26) (r := (none, 1, false)) rfl kr) ?_)); refine AL.nm ?_) | ((first | ((with_reducible refine AL.k_indexAddr ?_); refine AL.g (OQ.idxAddr (ty := 26) (z := 1) (g := false) rfl rfl kr (by omega) (by omega)) ?_) | ((with_reducible refine AL.k_fieldAddr ?_); first | refine AL.g (OQ.fieldA (ty := 65) (i := 0) (n := 1) (off := 0) (g := false) rfl kr (by decide)) ?_ | refine AL.g (OQ.fieldA (ty := 65) (i := 1) (n := 1) (off := 1) (g := false) rfl kr (by decide)) ?_)); refine AL.nm ?_) | (((refine AL.w rfl (OW.store (ty := 65) (n := 2) rfl wl rfl rfl kr rfl rfl (by decide) rfl (Nat.le_of_ble_eq_true rfl) (by intro r h; cases h)) ?_)); refine AL.nm ?_; refine AL.nM ?_) | refine AL.nil ?_) | ((with_reducible refine AW.on ?_); first | refine AW.seq ?_ | refine AW.skip ?_ | refine AW.exit ?_ | refine AW.ret ?_ | ((refine AW.block (id := 0) ?_); (refine AW.fk [0, 1, 5, 10, 11, 12] ?_); (refine AW.loop (fun n' t' m => ∃ k : Nat, n' = o.length - k ∧ k ≤ o.length ∧ t' = (mtz 47 0 [(0, .slice (some ⟨0, 0, none⟩) l.length c), (1, .slice (some ⟨1, 0, none⟩) o.length c2), (5, .int .i64 (F k)), (10, .slice (some ⟨1, 0, none⟩) o.length c2), (11, .int .i64 (o.length)), (12, .int .i64 (k))]) ∧ m = [some ⟨flatP l, false, z⟩, some ⟨flatO o, false, z2⟩]) (o.length) (by exact ⟨0, rfl, Nat.zero_le _, by rw [h00]; rfl, rfl⟩) ?_); (rintro n' t' m ⟨k, rfl, hk, rfl, rfl⟩); (refine AW.nT ?_)) | refine AW.block ?_ | (refine AW.drawF (id := 5) 18 #[0, 0, 3, 7, 0, 0, 0, 64, 0, 256, 960, 2016, 4064, 8176, 16368, 0, 0, 98319, 262143] kr kr ?_; (conv => (arg 8; simp only [List.take_succ_cons, List.take_zero])); ((have hk3 : k < o.length := (by omega); have e1 := hn k hk3; have e2 := hm k hk3; have e3 := ho k hk3; have e4 := ho _ e2; have e5 := hpb k hk3; have e6 := hpb _ e2; have e7 := hab k (by omega); have e8 := mul_bd (m := (pt l (ot o k)).x) (n := (pt l (ot o ((k + 1) % o.length))).y) (a := 10000) (b := 10000) e5.1 e6.2 (by decide); have e9 := mul_bd (m := (pt l (ot o k)).y) (n := (pt l (ot o ((k + 1) % o.length))).x) (a := 10000) (b := 10000) e5.2 e6.1 (by decide)))) | refine AW.region ?_ | (refine AW.conds rfl (fun hc => ?_) (fun hc => ?_) <;> (try replace hc := nc hc) <;> skip)) | ((with_reducible refine AF.on ?_); first | ((first | ((with_reducible refine AF.k_move ?_); (refine AF.q 0 (SW.q (OQ.move wl) rfl) ?_)) | ((with_reducible refine AF.k_load ?_); first | refine AF.ql rfl (SW.q (OQ.loadN (ty := 65) (n := 2) rfl kr kr (by (first | exact hld _ (ho k (by omega)) _ | exact hld _ (ho _ (hm k (by omega))) _))) rfl) ?_ | (refine AF.ql rfl (SW.q (OQ.load1 (ty := 3) rfl kr (by (exact hg2 k (by omega)))) rfl) ?_)) | ((with_reducible refine AF.k_binOp ?_); first | refine AF.q 0 (SW.q (OQ.addi rfl rfl (by omega)) rfl) ?_ | refine AF.q 0 (SW.q (OQ.rem rfl rfl (by omega)) rfl) ?_) | ((with_reducible refine AF.k_indexAddr ?_); first | refine AF.q 0 (SW.q (OQ.idxAddr (ty := 22) (z := 2) (g := true) rfl rfl kr (by omega) (by omega)) rfl) ?_ | refine AF.q 0 (SW.q (OQ.idxAddr (ty := 26) (z := 1) (g := false) rfl rfl kr (by omega) (by omega)) rfl) ?_) | ((with_reducible refine AF.k_call ?_); refine AF.q 0 (SW.q (OQ.lenS (xt := 26) (r := (none, 1, false)) rfl kr) rfl) ?_)); refine AF.nm ?_) | ((first | ((with_reducible refine AF.k_alloc ?_); refine AF.n1 0 (SW.w (OW.alloc (ty := 65) (z := [.int .i64 0, .int .i64 0]) kr rfl) rfl) rfl ?_) | ((with_reducible refine AF.k_store ?_); (refine AF.sl rfl (SW.w (OW.store (ty := 65) (n := 2) rfl wl rfl rfl kr rfl rfl (by decide) rfl (Nat.le_of_ble_eq_true rfl) (by intro r h; cases h)) rfl) rfl ?_))); refine AF.nm ?_; (conv => (arg 10; try tactic => exact nrmF))) | refine AF.nl ?_) | ((with_reducible refine ex_on ?_); (refine ⟨o.length - (k + 1), _, _, by omega, ?_, k + 1, rfl, by omega, rfl, rfl⟩; rw [hs k]; exact Wk.keep 2 [] (Nat.le_of_eq hE) rfl rfl (by repeat (first | exact RenT.nil | refine RenT.jk ?_ | refine RenT.val (by rfl) (by rfl) ?_)) ⟨kl rfl (flatP_scal l), kl rfl (flatO_scal o), trivial⟩)) | ((with_reducible refine FinJ.on ?_); (obtain rfl : k = o.length := (by omega); exact FinJ.ret (.tmp wl .nil) (jle_flat rfl))))
end Go.Proofs.YtmohcmghbfhdlaaGreat
end
end
/- Chapter 6: Hull of wrong points. -/
section
set_option linter.unusedSimpArgs false
set_option linter.unusedVariables false
section
namespace Go.Proofs.YtmohcmghbfhdlaaGreat
open Go Go.RowKit Go.Ab Go.Me
set_option maxRecDepth 100000
set_option maxHeartbeats 4000000
attribute [local irreducible] OQ OW AL AW AF SW
theorem CheckPoints_q {m : Mem} {b n c : Nat} {blk : Blk} (l : List Pn) (hb : m.at b = some blk) (hc : blk.cells = flatP l) (hn : l.length = n) (hl : l.length ≤ 1000000) (hz : blk.esz = 0 ∨ blk.esz = 2) (ho : blk.obj = Ob.plain := by rfl) : PCalls Tryz.prog 121 [.slice (some ⟨b, 0, none⟩) n c] m (.tuple #[.int .i64 (cpA l), .int .i64 (cpB l)]) := by
 subst hn
 exact PCalls.viaS [b] (CheckPoints_0 l c blk.esz hl hz) (ro1p _ rfl) ⟨bS hb ho hc (flatP_scal _), trivial⟩ rfl rfl rfl rfl
end Go.Proofs.YtmohcmghbfhdlaaGreat
end
end
/- Chapter 6: slices.Reverse of numbers, in place. -/
section
set_option linter.unusedSimpArgs false
set_option linter.unusedVariables false
section
namespace Go.Me
open Go.Ab
def rvK (o : List Nat) : Nat → List Nat
 | 0 => o
 | k + 1 => ((rvK o k).set k (ot (rvK o k) (o.length - 1 - k))).set (o.length - 1 - k) (ot (rvK o k) k)
theorem rvK_len (o : List Nat) : ∀ k, (rvK o k).length = o.length := by
 intro k
 induction k with
 | zero => rfl
 | succ k ih => unfold rvK; rw [List.length_set, List.length_set, ih]
theorem flatO_set (o : List Nat) (k x : Nat) : flatO (o.set k x) = (flatO o).set k (.int .i64 x) := by
 unfold flatO
 rw [List.map_set]
theorem rvK_step (o : List Nat) (k : Nat) : flatO (rvK o (k + 1)) = ((flatO (rvK o k)).set k (.int .i64 (ot (rvK o k) (o.length - 1 - k)))).set (o.length - 1 - k) (.int .i64 (ot (rvK o k) k)) := by
 rw [← flatO_set, ← flatO_set]
 rfl
theorem flatO_len (o : List Nat) : (flatO o).length = o.length := List.length_map _
end Go.Me
namespace Go.Proofs.YtmohcmghbfhdlaaGreat
open Go Go.RowKit Go.Ab Go.Me
set_option maxRecDepth 100000
set_option maxHeartbeats 4000000
attribute [local irreducible] OQ OW AL AW AF SW
theorem Reverse_c (o : List Nat) (c z : Nat) (hl : o.length ≤ 1000) : ACalls Tryz.prog 159 [.slice (some ⟨0, 0, none⟩) o.length c] [some ⟨flatO o, true, z⟩] (.tuple #[]) [some ⟨flatO (rvK o (o.length / 2)), true, z⟩] := by
 have hlen := rvK_len o
 have hfl := fun k => (flatO_len (rvK o k)).trans (rvK_len o k)
 have g1 := fun (k : Nat) (hk : k < o.length) => flatO_get (rvK o k) k (by rw [rvK_len]; exact hk)
 have g2 := fun (k : Nat) (hk : k < o.length) => flatO_get (rvK o k) (o.length - 1 - k) (by rw [rvK_len]; omega)
 have ht : ∀ k, k < o.length → ((o.length : Int) - 1 - k).toNat = o.length - 1 - k := fun k hk => by omega
 have g3 : ∀ k, k < o.length → (flatO (rvK o k))[((o.length : Int) - 1 - k).toNat]? = some (.int .i64 (ot (rvK o k) (o.length - 1 - k))) := fun k hk => by rw [ht k hk]; exact g2 k hk
 have hS := rvK_step o
 have h0 : rvK o 0 = o := rfl
 have hsc := fun k => flatO_scal (rvK o k)
 refine ACalls.en 27 Tryz.func159 rfl rfl (fun E hE => ?_)
 repeat' (first | with_reducible (first | refine Then.n ?_ | refine Then.x ?_ | refine InB.n ?_ | refine InB.hit ?_) | ((with_reducible refine AL.on ?_); first | ((first | refine AL.mv ?_ | ((with_reducible refine AL.k_binOp ?_); first | refine AL.g (OQ.subi rfl rfl (by omega)) ?_ | refine AL.g (OQ.lss rfl rfl) ?_ | refine AL.g (OQ.addi rfl rfl (by omega)) ?_) | refine AL.as ?_ | ((with_reducible refine AL.k_call ?_); refine AL.g (OQ.lenS (xt := 26) (r := (none, 1, false)) rfl kr) ?_)); refine AL.nm ?_) | ((refine AL.g (OQ.idxAddr (ty := 26) (z := 1) (g := false) rfl rfl kr (by omega) (by omega)) ?_); refine AL.nm ?_) | (((refine AL.w rfl (OW.store (ty := 3) (n := 1) rfl wl rfl rfl kr rfl rfl (by decide) rfl (by (((simp only [List.length_set, hfl]; omega)))) (by intro r h; cases h)) ?_)); refine AL.nm ?_; refine AL.nM ?_) | refine AL.nil ?_) | ((with_reducible refine AW.on ?_); first | refine AW.seq ?_ | refine AW.skip ?_ | refine AW.exit ?_ | ((refine AW.block (id := 0) ?_); (refine AW.fk [0, 2, 3] ?_); (refine AW.loop (fun n' t' m => ∃ k : Nat, n' = o.length - k ∧ k + k ≤ o.length ∧ t' = [.slice (some ⟨0, 0, none⟩) o.length c, jk, .int .i64 (k), .int .i64 ((o.length : Int) - 1 - k), jk, jk, jk, jk, jk, jk, jk, jk, jk, jk, jk, jk, jk, jk, jk, jk, jk, jk, jk, jk, jk, jk, jk, jk] ∧ m = [some ⟨flatO (rvK o k), true, z⟩]) (o.length) (by exact ⟨0, rfl, by omega, by simp, by rw [h0]⟩) ?_); (rintro n' t' m ⟨k, rfl, hk, rfl, rfl⟩)) | refine AW.block ?_ | (refine AW.drawF (id := 3) 14 #[0, 0, 0, 0, 0, 0, 48, 112, 0, 0, 768, 1792, 4083, 8179, 16383, 32767] kr kr ?_; (conv => (arg 8; simp only [List.take_succ_cons, List.take_zero])); ((have hk3 : k < o.length := (by omega); have e1 := hfl k; have e2 := ht k hk3))) | refine AW.region ?_ | (refine AW.conds rfl (fun hc => ?_) (fun hc => ?_) <;> (try replace hc := nc hc) <;> skip)) | ((with_reducible refine AF.on ?_); first | ((first | ((with_reducible refine AF.k_move ?_); (refine AF.q 0 (SW.q (OQ.move wl) rfl) ?_)) | ((with_reducible refine AF.k_indexAddr ?_); refine AF.q 0 (SW.q (OQ.idxAddr (ty := 26) (z := 1) (g := false) rfl rfl kr (by omega) (by omega)) rfl) ?_) | ((with_reducible refine AF.k_load ?_); (refine AF.ql rfl (SW.q (OQ.load1 (ty := 3) rfl kr (by (first | exact g3 k (by omega) | exact g1 k (by omega)))) rfl) ?_))); refine AF.nm ?_) | (((refine AF.sl rfl (SW.w (OW.store (ty := 3) (n := 1) rfl wl rfl rfl kr rfl rfl (by decide) rfl (by (((simp only [List.length_set, hfl]; omega)))) (by intro r h; cases h)) rfl) rfl ?_)); refine AF.nm ?_; (conv => (arg 10; try tactic => exact nrmF))) | refine AF.nl ?_) | ((with_reducible refine ex_on ?_); (rw [show (o.length : Int) - 1 - k - 1 = (o.length : Int) - 1 - ((k + 1 : Nat) : Int) by omega, ht k (by omega)]; refine ⟨o.length - (k + 1), _, _, by omega, ?_, k + 1, rfl, by omega, rfl, rfl⟩; have hs2 := hsc (k + 1); rw [hS k] at hs2 ⊢; exact Wk.keep 1 [] (by rw [hE]; exact Nat.le_refl 1) rfl rfl (by repeat (first | exact RenT.nil | refine RenT.jk ?_ | refine RenT.val (by rfl) (by rfl) ?_)) ⟨⟨_, rfl, rfl, rfl, .inl ⟨rfl, hs2⟩⟩, trivial⟩)) | ((with_reducible refine FinA.on ?_); (obtain rfl : k = o.length / 2 := (by omega); refine FinA.keep 1 [] (.inr rfl) .nil rfl rfl (Nat.le_of_eq hE) rfl rfl ⟨kl rfl (hsc _), trivial⟩)))
end Go.Proofs.YtmohcmghbfhdlaaGreat
end
end
/- Chapter 6: the swaps make the list reversed. -/
section
set_option linter.unusedSimpArgs false
set_option linter.unusedVariables false
section
namespace Go.Me
theorem ot_set (A : List Nat) (i x j : Nat) (hj : j < A.length) : ot (A.set i x) j = if i = j then x else ot A j := by
 unfold ot
 rw [List.getD_eq_getElem?_getD, List.getD_eq_getElem?_getD, List.getElem?_set]
 by_cases h : i = j
 ·subst h
  simp [hj]
 ·simp [h]
theorem rvK_get (o : List Nat) : ∀ k, k + k ≤ o.length → ∀ j, j < o.length → ot (rvK o k) j = if j < k ∨ o.length ≤ j + k then ot o (o.length - 1 - j) else ot o j := by
 intro k
 induction k with
 | zero =>
  intro _ j hj
  rw [if_neg (by omega)]
  rfl
 | succ k ih =>
  intro hk j hj
  have ih := ih (by omega)
  unfold rvK
  rw [ot_set _ _ _ _ (by rw [List.length_set, rvK_len]; exact hj), ot_set _ _ _ _ (by rw [rvK_len]; exact hj), ih k (by omega), ih (o.length - 1 - k) (by omega), ih j hj]
  by_cases h1 : o.length - 1 - k = j
  ·rw [if_pos h1, if_neg (by omega), if_pos (by omega), ← h1, show o.length - 1 - (o.length - 1 - k) = k by omega]
  ·rw [if_neg h1]
   by_cases h2 : k = j
   ·subst h2
    rw [if_pos rfl, if_neg (by omega), if_pos (by omega)]
   ·rw [if_neg h2]
    by_cases h3 : j < k ∨ o.length ≤ j + k
    ·rw [if_pos h3, if_pos (by omega)]
    ·rw [if_neg h3, if_neg (by omega)]
theorem ot_eq (A : List Nat) (j : Nat) (h : j < A.length) : A[j] = ot A j := by
 unfold ot
 rw [List.getD_eq_getElem?_getD, List.getElem?_eq_getElem h]
 rfl
theorem rvK_rev (o : List Nat) : rvK o (o.length / 2) = o.reverse := by
 refine List.ext_getElem (by rw [rvK_len, List.length_reverse]) fun j h1 h2 => ?_
 rw [rvK_len] at h1
 rw [ot_eq, rvK_get o _ (by omega) j h1, List.getElem_reverse, ot_eq]
 by_cases h : j < o.length / 2 ∨ o.length ≤ j + o.length / 2
 ·rw [if_pos h]
 ·rw [if_neg h, show o.length - 1 - j = j by omega]
end Go.Me
end
end
/- Chapter 6: slices.Reverse in a greater memory. -/
section
set_option linter.unusedSimpArgs false
set_option linter.unusedVariables false
section
namespace Go.Proofs.YtmohcmghbfhdlaaGreat
open Go Go.RowKit Go.Ab Go.Me
set_option maxRecDepth 100000
set_option maxHeartbeats 4000000
attribute [local irreducible] OQ OW AL AW AF SW
theorem Reverse_q {m : Mem} {b n c z : Nat} (o : List Nat) (hb : m.at b = some ⟨flatO o, true, z⟩) (hn : o.length = n) (hl : o.length ≤ 1000) : ACalls Tryz.prog 159 [.slice (some ⟨b, 0, none⟩) n c] m (.tuple #[]) (setAll m [(b, some ⟨flatO o.reverse, true, z⟩)]) := by
 subst hn
 have h := Reverse_c o c z hl
 rw [rvK_rev] at h
 have h2 := ACalls.viaS (m := m) (args := [.slice (some ⟨b, 0, none⟩) o.length c]) (v := .tuple #[]) [b] [(b, some ⟨flatO o.reverse, true, z⟩)] [] h ⟨⟨_, hb, rfl, (fun _ => rfl), .inl ⟨rfl, flatO_scal _⟩⟩, trivial⟩ (by simp) ?_ rfl rfl rfl rfl
 ·rw [List.append_nil] at h2
  exact h2
 ·exact ⟨rfl, ⟨rfl, rfl, rfl, .inl ⟨rfl, flatO_scal _⟩⟩, trivial⟩
end Go.Proofs.YtmohcmghbfhdlaaGreat
end
end
/- Chapter 6: the closure of the sort, in a greater memory. -/
section
set_option linter.unusedSimpArgs false
set_option linter.unusedVariables false
section
namespace Go.Proofs.YtmohcmghbfhdlaaGreat
open Go Go.RowKit Go.Ab Go.Me
set_option maxRecDepth 100000
set_option maxHeartbeats 4000000
attribute [local irreducible] OQ OW AL AW AF SW
theorem less_q {m : Mem} {b d c : Nat} {blk blk2 : Blk} (l : List Pn) (i k : Nat) (hi : i < l.length) (hk : k < l.length) (hb : m.at b = some blk) (hc : blk.cells = flatP l) (ho : blk.obj = Ob.plain) (hd : m.at d = some blk2) (hc2 : blk2.cells = [.slice (some ⟨b, 0, none⟩) l.length c]) (ho2 : blk2.obj = Ob.plain) :
  PCalls Tryz.prog 153 [.int .i64 i, .int .i64 k, .pointer (some ⟨d, 0, none⟩)] m (.int .i64 (ordP (pt l i) (pt l k))) := by
 exact PCalls.viaS [b, d] (less_0 l i k c blk.esz blk2.esz hi hk) (ro2p _ _ rfl rfl) ⟨bS hb ho hc (flatP_scal _), bI hd ho2 hc2, trivial⟩ rfl rfl rfl rfl
end Go.Proofs.YtmohcmghbfhdlaaGreat
end
end
/- Chapter 6: the order of points is total. -/
section
set_option linter.unusedSimpArgs false
set_option linter.unusedVariables false
section
namespace Go.Me
theorem ordP_neg (p q : Pn) : Go.Proofs.YtmohcmghbfhdlaaGreat.ordP p q < 0 ↔ lexLt p q := by
 unfold Go.Proofs.YtmohcmghbfhdlaaGreat.ordP Go.Proofs.YtmohcmghbfhdlaaGreat.cmpI lexLt
 repeat' split
 all_goals omega
theorem ordP_tie {p q : Pn} (h1 : ¬ Go.Proofs.YtmohcmghbfhdlaaGreat.ordP p q < 0) (h2 : ¬ Go.Proofs.YtmohcmghbfhdlaaGreat.ordP q p < 0) : p = q := by
 rw [ordP_neg] at h1 h2
 unfold lexLt at h1 h2
 obtain ⟨a, b⟩ := p
 obtain ⟨c, d⟩ := q
 simp only at h1 h2
 obtain rfl : a = c := by omega
 obtain rfl : b = d := by omega
 rfl
theorem lexLt_or {p q : Pn} (h : p ≠ q) : lexLt p q ∨ lexLt q p := by
 rcases Classical.em (Go.Proofs.YtmohcmghbfhdlaaGreat.ordP p q < 0) with h1 | h1
 ·exact .inl ((ordP_neg p q).1 h1)
 ·rcases Classical.em (Go.Proofs.YtmohcmghbfhdlaaGreat.ordP q p < 0) with h2 | h2
  ·exact .inr ((ordP_neg q p).1 h2)
  ·exact absurd (ordP_tie h1 h2) h
end Go.Me
end
end
/- The small memory: calls that hang on the first blocks of the world (package variables that the library reads): they lie as in the world W0. -/
section
set_option linter.unusedSimpArgs false
set_option linter.unusedVariables false
namespace Go
open Go.RowKit
namespace Ab
section
variable {P : Program} {E : Env} {ops : Array Oper} {rest : List Oper} {t : T} {m : Mem} {Q : Post}
end
end Ab
end Go
end
/- The small memory: maps: made, looked up, updated, their length; ranges over them. -/
section
set_option linter.unusedSimpArgs false
set_option linter.unusedVariables false
namespace Go
open Go.RowKit
namespace Ab
open Go.WideMaps
abbrev mpB (es : Array MapEntry) (clock : Nat) : Blk := @Blk.mk [] true 0 ⟨some (.map es clock)⟩
abbrev itB (b since : Nat) (seen : Array Nat) (last : Nat) : Blk := @Blk.mk [] true 0 ⟨some (.iter b since seen last)⟩
theorem mpB_row {ρ : Ren} {es : Array MapEntry} {k : Nat} {own : Bool} {z : Nat} {cs : List Value} {pl : Pl} {w : World} (h : BRel ρ (@Blk.mk cs own z ⟨some (.map es k)⟩) pl w) : w.heap[pl.blk]? = some (.map es k) := by
 obtain ⟨x, c, ty, fr, h1, ⟨h2, _⟩, _⟩ := h
 rw [h1, h2]
theorem flat_two {v : Value} (h : flat1 v = true) (b : Bool) : flat (.tuple #[v, .bool b]) = true := by
 show (#[v, Value.bool b].toList.all flat1) = true
 rw [show #[v, Value.bool b].toList = [v, .bool b] from rfl, List.all_cons, h]
 rfl
structure MKey (P : Program) (kt : TypeId) (isk : Value → Prop) : Prop where
 check : ∀ (w : World) (em : Bool) (v : Value), isk v → (Instr.checkKey em 10000 kt v).run P w = .ok () w
 find : ∀ (w : World) (x : Value), isk x → ∀ es : List MapEntry, (∀ e ∈ es, isk e.key) →
  ((Instr.findKey kt x es).run P w = .ok none w ∧ ∀ e ∈ es, e.key ≠ x) ∨ ∃ j e, (Instr.findKey kt x es).run P w = .ok (some (j, e.val)) w ∧ es[j]? = some e ∧ e.key = x
 stays : ∀ (w : World) (v : Value), isk v → (Instr.keyThatStays v v).run P w = .ok v w
def isI (v : Value) : Prop := ∃ n, v = .int .i64 n
theorem MKey.int {P : Program} {kt : TypeId} (h : P.underlying kt = some (.int .i64)) : MKey P kt isI := by
 have key : ∀ v, isI v → MapKept.IsKey (.int .i64) v := fun v ⟨n, hn⟩ => by subst hn; rfl
 refine ⟨fun w em v hv => MapKept.run_checkKey h (key v hv) em 9999, fun w x hx es hes => ?_, fun w v hv => MapKept.run_keyThatStays (key v hv)⟩
 rcases MapKept.findNow_spec (key x hx) es 0 (fun e he => key _ (hes e he)) with ⟨h1, h2⟩ | ⟨j, e, h1, h2, h3⟩
 ·exact .inl ⟨MapKept.run_findKey h h1, h2⟩
 ·exact .inr ⟨j, e, by rw [Nat.zero_add] at h1; exact MapKept.run_findKey h h1, h2, h3⟩
theorem MKey.arr {P : Program} {kt e : TypeId} {n : Nat} (A : ArrKey P kt e n) : MKey P kt (fun v => ∃ l, keyOf P kt v = some l) := by
 have L := A.law
 exact ⟨fun w em v ⟨l, hl⟩ => L.check w em hl, fun w x ⟨l, hl⟩ es hes => L.find w hl es hes, fun w v ⟨l, hl⟩ => L.stays w hl⟩
section
variable {P : Program} {t : T} {m : Mem} {dst : Option Tmp} {ty rt kt et : TypeId} {pos : String} {after : Array Edge} {guard : Option (Nat × Bool)} {x y z : Operand} {b : Nat} {es : Array MapEntry} {clk : Nat} {own : Bool} {ez : Nat} {cs : List Value} {isk : Value → Prop} {kv v : Value}
theorem map_at {ρ : Ren} {a : Act} {w w' : World} (ht : TRel ρ t a.tmps) (hm : MRel ρ m w) (hs : Same ρ m w w') (hx : t.ev x = .map (some b)) (hb : m.at b = some (@Blk.mk cs own ez ⟨some (.map es clk)⟩)) :
  ∃ pl, ρ b = some pl ∧ a.eval x = .map (some pl.blk) ∧ w'.heap[pl.blk]? = some (.map es clk) := by
 obtain ⟨pl, hp, he⟩ := (hx ▸ ht.ev x).map_inv
 obtain ⟨pl', hp', hbr, _⟩ := hm b _ hb
 cases Option.some.inj (hp'.symm.trans hp)
 exact ⟨pl, hp, he, by rw [hs b _ pl hb hp]; exact mpB_row hbr⟩
theorem OQ.lookS (K : MKey P kt isk) (hx : t.ev x = .map (some b)) (hy : t.ev y = kv) (hu : P.underlying ty = some (.map kt et)) (hb : m.at b = some (@Blk.mk cs own ez ⟨some (.map es clk)⟩)) (hk : isk kv) (hks : ∀ e ∈ es.toList, isk e.key) (hkf : flat kv = true)
  (hin : ∃ e ∈ es.toList, e.key = kv) (hv : ∀ e ∈ es.toList, e.key = kv → e.val = v) (hvf : flat1 v = true) :
  OQ P ⟨dst, .lookup ty x y true, rt, pos, after, guard⟩ t m (.tuple #[v, .bool true]) ∧ OQ P ⟨dst, .lookup ty x y false, rt, pos, after, guard⟩ t m v := by
 have key : ∀ (ok : Bool) (ρ : Ren) (a : Act) (w : World), TRel ρ t a.tmps → MRel ρ m w → ∀ w', Same ρ m w w' → (execOp a.eval ⟨dst, .lookup ty x y ok, rt, pos, after, guard⟩).run P w' = .ok (.value (if ok then .tuple #[v, .bool true] else v)) w' := by
  intro ok ρ a w ht hm w' hs
  obtain ⟨pl, hp, he, hh⟩ := map_at ht hm hs hx hb
  have hye : a.eval y = kv := (hy ▸ ht.ev y).of_flat hkf
  rcases K.find w' kv hk es.toList hks with ⟨_, h2⟩ | ⟨j, e, h1, h2, h3⟩
  ·obtain ⟨e, q1, q2⟩ := hin
   exact absurd q2 (h2 e q1)
  ·have hev : e.val = v := hv e (List.mem_of_getElem? h2) h3
   simp only [execOp, Instr.lookup, he, hye, Sem.run_bind, run_und hu, Result.andThen_ok, MapKept.run_getObj_map hh, Sem.run_pure, K.check w' _ kv hk, h1, hev]
 exact ⟨fun ρ a w ht hm => ⟨_, .flat (flat_two hvf true), fun w' hs => key true ρ a w ht hm w' hs⟩, fun ρ a w ht hm => ⟨_, .flat1 hvf, fun w' hs => key false ρ a w ht hm w' hs⟩⟩
theorem OQ.lookN (K : MKey P kt isk) (hx : t.ev x = .map (some b)) (hy : t.ev y = kv) (hu : P.underlying ty = some (.map kt et)) (hb : m.at b = some (@Blk.mk cs own ez ⟨some (.map es clk)⟩)) (hk : isk kv) (hks : ∀ e ∈ es.toList, isk e.key) (hkf : flat kv = true)
  (hno : ∀ e ∈ es.toList, e.key ≠ kv) (hz : ∀ w, (zeroValue et).run P w = .ok v w) (hvf : flat1 v = true) :
  OQ P ⟨dst, .lookup ty x y true, rt, pos, after, guard⟩ t m (.tuple #[v, .bool false]) ∧ OQ P ⟨dst, .lookup ty x y false, rt, pos, after, guard⟩ t m v := by
 have key : ∀ (ok : Bool) (ρ : Ren) (a : Act) (w : World), TRel ρ t a.tmps → MRel ρ m w → ∀ w', Same ρ m w w' → (execOp a.eval ⟨dst, .lookup ty x y ok, rt, pos, after, guard⟩).run P w' = .ok (.value (if ok then .tuple #[v, .bool false] else v)) w' := by
  intro ok ρ a w ht hm w' hs
  obtain ⟨pl, hp, he, hh⟩ := map_at ht hm hs hx hb
  have hye : a.eval y = kv := (hy ▸ ht.ev y).of_flat hkf
  rcases K.find w' kv hk es.toList hks with ⟨h1, _⟩ | ⟨j, e, h1, h2, h3⟩
  ·simp only [execOp, Instr.lookup, he, hye, Sem.run_bind, run_und hu, Result.andThen_ok, MapKept.run_getObj_map hh, Sem.run_pure, K.check w' _ kv hk, h1, hz]
  ·exact absurd h3 (hno e (List.mem_of_getElem? h2))
 exact ⟨fun ρ a w ht hm => ⟨_, .flat (flat_two hvf false), fun w' hs => key true ρ a w ht hm w' hs⟩, fun ρ a w ht hm => ⟨_, .flat1 hvf, fun w' hs => key false ρ a w ht hm w' hs⟩⟩
theorem OQ.lenMap {xt : TypeId} (hx : t.ev x = .map (some b)) (hu : P.underlying xt = some (.map kt et)) (hb : m.at b = some (@Blk.mk cs own ez ⟨some (.map es clk)⟩)) : OQ P ⟨dst, .call ⟨.builtin .len, #[x], #[xt]⟩, rt, pos, after, guard⟩ t m (.int .i64 es.size) := by
 intro ρ a w ht hm
 refine ⟨_, .scal rfl, fun w' hs => ?_⟩
 obtain ⟨pl, hp, he, hh⟩ := map_at ht hm hs hx hb
 simp only [execOp, resolve, invoke, builtin, he, Sem.run_bind, Sem.run_pure, Result.andThen_ok, List.map_toArray, List.map_cons, List.map_nil]
 have : (Builtin.len_ #[xt] rt #[.map (some pl.blk)]).run P w' = .ok (.int .i64 es.size) w' := by
  simp [Builtin.len_, run_und hu, MapKept.run_getObj_map hh, Result.andThen, goInt]
 erw [this]
 rfl
end
theorem St.newO {E : Env} {ρ : Ren} {m : Mem} {w : World} (h : St E ρ m w) {oc : OC} {x : Obj} (hx : IsRow ρ (some oc) x #[] 0 (0, 0)) :
  St E (ρ.new m.length ⟨w.heap.size, 0, 0, 0⟩) (m ++ [some (@Blk.mk [] true 0 ⟨some oc⟩)]) (w.alloc x) := by
 have he := h.ext_new ⟨w.heap.size, 0, 0, 0⟩
 refine ⟨h.os, h.tape, h.output, Nat.le_trans h.size (by simp), fun k hk hs => ?_, h.ext_keep _, by have := h.len; simp; omega, fun b pl hb => ?_, ?_, ?_⟩
 ·rw [World.alloc_get, if_neg (by have := h.size; omega)]
  exact h.same k hk hs
 ·unfold Ren.new at hb
  split at hb
  ·simp; omega
  ·have := h.dom b pl hb
   simp; omega
 ·intro b blk hb
  rw [Mem.at_snoc] at hb
  split at hb
  ·rename_i hbm
   cases Option.some.inj hb
   refine ⟨⟨w.heap.size, 0, 0, 0⟩, by simp [Ren.new, hbm], ⟨x, #[], 0, (0, 0), by rw [World.alloc_get]; simp, hx.ext he, rfl, fun i v hv => by simp at hv, fun _ => ⟨rfl, rfl, rfl⟩⟩, ?_⟩
   ·intro _ b' blk' pl' hne hb' hp'
    rw [Mem.at_snoc, if_neg (by omega)] at hb'
    obtain ⟨pl, hp, hbr, _⟩ := h.mem b' blk' hb'
    unfold Ren.new at hp'
    rw [if_neg (by omega), hp] at hp'
    cases Option.some.inj hp'
    have := hbr.lt
    simp only
    omega
  ·rename_i hbm
   obtain ⟨pl, hp, hbr, hown⟩ := h.mem b blk hb
   have hlt := hbr.lt
   refine ⟨pl, he b pl hp, hbr.ext he (by rw [World.alloc_get, if_neg (by omega)]), fun ho b' blk' pl' hne hb' hp' => ?_⟩
   rw [Mem.at_snoc] at hb'
   unfold Ren.new at hp'
   split at hb'
   ·rename_i hbm'
    rw [if_pos hbm'] at hp'
    cases Option.some.inj hp'
    simp only
    omega
   ·rename_i hbm'
    rw [if_neg hbm'] at hp'
    exact hown ho b' blk' pl' hne hb' hp'
 ·intro b blk pl hb ho hp
  rw [Mem.at_snoc] at hb
  unfold Ren.new at hp
  split at hb
  ·rename_i hbm
   rw [if_pos hbm] at hp
   cases Option.some.inj hp
   exact .inl h.size
  ·rename_i hbm
   rw [if_neg hbm] at hp
   exact h.fresh b blk pl hb ho hp
theorem St.setO {E : Env} {ρ : Ren} {m : Mem} {w w' : World} {b : Nat} {blk : Blk} {pl : Pl} {oc : OC} {x : Obj} (h : St E ρ m w) (hb : m.at b = some blk) (ho : blk.own = true) (hp : ρ b = some pl) (ho' : blk.obj.o ≠ none)
  (hx : IsRow ρ (some oc) x #[] 0 (0, 0)) (hc' : w'.heap[pl.blk]? = some x)
  (hfar : ∀ k, k ≠ pl.blk → w'.heap[k]? = w.heap[k]?) (hs : w'.heap.size = w.heap.size) (h1 : w'.os = w.os) (h2 : w'.tape = w.tape) (h3 : w'.output = w.output ∧ w.drawn ≤ w'.drawn) :
  St E ρ (m.set b (some (@Blk.mk [] true blk.esz ⟨some oc⟩))) w' := by
 have hlt := Mem.at_lt hb
 refine ⟨h1.trans h.os, h2.trans h.tape, ⟨h3.1.trans h.output.1, Nat.le_trans h.output.2 h3.2⟩, by rw [hs]; exact h.size, fun k hk hks => ?_, h.ext, by simpa using h.len, fun b pl hb => by simpa using h.dom b pl hb, ?_, ?_⟩
 ·rw [hfar k ?_]
  ·exact h.same k hk hks
  ·rintro rfl
   rcases h.fresh b blk pl hb ho hp with hf | hf
   ·omega
   ·exact hks hf
 ·intro k bk hk
  rw [Mem.at_set hlt] at hk
  split at hk
  ·rename_i hkb
   subst hkb
   cases Option.some.inj hk
   obtain ⟨pl', hp', ⟨x0, c0, ty0, fr0, hc0, hx0, e1, e2, e3⟩, hown⟩ := h.mem k blk hb
   cases Option.some.inj (hp'.symm.trans hp)
   have hsz0 : c0 = #[] ∧ fr0 = (0, 0) := by
    match hq : blk.obj.o, hx0 with
    | none, _ => exact absurd hq ho'
    | some (.map _ _), hx0 => exact hx0.2
    | some (.iter _ _ _ _), hx0 => exact hx0.2
   refine ⟨pl, hp, ⟨x, #[], 0, (0, 0), hc', hx, e1, fun i v hv => by simp at hv, fun _ => ?_⟩, fun ho b' blk' pl' hne hb' hp' => ?_⟩
   ·obtain ⟨g0, g1, g2⟩ := e3 ‹_›
    rw [hsz0.1] at g1
    exact ⟨g0, g1, rfl⟩
   ·rw [Mem.at_set hlt, if_neg hne] at hb'
    exact hown ‹_› b' blk' pl' hne hb' hp'
  ·rename_i hkb
   obtain ⟨pl', hp', hbr, hown⟩ := h.mem k bk hk
   obtain ⟨pl0, hp0, _, hown0⟩ := h.mem b blk hb
   cases Option.some.inj (hp0.symm.trans hp)
   have hne : pl'.blk ≠ pl.blk := hown0 ho k bk pl' hkb hk hp'
   refine ⟨pl', hp', hbr.ext (.refl _) (hfar _ hne), fun ho' b' blk' pl'' hne' hb' hp'' => ?_⟩
   rw [Mem.at_set hlt] at hb'
   split at hb'
   ·rename_i hbb
    subst hbb
    rw [hp] at hp''
    cases Option.some.inj hp''
    exact Ne.symm hne
   ·exact hown ho' b' blk' pl'' hne' hb' hp''
 ·intro k bk pl' hk hko hkp
  rw [Mem.at_set hlt] at hk
  split at hk
  ·rename_i hkb
   subst hkb
   rw [hp] at hkp
   cases Option.some.inj hkp
   exact h.fresh k blk pl hb ho hp
  ·exact h.fresh k bk pl' hk hko hkp
section
variable {P : Program} {t : T} {m : Mem} {dst : Option Tmp} {ty rt kt et : TypeId} {pos : String} {after : Array Edge} {guard : Option (Nat × Bool)} {x y z : Operand} {b : Nat} {es : Array MapEntry} {clk : Nat} {ez : Nat} {cs : List Value} {isk : Value → Prop} {kv v : Value}
theorem OW.makeMap : OW P ⟨dst, .makeMap ty none, rt, pos, after, guard⟩ t m (.map (some m.length)) (m ++ [some (mpB #[] 0)]) := by
 intro E ρ a w ht hst
 refine ⟨_, _, _, .inl ?_, hst.ext_new ⟨w.heap.size, 0, 0, 0⟩, .map (b := m.length) (pl := ⟨w.heap.size, 0, 0, 0⟩) (by simp [Ren.new]), hst.newO (oc := .map #[] 0) ⟨rfl, rfl, rfl⟩⟩
 simp only [execOp, Instr.makeMap, Sem.run_bind]
 simp [go_sem]
theorem OW.updN (K : MKey P kt isk) (hx : t.ev x = .map (some b)) (hy : t.ev y = kv) (hz : t.ev z = v) (hu : P.underlying ty = some (.map kt et)) (hb : m.at b = some (@Blk.mk cs true ez ⟨some (.map es clk)⟩)) (hk : isk kv) (hks : ∀ e ∈ es.toList, isk e.key) (hkf : flat kv = true) (hvf : flat v = true)
  (hno : ∀ e ∈ es.toList, e.key ≠ kv) :
  OW P ⟨dst, .mapUpdate ty x y z, rt, pos, after, guard⟩ t m undef (m.set b (some (@Blk.mk [] true ez ⟨some (.map (es.push ⟨kv, v, clk⟩) (clk + 1))⟩))) := by
 intro E ρ a w ht hst
 obtain ⟨pl, hp, he, hh⟩ := map_at ht hst.mem (Same.refl _ _ _) hx hb
 have hye : a.eval y = kv := (hy ▸ ht.ev y).of_flat hkf
 have hze : a.eval z = v := (hz ▸ ht.ev z).of_flat hvf
 rcases K.find w kv hk es.toList hks with ⟨h1, _⟩ | ⟨j, e, h1, h2, h3⟩
 ·obtain ⟨s1, s2⟩ := MapKept.heap_set (o' := .map (es.push ⟨kv, v, clk⟩) (clk + 1)) hh
  refine ⟨undef, { w with heap := w.heap.setIfInBounds pl.blk (.map (es.push ⟨kv, v, clk⟩) (clk + 1)) }, ρ, .inr ⟨?_, rfl⟩, .refl _, .undef, hst.setO (oc := .map (es.push ⟨kv, v, clk⟩) (clk + 1)) hb rfl hp (by simp) ⟨rfl, rfl, rfl⟩ s1 s2 (by simp) rfl rfl ⟨rfl, Nat.le_refl _⟩⟩
  simp only [execOp, Instr.mapUpdate, he, hye, hze, Sem.run_bind, run_und hu, Result.andThen_ok, MapKept.run_getObj_map hh, Sem.run_pure, K.check w _ kv hk, h1, MapKept.run_setObj_map _ hh]
 ·exact absurd h3 (hno e (List.mem_of_getElem? h2))
theorem OW.updS (j0 : Nat) (K : MKey P kt isk) (hx : t.ev x = .map (some b)) (hy : t.ev y = kv) (hz : t.ev z = v) (hu : P.underlying ty = some (.map kt et)) (hb : m.at b = some (@Blk.mk cs true ez ⟨some (.map es clk)⟩)) (hk : isk kv) (hks : ∀ e ∈ es.toList, isk e.key) (hkf : flat kv = true) (hvf : flat v = true)
  (hin : ∃ e ∈ es.toList, e.key = kv) (hj : ∀ (j : Nat) e, es.toList[j]? = some e → e.key = kv → j = j0) :
  OW P ⟨dst, .mapUpdate ty x y z, rt, pos, after, guard⟩ t m undef (m.set b (some (@Blk.mk [] true ez ⟨some (.map (es.modify j0 fun e => { e with key := kv, val := v }) clk)⟩))) := by
 intro E ρ a w ht hst
 obtain ⟨pl, hp, he, hh⟩ := map_at ht hst.mem (Same.refl _ _ _) hx hb
 have hye : a.eval y = kv := (hy ▸ ht.ev y).of_flat hkf
 have hze : a.eval z = v := (hz ▸ ht.ev z).of_flat hvf
 rcases K.find w kv hk es.toList hks with ⟨_, h2⟩ | ⟨j, e, h1, h2, h3⟩
 ·obtain ⟨e, q1, q2⟩ := hin
  exact absurd q2 (h2 e q1)
 ·obtain rfl := hj j e h2 h3
  have hkey : ((es[j]?).map (·.key)).getD kv = kv := by
   rw [Array.getElem?_toList] at h2
   rw [h2]
   exact h3
  obtain ⟨s1, s2⟩ := MapKept.heap_set (o' := .map (es.modify j fun e => { e with key := kv, val := v }) clk) hh
  refine ⟨undef, { w with heap := w.heap.setIfInBounds pl.blk (.map (es.modify j fun e => { e with key := kv, val := v }) clk) }, ρ, .inr ⟨?_, rfl⟩, .refl _, .undef, hst.setO (oc := .map (es.modify j fun e => { e with key := kv, val := v }) clk) hb rfl hp (by simp) ⟨rfl, rfl, rfl⟩ s1 s2 (by simp) rfl rfl ⟨rfl, Nat.le_refl _⟩⟩
  simp only [execOp, Instr.mapUpdate, he, hye, hze, Sem.run_bind, run_und hu, Result.andThen_ok, MapKept.run_getObj_map hh, Sem.run_pure, K.check w _ kv hk, h1, hkey, K.stays w kv hk, MapKept.run_setObj_map _ hh]
end
end Ab
end Go
end
/- The small memory: ranges over maps. -/
section
set_option linter.unusedSimpArgs false
set_option linter.unusedVariables false
namespace Go
open Go.RowKit
namespace Ab
variable {P : Program}
theorem run_next_at (w : World) (ty : TypeId) (r bm since c0 : Nat) (seen : Array Nat) (es : Array MapEntry) (clock : Nat) (hr : w.heap[r]? = some (.mapIter (some bm) since seen c0)) (hb : w.heap[bm]? = some (.map es clock)) (hold : ∀ x ∈ es.toList, x.born < since) (hsc : since ≤ c0) :
  ((leftOf es seen).size = 0 ∧ (Instr.next (.pointer (some ⟨r, 0, none⟩)) false ty).run P w = .ok (.tuple #[.bool false]) w) ∨
  ∃ e ∈ (leftOf es seen).toList, ∃ w1 : World, (w1 = w ∨ w1 = w.drew) ∧ (Instr.next (.pointer (some ⟨r, 0, none⟩)) false ty).run P w = .ok (.tuple #[.bool true, e.key, e.val]) { w1 with heap := w1.heap.setIfInBounds r (.mapIter (some bm) since (seen.push e.born) clock) } := by
 simp only [Instr.next, getObj, Sem.run_bind, Sem.run, hr, hb, Result.andThen, next_test_false seen es since c0 hold hsc, Bool.false_eq_true, if_false]
 unfold leftOf
 have hmem : ∀ x ∈ (Array.filter (fun e => !seen.contains e.born) es).toList, x.born < since := fun x hx => hold x (by simp at hx ⊢; exact hx.1)
 generalize Array.filter (fun e => !seen.contains e.born) es = L at hmem ⊢
 have e1 : L.filter (fun x => decide (x.born < since)) = L := Array.filter_eq_self.2 (fun x hx => by simpa using hmem x (by simpa using hx))
 have e2 : L.filter (fun x => decide (x.born ≥ since)) = #[] := by
  rw [Array.filter_eq_empty_iff]
  intro x hx
  have := hmem x (by simpa using hx)
  simp
  omega
 simp only [e1, e2, Array.append_empty]
 by_cases h0 : L.size = 0
 ·left
  have : L = #[] := Array.eq_empty_of_size_eq_zero h0
  subst this
  refine ⟨rfl, ?_⟩
  simp [choose, Sem.run, Question.forced]
 ·right
  have hne : L.isEmpty = false := by simp [Array.isEmpty, h0]
  simp only [hne, Bool.false_eq_true, if_false, Array.empty_append, Array.size_map]
  have hch : ∃ (j : Nat) (w1 : World), j < L.size ∧ (w1 = w ∨ w1 = w.drew) ∧ (choose (Question.mapNext L.size)).run P w = .ok j w1 := by
   by_cases hf : L.size ≤ 1
   ·exact ⟨0, w, by omega, .inl rfl, by simp [choose, Sem.run, Question.forced, hf]⟩
   ·exact ⟨_, w.drew, Nat.mod_lt _ (by omega), .inr rfl, by
     simp only [choose, Sem.run, Question.forced, decide_eq_true_eq, hf, if_false, Question.cut]
     rfl⟩
  obtain ⟨j, w1, hj, hal, hrun⟩ := hch
  refine ⟨L[j], by simp, w1, hal, ?_⟩
  have hr1 : w1.heap[r]? = some (.mapIter (some bm) since seen c0) := by rcases hal with rfl | rfl <;> exact hr
  have hset : ∀ (o' : Obj), (setObj r o').run P w1 = .ok () { w1 with heap := w1.heap.setIfInBounds r o' } := fun o' => by
   simp [setObj, Sem.run, hr1]
  simp only [hrun, Array.getElem?_map, Array.getElem?_eq_getElem hj, Option.map_some, Sem.run_bind, hset, Result.andThen]
  rfl
section
variable {E : Env} {ops : Array Oper} {rest : List Oper} {Q : Post} {t : T} {m : Mem} {dst : Option Tmp} {ty rt kt et : TypeId} {pos : String} {after : Array Edge} {guard : Option (Nat × Bool)} {x : Operand} {b : Nat} {es : Array MapEntry} {clk : Nat} {own : Bool} {ez : Nat} {cs : List Value}
theorem OW.rangeMap (hx : t.ev x = .map (some b)) (hu : P.underlying ty = some (.map kt et)) (hb : m.at b = some (@Blk.mk cs own ez ⟨some (.map es clk)⟩)) :
  OW P ⟨dst, .range ty x, rt, pos, after, guard⟩ t m (.pointer (some ⟨m.length, 0, none⟩)) (m ++ [some (itB b clk #[] clk)]) := by
 intro E ρ a w ht hst
 obtain ⟨pl, hp, he, hh⟩ := map_at ht hst.mem (Same.refl _ _ _) hx hb
 refine ⟨_, _, _, .inl ?_, hst.ext_new ⟨w.heap.size, 0, 0, 0⟩, .ptr (b := m.length) (o := 0) (pl := ⟨w.heap.size, 0, 0, 0⟩) (by simp [Ren.new]), hst.newO (oc := .iter b clk #[] clk) ⟨⟨pl, hp, rfl⟩, rfl, rfl⟩⟩
 simp only [execOp, he, Sem.run_bind, run_range_map w ty kt et pl.blk es clk hu hh, Result.andThen_ok, Sem.run_pure]
theorem AL.next {bi since last : Nat} {seen : Array Nat} (hx : t.ev x = .pointer (some ⟨bi, 0, none⟩)) (hi : m.at bi = some (itB b since seen last)) (hb : m.at b = some (@Blk.mk cs own ez ⟨some (.map es clk)⟩))
  (hold : ∀ e ∈ es.toList, e.born < since) (hsc : since ≤ last) (hf : ∀ e ∈ es.toList, flat1 e.key = true ∧ flat1 e.val = true)
  (h0 : (leftOf es seen).size = 0 → AL P E ops rest (t.put dst (.tuple #[.bool false])) m Q)
  (h1 : ∀ e ∈ es.toList, seen.contains e.born = false → AL P E ops rest (t.put dst (.tuple #[.bool true, e.key, e.val])) (m.set bi (some (@Blk.mk [] true 0 ⟨some (.iter b since (seen.push e.born) clk)⟩))) Q) :
  AL P E ops (⟨dst, .next x false, rt, pos, after, none⟩ :: rest) t m Q := by
 intro ρ a w hd ht hs
 obtain ⟨pl, hp, he⟩ := (hx ▸ ht.ev x).ptr_inv
 obtain ⟨pl', hp', hbr, _⟩ := hs.mem bi _ hi
 cases Option.some.inj (hp'.symm.trans hp)
 obtain ⟨X, c, ty0, fr, g1, ⟨⟨plm, gm, rfl⟩, _, _⟩, _, _, g5⟩ := hbr
 have hsh : pl.sh = 0 := (g5 rfl).1
 obtain ⟨plm', hpm, hbrm, _⟩ := hs.mem b _ hb
 cases Option.some.inj (hpm.symm.trans gm)
 have hh := mpB_row hbrm
 rw [hsh, Nat.zero_add] at he
 unfold wpList
 rw [if_pos (by simp [Region.wanted])]
 left
 unfold Oper.wp
 rcases run_next_at (P := P) w rt pl.blk plm.blk since last seen es clk g1 hh hold hsc with ⟨q0, q1⟩ | ⟨e, q0, w1, q1, q2⟩
 ·have hrun : (execOp a.eval ⟨dst, .next x false, rt, pos, after, none⟩).run P w = .ok (.value (.tuple #[.bool false])) w := by
   simp only [execOp, he, Sem.run_bind, q1, Result.andThen_ok, Sem.run_pure]
  rw [hrun]
  exact h0 q0 ρ _ w (by rw [put_defers]; exact hd) (ht.put (.flat rfl) _) hs
 ·obtain ⟨m1, m2⟩ := mem_left q0
  obtain ⟨f1, f2⟩ := hf e m1
  have hrun : (execOp a.eval ⟨dst, .next x false, rt, pos, after, none⟩).run P w = .ok (.value (.tuple #[.bool true, e.key, e.val])) { w1 with heap := w1.heap.setIfInBounds pl.blk (.mapIter (some plm.blk) since (seen.push e.born) clk) } := by
   simp only [execOp, he, Sem.run_bind, q2, Result.andThen_ok, Sem.run_pure]
  rw [hrun]
  have hs1 : St E ρ m w1 := by rcases q1 with rfl | rfl; exact hs; exact hs.drew
  have g1' : w1.heap[pl.blk]? = some (.mapIter (some plm.blk) since seen last) := by rcases q1 with rfl | rfl <;> exact g1
  obtain ⟨s1, s2⟩ := MapKept.heap_set (o' := .mapIter (some plm.blk) since (seen.push e.born) clk) g1'
  refine h1 e m1 m2 ρ _ _ (by rw [put_defers]; exact hd) (ht.put (.flat ?_) _) (hs1.setO (oc := .iter b since (seen.push e.born) clk) hi rfl hp (by simp) ⟨⟨plm, gm, rfl⟩, rfl, rfl⟩ s1 s2 (by simp) rfl rfl ⟨rfl, Nat.le_refl _⟩)
  show (#[Value.bool true, e.key, e.val].toList.all flat1) = true
  rw [show #[Value.bool true, e.key, e.val].toList = [.bool true, e.key, e.val] from rfl, List.all_cons, List.all_cons, List.all_cons, f1, f2]
  rfl
end
end Ab
end Go
end
