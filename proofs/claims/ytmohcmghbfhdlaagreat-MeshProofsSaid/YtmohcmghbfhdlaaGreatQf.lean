/- The small memory: '==' of slices with nil. -/
import Derived.Test.YtmohcmghbfhdlaaGreatQd
import Derived.Test.YtmohcmghbfhdlaaGreatQe
import Derived.Test.YtmohcmghbfhdlaaGreatQc
import Derived.Test.YtmohcmghbfhdlaaGreatProg
section
set_option linter.unusedSimpArgs false
set_option linter.unusedVariables false
namespace Go
namespace Ab
open Go.RowKit
section
variable {P : Program} {t : T} {m : Mem} {dst : Option Tmp} {ty ty' rt : TypeId} {pos : String} {after : Array Edge} {guard : Option (Nat × Bool)} {x y : Operand}
theorem VRel.sl_inv {ρ : Ren} {a : Option Addr} {n c : Nat} {v : Value} (h : VRel ρ (.slice a n c) v) : ∃ a' n' c', v = .slice a' n' c' ∧ a'.isNone = a.isNone := by
 cases h with
 | scal h => exact ⟨_, _, _, rfl, rfl⟩
 | slice h h1 h2 h3 => exact ⟨_, _, _, rfl, rfl⟩
 | empty => exact ⟨_, _, _, rfl, rfl⟩
 | lost => exact ⟨_, _, _, rfl, rfl⟩
theorem sl_eq {e ty : TypeId} {a : Option Addr} {n c : Nat} {w : World} (hs : P.underlying ty = some (.slice e)) : (Op.equal ty (.slice a n c) (.slice none 0 0)).run P w = .ok a.isNone w := by
 unfold Op.equal Op.maxDepth Op.equalIn
 cases a <;> simp [run_und hs, Sem.run_bind, Sem.run_pure]
theorem OQ.slnil {a : Option Addr} {n c : Nat} {e : TypeId} (hx : t.ev x = .slice a n c) (hy : t.ev y = .slice none 0 0) (hs : P.underlying ty = some (.slice e)) : OQ P ⟨dst, .binOp .eql ty x y ty', rt, pos, after, guard⟩ t m (.bool a.isNone) :=
 fun ρ a' w ht _ => by
  obtain ⟨b, n', c', hb, hn⟩ := VRel.sl_inv (hx ▸ ht.ev x)
  have hy' : a'.eval y = .slice none 0 0 := VRel.of_scal (hy ▸ ht.ev y) rfl
  refine ⟨_, .scal rfl, fun w' _ => ?_⟩
  have := sl_eq (a := b) (n := n') (c := c') (w := w') hs
  rw [hn] at this
  simp [execOp, hb, hy', eqGuard, binOp, Sem.run_bind, Sem.run_pure, this]
theorem OW.makeSl {st e : TypeId} {k z by' : Nat} {zs : List Value} (hx : t.ev x = .int .i64 k) (he : elemT P st = some e) (hz : szOf P e = some z) (h0 : zeroOf P e = some zs) (hs : zs.all scal = true) (hzl : zs.length = z) (hb : bytesOf' P e = some by') (hz0 : z ≠ 0) (hk : k * by' ≤ 140737488355327) (hk' : k ≤ 1099511627776) :
  OW P ⟨dst, .makeSlice st x x, rt, pos, after, guard⟩ t m (.slice (some ⟨m.length, 0, none⟩) k k) (m ++ [some ⟨(List.range (k * z)).map fun i => zs.getD (i % z) default, true, z⟩]) := by
 intro E ρ a w ht hst
 obtain ⟨i, zv, i1, i2, i3, i4, i5⟩ := info_of hz h0 hb
 have hxe : a.eval x = .int .i64 k := VRel.int (hx ▸ ht.ev x)
 have hw : IntKind.i64.wrap (k : Int) = k := wrap_id (by omega)
 have hcells : (Array.range (k * z)).map (fun x => zv.cells[x % zv.cells.size]!) = ((List.range (k * z)).map fun i => zs.getD (i % z) default).toArray := by
  rw [i5]
  apply Array.ext
  ·simp
  ·intro i h h'
   simp only [Array.getElem_map, Array.getElem_range, List.getElem_toArray, List.getElem_map, List.getElem_range, List.size_toArray, hzl]
   have hlt : i % z < zs.length := by rw [hzl]; exact Nat.mod_lt _ (Nat.pos_of_ne_zero hz0)
   simp [List.getD_eq_getElem?_getD, hlt]
 have hsc : ∀ (j : Nat) (v : Value), ((List.range (k * z)).map fun i => zs.getD (i % z) default)[j]? = some v → scal v = true := fun j v hv => by
  obtain ⟨i, _, rfl⟩ := List.mem_map.1 (List.mem_of_getElem? hv)
  have hlt : i % z < zs.length := by rw [hzl]; exact Nat.mod_lt _ (Nat.pos_of_ne_zero hz0)
  rw [List.getD_eq_getElem?_getD, List.getElem?_eq_getElem hlt]
  exact List.all_eq_true.1 hs _ (List.getElem_mem hlt)
 have hlen : ((List.range (k * z)).map fun i => zs.getD (i % z) default).length = k * z := by simp
 generalize hX : ((List.range (k * z)).map fun i => zs.getD (i % z) default) = X at *
 refine ⟨.slice (some ⟨w.heap.size, 0, none⟩) k k, _, _, .inl ?_, hst.ext_new ⟨w.heap.size, 0, z, X.toArray.size⟩, ?_, hst.new (ty := e) (esz := z) (c := X.toArray) (cells := X) (fun j v hv => ⟨v, by simpa using hv, .scal (hsc j v hv)⟩)⟩
 ·have hti : (typeInfo e).run P w = .ok i w := by simp [typeInfo, i1, go_sem]
  obtain ⟨zv', hz1, hz2⟩ := run_zero (w := w) h0
  simp only [execOp, Instr.makeSlice, hxe, asInt, asIntOf, Sem.run_bind, Sem.run_pure, run_und (elemT_spec he), Result.andThen_ok, hw, run_size hz, hti, i4]
  have hcnd : (decide ((k : Int) < 0) || decide ((by' : Int) * (k : Int) > 2 ^ 48) || decide ((k : Int) < 0) || decide ((k : Int) > (k : Int))) = false := by
   have : ((k * by' : Nat) : Int) ≤ 140737488355327 := by omega
   rw [Int.natCast_mul, Int.mul_comm] at this
   simp only [Bool.or_eq_false_iff, decide_eq_false_iff_not]
   omega
  have hroom : (askRoom (k * by')).run P w = .ok () w := by
   unfold askRoom
   rw [if_neg (by show ¬ k * by' > 2 ^ 47; omega)]
   rfl
  rw [hcnd]
  simp only [Bool.false_eq_true, if_false, Sem.run_bind, hroom, Result.andThen_ok, run_size hz, Int.toNat_natCast]
  by_cases hkz : k * z = 0
  ·rw [if_pos hkz]
   have hX0 : X = [] := List.eq_nil_of_length_eq_zero (by rw [hlen, hkz])
   subst hX0
   simp [Sem.run_bind, Sem.run_pure, newRow, hkz, go_sem]
  ·rw [if_neg hkz]
   have hz1' : (zeroValue e).run P w = .ok zv' w := hz1
   have hzz : zv'.cells = zv.cells := by rw [hz2, i5]
   rw [← hzz] at hcells
   simp only [Sem.run_bind, hz1', Result.andThen_ok, Sem.run_pure]
   erw [hcells]
   simp [newRow, go_sem]
 ·exact .slice (b := m.length) (o := 0) (pl := ⟨w.heap.size, 0, z, X.toArray.size⟩) (by unfold Ren.new; rw [if_pos rfl]) (Nat.le_refl _) (fun _ => Nat.le_refl _) (fun _ => by simp [hlen])
end
end Ab
end Go
end
/- Chapter 6: points: what is small, the turn of three, the circle of three and a fourth one: both sides. -/
section
set_option linter.unusedSimpArgs false
set_option linter.unusedVariables false
section
namespace Go.Me
open Go.Ab
abbrev ptV (p : Pn) : Value := .agg #[.int .i64 p.x, .int .i64 p.y]
def ptC (p : Pn) : List Value := [.int .i64 p.x, .int .i64 p.y]
def flatP (l : List Pn) : List Value := l.flatMap ptC
theorem flatP_len (l : List Pn) : (flatP l).length = l.length * 2 := Ls.flat_len ptC 2 (fun _ => rfl) l
theorem flatP_scal (l : List Pn) : (flatP l).all Ab.scal = true := Ls.flat_scal ptC (fun _ => rfl) l
theorem flatP_snoc (l : List Pn) (p : Pn) : flatP (l ++ [p]) = flatP l ++ ptC p := Ls.flat_snoc ptC l p
theorem flatP_ld {m : Mem} {b : Nat} {blk : Blk} {l : List Pn} (hb : m.at b = some blk) (hc : blk.cells = flatP l) (k : Nat) (hk : k < l.length) : m.ld b (k * 2) 2 = some [.int .i64 (pt l k).x, .int .i64 (pt l k).y] := Ls.flat_ld ptC 2 (fun _ => rfl) ⟨0, 0⟩ l hb hc k hk
def okP (p : Pn) : Bool := decide ((-10000 ≤ p.x ∧ p.x ≤ 10000) ∧ (-10000 ≤ p.y ∧ p.y ≤ 10000))
theorem okP_ok {p : Pn} (h : okP p = true) : p.Ok := by
 have := of_decide_eq_true h
 exact ⟨this.1.1, this.1.2, this.2.1, this.2.2⟩
theorem Pn.Ok.b {p : Pn} (h : p.Ok) : (-10000 ≤ p.x ∧ p.x ≤ 10000) ∧ (-10000 ≤ p.y ∧ p.y ≤ 10000) := ⟨⟨h.x0, h.x1⟩, h.y0, h.y1⟩
theorem cr_bd {a b c : Pn} (ha : a.Ok) (hb : b.Ok) (hc : c.Ok) : (-400000000 ≤ (b.x - a.x) * (c.y - a.y) ∧ (b.x - a.x) * (c.y - a.y) ≤ 400000000) ∧ (-400000000 ≤ (b.y - a.y) * (c.x - a.x) ∧ (b.y - a.y) * (c.x - a.x) ≤ 400000000) := by
 obtain ⟨a1, a2⟩ := ha.b
 obtain ⟨b1, b2⟩ := hb.b
 obtain ⟨c1, c2⟩ := hc.b
 have h1 := mul_bd (m := b.x - a.x) (n := c.y - a.y) (a := 20000) (b := 20000) (by omega) (by omega) (by decide)
 have h2 := mul_bd (m := b.y - a.y) (n := c.x - a.x) (a := 20000) (b := 20000) (by omega) (by omega) (by decide)
 exact ⟨h1, h2⟩
theorem ro1p (b : Blk) (h : b.own = false) : Mem.ro [some b] := fun k blk hk => by
 match k, hk with
 | 0, hk => cases hk; exact h
def rgB (n lo hi : Int) : Bool := decide (lo ≤ n ∧ n ≤ hi)
end Go.Me
namespace Go.Proofs.YtmohcmghbfhdlaaGreat
open Go Go.RowKit Go.Ab Go.Me
set_option maxRecDepth 100000
set_option maxHeartbeats 2000000
attribute [local irreducible] OQ OW AL AW AF SW
theorem within_q (n lo hi : Int) (m : Mem) : PCalls Tryz.prog 89 [.int .i64 n, .int .i64 lo, .int .i64 hi] m (.bool (rgB n lo hi)) := by
 refine PCalls.any ?_ rfl rfl m
 refine PCalls.en 12 Tryz.func89 rfl (ro_nil) rfl (fun E => ?_)
 repeat' (first | with_reducible (refine Then.n ?_) | ((with_reducible refine AL.on ?_); first | (refine AL.gd rfl ?_; (refine AL.gs1 rfl rfl (fun hc => ?_) (fun hc => ?_) <;> (try replace hc := nc hc) <;> first | (exfalso; contradiction; done) | refine AL.nm ?_)) | ((first | refine AL.mv ?_ | refine AL.as ?_ | ((with_reducible refine AL.k_binOp ?_); refine AL.g (OQ.leq rfl rfl) ?_) | ((with_reducible refine AL.k_pick ?_); first | refine AL.pT ?_ | refine AL.pF ?_)); refine AL.nm ?_) | refine AL.nil ?_) | ((with_reducible refine AW.on ?_); first | refine AW.seq ?_ | refine AW.ret ?_ | refine AW.region ?_) | ((with_reducible refine FinP.on ?_); (refine FinP.ret (.tmp wl .nil) ?_ rfl); (try simp only [pack, List.drop, List.take]); all_goals (congr 1; unfold rgB; symm; first | (apply decide_eq_false; omega) | (apply decide_eq_decide.2; omega))))
theorem rWithin_q (n lo hi : Int) (m : Mem) : PCalls Tryz.prog 69 [.int .i64 n, .int .i64 lo, .int .i64 hi] m (.bool (rgB n lo hi)) := by
 refine PCalls.any ?_ rfl rfl m
 refine PCalls.en 12 Tryz.func69 rfl (ro_nil) rfl (fun E => ?_)
 repeat' (first | with_reducible (refine Then.n ?_) | ((with_reducible refine AL.on ?_); first | (refine AL.gd rfl ?_; (refine AL.gs1 rfl rfl (fun hc => ?_) (fun hc => ?_) <;> (try replace hc := nc hc) <;> first | (exfalso; contradiction; done) | refine AL.nm ?_)) | ((first | refine AL.mv ?_ | refine AL.as ?_ | ((with_reducible refine AL.k_binOp ?_); refine AL.g (OQ.leq rfl rfl) ?_) | ((with_reducible refine AL.k_pick ?_); first | refine AL.pT ?_ | refine AL.pF ?_)); refine AL.nm ?_) | refine AL.nil ?_) | ((with_reducible refine AW.on ?_); first | refine AW.seq ?_ | refine AW.ret ?_ | refine AW.region ?_) | ((with_reducible refine FinP.on ?_); (refine FinP.ret (.tmp wl .nil) ?_ rfl); (try simp only [pack, List.drop, List.take]); all_goals (congr 1; unfold rgB; symm; first | (apply decide_eq_false; omega) | (apply decide_eq_decide.2; omega))))
theorem isNaN_q (n : Int) (m : Mem) : PCalls Tryz.prog 173 [.int .i64 n] m (.bool false) := by
 refine PCalls.any ?_ rfl rfl m
 refine PCalls.en 5 Tryz.func173 rfl (ro_nil) rfl (fun E => ?_)
 repeat' (first | with_reducible (refine Then.n ?_) | ((with_reducible refine AL.on ?_); first | ((first | refine AL.as ?_ | refine AL.mv ?_ | ((with_reducible refine AL.k_binOp ?_); refine AL.g (OQ.neq rfl rfl) ?_)); refine AL.nm ?_) | refine AL.nil ?_) | ((with_reducible refine AW.on ?_); first | refine AW.seq ?_ | refine AW.ret ?_ | refine AW.region ?_) | ((with_reducible refine FinP.on ?_); (refine FinP.ret (.tmp wl .nil) ?_ rfl); (try simp only [pack, List.drop, List.take]); all_goals (((congr 1; simp)))))
def cmpI (a b : Int) : Int := if a < b then -1 else if b < a then 1 else 0
theorem Compare_q (a b : Int) (m : Mem) : PCalls Tryz.prog 147 [.int .i64 a, .int .i64 b] m (.int .i64 (cmpI a b)) := by
 refine PCalls.any ?_ rfl rfl m
 unfold cmpI
 refine PCalls.en 18 Tryz.func147 rfl (ro_nil) rfl (fun E => ?_)
 repeat' (first | with_reducible (first | refine Then.n ?_ | refine Then.r ?_) | ((with_reducible refine AL.on ?_); first | ((first | refine AL.as ?_ | refine AL.mv ?_ | ((with_reducible refine AL.k_binOp ?_); first | refine AL.g (OQ.lss rfl rfl) ?_ | refine AL.g (OQ.gtr rfl rfl) ?_)); refine AL.nm ?_) | ((refine AL.pcall (g := 173) rfl kr rfl (isNaN_q _ _) ?_); refine AL.nm ?_) | refine AL.nil ?_) | ((with_reducible refine AW.on ?_); first | refine AW.seq ?_ | refine AW.skip ?_ | refine AW.ret ?_ | refine AW.region ?_ | (refine AW.conds rfl (fun hc => ?_) (fun hc => ?_) <;> (try replace hc := nc hc) <;> first | (exfalso; contradiction) | skip)) | ((with_reducible refine FinP.on ?_); (refine FinP.ret (.tmp wl .nil) ?_ rfl); (try simp only [pack, List.drop, List.take]); all_goals ((congr 1; (repeat' split) <;> omega))))
theorem cmpI_0 (n : Int) : cmpI n 0 = sgn n := by
 unfold cmpI sgn
 repeat' split
 all_goals omega
theorem sign_q (n : Int) (m : Mem) : PCalls Tryz.prog 162 [.int .i64 n] m (.int .i64 (sgn n)) := by
 refine PCalls.any ?_ rfl rfl m
 have h := fun m => Compare_q n 0 m
 rw [cmpI_0] at h
 generalize sgn n = s at *
 refine PCalls.en 4 Tryz.func162 rfl (ro_nil) rfl (fun E => ?_)
 repeat' (first | with_reducible (refine Then.n ?_) | ((with_reducible refine AL.on ?_); first | ((first | refine AL.as ?_ | refine AL.mv ?_); refine AL.nm ?_) | ((refine AL.pcall (g := 147) rfl kr rfl (h _) ?_); refine AL.nm ?_) | refine AL.nil ?_) | ((with_reducible refine AW.on ?_); first | refine AW.seq ?_ | refine AW.ret ?_ | refine AW.region ?_) | ((with_reducible refine FinP.on ?_); (refine FinP.ret (.tmp wl .nil) ?_ rfl); (try simp only [pack, List.drop, List.take]); all_goals (rfl)))
theorem turn_q {a b c : Pn} (ha : a.Ok) (hb : b.Ok) (hc : c.Ok) (m : Mem) : PCalls Tryz.prog 133 [ptV a, ptV b, ptV c] m (.int .i64 (sgn (cr a b c))) := by
 refine PCalls.any ?_ rfl rfl m
 obtain ⟨d1, d2⟩ := cr_bd ha hb hc
 obtain ⟨a1, a2⟩ := ha.b
 obtain ⟨b1, b2⟩ := hb.b
 obtain ⟨c1, c2⟩ := hc.b
 have hs := fun m => sign_q (cr a b c) m
 unfold cr at hs ⊢
 refine PCalls.en 28 Tryz.func133 rfl (ro_nil) rfl (fun E => ?_)
 repeat' (first | with_reducible (refine Then.n ?_) | ((with_reducible refine AL.on ?_); first | ((first | ((with_reducible refine AL.k_fieldAddr ?_); first | refine AL.g (OQ.fieldA (ty := 65) (i := 0) (n := 1) (off := 0) (g := false) rfl kr (by decide)) ?_ | refine AL.g (OQ.fieldA (ty := 65) (i := 1) (n := 1) (off := 1) (g := false) rfl kr (by decide)) ?_) | ((with_reducible refine AL.k_load ?_); (refine AL.g (OQ.load1 (ty := 3) rfl kr wl) ?_)) | ((with_reducible refine AL.k_binOp ?_); first | refine AL.g (OQ.subi rfl rfl (by omega)) ?_ | refine AL.g (OQ.muli rfl rfl (by omega)) ?_) | refine AL.as ?_); refine AL.nm ?_) | ((refine AL.pcall (g := 162) rfl kr rfl (hs _) ?_); refine AL.nm ?_) | ((refine AL.bx ?_); refine AL.nm ?_; refine AL.nM ?_) | refine AL.nil ?_) | ((with_reducible refine AW.on ?_); first | refine AW.seq ?_ | refine AW.ret ?_ | refine AW.region ?_) | ((with_reducible refine FinP.on ?_); (refine FinP.ret (.tmp wl .nil) ?_ rfl); (try simp only [pack, List.drop, List.take]); all_goals (rfl)))
theorem rsign_q (n : Int) (m : Mem) : PCalls Tryz.prog 83 [.int .i64 n] m (.int .i64 (sgn n)) := by
 refine PCalls.any ?_ rfl rfl m
 unfold sgn
 refine PCalls.en 6 Tryz.func83 rfl (ro_nil) rfl (fun E => ?_)
 repeat' (first | with_reducible (first | refine Then.n ?_ | refine Then.r ?_) | ((with_reducible refine AL.on ?_); first | ((first | refine AL.as ?_ | refine AL.mv ?_ | ((with_reducible refine AL.k_binOp ?_); refine AL.g (OQ.lss rfl rfl) ?_) | ((with_reducible refine AL.k_call ?_); refine AL.g (OQ.min2 rfl rfl) ?_)); refine AL.nm ?_) | refine AL.nil ?_) | ((with_reducible refine AW.on ?_); first | refine AW.seq ?_ | refine AW.skip ?_ | refine AW.ret ?_ | refine AW.region ?_ | (refine AW.conds rfl (fun hc => ?_) (fun hc => ?_) <;> (try replace hc := nc hc) <;> skip)) | ((with_reducible refine FinP.on ?_); (refine FinP.ret (.tmp wl .nil) ?_ rfl); (try simp only [pack, List.drop, List.take]); all_goals ((congr 1; (repeat' split) <;> omega))))
theorem Area_q {a b c : Pn} (ha : a.Ok) (hb : b.Ok) (hc : c.Ok) (m : Mem) : PCalls Tryz.prog 74 [ptV a, ptV b, ptV c] m (.int .i64 (cr a b c)) := by
 refine PCalls.any ?_ rfl rfl m
 obtain ⟨d1, d2⟩ := cr_bd ha hb hc
 obtain ⟨a1, a2⟩ := ha.b
 obtain ⟨b1, b2⟩ := hb.b
 obtain ⟨c1, c2⟩ := hc.b
 unfold cr
 refine PCalls.en 27 Tryz.func74 rfl (ro_nil) rfl (fun E => ?_)
 repeat' (first | with_reducible (refine Then.n ?_) | ((with_reducible refine AL.on ?_); first | ((first | ((with_reducible refine AL.k_fieldAddr ?_); first | refine AL.g (OQ.fieldA (ty := 65) (i := 0) (n := 1) (off := 0) (g := false) rfl kr (by decide)) ?_ | refine AL.g (OQ.fieldA (ty := 65) (i := 1) (n := 1) (off := 1) (g := false) rfl kr (by decide)) ?_) | ((with_reducible refine AL.k_load ?_); (refine AL.g (OQ.load1 (ty := 3) rfl kr wl) ?_)) | ((with_reducible refine AL.k_binOp ?_); first | refine AL.g (OQ.subi rfl rfl (by omega)) ?_ | refine AL.g (OQ.muli rfl rfl (by omega)) ?_) | refine AL.as ?_); refine AL.nm ?_) | ((refine AL.bx ?_); refine AL.nm ?_; refine AL.nM ?_) | refine AL.nil ?_) | ((with_reducible refine AW.on ?_); first | refine AW.seq ?_ | refine AW.ret ?_ | refine AW.region ?_) | ((with_reducible refine FinP.on ?_); (refine FinP.ret (.tmp wl .nil) ?_ rfl); (try simp only [pack, List.drop, List.take]); all_goals (rfl)))
theorem rTurn_q {a b c : Pn} (ha : a.Ok) (hb : b.Ok) (hc : c.Ok) (m : Mem) : PCalls Tryz.prog 84 [ptV a, ptV b, ptV c] m (.int .i64 (sgn (cr a b c))) := by
 refine PCalls.any ?_ rfl rfl m
 obtain ⟨d1, d2⟩ := cr_bd ha hb hc
 have hA := fun m => Area_q ha hb hc m
 have hs := fun m => rsign_q (cr a b c) m
 generalize cr a b c = k at *
 refine PCalls.en 9 Tryz.func84 rfl (ro_nil) rfl (fun E => ?_)
 repeat' (first | with_reducible (refine Then.n ?_) | ((with_reducible refine AL.on ?_); first | ((first | ((with_reducible refine AL.k_load ?_); refine AL.g (OQ.loadN (ty := 65) (n := 2) rfl kr kr rfl) ?_) | refine AL.as ?_); refine AL.nm ?_) | ((first | refine AL.pcall (g := 74) rfl kr rfl (hA _) ?_ | refine AL.pcall (g := 83) rfl kr rfl (hs _) ?_); refine AL.nm ?_) | ((refine AL.bx ?_); refine AL.nm ?_; refine AL.nM ?_) | refine AL.nil ?_) | ((with_reducible refine AW.on ?_); first | refine AW.seq ?_ | refine AW.ret ?_ | refine AW.region ?_) | ((with_reducible refine FinP.on ?_); (refine FinP.ret (.tmp wl .nil) ?_ rfl); (try simp only [pack, List.drop, List.take]); all_goals (rfl)))
theorem isPoint_q (p : Pn) (m : Mem) : PCalls Tryz.prog 140 [ptV p] m (.bool (okP p)) := by
 refine PCalls.any ?_ rfl rfl m
 have h1 := fun m => rWithin_q p.x (-10000) 10000 m
 have h2 := fun m => rWithin_q p.y (-10000) 10000 m
 have e : okP p = (rgB p.x (-10000) 10000 && rgB p.y (-10000) 10000) := by unfold okP rgB; simp
 rw [e]
 generalize rgB p.x (-10000) 10000 = A at *
 generalize rgB p.y (-10000) 10000 = B at *
 cases A <;> cases B
 all_goals
  refine PCalls.en 10 Tryz.func140 rfl (ro_nil) rfl (fun E => ?_)
  repeat' (first | with_reducible (refine Then.n ?_) | ((with_reducible refine AL.on ?_); first | (refine AL.gd rfl ?_; (refine AL.gs1 rfl rfl (fun hc => ?_) (fun hc => ?_) <;> (try replace hc := nc hc) <;> first | (exfalso; contradiction) | refine AL.nm ?_)) | ((first | refine AL.as ?_ | ((with_reducible refine AL.k_fieldAddr ?_); first | refine AL.g (OQ.fieldA (ty := 65) (i := 0) (n := 1) (off := 0) (g := false) rfl kr (by decide)) ?_ | refine AL.g (OQ.fieldA (ty := 65) (i := 1) (n := 1) (off := 1) (g := false) rfl kr (by decide)) ?_) | ((with_reducible refine AL.k_load ?_); (refine AL.g (OQ.load1 (ty := 3) rfl kr wl) ?_)) | refine AL.mv ?_ | ((with_reducible refine AL.k_pick ?_); first | refine AL.pT ?_ | refine AL.pF ?_)); refine AL.nm ?_) | ((refine AL.pcall (g := 69) rfl kr rfl ((by first | exact h1 _ | exact h2 _)) ?_); refine AL.nm ?_) | ((refine AL.bx ?_); refine AL.nm ?_; refine AL.nM ?_) | refine AL.nil ?_) | ((with_reducible refine AW.on ?_); first | refine AW.seq ?_ | refine AW.ret ?_ | refine AW.region ?_) | ((with_reducible refine FinP.on ?_); (refine FinP.ret (.tmp wl .nil) ?_ rfl); (try simp only [pack, List.drop, List.take]); all_goals (rfl)))
def plE (l : List Pn) : Int := if l.all okP then 0 else 2
theorem placeErr_0 (l : List Pn) (hl : l.length ≤ 100000) (c z : Nat) : PCalls Tryz.prog 97 [.slice (some ⟨0, 0, none⟩) l.length c] [some ⟨flatP l, false, z⟩] (.int .i64 (plE l)) := by
 have hld := fun (k : Nat) (hk : k < l.length) (r : Mem) => flatP_ld (m := some ⟨flatP l, false, z⟩ :: r) (b := 0) (l := l) rfl rfl k hk
 have hw := fun (n : Int) (m : Mem) => within_q n (-10000) 10000 m
 have hno : ∀ k, k < l.length → (rgB (pt l k).x (-10000) 10000 = false ∨ rgB (pt l k).y (-10000) 10000 = false) → plE l = 2 := fun k hk h => by
  unfold plE
  rw [if_neg]
  intro ha
  have := List.all_eq_true.1 ha _ (pt_mem hk)
  have e : okP (pt l k) = (rgB (pt l k).x (-10000) 10000 && rgB (pt l k).y (-10000) 10000) := by unfold okP rgB; simp
  rw [e] at this
  rcases h with h | h <;> rw [h] at this <;> simp at this
 have hyes : (∀ k, k < l.length → rgB (pt l k).x (-10000) 10000 = true ∧ rgB (pt l k).y (-10000) 10000 = true) → plE l = 0 := fun h => by
  unfold plE
  rw [if_pos]
  refine List.all_eq_true.2 fun p hp => ?_
  obtain ⟨i, hi, rfl⟩ := mem_pt hp
  have e : okP (pt l i) = (rgB (pt l i).x (-10000) 10000 && rgB (pt l i).y (-10000) 10000) := by unfold okP rgB; simp
  rw [e, (h i hi).1, (h i hi).2]
  rfl
 generalize plE l = E0 at *
 refine PCalls.enJ 21 Tryz.func97 rfl (ro1p _ rfl) rfl (fun E hE => ?_)
 repeat' (first | with_reducible (first | refine Then.n ?_ | refine Then.r ?_ | refine Then.x ?_ | refine InB.n ?_ | refine InB.r ?_ | refine InB.hit ?_) | ((with_reducible refine AL.on ?_); first | (refine AL.gd rfl ?_; (refine AL.gs0 rfl rfl (fun hc => ?_) (fun hc => ?_) <;> (try replace hc := nc hc) <;> first | (exfalso; contradiction) | refine AL.nm ?_)) | ((first | refine AL.mv ?_ | refine AL.as ?_ | ((with_reducible refine AL.k_call ?_); refine AL.g (OQ.lenS (xt := 22) (r := (none, 2, true)) rfl kr) ?_) | ((with_reducible refine AL.k_load ?_); first | refine AL.g (OQ.loadN (ty := 65) (n := 2) rfl kr kr (by (exact hld _ (by omega) _))) ?_ | (refine AL.g (OQ.load1 (ty := 3) rfl kr (by (conv => lhs; whnf))) ?_)) | ((with_reducible refine AL.k_binOp ?_); first | refine AL.g (OQ.lss rfl rfl) ?_ | refine AL.g (OQ.addi rfl rfl (by omega)) ?_) | ((with_reducible refine AL.k_unOp ?_); refine AL.g (OQ.not rfl) ?_) | ((with_reducible refine AL.k_pick ?_); first | refine AL.pT ?_ | refine AL.pF ?_)); refine AL.nm ?_) | ((first | ((with_reducible refine AL.k_call ?_); refine AL.pcall (g := 89) rfl kr rfl (hw _ _) ?_) | ((with_reducible refine AL.k_fieldAddr ?_); first | refine AL.g (OQ.fieldA (ty := 65) (i := 0) (n := 1) (off := 0) (g := false) rfl kr (by decide)) ?_ | refine AL.g (OQ.fieldA (ty := 65) (i := 1) (n := 1) (off := 1) (g := false) rfl kr (by decide)) ?_) | ((with_reducible refine AL.k_indexAddr ?_); refine AL.g (OQ.idxAddr (ty := 22) (z := 2) (g := true) rfl rfl kr (by omega) (by omega)) ?_)); refine AL.nm ?_) | ((first | ((with_reducible refine AL.k_alloc ?_); refine AL.w rfl (OW.alloc (ty := 65) (z := [.int .i64 0, .int .i64 0]) kr rfl) ?_) | ((with_reducible refine AL.k_store ?_); (refine AL.w rfl (OW.store (ty := 65) (n := 2) rfl wl rfl rfl kr rfl rfl (by decide) rfl (Nat.le_of_ble_eq_true rfl) (by intro r h; cases h)) ?_))); refine AL.nm ?_; refine AL.nM ?_) | refine AL.nil ?_) | ((with_reducible refine AW.on ?_); first | refine AW.seq ?_ | refine AW.skip ?_ | refine AW.exit ?_ | refine AW.ret ?_ | ((refine AW.block (id := 0) ?_); (refine AW.fk [5, 6, 7] ?_); (refine AW.loop (fun n t' m => ∃ k : Nat, n = l.length - k ∧ k ≤ l.length ∧ (∀ j, j < k → rgB (pt l j).x (-10000) 10000 = true ∧ rgB (pt l j).y (-10000) 10000 = true) ∧ t' = (mtz 22 0 [(5, .slice (some ⟨0, 0, none⟩) l.length c), (6, .int .i64 (l.length)), (7, .int .i64 (k))]) ∧ m = [some ⟨flatP l, false, z⟩]) (l.length) (by exact ⟨0, rfl, Nat.zero_le _, fun j h => absurd h (by omega), rfl, rfl⟩) ?_); (rintro n t' m ⟨k, rfl, hk, hj, rfl, rfl⟩); (refine AW.nT ?_)) | refine AW.block ?_ | refine AW.region ?_ | (refine AW.conds rfl (fun hc => ?_) (fun hc => ?_) <;> (try replace hc := nc hc) <;> first | (exfalso; contradiction) | skip)) | ((with_reducible refine ex_on ?_); (refine ⟨l.length - (k + 1), [jk, jk, jk, jk, jk, .slice (some ⟨0, 0, none⟩) l.length c, .int .i64 (l.length), .int .i64 (k + 1), jk, jk, jk, jk, jk, jk, jk, jk, jk, jk, jk, jk, jk, jk], [some ⟨flatP l, false, z⟩], by omega, ?_, k + 1, rfl, by omega, fun j h => (by rcases Nat.lt_or_eq_of_le (Nat.le_of_lt_succ h) with h | rfl; (exact hj j h); (constructor <;> assumption)), rfl, rfl⟩; exact Wk.keep 1 [] (Nat.le_of_eq hE) rfl rfl (by repeat (first | exact RenT.nil | refine RenT.jk ?_ | refine RenT.val (by rfl) (by rfl) ?_)) ⟨kl rfl (flatP_scal l), trivial⟩)) | ((with_reducible refine FinJ.on ?_); first | (rw [hno k (by omega) (by first | (left; assumption) | (right; assumption))]; exact FinJ.ret (.tmp wl .nil) (jle_flat rfl)) | (obtain rfl : k = l.length := (by omega); rw [hyes hj]; exact FinJ.ret (.tmp wl .nil) (jle_flat rfl))))
end Go.Proofs.YtmohcmghbfhdlaaGreat
end
end
/- Arguments of which lists are in memory, in the small memory. -/
section
set_option linter.unusedSimpArgs false
set_option linter.unusedVariables false
namespace Go.Ls
open Go.ChangeShapes Go.WideShapes Go.ChangeAt Go Go.RowKit Go.Ab
def plL (L : List (Option Addr × List Value)) (b : Nat) : Option Pl := match L[b]? with
 | some x => plX x.1 x.2
 | none => none
theorem glueL {P : Program} {f : FuncId} {args : List Value} {vals : Array Value} {w : World} (L : List (Option Addr × List Value)) (hs : ∀ x ∈ L, x.2.all scal = true ∧ SlX w x.1 x.2) (hv : VRel (plL L) (.tuple args.toArray) (.tuple vals))
  (h : PCalls P f args (L.map fun x => blX x.2) (.bool true)) : Calls P f vals w fun e w' => e = .returned (.bool true) ∧ Below w.heap.size w w' := by
 refine (h (plL L) _ w (fun b pl hb => ?_) hv (fun b blk hb => ?_)).mono fun e w' ⟨v', he, hr, hb⟩ => ⟨by rw [he, hr.bool], hb.below⟩
 ·unfold plL at hb
  cases hx : L[b]? with
  | none => rw [hx] at hb; cases hb
  | some x =>
   have := (List.getElem?_eq_some_iff.1 hx).1
   simpa using this
 ·have hlt := Mem.at_lt hb
  have hlt' : b < L.length := by simpa using hlt
  have hx : L[b]? = some L[b] := List.getElem?_eq_getElem hlt'
  obtain ⟨h1, h2⟩ := hs _ (List.getElem_mem hlt')
  have hb' : blX L[b].2 = some blk := by simpa [Mem.at, hx] using hb
  obtain ⟨pl, k1, k2⟩ := blX_rel (ρ := plL L) (i := b) h1 h2 (by unfold plL; rw [hx]) hb'
  exact ⟨pl, k1, k2, fun ho => by rw [blX_ro _ _ hb'] at ho; cases ho⟩
section
variable {H : Type} {enc : TypeId × Value → H} {P : Program}
theorem post_below {f : Func} {s : ChangeSpec} {apart fresh handsOn again : Bool} {W W' : World} {args : Array Value} {v : Value} {ds gs : List (DataW H)} {before pa pv : List MemPlace}
  (hW : DataW.Whole enc P f.params.toList s.vars apart W args.toList ds gs before)
  (hres : ∀ (b : Nat) (sp : Nat → Bool) (hd : Bool), DataW.TrodAll enc P W' b sp hd f.resultTypes.toList (v.resultList f.resultTypes.size) (s.fn H (ds ++ gs)).results [])
  (hargs : ∀ sp : Nat → Bool, (∀ p ∈ before, sp p.block = true) → DataW.TrodAll enc P W' 0 sp true f.params.toList args.toList (s.fn H (ds ++ gs)).args pa)
  (hvars : ∀ sp : Nat → Bool, (∀ p ∈ before, sp p.block = true) → DataW.TrodVars enc P W' sp s.vars (s.fn H (ds ++ gs)).vars pv)
  (hps : before = pa ++ pv) (hb : Below W.heap.size W W')
  (hok : ∀ (j : Nat) (t : TypeId) (r : Value), f.resultTypes[j]? = some t → (v.resultList f.resultTypes.size)[j]? = some r → Value.okWide P W' .any 0 t r) :
  s.post enc P f apart fresh handsOn again W args v W' := by
 have hlt : ∀ p ∈ before, p.block < W.heap.size := fun p hp => hW.lt p hp
 have hold : ∀ p ∈ before, (fun b => decide (b < W.heap.size)) p.block = true := fun p hp => by simpa using hlt p hp
 refine ⟨ds, gs, before, [], pa, pv, hW, hres _ _ _, hargs _ hold, hvars _ hold, World.keptBut_mono (fun p hp => ⟨hp, ?_⟩) (hb.frame (· ∈ before)), fun _ => ?_⟩
 ·rw [hps, List.mem_append] at hp
  exact Or.inr hp
 ·obtain ⟨_, _, _, _, _, hz, hn⟩ := hW
  refine ⟨hok, _, _, ([] ++ pa) ++ pv, ⟨[] ++ pa, pv, trodAll_append (hargs _ (fun _ _ => rfl)) (hres _ _ _), hvars _ (fun _ _ => rfl), rfl, ?_, ?_⟩, ?_⟩
  ·intro b off hp
   have hin : MemPlace.cell b off ∈ before := by rw [hps]; simpa using hp
   rw [hb.frozen (hlt _ hin)]
   exact hz b off hin
  ·intro ha
   have := hn ha
   rw [hps] at this
   simpa using this
  ·intro p hp _
   rw [hps]
   simpa using hp
end
end Go.Ls
end
/- How the arguments of the statements of chapter 6 read. -/
section
set_option linter.unusedSimpArgs false
set_option linter.unusedVariables false
section
namespace Go.Proofs.YtmohcmghbfhdlaaGreat
open Go.ChangeShapes Go.WideShapes Go.ChangeAt Go Go.RowKit Go.Ab Go.Ls Go.Me
set_option maxRecDepth 100000
theorem laid : laidOutB Tryz.prog = true := by kernel_rfl
theorem own : ownKnob Tryz.prog.godebug = none := by kernel_rfl
def mkP (f : Nat → Int) : Pn := ⟨f 0, f 1⟩
theorem cells_mp : Tryz.prog.cellsOf 65 = 2 := by kernel_rfl
theorem ints_mp : intsT Tryz.prog 4 65 = true := by kernel_rfl
theorem flatP_nil (l : List Pn) : flatP l = [] ↔ l.length = 0 := by
 rw [← List.length_eq_zero_iff, flatP_len]
 omega
end Go.Proofs.YtmohcmghbfhdlaaGreat
end
end
/- Chapter 6: Turn and InCircle of both sides. -/
section
set_option linter.unusedSimpArgs false
set_option linter.unusedVariables false
section
namespace Go.Me
end Go.Me
namespace Go.Proofs.YtmohcmghbfhdlaaGreat
open Go Go.RowKit Go.Ab Go.Me
set_option maxRecDepth 100000
set_option maxHeartbeats 4000000
attribute [local irreducible] OQ OW AL AW AF SW
theorem plE_cons (p : Pn) (l : List Pn) : plE (p :: l) = if okP p = true then plE l else 2 := by
 unfold plE
 rw [List.all_cons]
 cases okP p <;> simp
theorem plE_nil : plE [] = 0 := rfl
theorem placeErr_q {m : Mem} {b n c : Nat} {blk : Blk} (l : List Pn) (hb : m.at b = some blk) (hc : blk.cells = flatP l) (hn : l.length = n) (hl : l.length ≤ 100000) (ho : blk.obj = Ob.plain := by rfl) : PCalls Tryz.prog 97 [.slice (some ⟨b, 0, none⟩) n c] m (.int .i64 (plE l)) := by
 subst hn
 exact PCalls.viaS [b] (placeErr_0 l hl c blk.esz) (ro1p _ rfl) ⟨bS hb ho hc (flatP_scal _), trivial⟩ rfl rfl rfl rfl
end Go.Proofs.YtmohcmghbfhdlaaGreat
end
end
/- Chapter 6: dispersions (the program's). -/
section
set_option linter.unusedSimpArgs false
set_option linter.unusedVariables false
section
namespace Go.Me
open Go.Ab
def numC (n : Int) : List Value := [.int .i64 n]
def flatN (l : List Int) : List Value := l.map fun n => .int .i64 n
def nt (l : List Int) (k : Nat) : Int := l.getD k 0
theorem flatN_flat (l : List Int) : l.flatMap numC = flatN l := by
 induction l with
 | nil => rfl
 | cons a l ih => rw [List.flatMap_cons, ih]; rfl
theorem flatN_scal (l : List Int) : (flatN l).all Ab.scal = true := by
 rw [← flatN_flat]
 exact Ls.flat_scal numC (fun _ => rfl) l
theorem flatN_get (l : List Int) (k : Nat) (hk : k < l.length) : (flatN l)[k]? = some (.int .i64 (nt l k)) := by
 unfold flatN nt
 rw [List.getElem?_map, List.getElem?_eq_getElem hk, List.getD_eq_getElem?_getD, List.getElem?_eq_getElem hk]
 rfl
def dsS (l : List Int) : Nat → Int
 | 0 => 0
 | k + 1 => dsS l k + nt l k
def dsQ (l : List Int) : Nat → Int
 | 0 => 0
 | k + 1 => dsQ l k + nt l k * nt l k
def dsOk (l : List Int) : Bool := decide (∀ k, k < l.length → 0 ≤ nt l k ∧ nt l k ≤ 3000)
def dsE (l : List Int) : Int := if l.length < 2 then 10 else if 60 < l.length then 8 else if dsOk l = true then (if dsS l l.length = 0 then 11 else 0) else 2
def dsN (l : List Int) : Int := l.length * dsQ l l.length - dsS l l.length * dsS l l.length
def dsD (l : List Int) : Int := dsS l l.length * dsS l l.length
def dsA (l : List Int) : Int := if dsE l = 0 then (dsN l).tdiv (Int.gcd (dsN l) (dsD l)) else 0
def dsB (l : List Int) : Int := if dsE l = 0 then (dsD l).tdiv (Int.gcd (dsN l) (dsD l)) else 0
theorem sq_nn (a : Int) : 0 ≤ a * a := by
 rcases Int.le_total 0 a with h | h
 ·exact Int.mul_nonneg h h
 ·have := Int.mul_nonneg (a := -a) (b := -a) (by omega) (by omega)
  rwa [Int.neg_mul_neg] at this
theorem ds_var (l : List Int) (a : Int) : ∀ k : Nat, 0 ≤ dsQ l k - 2 * (a * dsS l k) + k * (a * a) := by
 intro k
 induction k with
 | zero => simp [dsQ, dsS]
 | succ k ih =>
  have := sq_nn (nt l k - a)
  unfold dsQ dsS
  have e : dsQ l k + nt l k * nt l k - 2 * (a * (dsS l k + nt l k)) + ((k + 1 : Nat) : Int) * (a * a) = (dsQ l k - 2 * (a * dsS l k) + k * (a * a)) + (nt l k - a) * (nt l k - a) := by
   rw [Int.natCast_add]
   grind
  omega
theorem ds_nn (l : List Int) : ∀ k : Nat, 0 ≤ k * dsQ l k - dsS l k * dsS l k := by
 intro k
 induction k with
 | zero => simp [dsQ, dsS]
 | succ k ih =>
  have := ds_var l (nt l k) k
  unfold dsQ dsS
  have e : ((k + 1 : Nat) : Int) * (dsQ l k + nt l k * nt l k) - (dsS l k + nt l k) * (dsS l k + nt l k) = (k * dsQ l k - dsS l k * dsS l k) + (dsQ l k - 2 * (nt l k * dsS l k) + k * (nt l k * nt l k)) := by
   rw [Int.natCast_add]
   grind
  omega
theorem ds_bd {l : List Int} : ∀ k : Nat, (∀ j, j < k → 0 ≤ nt l j ∧ nt l j ≤ 3000) → (0 ≤ dsS l k ∧ dsS l k ≤ 3000 * k) ∧ 0 ≤ dsQ l k ∧ dsQ l k ≤ 9000000 * k := by
 intro k
 induction k with
 | zero => intro _; simp [dsQ, dsS]
 | succ k ih =>
  intro h
  obtain ⟨h1, h2⟩ := ih (fun j hj => h j (by omega))
  have h3 := h k (by omega)
  have h4 := sq_nn (nt l k)
  have h5 := mul_bd (m := nt l k) (n := nt l k) (a := 3000) (b := 3000) (by omega) (by omega) (by decide)
  unfold dsQ dsS
  omega
theorem gcd_step (a b : Int) : Int.gcd b (a.tmod b) = Int.gcd a b := by
 unfold Int.gcd
 rw [Int.natAbs_tmod, Nat.gcd_comm b.natAbs, ← Nat.gcd_rec, Nat.gcd_comm]
theorem natAbs_tmod_lt {a b : Int} (h : b ≠ 0) : (a.tmod b).natAbs < b.natAbs := by
 rw [Int.natAbs_tmod]
 exact Nat.mod_lt _ (by omega)
theorem gtmod_bd {a b M : Int} (ha : 0 ≤ a ∧ a ≤ M) : 0 ≤ a.tmod b ∧ a.tmod b ≤ M := by
 have h1 : (a.tmod b).natAbs ≤ a.natAbs := by rw [Int.natAbs_tmod]; exact Nat.mod_le _ _
 have h2 := Int.tmod_nonneg b ha.1
 omega
theorem gtdiv_bd {a b M : Int} (ha : -M ≤ a ∧ a ≤ M) : -M ≤ a.tdiv b ∧ a.tdiv b ≤ M := by
 have h1 : (a.tdiv b).natAbs ≤ a.natAbs := by rw [Int.natAbs_tdiv]; exact Nat.div_le_self _ _
 omega
end Go.Me
namespace Go.Proofs.YtmohcmghbfhdlaaGreat
open Go Go.RowKit Go.Ab Go.Me
set_option maxRecDepth 100000
set_option maxHeartbeats 4000000
attribute [local irreducible] OQ OW AL AW AF SW
theorem divisor_q (a b : Int) (ha : 0 ≤ a ∧ a ≤ 9000000000000000000) (hb : 0 ≤ b ∧ b ≤ 9000000000000000000) (m : Mem) : PCalls Tryz.prog 95 [.int .i64 a, .int .i64 b] m (.int .i64 (Int.gcd a b)) := by
 refine PCalls.any ?_ rfl rfl m
 refine PCalls.en 10 Tryz.func95 rfl (ro_nil) rfl (fun E => ?_)
 repeat' (first | with_reducible (first | refine Then.n ?_ | refine Then.x ?_ | refine InB.n ?_ | refine InB.hit ?_) | ((with_reducible refine AL.on ?_); first | ((first | refine AL.mv ?_ | refine AL.as ?_ | ((with_reducible refine AL.k_binOp ?_); refine AL.g (OQ.neq rfl rfl) ?_)); refine AL.nm ?_) | refine AL.nil ?_) | ((with_reducible refine AW.on ?_); first | refine AW.seq ?_ | refine AW.skip ?_ | refine AW.exit ?_ | refine AW.ret ?_ | ((refine AW.block (id := 0) ?_); (refine AW.fk [0, 1] ?_); (refine AW.loop (fun n t m => ∃ x y : Int, n = y.natAbs ∧ (0 ≤ x ∧ x ≤ 9000000000000000000) ∧ (0 ≤ y ∧ y ≤ 9000000000000000000) ∧ Int.gcd x y = Int.gcd a b ∧ t = (mtz 12 0 [(0, .int .i64 x), (1, .int .i64 y)]) ∧ m = []) (b.natAbs) (by exact ⟨a, b, rfl, ha, hb, rfl, rfl, rfl⟩) ?_); (rintro n t m ⟨x, y, rfl, hx, hy, hg, rfl, rfl⟩); (refine AW.nT ?_)) | refine AW.block ?_ | (refine AW.drawF (id := 2) 5 #[0, 0, 0, 6, 3, 31] kr kr ?_; (conv => (arg 8; simp only [List.take_succ_cons, List.take_zero]))) | refine AW.region ?_ | (refine AW.conds rfl (fun hc => ?_) (fun hc => ?_) <;> (try replace hc := nc hc) <;> skip)) | ((with_reducible refine AF.on ?_); first | ((first | ((with_reducible refine AF.k_move ?_); (refine AF.q 0 (SW.q (OQ.move wl) rfl) ?_)) | ((with_reducible refine AF.k_assign ?_); (refine AF.q 0 (SW.q (OQ.assign wl) rfl) ?_)) | ((with_reducible refine AF.k_binOp ?_); refine AF.q 0 (SW.q (OQ.rem rfl rfl (by omega)) rfl) ?_)); refine AF.nm ?_) | refine AF.nl ?_) | ((with_reducible refine ex_on ?_); exact ⟨_, _, _, natAbs_tmod_lt ‹¬ y = 0›, Wk.fk [0, 1] rfl, y, x.tmod y, rfl, hy, gtmod_bd hx, (gcd_step x y).trans hg, rfl, rfl⟩) | ((with_reducible refine FinP.on ?_); (refine FinP.ret (.tmp wl .nil) ?_ rfl); (try simp only [pack, List.drop, List.take]); all_goals (congr 1; rw [← hg, ‹y = 0›]; simp; try omega)))
theorem rgB_true {n lo hi : Int} : rgB n lo hi = true ↔ lo ≤ n ∧ n ≤ hi := by
 unfold rgB
 exact decide_eq_true_iff
theorem ds_bds {l : List Int} {k : Nat} (hk : k ≤ 60) (h : ∀ j, j < k → rgB (nt l j) 0 3000 = true) :
  (0 ≤ dsS l k ∧ dsS l k ≤ 180000) ∧ (0 ≤ dsQ l k ∧ dsQ l k ≤ 540000000) ∧ (0 ≤ k * dsQ l k ∧ k * dsQ l k ≤ 32400000000) ∧ (0 ≤ dsS l k * dsS l k ∧ dsS l k * dsS l k ≤ 32400000000) ∧ 0 ≤ k * dsQ l k - dsS l k * dsS l k := by
 obtain ⟨h1, h2⟩ := ds_bd (l := l) k (fun j hj => rgB_true.1 (h j hj))
 have h3 := sq_nn (dsS l k)
 have h4 := mul_bd (m := dsS l k) (n := dsS l k) (a := 180000) (b := 180000) (by omega) (by omega) (by decide)
 have h5 := mul_bd (m := (k : Int)) (n := dsQ l k) (a := 60) (b := 540000000) (by omega) (by omega) (by decide)
 have h6 := ds_nn l k
 omega
def dsV (l : List Int) : Value := .tuple #[.agg #[.int .i64 (dsA l), .int .i64 (dsB l)], .int .i64 (dsE l)]
theorem dsV_e {l : List Int} {e : Int} (h : dsE l = e) (h0 : e ≠ 0) : dsV l = .tuple #[.agg #[.int .i64 0, .int .i64 0], .int .i64 e] := by
 unfold dsV dsA dsB
 rw [h, if_neg h0, if_neg h0]
theorem dsOk_true {l : List Int} (h : ∀ j, j < l.length → rgB (nt l j) 0 3000 = true) : dsOk l = true := by
 unfold dsOk
 exact decide_eq_true fun k hk => rgB_true.1 (h k hk)
theorem Dispersion_0 (l : List Int) (c z : Nat) (hl : l.length ≤ 1000000) : PCalls Tryz.prog 48 [.slice (some ⟨0, 0, none⟩) l.length c] [some ⟨flatN l, false, z⟩] (dsV l) := by
 have hld := fun (k : Nat) (hk : k < l.length) => flatN_get l k hk
 have hw := fun (n : Int) (m : Mem) => within_q n 0 3000 m
 have hlo : l.length < 2 → dsV l = .tuple #[.agg #[.int .i64 0, .int .i64 0], .int .i64 10] := fun h => dsV_e (by unfold dsE; rw [if_pos h]) (by decide)
 have hhi : 60 < l.length → dsV l = .tuple #[.agg #[.int .i64 0, .int .i64 0], .int .i64 8] := fun h => dsV_e (by unfold dsE; rw [if_neg (by omega), if_pos h]) (by decide)
 have hrg : ∀ k, ¬ l.length < 2 → ¬ 60 < l.length → k < l.length → rgB (nt l k) 0 3000 = false → dsV l = .tuple #[.agg #[.int .i64 0, .int .i64 0], .int .i64 2] := fun k h1 h2 hk h => dsV_e (by
  unfold dsE
  rw [if_neg h1, if_neg h2, if_neg]
  intro ho
  have h3 := of_decide_eq_true ho k hk
  rw [rgB_true.2 h3] at h
  cases h) (by decide)
 have hze : ¬ l.length < 2 → ¬ 60 < l.length → (∀ j, j < l.length → rgB (nt l j) 0 3000 = true) → dsS l l.length = 0 → dsV l = .tuple #[.agg #[.int .i64 0, .int .i64 0], .int .i64 11] := fun h1 h2 h3 h4 => dsV_e (by unfold dsE; rw [if_neg h1, if_neg h2, if_pos (dsOk_true h3), if_pos h4]) (by decide)
 have hok : ¬ l.length < 2 → ¬ 60 < l.length → (∀ j, j < l.length → rgB (nt l j) 0 3000 = true) → dsS l l.length ≠ 0 → dsV l = .tuple #[.agg #[.int .i64 ((l.length * dsQ l l.length - dsS l l.length * dsS l l.length).tdiv (Int.gcd (l.length * dsQ l l.length - dsS l l.length * dsS l l.length) (dsS l l.length * dsS l l.length))), .int .i64 ((dsS l l.length * dsS l l.length).tdiv (Int.gcd (l.length * dsQ l l.length - dsS l l.length * dsS l l.length) (dsS l l.length * dsS l l.length)))], .int .i64 0] := fun h1 h2 h3 h4 => by
  have he : dsE l = 0 := by unfold dsE; rw [if_neg h1, if_neg h2, if_pos (dsOk_true h3), if_neg h4]
  unfold dsV dsA dsB
  rw [he, if_pos rfl, if_pos rfl]
  rfl
 have hbd := fun (k : Nat) => ds_bds (l := l) (k := k)
 have hv := fun (k : Nat) (h : rgB (nt l k) 0 3000 = true) => rgB_true.1 h
 have s0 : dsS l 0 = 0 := rfl
 have q0 : dsQ l 0 = 0 := rfl
 have ss : ∀ k, dsS l (k + 1) = dsS l k + nt l k := fun k => rfl
 have qs : ∀ k, dsQ l (k + 1) = dsQ l k + nt l k * nt l k := fun k => rfl
 have hsq : ∀ a : Int, 0 ≤ a ∧ a ≤ 3000 → 0 ≤ a * a ∧ a * a ≤ 9000000 := fun a ha => ⟨sq_nn a, (mul_bd (m := a) (n := a) (a := 3000) (b := 3000) (by omega) (by omega) (by decide)).2⟩
 have hnz : dsS l l.length ≠ 0 → dsS l l.length * dsS l l.length ≠ 0 := fun h h2 => by rcases Int.mul_eq_zero.1 h2 with h3 | h3 <;> exact h h3
 have hold : oldv3 [some ⟨flatN l, false, z⟩] (dsV l) = true := rfl
 generalize dsS l = S at *
 generalize dsQ l = Q at *
 generalize dsV l = V at *
 refine PCalls.en 63 Tryz.func48 rfl (ro1p _ rfl) rfl (fun E => ?_)
 repeat' (first | with_reducible (first | refine Then.n ?_ | refine Then.r ?_ | refine Then.x ?_ | refine InB.n ?_ | refine InB.r ?_ | refine InB.hit ?_) | ((with_reducible refine AL.on ?_); first | ((first | refine AL.mv ?_ | refine AL.as ?_ | ((with_reducible refine AL.k_binOp ?_); first | refine AL.g (OQ.lss rfl rfl) ?_ | refine AL.g (OQ.gtr rfl rfl) ?_ | refine AL.g (OQ.addi rfl rfl (by omega)) ?_ | refine AL.g (OQ.muli rfl rfl (by omega)) ?_ | refine AL.g (OQ.eql rfl rfl) ?_ | refine AL.g (OQ.subi rfl rfl (by omega)) ?_) | ((with_reducible refine AL.k_call ?_); refine AL.g (OQ.lenS (xt := 26) (r := (none, 1, false)) rfl kr) ?_) | ((with_reducible refine AL.k_load ?_); (refine AL.g (OQ.load1 (ty := 3) rfl kr (by (exact hld _ (by omega)))) ?_)) | ((with_reducible refine AL.k_unOp ?_); refine AL.g (OQ.not rfl) ?_)); refine AL.nm ?_) | ((first | ((with_reducible refine AL.k_build ?_); refine AL.g (OQ.buildA (ty := 52) (zs := [.int .i64 0, .int .i64 0]) (n := 1) (k := 2) (g := false) kr rfl kr rfl rfl rfl) ?_) | ((with_reducible refine AL.k_call ?_); first | refine AL.pcall (g := 89) rfl kr rfl (hw _ _) ?_ | refine AL.pcall (g := 95) rfl kr rfl (divisor_q _ _ (by omega) (by omega) _) ?_) | ((with_reducible refine AL.k_indexAddr ?_); refine AL.g (OQ.idxAddr (ty := 26) (z := 1) (g := false) rfl rfl kr (by omega) (by omega)) ?_)); refine AL.nm ?_) | ((first | ((with_reducible refine AL.k_store ?_); (refine AL.w rfl (OW.store (ty := 52) (n := 2) rfl wl rfl rfl kr rfl rfl (by decide) rfl (Nat.le_of_ble_eq_true rfl) (by intro r h; cases h)) ?_)) | ((with_reducible refine AL.k_alloc ?_); refine AL.w rfl (OW.alloc (ty := 52) (z := [.int .i64 0, .int .i64 0]) kr rfl) ?_)); refine AL.nm ?_; refine AL.nM ?_) | refine AL.nil ?_) | ((with_reducible refine AW.on ?_); first | refine AW.seq ?_ | refine AW.skip ?_ | refine AW.exit ?_ | refine AW.ret ?_ | ((refine AW.block (id := 1) ?_); (refine AW.fk [2, 4, 5, 6, 22, 23, 24] ?_); (refine AW.loop (fun n t' m => ∃ k : Nat, n = l.length - k ∧ k ≤ l.length ∧ (∀ j, j < k → rgB (nt l j) 0 3000 = true) ∧ t' = (mtz 64 0 [(2, .pointer (some ⟨1, 0, none⟩)), (4, .int .i64 (l.length)), (5, .int .i64 (S k)), (6, .int .i64 (Q k)), (22, .slice (some ⟨0, 0, none⟩) l.length c), (23, .int .i64 (l.length)), (24, .int .i64 (k))]) ∧ m = [some ⟨flatN l, false, z⟩, some ⟨[.int .i64 (0), .int .i64 (0)], true, 0⟩]) (l.length) (by exact ⟨0, rfl, Nat.zero_le _, fun j h => absurd h (by omega), by rw [s0, q0]; rfl, rfl⟩) ?_); (rintro n t' m ⟨k, rfl, hk, hj, rfl, rfl⟩); (refine AW.nT ?_)) | refine AW.block ?_ | (refine AW.drawF (id := 18) 6 #[0, 0, 3, 0, 0, 24, 63, 127, 255] kr kr ?_; (conv => (arg 8; simp only [List.take_succ_cons, List.take_zero])); ((have hg1 : 0 < (Int.gcd (l.length * Q l.length - S l.length * S l.length) (S l.length * S l.length) : Int) := (by have := Int.gcd_pos_of_ne_zero_right (l.length * Q l.length - S l.length * S l.length) (hnz ‹_›); omega); have hg2 := gtdiv_bd (a := l.length * Q l.length - S l.length * S l.length) (b := (Int.gcd (l.length * Q l.length - S l.length * S l.length) (S l.length * S l.length) : Int)) (M := 32400000000) (by omega); have hg3 := gtdiv_bd (a := S l.length * S l.length) (b := (Int.gcd (l.length * Q l.length - S l.length * S l.length) (S l.length * S l.length) : Int)) (M := 32400000000) (by omega)))) | (refine AW.region (id := 12) ?_; ((have hb := hbd k (by omega) hj; have hv1 := hv k (by assumption); have hv2 := hsq _ hv1))) | (refine AW.region (id := 14) ?_; ((obtain rfl : k = l.length := (by omega); have hb := hbd _ (by omega) hj))) | refine AW.region ?_ | (refine AW.conds rfl (fun hc => ?_) (fun hc => ?_) <;> (try replace hc := nc hc) <;> skip)) | ((with_reducible refine AF.on ?_); first | ((first | ((with_reducible refine AF.k_move ?_); (refine AF.q 0 (SW.q (OQ.move wl) rfl) ?_)) | ((with_reducible refine AF.k_binOp ?_); refine AF.q 0 (SW.q (OQ.quoi rfl rfl (by omega) (by omega)) rfl) ?_)); refine AF.nm ?_) | refine AF.nl ?_) | ((with_reducible refine ex_on ?_); (refine ⟨l.length - (k + 1), _, _, by omega, ?_, k + 1, rfl, by omega, fun j h => (by rcases Nat.lt_or_eq_of_le (Nat.le_of_lt_succ h) with h | rfl; (exact hj j h); (assumption)), rfl, rfl⟩; rw [ss k, qs k]; exact Wk.fk [2, 4, 5, 6, 22, 23, 24] rfl)) | ((with_reducible refine FinP.on ?_); (refine FinP.ret (.cellN (n := 2) wl kr kr rfl (.tmp wl .nil)) ?_ hold); (try simp only [pack, List.drop, List.take]); all_goals (symm; first | exact hlo (by omega) | exact hhi (by omega) | exact hze (by omega) (by omega) hj ‹_› | exact hok (by omega) (by omega) hj ‹_› | exact hrg k (by omega) (by omega) (by omega) (by assumption))))
theorem Dispersion_q {m : Mem} {b n c : Nat} {blk : Blk} (l : List Int) (hb : m.at b = some blk) (hc : blk.cells = flatN l) (hn : l.length = n) (hl : l.length ≤ 1000000) (ho : blk.obj = Ob.plain := by rfl) : PCalls Tryz.prog 48 [.slice (some ⟨b, 0, none⟩) n c] m (dsV l) := by
 subst hn
 exact PCalls.viaS [b] (Dispersion_0 l c blk.esz hl) (ro1p _ rfl) ⟨bS hb ho hc (flatN_scal _), trivial⟩ rfl rfl rfl rfl
theorem dsV_9 : dsV [9, 12] = .tuple #[.agg #[.int .i64 1, .int .i64 49], .int .i64 0] := by
 have h1 : dsA [9, 12] = 1 := by decide +kernel
 have h2 : dsB [9, 12] = 49 := by decide +kernel
 have h3 : dsE [9, 12] = 0 := by decide +kernel
 unfold dsV
 rw [h1, h2, h3]
end Go.Proofs.YtmohcmghbfhdlaaGreat
end
end
