/- Chapter 6: Turn and InCircle of both sides. -/
import Derived.Test.YtmohcmghbfhdlaaGreatQd
import Derived.Test.YtmohcmghbfhdlaaGreatQf
section
set_option linter.unusedSimpArgs false
set_option linter.unusedVariables false
section
namespace Go.Me
theorem sgn_bd (n : Int) : -1 ≤ sgn n ∧ sgn n ≤ 1 := by
  unfold sgn
  repeat' split
  all_goals omega
theorem sgn_mul (a b : Int) : -1 ≤ sgn a * sgn b ∧ sgn a * sgn b ≤ 1 := by
  have := mul_bd (m := sgn a) (n := sgn b) (a := 1) (b := 1) (sgn_bd a) (sgn_bd b) (by decide)
  omega
theorem df_bd {a d : Pn} (ha : a.Ok) (hd : d.Ok) : (-20000 ≤ a.x - d.x ∧ a.x - d.x ≤ 20000) ∧ (-20000 ≤ a.y - d.y ∧ a.y - d.y ≤ 20000) := by
  obtain ⟨a1, a2⟩ := ha.b
  obtain ⟨d1, d2⟩ := hd.b
  omega
theorem pr_bd {m n : Int} (h1 : -20000 ≤ m ∧ m ≤ 20000) (h2 : -20000 ≤ n ∧ n ≤ 20000) : -400000000 ≤ m * n ∧ m * n ≤ 400000000 := mul_bd h1 h2 (by decide)
end Go.Me
namespace Go.Proofs.YtmohcmghbfhdlaaGreat
open Go Go.RowKit Go.Ab Go.Me
set_option maxRecDepth 100000
set_option maxHeartbeats 4000000
attribute [local irreducible] OQ OW AL AW AF SW
theorem plE_cons (p : Pn) (l : List Pn) : plE (p :: l) = if okP p = true then plE l else 2 := by
  unfold plE
  rw [List.all_cons]
  cases okP p <;> simp
theorem plE_nil : plE [] = 0 := rfl
theorem placeErr_q {m : Mem} {b n c : Nat} {blk : Blk} (l : List Pn) (hb : m.at b = some blk) (hc : blk.cells = flatP l) (hn : l.length = n) (hl : l.length ≤ 100000) (ho : blk.obj = Ob.plain := by rfl) : PCalls Tryz.prog 97 [.slice (some ⟨b, 0, none⟩) n c] m (.int .i64 (plE l)) := by
  subst hn
  exact PCalls.viaS [b] (placeErr_0 l hl c blk.esz) (ro1p _ rfl) ⟨bS hb ho hc (flatP_scal _), trivial⟩ rfl rfl rfl rfl
abbrev ptV3 (a b c : Pn) : Value := .agg #[.int .i64 a.x, .int .i64 a.y, .int .i64 b.x, .int .i64 b.y, .int .i64 c.x, .int .i64 c.y]
theorem inCircle_q {a b c d : Pn} (ha : a.Ok) (hb : b.Ok) (hc : c.Ok) (hd : d.Ok) (m : Mem) : PCalls Tryz.prog 135 [ptV3 a b c, ptV d] m (.int .i64 (inC a b c d)) := by
  refine PCalls.any ?_ rfl rfl m
  have ht := fun m => turn_q ha hb hc m
  have hs := fun m => sign_q (inD a b c d) m
  have hsm := sgn_mul (inD a b c d) (cr a b c)
  have t1 := term_bd ha hb hc hd
  have t2 := term_bd hb hc ha hd
  have t3 := term_bd hc ha hb hd
  obtain ⟨a1, a2⟩ := df_bd ha hd
  obtain ⟨b1, b2⟩ := df_bd hb hd
  obtain ⟨c1, c2⟩ := df_bd hc hd
  obtain ⟨ax, ay⟩ := ha.b
  obtain ⟨bx, by_⟩ := hb.b
  obtain ⟨cx, cy⟩ := hc.b
  obtain ⟨dx, dy⟩ := hd.b
  have p1 := pr_bd a1 a1
  have p2 := pr_bd a2 a2
  have p3 := pr_bd b1 b1
  have p4 := pr_bd b2 b2
  have p5 := pr_bd c1 c1
  have p6 := pr_bd c2 c2
  have q1 := pr_bd b1 c2
  have q2 := pr_bd b2 c1
  have q3 := pr_bd c1 a2
  have q4 := pr_bd c2 a1
  have q5 := pr_bd a1 b2
  have q6 := pr_bd a2 b1
  unfold inC
  generalize sgn (cr a b c) = s at *
  rw [← inD_rows] at hs hsm ⊢
  unfold sq cd at hs hsm t1 t2 t3 ⊢
  refine PCalls.en 82 Tryz.func135 rfl (ro_nil) rfl (fun E => ?_)
  repeat' (first | with_reducible (first | refine Then.n ?_ | refine Then.r ?_ | refine Then.x ?_ | refine InB.n ?_ | refine InB.r ?_ | refine InB.hit ?_ | refine InB.miss (by decide) ?_) | ((with_reducible refine AL.on ?_); first | ((first | ((with_reducible refine AL.k_binOp ?_); first | refine AL.g (OQ.lss rfl rfl) ?_ | refine AL.g (OQ.muli rfl rfl (by omega)) ?_ | refine AL.g (OQ.mul rfl rfl) ?_ | refine AL.g (OQ.addi rfl rfl (by omega)) ?_ | refine AL.g (OQ.add rfl rfl) ?_) | ((with_reducible refine AL.k_move ?_); first | refine AL.mv ?_) | ((with_reducible refine AL.k_load ?_); first | refine AL.g (OQ.loadN (ty := 176) (n := 6) rfl kr kr rfl) ?_) | ((with_reducible refine AL.k_indexAddr ?_); first | refine AL.g (OQ.idxPtr (ty := 196) (n := 3) (l := 3) (g := true) rfl rfl kr (by first | omega | decide) (by first | omega | decide)) ?_) | ((with_reducible refine AL.k_assign ?_); first | refine AL.as ?_) | ((with_reducible refine AL.k_index ?_); first | refine AL.g (OQ.idxArrL (ty := 176) (n := 2) (l := 3) rfl rfl kr (by first | omega | decide) (by first | omega | decide) rfl) ?_)); refine AL.nm ?_) | ((first | ((with_reducible refine AL.k_call ?_); first | refine AL.pcall (g := 133) rfl kr rfl (ht _) ?_) | ((with_reducible refine AL.k_build ?_); first | refine AL.g (OQ.buildA (ty := 62) (zs := [.int .i64 0, .int .i64 0, .int .i64 0]) (n := 1) (k := 3) (g := false) kr rfl kr rfl rfl rfl) ?_)); refine AL.nm ?_) | ((first | ((with_reducible refine AL.k_alloc ?_); first | refine AL.w rfl (OW.alloc (ty := 196) (z := [.int .i64 0, .int .i64 0, .int .i64 0, .int .i64 0, .int .i64 0, .int .i64 0, .int .i64 0, .int .i64 0, .int .i64 0]) kr rfl) ?_ | refine AL.w rfl (OW.alloc (ty := 65) (z := [.int .i64 0, .int .i64 0]) kr rfl) ?_) | ((with_reducible refine AL.k_store ?_); first | (refine AL.w rfl (OW.store (ty := 65) (n := 2) rfl wl rfl rfl kr rfl rfl (by decide) rfl (Nat.le_of_ble_eq_true rfl) (by intro r h; cases h)) ?_) | (refine AL.w rfl (OW.store (ty := 62) (n := 3) rfl wl rfl rfl kr rfl rfl (by decide) rfl (Nat.le_of_ble_eq_true rfl) (by intro r h; cases h)) ?_)) | ((with_reducible refine AL.k_box ?_); first | refine AL.bx ?_)); refine AL.nm ?_; refine AL.nM ?_) | refine AL.nil ?_) | ((with_reducible refine AW.on ?_); first | refine AW.seq ?_ | refine AW.skip ?_ | refine AW.exit ?_ | refine AW.ret ?_ | (refine AW.block (id := 0) ?_; refine AW.unroll 4 ?_) | (refine AW.block (id := 2) ?_; refine AW.unroll 4 ?_) | refine AW.block ?_ | (refine AW.drawF (id := 5) 11 #[0, 1, 0, 4, 15, 0, 32, 0, 128, 480, 31, 2047] kr kr ?_; (conv => (arg 8; simp only [List.take_succ_cons, List.take_zero]))) | (refine AW.drawF (id := 12) 13 #[0, 1, 3, 7, 15, 0, 32, 96, 224, 480, 0, 0, 3103, 8191] kr kr ?_; (conv => (arg 8; simp only [List.take_succ_cons, List.take_zero]))) | (refine AW.drawF (id := 13) 17 #[0, 0, 2, 6, 14, 0, 32, 0, 128, 480, 0, 1024, 0, 4096, 15360, 32736, 65534, 131071, 262143] kr kr ?_; (conv => (arg 8; simp only [List.take_succ_cons, List.take_zero]))) | (refine AW.drawF (id := 15) 8 #[0, 1, 0, 4, 0, 16, 0, 64, 255, 511, 1023] kr kr ?_; (conv => (arg 8; simp only [List.take_succ_cons, List.take_zero]))) | refine AW.region ?_ | (refine AW.conds rfl (fun hc => ?_) (fun hc => ?_) <;> (try replace hc := nc hc) <;> first | (exfalso; first | contradiction | (omega); done) | skip)) | ((with_reducible refine AF.on ?_); first | ((first | ((with_reducible refine AF.k_binOp ?_); first | refine AF.q 0 (SW.q (OQ.subi rfl rfl (by omega)) rfl) ?_ | refine AF.q 0 (SW.q (OQ.sub rfl rfl) rfl) ?_ | refine AF.q 0 (SW.q (OQ.addi rfl rfl (by omega)) rfl) ?_ | refine AF.q 0 (SW.q (OQ.add rfl rfl) rfl) ?_ | refine AF.q 0 (SW.q (OQ.rem rfl rfl (by omega)) rfl) ?_ | refine AF.q 0 (SW.q (OQ.muli rfl rfl (by omega)) rfl) ?_ | refine AF.q 0 (SW.q (OQ.mul rfl rfl) rfl) ?_) | ((with_reducible refine AF.k_move ?_); first | (refine AF.q 0 (SW.q (OQ.move wl) rfl) ?_)) | ((with_reducible refine AF.k_load ?_); first | (refine AF.ql rfl (SW.q (OQ.load1 (ty := 3) rfl kr wl) rfl) ?_) | refine AF.ql rfl (SW.q (OQ.loadN (ty := 62) (n := 3) rfl kr kr rfl) rfl) ?_ | refine AF.ql rfl (SW.q (OQ.loadN (ty := 65) (n := 2) rfl kr kr rfl) rfl) ?_) | ((with_reducible refine AF.k_indexAddr ?_); first | refine AF.q 0 (SW.q (OQ.idxPtr (ty := 196) (n := 3) (l := 3) (g := true) rfl rfl kr (by first | omega | decide) (by first | omega | decide)) rfl) ?_ | refine AF.q 0 (SW.q (OQ.idxPtr (ty := 62) (n := 1) (l := 3) (g := false) rfl rfl kr (by first | omega | decide) (by first | omega | decide)) rfl) ?_ | refine AF.q 0 (SW.q (OQ.idxPtr (ty := 176) (n := 2) (l := 3) (g := true) rfl rfl kr (by first | omega | decide) (by first | omega | decide)) rfl) ?_) | ((with_reducible refine AF.k_assign ?_); first | (refine AF.q 0 (SW.q (OQ.assign wl) rfl) ?_)) | ((with_reducible refine AF.k_fieldAddr ?_); first | refine AF.q 0 (SW.q (OQ.fieldA (ty := 65) (i := 0) (n := 1) (off := 0) (g := false) rfl kr (by decide)) rfl) ?_ | refine AF.q 0 (SW.q (OQ.fieldA (ty := 65) (i := 1) (n := 1) (off := 1) (g := false) rfl kr (by decide)) rfl) ?_) | ((with_reducible refine AF.k_call ?_); first | refine AF.q 2 (SW.pcall (g := 162) rfl kr rfl (hs _) rfl) ?_)); refine AF.nm ?_) | ((first | ((with_reducible refine AF.k_alloc ?_); first | refine AF.n1 0 (SW.w (OW.alloc (ty := 62) (z := [.int .i64 0, .int .i64 0, .int .i64 0]) kr rfl) rfl) rfl ?_) | ((with_reducible refine AF.k_store ?_); first | (refine AF.sl rfl (SW.w (OW.store (ty := 62) (n := 3) rfl wl rfl rfl kr rfl rfl (by decide) rfl (Nat.le_of_ble_eq_true rfl) (by intro r h; cases h)) rfl) rfl ?_))); refine AF.nm ?_; (conv => (arg 10; try tactic => exact nrmF))) | refine AF.nl ?_) | with_reducible refine AR.s ?_ | ((with_reducible refine AR.out ?_); omega; done) | ((with_reducible refine FinP.on ?_); (first | refine FinP.ret (.tmp wl .nil) ?_ rfl | refine FinP.end (.tmp wl .nil) ?_ rfl); (try simp only [pack, List.drop, List.take]); all_goals (rfl)))
theorem rInCircle_q {a b c d : Pn} (ha : a.Ok) (hb : b.Ok) (hc : c.Ok) (hd : d.Ok) (m : Mem) : PCalls Tryz.prog 39 [ptV a, ptV b, ptV c, ptV d] m (.int .i64 (inC a b c d)) := by
  refine PCalls.any ?_ rfl rfl m
  have ht := fun m => rTurn_q ha hb hc m
  have hs := fun m => rsign_q (inD a b c d) m
  have hsm := sgn_mul (inD a b c d) (cr a b c)
  have t1 := term_bd ha hb hc hd
  have t2 := term_bd hb ha hc hd
  have t3 := term_bd hc ha hb hd
  obtain ⟨a1, a2⟩ := df_bd ha hd
  obtain ⟨b1, b2⟩ := df_bd hb hd
  obtain ⟨c1, c2⟩ := df_bd hc hd
  obtain ⟨ax, ay⟩ := ha.b
  obtain ⟨bx, by_⟩ := hb.b
  obtain ⟨cx, cy⟩ := hc.b
  obtain ⟨dx, dy⟩ := hd.b
  have p1 := pr_bd a1 a1
  have p2 := pr_bd a2 a2
  have p3 := pr_bd b1 b1
  have p4 := pr_bd b2 b2
  have p5 := pr_bd c1 c1
  have p6 := pr_bd c2 c2
  have q1 := pr_bd b1 c2
  have q2 := pr_bd b2 c1
  have q3 := pr_bd a1 c2
  have q4 := pr_bd a2 c1
  have q5 := pr_bd a1 b2
  have q6 := pr_bd a2 b1
  unfold inC
  generalize sgn (cr a b c) = s at *
  unfold inD sq cd at hs hsm ⊢
  unfold sq cd at t1 t2 t3
  refine PCalls.en 96 Tryz.func39 rfl (ro_nil) rfl (fun E => ?_)
  repeat' (first | with_reducible (first | refine Then.n ?_ | refine Then.r ?_ | refine Then.x ?_ | refine InB.n ?_ | refine InB.r ?_ | refine InB.hit ?_ | refine InB.miss (by decide) ?_) | ((with_reducible refine AL.on ?_); first | ((first | ((with_reducible refine AL.k_binOp ?_); first | refine AL.g (OQ.muli rfl rfl (by omega)) ?_ | refine AL.g (OQ.mul rfl rfl) ?_ | refine AL.g (OQ.addi rfl rfl (by omega)) ?_ | refine AL.g (OQ.add rfl rfl) ?_ | refine AL.g (OQ.subi rfl rfl (by omega)) ?_ | refine AL.g (OQ.sub rfl rfl) ?_) | ((with_reducible refine AL.k_move ?_); first | refine AL.mv ?_) | ((with_reducible refine AL.k_assign ?_); first | refine AL.as ?_)); refine AL.nm ?_) | ((first | first | refine AL.pcall (g := 84) rfl kr rfl (ht _) ?_); refine AL.nm ?_) | ((first | first | refine AL.bx ?_); refine AL.nm ?_; refine AL.nM ?_) | refine AL.nil ?_) | ((with_reducible refine AW.on ?_); first | refine AW.seq ?_ | refine AW.skip ?_ | refine AW.exit ?_ | refine AW.ret ?_ | refine AW.block ?_ | (refine AW.drawF (id := 1) 35 #[0, 1, 0, 4, 15, 0, 32, 0, 128, 480, 0, 1024, 0, 4096, 15360, 0, 32768, 0, 131072, 491520, 0, 1048576, 0, 4194304, 15728640, 0, 33554432, 0, 134217728, 503316480, 31, 1073742847, 3221258239, 7517241343, 16139681791, 34359738367] kr kr ?_; (conv => (arg 8; simp only [List.take_succ_cons, List.take_zero]))) | (refine AW.drawF (id := 3) 5 #[0, 1, 0, 0, 0, 31, 63, 127] kr kr ?_; (conv => (arg 8; simp only [List.take_succ_cons, List.take_zero]))) | refine AW.region ?_ | (refine AW.conds rfl (fun hc => ?_) (fun hc => ?_) <;> (try replace hc := nc hc) <;> first | (exfalso; first | contradiction | (omega); done) | skip)) | ((with_reducible refine AF.on ?_); first | ((first | ((with_reducible refine AF.k_binOp ?_); first | refine AF.q 0 (SW.q (OQ.subi rfl rfl (by omega)) rfl) ?_ | refine AF.q 0 (SW.q (OQ.sub rfl rfl) rfl) ?_) | ((with_reducible refine AF.k_move ?_); first | (refine AF.q 0 (SW.q (OQ.move wl) rfl) ?_)) | ((with_reducible refine AF.k_load ?_); first | (refine AF.ql rfl (SW.q (OQ.load1 (ty := 3) rfl kr wl) rfl) ?_) | refine AF.ql rfl (SW.q (OQ.loadN (ty := 65) (n := 2) rfl kr kr rfl) rfl) ?_) | ((with_reducible refine AF.k_fieldAddr ?_); first | refine AF.q 0 (SW.q (OQ.fieldA (ty := 65) (i := 0) (n := 1) (off := 0) (g := false) rfl kr (by decide)) rfl) ?_ | refine AF.q 0 (SW.q (OQ.fieldA (ty := 65) (i := 1) (n := 1) (off := 1) (g := false) rfl kr (by decide)) rfl) ?_) | ((with_reducible refine AF.k_assign ?_); first | (refine AF.q 0 (SW.q (OQ.assign wl) rfl) ?_)) | ((with_reducible refine AF.k_call ?_); first | refine AF.q 2 (SW.pcall (g := 83) rfl kr rfl (hs _) rfl) ?_)); refine AF.nm ?_) | refine AF.nl ?_) | ((with_reducible refine FinP.on ?_); (first | refine FinP.ret (.tmp wl .nil) ?_ rfl | refine FinP.end (.tmp wl .nil) ?_ rfl); (try simp only [pack, List.drop, List.take]); all_goals (rfl)))
end Go.Proofs.YtmohcmghbfhdlaaGreat
end
end
/- Chapter 6: dispersions (the program's). -/
section
set_option linter.unusedSimpArgs false
set_option linter.unusedVariables false
section
namespace Go.Me
open Go.Ab
def numC (n : Int) : List Value := [.int .i64 n]
def flatN (l : List Int) : List Value := l.map fun n => .int .i64 n
def nt (l : List Int) (k : Nat) : Int := l.getD k 0
theorem flatN_flat (l : List Int) : l.flatMap numC = flatN l := by
  induction l with
  | nil => rfl
  | cons a l ih => rw [List.flatMap_cons, ih]; rfl
theorem flatN_scal (l : List Int) : (flatN l).all Ab.scal = true := by
  rw [← flatN_flat]
  exact Ls.flat_scal numC (fun _ => rfl) l
theorem flatN_get (l : List Int) (k : Nat) (hk : k < l.length) : (flatN l)[k]? = some (.int .i64 (nt l k)) := by
  unfold flatN nt
  rw [List.getElem?_map, List.getElem?_eq_getElem hk, List.getD_eq_getElem?_getD, List.getElem?_eq_getElem hk]
  rfl
def dsS (l : List Int) : Nat → Int
  | 0 => 0
  | k + 1 => dsS l k + nt l k
def dsQ (l : List Int) : Nat → Int
  | 0 => 0
  | k + 1 => dsQ l k + nt l k * nt l k
def dsOk (l : List Int) : Bool := decide (∀ k, k < l.length → 0 ≤ nt l k ∧ nt l k ≤ 3000)
def dsE (l : List Int) : Int := if l.length < 2 then 10 else if 60 < l.length then 8 else if dsOk l = true then (if dsS l l.length = 0 then 11 else 0) else 2
def dsN (l : List Int) : Int := l.length * dsQ l l.length - dsS l l.length * dsS l l.length
def dsD (l : List Int) : Int := dsS l l.length * dsS l l.length
def dsA (l : List Int) : Int := if dsE l = 0 then (dsN l).tdiv (Int.gcd (dsN l) (dsD l)) else 0
def dsB (l : List Int) : Int := if dsE l = 0 then (dsD l).tdiv (Int.gcd (dsN l) (dsD l)) else 0
theorem sq_nn (a : Int) : 0 ≤ a * a := by
  rcases Int.le_total 0 a with h | h
  · exact Int.mul_nonneg h h
  · have := Int.mul_nonneg (a := -a) (b := -a) (by omega) (by omega)
    rwa [Int.neg_mul_neg] at this
theorem ds_var (l : List Int) (a : Int) : ∀ k : Nat, 0 ≤ dsQ l k - 2 * (a * dsS l k) + k * (a * a) := by
  intro k
  induction k with
  | zero => simp [dsQ, dsS]
  | succ k ih =>
    have := sq_nn (nt l k - a)
    unfold dsQ dsS
    have e : dsQ l k + nt l k * nt l k - 2 * (a * (dsS l k + nt l k)) + ((k + 1 : Nat) : Int) * (a * a) = (dsQ l k - 2 * (a * dsS l k) + k * (a * a)) + (nt l k - a) * (nt l k - a) := by
      rw [Int.natCast_add]
      grind
    omega
theorem ds_nn (l : List Int) : ∀ k : Nat, 0 ≤ k * dsQ l k - dsS l k * dsS l k := by
  intro k
  induction k with
  | zero => simp [dsQ, dsS]
  | succ k ih =>
    have := ds_var l (nt l k) k
    unfold dsQ dsS
    have e : ((k + 1 : Nat) : Int) * (dsQ l k + nt l k * nt l k) - (dsS l k + nt l k) * (dsS l k + nt l k) = (k * dsQ l k - dsS l k * dsS l k) + (dsQ l k - 2 * (nt l k * dsS l k) + k * (nt l k * nt l k)) := by
      rw [Int.natCast_add]
      grind
    omega
theorem ds_bd {l : List Int} : ∀ k : Nat, (∀ j, j < k → 0 ≤ nt l j ∧ nt l j ≤ 3000) → (0 ≤ dsS l k ∧ dsS l k ≤ 3000 * k) ∧ 0 ≤ dsQ l k ∧ dsQ l k ≤ 9000000 * k := by
  intro k
  induction k with
  | zero => intro _; simp [dsQ, dsS]
  | succ k ih =>
    intro h
    obtain ⟨h1, h2⟩ := ih (fun j hj => h j (by omega))
    have h3 := h k (by omega)
    have h4 := sq_nn (nt l k)
    have h5 := mul_bd (m := nt l k) (n := nt l k) (a := 3000) (b := 3000) (by omega) (by omega) (by decide)
    unfold dsQ dsS
    omega
theorem gcd_step (a b : Int) : Int.gcd b (a.tmod b) = Int.gcd a b := by
  unfold Int.gcd
  rw [Int.natAbs_tmod, Nat.gcd_comm b.natAbs, ← Nat.gcd_rec, Nat.gcd_comm]
theorem natAbs_tmod_lt {a b : Int} (h : b ≠ 0) : (a.tmod b).natAbs < b.natAbs := by
  rw [Int.natAbs_tmod]
  exact Nat.mod_lt _ (by omega)
theorem gtmod_bd {a b M : Int} (ha : 0 ≤ a ∧ a ≤ M) : 0 ≤ a.tmod b ∧ a.tmod b ≤ M := by
  have h1 : (a.tmod b).natAbs ≤ a.natAbs := by rw [Int.natAbs_tmod]; exact Nat.mod_le _ _
  have h2 := Int.tmod_nonneg b ha.1
  omega
theorem gtdiv_bd {a b M : Int} (ha : -M ≤ a ∧ a ≤ M) : -M ≤ a.tdiv b ∧ a.tdiv b ≤ M := by
  have h1 : (a.tdiv b).natAbs ≤ a.natAbs := by rw [Int.natAbs_tdiv]; exact Nat.div_le_self _ _
  omega
end Go.Me
namespace Go.Proofs.YtmohcmghbfhdlaaGreat
open Go Go.RowKit Go.Ab Go.Me
set_option maxRecDepth 100000
set_option maxHeartbeats 4000000
attribute [local irreducible] OQ OW AL AW AF SW
theorem divisor_q (a b : Int) (ha : 0 ≤ a ∧ a ≤ 9000000000000000000) (hb : 0 ≤ b ∧ b ≤ 9000000000000000000) (m : Mem) : PCalls Tryz.prog 95 [.int .i64 a, .int .i64 b] m (.int .i64 (Int.gcd a b)) := by
  refine PCalls.any ?_ rfl rfl m
  refine PCalls.en 10 Tryz.func95 rfl (ro_nil) rfl (fun E => ?_)
  repeat' (first | with_reducible (first | refine Then.n ?_ | refine Then.x ?_ | refine InB.n ?_ | refine InB.hit ?_) | ((with_reducible refine AL.on ?_); first | ((first | refine AL.mv ?_ | refine AL.as ?_ | ((with_reducible refine AL.k_binOp ?_); refine AL.g (OQ.neq rfl rfl) ?_)); refine AL.nm ?_) | refine AL.nil ?_) | ((with_reducible refine AW.on ?_); first | refine AW.seq ?_ | refine AW.skip ?_ | refine AW.exit ?_ | refine AW.ret ?_ | ((refine AW.block (id := 0) ?_); (refine AW.fk [0, 1] ?_); (refine AW.loop (fun n t m => ∃ x y : Int, n = y.natAbs ∧ (0 ≤ x ∧ x ≤ 9000000000000000000) ∧ (0 ≤ y ∧ y ≤ 9000000000000000000) ∧ Int.gcd x y = Int.gcd a b ∧ t = (mtz 12 0 [(0, .int .i64 x), (1, .int .i64 y)]) ∧ m = []) (b.natAbs) (by exact ⟨a, b, rfl, ha, hb, rfl, rfl, rfl⟩) ?_); (rintro n t m ⟨x, y, rfl, hx, hy, hg, rfl, rfl⟩); (refine AW.nT ?_)) | refine AW.block ?_ | (refine AW.drawF (id := 2) 5 #[0, 0, 0, 6, 3, 31] kr kr ?_; (conv => (arg 8; simp only [List.take_succ_cons, List.take_zero]))) | refine AW.region ?_ | (refine AW.conds rfl (fun hc => ?_) (fun hc => ?_) <;> (try replace hc := nc hc) <;> skip)) | ((with_reducible refine AF.on ?_); first | ((first | ((with_reducible refine AF.k_move ?_); (refine AF.q 0 (SW.q (OQ.move wl) rfl) ?_)) | ((with_reducible refine AF.k_assign ?_); (refine AF.q 0 (SW.q (OQ.assign wl) rfl) ?_)) | ((with_reducible refine AF.k_binOp ?_); refine AF.q 0 (SW.q (OQ.rem rfl rfl (by omega)) rfl) ?_)); refine AF.nm ?_) | refine AF.nl ?_) | ((with_reducible refine ex_on ?_); exact ⟨_, _, _, natAbs_tmod_lt ‹¬ y = 0›, Wk.fk [0, 1] rfl, y, x.tmod y, rfl, hy, gtmod_bd hx, (gcd_step x y).trans hg, rfl, rfl⟩) | ((with_reducible refine FinP.on ?_); (refine FinP.ret (.tmp wl .nil) ?_ rfl); (try simp only [pack, List.drop, List.take]); all_goals (congr 1; rw [← hg, ‹y = 0›]; simp; try omega)))
theorem rgB_true {n lo hi : Int} : rgB n lo hi = true ↔ lo ≤ n ∧ n ≤ hi := by
  unfold rgB
  exact decide_eq_true_iff
theorem ds_bds {l : List Int} {k : Nat} (hk : k ≤ 60) (h : ∀ j, j < k → rgB (nt l j) 0 3000 = true) :
    (0 ≤ dsS l k ∧ dsS l k ≤ 180000) ∧ (0 ≤ dsQ l k ∧ dsQ l k ≤ 540000000) ∧ (0 ≤ k * dsQ l k ∧ k * dsQ l k ≤ 32400000000) ∧ (0 ≤ dsS l k * dsS l k ∧ dsS l k * dsS l k ≤ 32400000000) ∧ 0 ≤ k * dsQ l k - dsS l k * dsS l k := by
  obtain ⟨h1, h2⟩ := ds_bd (l := l) k (fun j hj => rgB_true.1 (h j hj))
  have h3 := sq_nn (dsS l k)
  have h4 := mul_bd (m := dsS l k) (n := dsS l k) (a := 180000) (b := 180000) (by omega) (by omega) (by decide)
  have h5 := mul_bd (m := (k : Int)) (n := dsQ l k) (a := 60) (b := 540000000) (by omega) (by omega) (by decide)
  have h6 := ds_nn l k
  omega
def dsV (l : List Int) : Value := .tuple #[.agg #[.int .i64 (dsA l), .int .i64 (dsB l)], .int .i64 (dsE l)]
theorem dsV_e {l : List Int} {e : Int} (h : dsE l = e) (h0 : e ≠ 0) : dsV l = .tuple #[.agg #[.int .i64 0, .int .i64 0], .int .i64 e] := by
  unfold dsV dsA dsB
  rw [h, if_neg h0, if_neg h0]
theorem dsOk_true {l : List Int} (h : ∀ j, j < l.length → rgB (nt l j) 0 3000 = true) : dsOk l = true := by
  unfold dsOk
  exact decide_eq_true fun k hk => rgB_true.1 (h k hk)
theorem Dispersion_0 (l : List Int) (c z : Nat) (hl : l.length ≤ 1000000) : PCalls Tryz.prog 48 [.slice (some ⟨0, 0, none⟩) l.length c] [some ⟨flatN l, false, z⟩] (dsV l) := by
  have hld := fun (k : Nat) (hk : k < l.length) => flatN_get l k hk
  have hw := fun (n : Int) (m : Mem) => within_q n 0 3000 m
  have hlo : l.length < 2 → dsV l = .tuple #[.agg #[.int .i64 0, .int .i64 0], .int .i64 10] := fun h => dsV_e (by unfold dsE; rw [if_pos h]) (by decide)
  have hhi : 60 < l.length → dsV l = .tuple #[.agg #[.int .i64 0, .int .i64 0], .int .i64 8] := fun h => dsV_e (by unfold dsE; rw [if_neg (by omega), if_pos h]) (by decide)
  have hrg : ∀ k, ¬ l.length < 2 → ¬ 60 < l.length → k < l.length → rgB (nt l k) 0 3000 = false → dsV l = .tuple #[.agg #[.int .i64 0, .int .i64 0], .int .i64 2] := fun k h1 h2 hk h => dsV_e (by
    unfold dsE
    rw [if_neg h1, if_neg h2, if_neg]
    intro ho
    have h3 := of_decide_eq_true ho k hk
    rw [rgB_true.2 h3] at h
    cases h) (by decide)
  have hze : ¬ l.length < 2 → ¬ 60 < l.length → (∀ j, j < l.length → rgB (nt l j) 0 3000 = true) → dsS l l.length = 0 → dsV l = .tuple #[.agg #[.int .i64 0, .int .i64 0], .int .i64 11] := fun h1 h2 h3 h4 => dsV_e (by unfold dsE; rw [if_neg h1, if_neg h2, if_pos (dsOk_true h3), if_pos h4]) (by decide)
  have hok : ¬ l.length < 2 → ¬ 60 < l.length → (∀ j, j < l.length → rgB (nt l j) 0 3000 = true) → dsS l l.length ≠ 0 → dsV l = .tuple #[.agg #[.int .i64 ((l.length * dsQ l l.length - dsS l l.length * dsS l l.length).tdiv (Int.gcd (l.length * dsQ l l.length - dsS l l.length * dsS l l.length) (dsS l l.length * dsS l l.length))), .int .i64 ((dsS l l.length * dsS l l.length).tdiv (Int.gcd (l.length * dsQ l l.length - dsS l l.length * dsS l l.length) (dsS l l.length * dsS l l.length)))], .int .i64 0] := fun h1 h2 h3 h4 => by
    have he : dsE l = 0 := by unfold dsE; rw [if_neg h1, if_neg h2, if_pos (dsOk_true h3), if_neg h4]
    unfold dsV dsA dsB
    rw [he, if_pos rfl, if_pos rfl]
    rfl
  have hbd := fun (k : Nat) => ds_bds (l := l) (k := k)
  have hv := fun (k : Nat) (h : rgB (nt l k) 0 3000 = true) => rgB_true.1 h
  have s0 : dsS l 0 = 0 := rfl
  have q0 : dsQ l 0 = 0 := rfl
  have ss : ∀ k, dsS l (k + 1) = dsS l k + nt l k := fun k => rfl
  have qs : ∀ k, dsQ l (k + 1) = dsQ l k + nt l k * nt l k := fun k => rfl
  have hsq : ∀ a : Int, 0 ≤ a ∧ a ≤ 3000 → 0 ≤ a * a ∧ a * a ≤ 9000000 := fun a ha => ⟨sq_nn a, (mul_bd (m := a) (n := a) (a := 3000) (b := 3000) (by omega) (by omega) (by decide)).2⟩
  have hnz : dsS l l.length ≠ 0 → dsS l l.length * dsS l l.length ≠ 0 := fun h h2 => by rcases Int.mul_eq_zero.1 h2 with h3 | h3 <;> exact h h3
  have hold : oldv3 [some ⟨flatN l, false, z⟩] (dsV l) = true := rfl
  generalize dsS l = S at *
  generalize dsQ l = Q at *
  generalize dsV l = V at *
  refine PCalls.en 63 Tryz.func48 rfl (ro1p _ rfl) rfl (fun E => ?_)
  repeat' (first | with_reducible (first | refine Then.n ?_ | refine Then.r ?_ | refine Then.x ?_ | refine InB.n ?_ | refine InB.r ?_ | refine InB.hit ?_) | ((with_reducible refine AL.on ?_); first | ((first | refine AL.mv ?_ | refine AL.as ?_ | ((with_reducible refine AL.k_binOp ?_); first | refine AL.g (OQ.lss rfl rfl) ?_ | refine AL.g (OQ.gtr rfl rfl) ?_ | refine AL.g (OQ.addi rfl rfl (by omega)) ?_ | refine AL.g (OQ.muli rfl rfl (by omega)) ?_ | refine AL.g (OQ.eql rfl rfl) ?_ | refine AL.g (OQ.subi rfl rfl (by omega)) ?_) | ((with_reducible refine AL.k_call ?_); refine AL.g (OQ.lenS (xt := 26) (r := (none, 1, false)) rfl kr) ?_) | ((with_reducible refine AL.k_load ?_); (refine AL.g (OQ.load1 (ty := 3) rfl kr (by (exact hld _ (by omega)))) ?_)) | ((with_reducible refine AL.k_unOp ?_); refine AL.g (OQ.not rfl) ?_)); refine AL.nm ?_) | ((first | ((with_reducible refine AL.k_build ?_); refine AL.g (OQ.buildA (ty := 52) (zs := [.int .i64 0, .int .i64 0]) (n := 1) (k := 2) (g := false) kr rfl kr rfl rfl rfl) ?_) | ((with_reducible refine AL.k_call ?_); first | refine AL.pcall (g := 89) rfl kr rfl (hw _ _) ?_ | refine AL.pcall (g := 95) rfl kr rfl (divisor_q _ _ (by omega) (by omega) _) ?_) | ((with_reducible refine AL.k_indexAddr ?_); refine AL.g (OQ.idxAddr (ty := 26) (z := 1) (g := false) rfl rfl kr (by omega) (by omega)) ?_)); refine AL.nm ?_) | ((first | ((with_reducible refine AL.k_store ?_); (refine AL.w rfl (OW.store (ty := 52) (n := 2) rfl wl rfl rfl kr rfl rfl (by decide) rfl (Nat.le_of_ble_eq_true rfl) (by intro r h; cases h)) ?_)) | ((with_reducible refine AL.k_alloc ?_); refine AL.w rfl (OW.alloc (ty := 52) (z := [.int .i64 0, .int .i64 0]) kr rfl) ?_)); refine AL.nm ?_; refine AL.nM ?_) | refine AL.nil ?_) | ((with_reducible refine AW.on ?_); first | refine AW.seq ?_ | refine AW.skip ?_ | refine AW.exit ?_ | refine AW.ret ?_ | ((refine AW.block (id := 1) ?_); (refine AW.fk [2, 4, 5, 6, 22, 23, 24] ?_); (refine AW.loop (fun n t' m => ∃ k : Nat, n = l.length - k ∧ k ≤ l.length ∧ (∀ j, j < k → rgB (nt l j) 0 3000 = true) ∧ t' = (mtz 64 0 [(2, .pointer (some ⟨1, 0, none⟩)), (4, .int .i64 (l.length)), (5, .int .i64 (S k)), (6, .int .i64 (Q k)), (22, .slice (some ⟨0, 0, none⟩) l.length c), (23, .int .i64 (l.length)), (24, .int .i64 (k))]) ∧ m = [some ⟨flatN l, false, z⟩, some ⟨[.int .i64 (0), .int .i64 (0)], true, 0⟩]) (l.length) (by exact ⟨0, rfl, Nat.zero_le _, fun j h => absurd h (by omega), by rw [s0, q0]; rfl, rfl⟩) ?_); (rintro n t' m ⟨k, rfl, hk, hj, rfl, rfl⟩); (refine AW.nT ?_)) | refine AW.block ?_ | (refine AW.drawF (id := 18) 6 #[0, 0, 3, 0, 0, 24, 63, 127, 255] kr kr ?_; (conv => (arg 8; simp only [List.take_succ_cons, List.take_zero])); ((have hg1 : 0 < (Int.gcd (l.length * Q l.length - S l.length * S l.length) (S l.length * S l.length) : Int) := (by have := Int.gcd_pos_of_ne_zero_right (l.length * Q l.length - S l.length * S l.length) (hnz ‹_›); omega); have hg2 := gtdiv_bd (a := l.length * Q l.length - S l.length * S l.length) (b := (Int.gcd (l.length * Q l.length - S l.length * S l.length) (S l.length * S l.length) : Int)) (M := 32400000000) (by omega); have hg3 := gtdiv_bd (a := S l.length * S l.length) (b := (Int.gcd (l.length * Q l.length - S l.length * S l.length) (S l.length * S l.length) : Int)) (M := 32400000000) (by omega)))) | (refine AW.region (id := 12) ?_; ((have hb := hbd k (by omega) hj; have hv1 := hv k (by assumption); have hv2 := hsq _ hv1))) | (refine AW.region (id := 14) ?_; ((obtain rfl : k = l.length := (by omega); have hb := hbd _ (by omega) hj))) | refine AW.region ?_ | (refine AW.conds rfl (fun hc => ?_) (fun hc => ?_) <;> (try replace hc := nc hc) <;> skip)) | ((with_reducible refine AF.on ?_); first | ((first | ((with_reducible refine AF.k_move ?_); (refine AF.q 0 (SW.q (OQ.move wl) rfl) ?_)) | ((with_reducible refine AF.k_binOp ?_); refine AF.q 0 (SW.q (OQ.quoi rfl rfl (by omega) (by omega)) rfl) ?_)); refine AF.nm ?_) | refine AF.nl ?_) | ((with_reducible refine ex_on ?_); (refine ⟨l.length - (k + 1), _, _, by omega, ?_, k + 1, rfl, by omega, fun j h => (by rcases Nat.lt_or_eq_of_le (Nat.le_of_lt_succ h) with h | rfl; (exact hj j h); (assumption)), rfl, rfl⟩; rw [ss k, qs k]; exact Wk.fk [2, 4, 5, 6, 22, 23, 24] rfl)) | ((with_reducible refine FinP.on ?_); (refine FinP.ret (.cellN (n := 2) wl kr kr rfl (.tmp wl .nil)) ?_ hold); (try simp only [pack, List.drop, List.take]); all_goals (symm; first | exact hlo (by omega) | exact hhi (by omega) | exact hze (by omega) (by omega) hj ‹_› | exact hok (by omega) (by omega) hj ‹_› | exact hrg k (by omega) (by omega) (by omega) (by assumption))))
theorem Dispersion_q {m : Mem} {b n c : Nat} {blk : Blk} (l : List Int) (hb : m.at b = some blk) (hc : blk.cells = flatN l) (hn : l.length = n) (hl : l.length ≤ 1000000) (ho : blk.obj = Ob.plain := by rfl) : PCalls Tryz.prog 48 [.slice (some ⟨b, 0, none⟩) n c] m (dsV l) := by
  subst hn
  exact PCalls.viaS [b] (Dispersion_0 l c blk.esz hl) (ro1p _ rfl) ⟨bS hb ho hc (flatN_scal _), trivial⟩ rfl rfl rfl rfl
theorem dsV_9 : dsV [9, 12] = .tuple #[.agg #[.int .i64 1, .int .i64 49], .int .i64 0] := by
  have h1 : dsA [9, 12] = 1 := by decide +kernel
  have h2 : dsB [9, 12] = 49 := by decide +kernel
  have h3 : dsE [9, 12] = 0 := by decide +kernel
  unfold dsV
  rw [h1, h2, h3]
end Go.Proofs.YtmohcmghbfhdlaaGreat
end
end
