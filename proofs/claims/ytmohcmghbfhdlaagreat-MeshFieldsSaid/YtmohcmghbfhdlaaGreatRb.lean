/- Chapter 6: the reference's edges and sides of a right net, and its comparison of pairs. -/
import Derived.Test.YtmohcmghbfhdlaaGreatQd
import Derived.Test.YtmohcmghbfhdlaaGreatQx
import Derived.Test.YtmohcmghbfhdlaaGreatQy
import Derived.Test.YtmohcmghbfhdlaaGreatRa
import Derived.Test.YtmohcmghbfhdlaaGreatQr
section
set_option linter.unusedSimpArgs false
set_option linter.unusedVariables false
section
namespace Go.Me
open Go.Ab Go.Proofs.YtmohcmghbfhdlaaGreat
theorem reP_0 {ts : List T3} {i k : Nat} (h1 : lk (lfA ts) ((i : Int), (k : Int)) < 0) (h2 : lk (lfA ts) ((k : Int), (i : Int)) < 0) : reP ts i k = [] := by
 unfold reP
 have a1 := lk_ge ts ts.length ((i : Int), (k : Int))
 have a2 := lk_ge ts ts.length ((k : Int), (i : Int))
 unfold lfA at *
 rw [if_neg (by omega)]
theorem reP_1 {ts : List T3} {i k : Nat} (h : 0 ≤ lk (lfA ts) ((i : Int), (k : Int)) ∨ 0 ≤ lk (lfA ts) ((k : Int), (i : Int))) : reP ts i k = [⟨i, k⟩] := by
 unfold reP
 rw [if_pos (by omega)]
def reX (ts : List T3) (n i j : Nat) : List Pn := reE ts n i ++ reI ts i j
theorem reX_row {ts : List T3} {n i : Nat} (h : i < n) : reX ts n i (n - 1 - i) = reX ts n (i + 1) 0 := by
 unfold reX
 show _ = (reE ts n i ++ reI ts i (n - 1 - i)) ++ []
 rw [List.append_nil]
theorem reX_step {ts : List T3} {n i j : Nat} : reX ts n i (j + 1) = reX ts n i j ++ reP ts i (i + 1 + j) := by
 unfold reX
 show _ ++ (reI ts i j ++ _) = _
 rw [List.append_assoc]
theorem reP_len (ts : List T3) (i k : Nat) : (reP ts i k).length ≤ 1 := by
 unfold reP
 split <;> simp
theorem reI_len (ts : List T3) (i : Nat) : ∀ j, (reI ts i j).length ≤ j
 | 0 => Nat.le_refl _
 | j + 1 => by
  unfold reI
  have := reI_len ts i j
  have := reP_len ts i (i + 1 + j)
  rw [List.length_append]
  omega
theorem reE_len (ts : List T3) (n : Nat) : ∀ i, (reE ts n i).length ≤ n * i
 | 0 => Nat.le_refl _
 | i + 1 => by
  unfold reE
  have := reE_len ts n i
  have := reI_len ts i (n - 1 - i)
  rw [List.length_append, Nat.mul_succ]
  omega
theorem reX_len (ts : List T3) {n i j : Nat} (hn : n ≤ 40) (hi : i ≤ n) (hj : j ≤ n) : (reX ts n i j).length ≤ 2000 := by
 unfold reX
 rw [List.length_append]
 have h1 := reE_len ts n i
 have h2 := reI_len ts i j
 have h3 : n * i ≤ 40 * 40 := Nat.mul_le_mul hn (by omega)
 omega
end Go.Me
namespace Go.Proofs.YtmohcmghbfhdlaaGreat
open Go Go.RowKit Go.Ab Go.Me
set_option maxRecDepth 100000
set_option maxHeartbeats 4000000
attribute [local irreducible] OQ OW AL AW AF SW
theorem rSides_0 (l : List Pn) (ts : List T3) (hR : NetR l ts) (c c2 : Nat) (hEd : ∀ (m : Mem) (A B : Blk) (a1 : m.at 0 = some A) (a2 : A.cells = flatP l) (b1 : m.at 1 = some B) (b2 : B.cells = flatT ts) (a3 : A.obj = Ob.plain) (b3 : B.obj = Ob.plain) (a4 : A.esz = 0) (b4 : B.esz = 0), ACalls Tryz.prog 31 [.agg #[.slice (some ⟨0, 0, none⟩) l.length c, .slice (some ⟨1, 0, none⟩) ts.length c2]] m (.slice (some ⟨m.length, 0, none⟩) (edL ts).length INF) (m ++ [some ⟨flatP (edL ts), true, 2⟩])) :
  ACalls Tryz.prog 32 [.agg #[.slice (some ⟨0, 0, none⟩) l.length c, .slice (some ⟨1, 0, none⟩) ts.length c2]] [some ⟨flatP l, false, 0⟩, some ⟨flatT ts, false, 0⟩] (.slice (some ⟨2, 0, none⟩) (edL ts).length INF) [some ⟨flatP l, false, 0⟩, some ⟨flatT ts, false, 0⟩, some ⟨flatP (sdL ts), true, 2⟩] := by
 have hh : ∀ (a b : Int) (m : Mem) (blk : Blk) (h1 : m.at 1 = some blk) (h2 : blk.cells = flatT ts) (h3 : blk.obj = Ob.plain), PCalls Tryz.prog 75 [.slice (some ⟨1, 0, none⟩) ts.length c2, .int .i64 a, .int .i64 b] m (.int .i64 (lk (lfA ts) (a, b))) := fun a b m blk h1 h2 h3 => has_q (c := c2) ts (Nat.le_refl _) (by have := hR.le; omega) a b h1 h2 h3
 have hps : ∀ k, k < (edL ts).length → (flatP (edL ts))[k * 2]? = some (.int .i64 (pt (edL ts) k).x) ∧ (flatP (edL ts))[k * 2 + 1]? = some (.int .i64 (pt (edL ts) k).y) := fun k hk => flatP_get (edL ts) k hk
 have hpos := edL_pos hR
 have hle := edL_le ts
 have h80 := hR.le
 have hsd : ∀ k, k < (edL ts).length → flatP ((sdL ts).take k) ++ [.int .i64 (lk (lfA ts) ((pt (edL ts) k).x, (pt (edL ts) k).y)), .int .i64 (lk (lfA ts) ((pt (edL ts) k).y, (pt (edL ts) k).x))] = flatP ((sdL ts).take (k + 1)) := fun k hk => by
  have := flatP_take (es := sdL ts) (k := k) (by rw [sdL_len]; exact hk)
  rw [sdL_pt hk] at this
  exact this
 have hfl : ∀ k, k ≤ (edL ts).length → (flatP ((sdL ts).take k)).length = k * 2 := fun k hk => by rw [flatP_len, List.length_take, sdL_len, Nat.min_eq_left hk]
 have htl : (sdL ts).take (edL ts).length = sdL ts := by rw [← sdL_len, List.take_length]
 refine ACalls.en 44 Tryz.func32 rfl rfl (fun E hE => ?_)
 repeat' (first | with_reducible (first | refine Then.n ?_ | refine Then.x ?_ | refine InB.n ?_ | refine InB.hit ?_) | ((with_reducible refine AL.on ?_); first | ((first | refine AL.mv ?_ | refine AL.as ?_ | ((with_reducible refine AL.k_load ?_); refine AL.g (OQ.loadN (ty := 25) (n := 2) rfl kr kr (by rfl)) ?_) | ((with_reducible refine AL.k_call ?_); refine AL.g (OQ.lenS (xt := 45) (r := (none, 2, true)) rfl kr) ?_) | ((with_reducible refine AL.k_binOp ?_); first | refine AL.g (OQ.lss rfl rfl) ?_ | refine AL.g (OQ.addi rfl rfl (by omega)) ?_)); refine AL.nm ?_) | ((first | ((with_reducible refine AL.k_call ?_); first | refine AL.acall (g := 31) rfl kr rfl ((by exact hEd _ _ _ rfl rfl rfl rfl rfl rfl rfl rfl)) ?_ | refine AL.w rfl (by first | exact OW.appendNil (e := 52) (z := 2) (zs := [.int .i64 0, .int .i64 0]) (by' := 16) rfl rfl kr kr kr rfl kr (by decide) rfl (by decide) (by decide) | exact OW.appendL (e := 52) (z := 2) (zs := [.int .i64 0, .int .i64 0]) (by' := 16) rfl rfl kr kr kr rfl kr (by decide) rfl rfl rfl (by decide) (by exact hfl k (by omega)) rfl rfl (by omega) (by omega)) ?_) | refine AL.bx ?_); refine AL.nm ?_; refine AL.nM ?_) | refine AL.nil ?_) | ((with_reducible refine AW.on ?_); first | refine AW.seq ?_ | refine AW.skip ?_ | refine AW.exit ?_ | refine AW.ret ?_ | ((refine AW.block (id := 0) ?_); (refine AW.fk [1, 3, 4, 5] ?_); (refine AW.loop (fun n' t' m => ∃ k : Nat, n' = (edL ts).length - k ∧ k ≤ (edL ts).length ∧ ((k = 0 ∧ t' = [jk, .pointer (some ⟨2, 0, none⟩), jk, .slice none 0 0, .slice (some ⟨3, 0, none⟩) ((edL ts).length) INF, .int .i64 (k), jk, jk, jk, jk, jk, jk, jk, jk, jk, jk, jk, jk, jk, jk, jk, jk, jk, jk, jk, jk, jk, jk, jk, jk, jk, jk, jk, jk, jk, jk, jk, jk, jk, jk, jk, jk, jk, jk, jk] ∧ m = [some ⟨flatP l, false, 0⟩, some ⟨flatT ts, false, 0⟩, some ⟨[.slice (some ⟨0, 0, none⟩) l.length c, .slice (some ⟨1, 0, none⟩) ts.length c2], true, 0⟩, some ⟨flatP (edL ts), true, 2⟩]) ∨ (0 < k ∧ t' = [jk, .pointer (some ⟨2, 0, none⟩), jk, .slice (some ⟨4, 0, none⟩) (k) INF, .slice (some ⟨3, 0, none⟩) ((edL ts).length) INF, .int .i64 (k), jk, jk, jk, jk, jk, jk, jk, jk, jk, jk, jk, jk, jk, jk, jk, jk, jk, jk, jk, jk, jk, jk, jk, jk, jk, jk, jk, jk, jk, jk, jk, jk, jk, jk, jk, jk, jk, jk, jk] ∧ m = [some ⟨flatP l, false, 0⟩, some ⟨flatT ts, false, 0⟩, some ⟨[.slice (some ⟨0, 0, none⟩) l.length c, .slice (some ⟨1, 0, none⟩) ts.length c2], true, 0⟩, some ⟨flatP (edL ts), true, 2⟩, some ⟨flatP ((sdL ts).take k), true, 2⟩]))) ((edL ts).length) (by exact ⟨0, rfl, Nat.zero_le _, .inl ⟨rfl, rfl, rfl⟩⟩) ?_); (rintro n' t' m ⟨k, rfl, hk, (⟨hk0, rfl, rfl⟩ | ⟨hk1, rfl, rfl⟩)⟩)) | refine AW.block ?_ | (refine AW.drawF (id := 6) 29 #[0, 0, 2, 0, 0, 24, 56, 120, 0, 0, 768, 1792, 3840, 8190, 0, 16384, 0, 0, 196608, 458752, 983040, 0, 0, 6291456, 14680064, 31457280, 67108862, 134217726, 268435454, 536870911, 1073741823] kr kr ?_; (conv => (arg 8; simp only [List.take_succ_cons, List.take_zero]))) | refine AW.region ?_ | (refine AW.conds rfl (fun hc => ?_) (fun hc => ?_) <;> (try replace hc := nc hc) <;> first | (exfalso; ((omega); done)) | skip)) | ((with_reducible refine AF.on ?_); first | ((first | ((with_reducible refine AF.k_move ?_); (refine AF.q 0 (SW.q (OQ.move wl) rfl) ?_)) | ((with_reducible refine AF.k_indexAddr ?_); first | refine AF.q 0 (SW.q (OQ.idxAddr (ty := 45) (z := 2) (g := true) rfl rfl kr (by omega) (by omega)) rfl) ?_ | refine AF.q 0 (SW.q (OQ.idxPtr (ty := 52) (n := 1) (l := 2) (g := false) rfl rfl kr (by omega) (by omega)) rfl) ?_) | ((with_reducible refine AF.k_load ?_); first | (refine AF.ql rfl (SW.q (OQ.load1 (ty := 23) rfl kr (by (conv => lhs; whnf))) rfl) ?_) | (refine AF.ql rfl (SW.q (OQ.load1 (ty := 3) rfl kr (by (first | exact (hps k (by omega)).1 | exact (hps k (by omega)).2))) rfl) ?_)) | ((with_reducible refine AF.k_call ?_); refine AF.q 2 (SW.pcall (g := 75) rfl kr rfl ((by exact hh _ _ _ _ rfl rfl rfl)) rfl) ?_) | ((with_reducible refine AF.k_fieldAddr ?_); refine AF.q 0 (SW.q (OQ.fieldA (ty := 25) (i := 1) (n := 1) (off := 1) (g := false) rfl kr (by decide)) rfl) ?_) | ((with_reducible refine AF.k_build ?_); refine AF.q 0 (SW.q (OQ.buildA (ty := 52) (zs := [.int .i64 0, .int .i64 0]) (n := 1) (k := 2) (g := false) kr rfl kr rfl rfl rfl) rfl) ?_)); refine AF.nm ?_) | ((refine AF.n1 0 (SW.w (OW.buildSl (ty := 45) (zs := [.int .i64 0, .int .i64 0]) (n := 2) (g := true) kr kr rfl rfl rfl (by decide) (by decide) rfl rfl) rfl) rfl ?_); refine AF.nm ?_; (conv => (arg 10; try tactic => exact nrmF))) | refine AF.nl ?_) | ((with_reducible refine ex_on ?_); first | (obtain rfl := hk0; have hf0 := hsd 0 (by omega); refine ⟨(edL ts).length - 1, [jk, .pointer (some ⟨2, 0, none⟩), jk, .slice (some ⟨4, 0, none⟩) (1) INF, .slice (some ⟨3, 0, none⟩) ((edL ts).length) INF, .int .i64 (((0 + 1 : Nat) : Int)), jk, jk, jk, jk, jk, jk, jk, jk, jk, jk, jk, jk, jk, jk, jk, jk, jk, jk, jk, jk, jk, jk, jk, jk, jk, jk, jk, jk, jk, jk, jk, jk, jk, jk, jk, jk, jk, jk, jk], [some ⟨flatP l, false, 0⟩, some ⟨flatT ts, false, 0⟩, some ⟨[.slice (some ⟨0, 0, none⟩) l.length c, .slice (some ⟨1, 0, none⟩) ts.length c2], true, 0⟩, some ⟨flatP (edL ts), true, 2⟩, some ⟨[.int .i64 (lk (lfA ts) ((pt (edL ts) 0).x, (pt (edL ts) 0).y)), .int .i64 (lk (lfA ts) ((pt (edL ts) 0).y, (pt (edL ts) 0).x))], true, 2⟩], by omega, ?_, 0 + 1, rfl, by omega, .inr ⟨by omega, rfl, by rw [← hf0]; rfl⟩⟩; exact Wk.keep 4 [5] (by rw [hE]; exact Nat.le_of_ble_eq_true rfl) rfl rfl (by repeat (first | exact RenT.nil | refine RenT.jk ?_ | refine RenT.val (by rfl) (by rfl) ?_)) ⟨kl rfl (flatP_scal l), kl rfl (flatT_scal ts), ki rfl, kl rfl (flatP_scal _), kl rfl rfl, trivial⟩) | (have hf0 := hsd k (by omega); refine ⟨(edL ts).length - (k + 1), [jk, .pointer (some ⟨2, 0, none⟩), jk, .slice (some ⟨4, 0, none⟩) (k + 1) INF, .slice (some ⟨3, 0, none⟩) ((edL ts).length) INF, .int .i64 (((k + 1 : Nat) : Int)), jk, jk, jk, jk, jk, jk, jk, jk, jk, jk, jk, jk, jk, jk, jk, jk, jk, jk, jk, jk, jk, jk, jk, jk, jk, jk, jk, jk, jk, jk, jk, jk, jk, jk, jk, jk, jk, jk, jk], [some ⟨flatP l, false, 0⟩, some ⟨flatT ts, false, 0⟩, some ⟨[.slice (some ⟨0, 0, none⟩) l.length c, .slice (some ⟨1, 0, none⟩) ts.length c2], true, 0⟩, some ⟨flatP (edL ts), true, 2⟩, some ⟨flatP ((sdL ts).take k) ++ [.int .i64 (lk (lfA ts) ((pt (edL ts) k).x, (pt (edL ts) k).y)), .int .i64 (lk (lfA ts) ((pt (edL ts) k).y, (pt (edL ts) k).x))], true, 2⟩], by omega, ?_, k + 1, rfl, by omega, .inr ⟨by omega, rfl, by rw [← hf0]⟩⟩; exact Wk.keep 4 [6] (by rw [hE]; exact Nat.le_of_ble_eq_true rfl) rfl rfl (by repeat (first | exact RenT.nil | refine RenT.jk ?_ | refine RenT.val (by rfl) (by rfl) ?_)) ⟨kl rfl (flatP_scal l), kl rfl (flatT_scal ts), ki rfl, kl rfl (flatP_scal _), ⟨_, rfl, rfl, rfl, .inl ⟨rfl, by rw [List.all_append, flatP_scal]; rfl⟩⟩, trivial⟩)) | ((with_reducible refine FinA.on ?_); (obtain rfl : k = (edL ts).length := (by omega); rw [htl]; refine FinA.keep 2 [4] (.inl rfl) (.tmp wl .nil) ?_ rfl (Nat.le_of_eq hE) rfl rfl ⟨kl rfl (flatP_scal l), kl rfl (flatT_scal ts), kl rfl (flatP_scal _), trivial⟩; rfl)))
end Go.Proofs.YtmohcmghbfhdlaaGreat
end
end
/- Chapter 6: the reference's edges of a right net. -/
section
set_option linter.unusedSimpArgs false
set_option linter.unusedVariables false
section
namespace Go.Proofs.YtmohcmghbfhdlaaGreat
open Go Go.RowKit Go.Ab Go.Me
set_option maxRecDepth 100000
set_option maxHeartbeats 4000000
attribute [local irreducible] OQ OW AL AW AF SW
theorem rEdges_0 (l : List Pn) (ts : List T3) (hR : NetR l ts) (c c2 : Nat) :
  ACalls Tryz.prog 31 [.agg #[.slice (some ⟨0, 0, none⟩) l.length c, .slice (some ⟨1, 0, none⟩) ts.length c2]] [some ⟨flatP l, false, 0⟩, some ⟨flatT ts, false, 0⟩] (.slice (some ⟨2, 0, none⟩) (edL ts).length INF) [some ⟨flatP l, false, 0⟩, some ⟨flatT ts, false, 0⟩, some ⟨flatP (edL ts), true, 2⟩] := by
 have hh : ∀ (a b : Int) (m : Mem) (blk : Blk) (h1 : m.at 1 = some blk) (h2 : blk.cells = flatT ts) (h3 : blk.obj = Ob.plain), PCalls Tryz.prog 75 [.slice (some ⟨1, 0, none⟩) ts.length c2, .int .i64 a, .int .i64 b] m (.int .i64 (lk (lfA ts) (a, b))) := fun a b m blk h1 h2 h3 => has_q (c := c2) ts (Nat.le_refl _) (by have := hR.le; omega) a b h1 h2 h3
 have h80 := hR.le
 have h40 := (cp_ok hR.cp).1
 have hn2 := two_of hR.all hR.g.1
 have hpos := edL_pos hR
 have a1 : ∀ i, reX ts l.length i (i + 1 - i - 1) = reX ts l.length i 0 := fun i => by rw [show i + 1 - i - 1 = 0 by omega]
 have a2 : ∀ i, i < l.length → reX ts l.length i (l.length - i - 1) = reX ts l.length (i + 1) 0 := fun i hi => by
  rw [show l.length - i - 1 = l.length - 1 - i by omega]
  exact reX_row hi
 have a3 : ∀ i k : Nat, i < k → (0 ≤ lk (lfA ts) ((i : Int), (k : Int)) ∨ 0 ≤ lk (lfA ts) ((k : Int), (i : Int))) → reX ts l.length i (k + 1 - i - 1) = reX ts l.length i (k - i - 1) ++ [⟨i, k⟩] := fun i k hk h => by
  rw [show k + 1 - i - 1 = (k - i - 1) + 1 by omega, reX_step, show i + 1 + (k - i - 1) = k by omega, reP_1 h]
 have a4 : ∀ i k : Nat, i < k → lk (lfA ts) ((i : Int), (k : Int)) < 0 → lk (lfA ts) ((k : Int), (i : Int)) < 0 → reX ts l.length i (k + 1 - i - 1) = reX ts l.length i (k - i - 1) := fun i k hk h1 h2 => by
  rw [show k + 1 - i - 1 = (k - i - 1) + 1 by omega, reX_step, show i + 1 + (k - i - 1) = k by omega, reP_0 h1 h2, List.append_nil]
 have a5 : reX ts l.length 0 0 = [] := rfl
 have a6 : reX ts l.length l.length 0 = edL ts := by
  rw [← reE_edL hR]
  show _ ++ [] = _
  rw [List.append_nil]
 have a7 : ∀ i k : Nat, i ≤ l.length → k ≤ l.length → (reX ts l.length i (k - i - 1)).length ≤ 2000 := fun i k h1 h2 => reX_len ts h40 h1 (by omega)
 have a8 : ∀ i : Nat, i ≤ l.length → (reX ts l.length i 0).length ≤ 2000 := fun i h1 => reX_len ts h40 h1 (by omega)
 have hfl := flatP_len
 have hsn : ∀ (X : List Pn) (i k : Nat), flatP (X ++ [⟨i, k⟩]) = flatP X ++ [.int .i64 (i : Int), .int .i64 (k : Int)] := fun X i k => flatP_snoc X ⟨i, k⟩
 generalize hRK : (fun i k : Nat => reX ts l.length i (k - i - 1)) = RK at *
 generalize hOX : (fun i : Nat => reX ts l.length i 0) = OX at *
 have e1 : ∀ i k : Nat, reX ts l.length i (k - i - 1) = RK i k := fun i k => by rw [← hRK]
 have e2 : ∀ i : Nat, reX ts l.length i 0 = OX i := fun i => by rw [← hOX]
 simp only [e1, e2] at a1 a2 a3 a4 a5 a6 a7 a8
 clear hRK hOX e1 e2
 refine ACalls.en 42 Tryz.func31 rfl rfl (fun E hE => ?_)
 repeat' (first | with_reducible (first | refine Then.n ?_ | refine Then.x ?_ | refine InB.n ?_ | refine InB.hit ?_) | ((with_reducible refine AL.on ?_); first | (refine AL.gd rfl ?_; (refine AL.gs0 rfl rfl (fun hc => ?_) (fun hc => ?_) <;> (try replace hc := nc hc) <;> first | (exfalso; contradiction) | refine AL.nm ?_)) | ((first | refine AL.mv ?_ | refine AL.as ?_ | ((with_reducible refine AL.k_binOp ?_); first | refine AL.g (OQ.lss rfl rfl) ?_ | refine AL.g (OQ.addi rfl rfl (by omega)) ?_ | refine AL.g (OQ.geq rfl rfl) ?_) | ((with_reducible refine AL.k_call ?_); refine AL.g (OQ.lenS (xt := 22) (r := (none, 2, true)) rfl kr) ?_) | ((with_reducible refine AL.k_fieldAddr ?_); first | refine AL.g (OQ.fieldA (ty := 25) (i := 0) (n := 1) (off := 0) (g := false) rfl kr (by decide)) ?_ | refine AL.g (OQ.fieldA (ty := 25) (i := 1) (n := 1) (off := 1) (g := false) rfl kr (by decide)) ?_) | ((with_reducible refine AL.k_load ?_); first | (refine AL.g (OQ.load1 (ty := 22) rfl kr wl) ?_) | (refine AL.g (OQ.load1 (ty := 23) rfl kr wl) ?_)) | ((with_reducible refine AL.k_pick ?_); first | refine AL.pT ?_ | refine AL.pF ?_)); refine AL.nm ?_) | ((first | ((with_reducible refine AL.k_call ?_); refine AL.pcall (g := 75) rfl kr rfl ((by exact hh _ _ _ _ rfl rfl rfl)) ?_) | ((with_reducible refine AL.k_build ?_); refine AL.g (OQ.buildA (ty := 52) (zs := [.int .i64 0, .int .i64 0]) (n := 1) (k := 2) (g := false) kr rfl kr rfl rfl rfl) ?_)); refine AL.nm ?_) | ((first | ((with_reducible refine AL.k_call ?_); refine AL.w rfl (by first | exact OW.appendNil (e := 52) (z := 2) (zs := [.int .i64 0, .int .i64 0]) (by' := 16) rfl rfl kr kr kr rfl kr (by decide) rfl (by decide) (by decide) | exact OW.appendL (e := 52) (z := 2) (zs := [.int .i64 0, .int .i64 0]) (by' := 16) rfl rfl kr kr kr rfl kr (by decide) rfl rfl rfl (by decide) (by exact hfl _) rfl rfl (by omega) (by omega)) ?_) | refine AL.bx ?_ | ((with_reducible refine AL.k_buildSlice ?_); refine AL.w rfl (OW.buildSl (ty := 45) (zs := [.int .i64 0, .int .i64 0]) (n := 2) (g := true) kr kr rfl rfl rfl (by decide) (by decide) rfl rfl) ?_)); refine AL.nm ?_; refine AL.nM ?_) | refine AL.nil ?_) | ((with_reducible refine AW.on ?_); first | refine AW.seq ?_ | refine AW.skip ?_ | refine AW.exit ?_ | refine AW.ret ?_ | ((refine AW.block (id := 0) ?_); (refine AW.fk [1, 3, 4] ?_); (refine AW.loop (fun n' t' m => ∃ i : Nat, n' = l.length - i ∧ i ≤ l.length ∧ ((OX i = [] ∧ t' = [jk, .pointer (some ⟨2, 0, none⟩), jk, .slice none 0 0, .int .i64 (i), jk, jk, jk, jk, jk, jk, jk, jk, jk, jk, jk, jk, jk, jk, jk, jk, jk, jk, jk, jk, jk, jk, jk, jk, jk, jk, jk, jk, jk, jk, jk, jk, jk, jk, jk, jk, jk, jk] ∧ m = [some ⟨flatP l, false, 0⟩, some ⟨flatT ts, false, 0⟩, some ⟨[.slice (some ⟨0, 0, none⟩) l.length c, .slice (some ⟨1, 0, none⟩) ts.length c2], true, 0⟩]) ∨ (0 < (OX i).length ∧ t' = [jk, .pointer (some ⟨2, 0, none⟩), jk, .slice (some ⟨3, 0, none⟩) ((OX i).length) INF, .int .i64 (i), jk, jk, jk, jk, jk, jk, jk, jk, jk, jk, jk, jk, jk, jk, jk, jk, jk, jk, jk, jk, jk, jk, jk, jk, jk, jk, jk, jk, jk, jk, jk, jk, jk, jk, jk, jk, jk, jk] ∧ m = [some ⟨flatP l, false, 0⟩, some ⟨flatT ts, false, 0⟩, some ⟨[.slice (some ⟨0, 0, none⟩) l.length c, .slice (some ⟨1, 0, none⟩) ts.length c2], true, 0⟩, some ⟨flatP (OX i), true, 2⟩]))) (l.length) (by exact ⟨0, rfl, Nat.zero_le _, .inl ⟨a5, rfl, rfl⟩⟩) ?_); (rintro n' t' m ⟨i, rfl, hi, (⟨hi0, rfl, rfl⟩ | ⟨hi1, rfl, rfl⟩)⟩)) | ((refine AW.block (id := 2) ?_); (refine AW.fk [1, 3, 4, 5] ?_); (refine AW.loop (fun n' t' m => ∃ k : Nat, n' = l.length - k ∧ i < k ∧ k ≤ l.length ∧ ((RK i k = [] ∧ t' = [jk, .pointer (some ⟨2, 0, none⟩), jk, .slice none 0 0, .int .i64 (i), .int .i64 (k), jk, jk, jk, jk, jk, jk, jk, jk, jk, jk, jk, jk, jk, jk, jk, jk, jk, jk, jk, jk, jk, jk, jk, jk, jk, jk, jk, jk, jk, jk, jk, jk, jk, jk, jk, jk, jk] ∧ m = [some ⟨flatP l, false, 0⟩, some ⟨flatT ts, false, 0⟩, some ⟨[.slice (some ⟨0, 0, none⟩) l.length c, .slice (some ⟨1, 0, none⟩) ts.length c2], true, 0⟩]) ∨ (0 < (RK i k).length ∧ t' = [jk, .pointer (some ⟨2, 0, none⟩), jk, .slice (some ⟨3, 0, none⟩) ((RK i k).length) INF, .int .i64 (i), .int .i64 (k), jk, jk, jk, jk, jk, jk, jk, jk, jk, jk, jk, jk, jk, jk, jk, jk, jk, jk, jk, jk, jk, jk, jk, jk, jk, jk, jk, jk, jk, jk, jk, jk, jk, jk, jk, jk, jk] ∧ m = [some ⟨flatP l, false, 0⟩, some ⟨flatT ts, false, 0⟩, some ⟨[.slice (some ⟨0, 0, none⟩) l.length c, .slice (some ⟨1, 0, none⟩) ts.length c2], true, 0⟩, some ⟨flatP (RK i k), true, 2⟩]))) (l.length - (i + 1)) (by first | exact ⟨i + 1, rfl, by omega, by omega, .inl ⟨(a1 i).trans hi0, rfl, rfl⟩⟩ | exact ⟨i + 1, rfl, by omega, by omega, .inr ⟨by rw [a1 i]; exact hi1, by rw [a1 i]; rfl, by rw [a1 i]⟩⟩) ?_); (rintro n' t' m ⟨k, rfl, hik, hk, (⟨hk0, rfl, rfl⟩ | ⟨hk1, rfl, rfl⟩)⟩)) | refine AW.block ?_ | (refine AW.region (id := 8) ?_; ((have q7 := a7 i k (by omega) (by omega)))) | refine AW.region ?_ | (refine AW.conds rfl (fun hc => ?_) (fun hc => ?_) <;> (try replace hc := nc hc) <;> first | (exfalso; contradiction) | skip)) | ((with_reducible refine ex_on ?_); first | ((obtain rfl : k = l.length := (by omega); have q2 := a2 i (by omega); first | (refine ⟨l.length - (i + 1), _, _, by omega, ?_, i + 1, rfl, by omega, .inl ⟨q2.symm.trans hk0, rfl, rfl⟩⟩; exact Wk.fk [1, 3, 4] rfl) | (rw [q2]; refine ⟨l.length - (i + 1), _, _, by omega, ?_, i + 1, rfl, by omega, .inr ⟨by rw [← q2]; exact hk1, rfl, rfl⟩⟩; exact Wk.fk [1, 3, 4] rfl))) | (first | (have q := a4 i k hik (by omega) (by omega); refine ⟨l.length - (k + 1), _, _, by omega, ?_, k + 1, rfl, by omega, by omega, .inl ⟨q.trans hk0, rfl, rfl⟩⟩; exact Wk.fk [1, 3, 4, 5] rfl) | (have q := a4 i k hik (by omega) (by omega); rw [← q]; refine ⟨l.length - (k + 1), _, _, by omega, ?_, k + 1, rfl, by omega, by omega, .inr ⟨by rw [q]; exact hk1, rfl, rfl⟩⟩; exact Wk.fk [1, 3, 4, 5] rfl) | (have q := a3 i k hik (by omega); rw [hk0, List.nil_append] at q; refine ⟨l.length - (k + 1), [jk, .pointer (some ⟨2, 0, none⟩), jk, .slice (some ⟨3, 0, none⟩) (1) INF, .int .i64 (i), .int .i64 (k + 1), jk, jk, jk, jk, jk, jk, jk, jk, jk, jk, jk, jk, jk, jk, jk, jk, jk, jk, jk, jk, jk, jk, jk, jk, jk, jk, jk, jk, jk, jk, jk, jk, jk, jk, jk, jk, jk], [some ⟨flatP l, false, 0⟩, some ⟨flatT ts, false, 0⟩, some ⟨[.slice (some ⟨0, 0, none⟩) l.length c, .slice (some ⟨1, 0, none⟩) ts.length c2], true, 0⟩, some ⟨[.int .i64 (i : Int), .int .i64 (k : Int)], true, 2⟩], by omega, ?_, k + 1, rfl, by omega, by omega, .inr ⟨by rw [q]; exact Nat.one_pos, by rw [q]; rfl, by rw [q]; rfl⟩⟩; exact Wk.keep 3 [4] (by rw [hE]; exact Nat.le_of_ble_eq_true rfl) rfl rfl (by repeat (first | exact RenT.nil | refine RenT.jk ?_ | refine RenT.val (by rfl) (by rfl) ?_)) ⟨kl rfl (flatP_scal l), kl rfl (flatT_scal ts), ki rfl, kl rfl rfl, trivial⟩) | (have q := a3 i k hik (by omega); refine ⟨l.length - (k + 1), [jk, .pointer (some ⟨2, 0, none⟩), jk, .slice (some ⟨3, 0, none⟩) ((RK i k).length + 1) INF, .int .i64 (i), .int .i64 (k + 1), jk, jk, jk, jk, jk, jk, jk, jk, jk, jk, jk, jk, jk, jk, jk, jk, jk, jk, jk, jk, jk, jk, jk, jk, jk, jk, jk, jk, jk, jk, jk, jk, jk, jk, jk, jk, jk], [some ⟨flatP l, false, 0⟩, some ⟨flatT ts, false, 0⟩, some ⟨[.slice (some ⟨0, 0, none⟩) l.length c, .slice (some ⟨1, 0, none⟩) ts.length c2], true, 0⟩, some ⟨flatP (RK i k) ++ [.int .i64 (i : Int), .int .i64 (k : Int)], true, 2⟩], by omega, ?_, k + 1, rfl, by omega, by omega, .inr ⟨by rw [q, List.length_append]; exact Nat.succ_pos _, by rw [q, List.length_append]; rfl, by rw [q, hsn]⟩⟩; exact Wk.keep 3 [5] (by rw [hE]; exact Nat.le_of_ble_eq_true rfl) rfl rfl (by repeat (first | exact RenT.nil | refine RenT.jk ?_ | refine RenT.val (by rfl) (by rfl) ?_)) ⟨kl rfl (flatP_scal l), kl rfl (flatT_scal ts), ki rfl, ⟨_, rfl, rfl, rfl, .inl ⟨rfl, by rw [List.all_append, flatP_scal]; rfl⟩⟩, trivial⟩))) | ((with_reducible refine FinA.on ?_); (obtain rfl : i = l.length := (by omega); first | (exfalso; rw [a6] at hi0; rw [hi0] at hpos; exact absurd hpos (by simp)) | (rw [a6]; refine FinA.keep 2 [3] (.inl rfl) (.tmp wl .nil) ?_ rfl (Nat.le_of_eq hE) rfl rfl ⟨kl rfl (flatP_scal l), kl rfl (flatT_scal ts), kl rfl (flatP_scal _), trivial⟩; rfl))))
end Go.Proofs.YtmohcmghbfhdlaaGreat
end
end
/- Chapter 6: edges and sides in a greater memory; those of a wrong net. -/
section
set_option linter.unusedSimpArgs false
set_option linter.unusedVariables false
section
namespace Go.Proofs.YtmohcmghbfhdlaaGreat
open Go Go.RowKit Go.Ab Go.Me
set_option maxRecDepth 100000
set_option maxHeartbeats 4000000
theorem rEdges_q {m : Mem} {bP bT : Nat} {A B : Blk} (l : List Pn) (ts : List T3) (hR : NetR l ts) (c c2 : Nat) (hne : bP ≠ bT) (a1 : m.at bP = some A) (a2 : A.cells = flatP l) (b1 : m.at bT = some B) (b2 : B.cells = flatT ts) (a3 : A.obj = Ob.plain) (b3 : B.obj = Ob.plain) (a4 : A.esz = 0) (b4 : B.esz = 0) :
  ACalls Tryz.prog 31 [.agg #[.slice (some ⟨bP, 0, none⟩) l.length c, .slice (some ⟨bT, 0, none⟩) ts.length c2]] m (.slice (some ⟨m.length, 0, none⟩) (edL ts).length INF) (m ++ [some ⟨flatP (edL ts), true, 2⟩]) := by
 have h := ACalls.viaS (m := m) (args := [.agg #[.slice (some ⟨bP, 0, none⟩) l.length c, .slice (some ⟨bT, 0, none⟩) ts.length c2]]) (v := .slice (some ⟨m.length, 0, none⟩) (edL ts).length INF) [bP, bT] [] [some ⟨flatP (edL ts), true, 2⟩] (rEdges_0 l ts hR c c2) ⟨bS a1 a3 a2 (flatP_scal _) a4, bS b1 b3 b2 (flatT_scal _) b4, trivial⟩ (by simpa using hne) ⟨⟨_, rfl, rfl⟩, ⟨_, rfl, rfl⟩, ⟨rfl, rfl, rfl, .inl ⟨rfl, flatP_scal _⟩⟩, trivial⟩ rfl rfl rfl rfl
 exact h
theorem rSides_q {m : Mem} {bP bT : Nat} {A B : Blk} (l : List Pn) (ts : List T3) (hR : NetR l ts) (c c2 : Nat) (hne : bP ≠ bT) (a1 : m.at bP = some A) (a2 : A.cells = flatP l) (b1 : m.at bT = some B) (b2 : B.cells = flatT ts) (a3 : A.obj = Ob.plain) (b3 : B.obj = Ob.plain) (a4 : A.esz = 0) (b4 : B.esz = 0) :
  ACalls Tryz.prog 32 [.agg #[.slice (some ⟨bP, 0, none⟩) l.length c, .slice (some ⟨bT, 0, none⟩) ts.length c2]] m (.slice (some ⟨m.length, 0, none⟩) (edL ts).length INF) (m ++ [some ⟨flatP (sdL ts), true, 2⟩]) := by
 have h := ACalls.viaS (m := m) (args := [.agg #[.slice (some ⟨bP, 0, none⟩) l.length c, .slice (some ⟨bT, 0, none⟩) ts.length c2]]) (v := .slice (some ⟨m.length, 0, none⟩) (edL ts).length INF) [bP, bT] [] [some ⟨flatP (sdL ts), true, 2⟩] (rSides_0 l ts hR c c2 fun m A B a1 a2 b1 b2 a3 b3 a4 b4 => rEdges_q l ts hR c c2 (by decide) a1 a2 b1 b2 a3 b3 a4 b4) ⟨bS a1 a3 a2 (flatP_scal _) a4, bS b1 b3 b2 (flatT_scal _) b4, trivial⟩ (by simpa using hne) ⟨⟨_, rfl, rfl⟩, ⟨_, rfl, rfl⟩, ⟨rfl, rfl, rfl, .inl ⟨rfl, flatP_scal _⟩⟩, trivial⟩ rfl rfl rfl rfl
 exact h
end Go.Proofs.YtmohcmghbfhdlaaGreat
end
end
/- Chapter 6: the reference's sums around a triangle, differences and closures. -/
section
set_option linter.unusedSimpArgs false
set_option linter.unusedVariables false
section
namespace Go.Me
open Go.Ab Go.Proofs.YtmohcmghbfhdlaaGreat
def arK (ts : List T3) (xs : List Int) (i : Int) : Nat → Int
 | 0 => 0
 | k + 1 => arK ts xs i k + (if (pt (sdL ts) k).x = i then nt xs k else 0) - (if (pt (sdL ts) k).y = i then nt xs k else 0)
theorem arK_smL {ts : List T3} {xs : List Int} {i : Nat} (hi : i < ts.length) : ∀ k, k ≤ (edL ts).length → arK ts xs i k = nt (smL ts xs k) i
 | 0, _ => by
  unfold arK smL nt
  rw [List.getD_eq_getElem?_getD, List.getElem?_replicate, if_pos hi]
  rfl
 | k + 1, hk => by
  have ih := arK_smL (xs := xs) hi k (by omega)
  have hl := smL_len ts xs k
  obtain ⟨⟨r1, r2⟩, r3, r4⟩ := sdP_rng ts (pt (edL ts) k)
  unfold arK
  rw [ih, sdL_pt (show k < (edL ts).length by omega)]
  by_cases h1 : (sdP ts (pt (edL ts) k)).x = -1 <;> by_cases h2 : (sdP ts (pt (edL ts) k)).y = -1
  ·rw [smL_a h1 h2, if_neg (by omega), if_neg (by omega)]
   omega
  ·rw [smL_b h1 h2, nt_set (by omega), if_neg (c := (sdP ts (pt (edL ts) k)).x = (i : Int)) (by omega)]
   by_cases h3 : (sdP ts (pt (edL ts) k)).y = (i : Int)
   ·rw [if_pos h3, if_pos (by omega), show (sdP ts (pt (edL ts) k)).y.toNat = i by omega]
    omega
   ·rw [if_neg h3, if_neg (by omega)]
    omega
  ·rw [smL_c h1 h2, nt_set (by omega), if_neg (c := (sdP ts (pt (edL ts) k)).y = (i : Int)) (by omega)]
   by_cases h3 : (sdP ts (pt (edL ts) k)).x = (i : Int)
   ·rw [if_pos h3, if_pos (by omega), show (sdP ts (pt (edL ts) k)).x.toNat = i by omega]
    omega
   ·rw [if_neg h3, if_neg (by omega)]
    omega
  ·rw [smL_d h1 h2, nt_set (by rw [List.length_set]; omega), nt_set (by omega), nt_set (by omega)]
   by_cases h3 : (sdP ts (pt (edL ts) k)).x = (i : Int) <;> by_cases h4 : (sdP ts (pt (edL ts) k)).y = (i : Int)
   ·rw [if_pos h3, if_pos h4, if_pos (by omega), if_pos (by omega), show (sdP ts (pt (edL ts) k)).x.toNat = i by omega]
   ·rw [if_pos h3, if_neg h4, if_neg (by omega), if_pos (by omega), show (sdP ts (pt (edL ts) k)).x.toNat = i by omega]
    omega
   ·rw [if_neg h3, if_pos h4, if_pos (by omega), if_neg (by omega), show (sdP ts (pt (edL ts) k)).y.toNat = i by omega]
    omega
   ·rw [if_neg h3, if_neg h4, if_neg (by omega), if_neg (by omega)]
    omega
theorem arK_bd {ts : List T3} {xs : List Int} {i : Int} (hx : ∀ k, k < xs.length → -1000000000 ≤ nt xs k ∧ nt xs k ≤ 1000000000) : ∀ k, k ≤ xs.length → -(2000000000 * (k : Int)) ≤ arK ts xs i k ∧ arK ts xs i k ≤ 2000000000 * (k : Int)
 | 0, _ => by unfold arK; omega
 | k + 1, hk => by
  have h1 := arK_bd (ts := ts) (i := i) hx k (by omega)
  have h2 := hx k (by omega)
  unfold arK
  split <;> split <;> omega
end Go.Me
namespace Go.Proofs.YtmohcmghbfhdlaaGreat
open Go Go.RowKit Go.Ab Go.Me
set_option maxRecDepth 100000
set_option maxHeartbeats 4000000
attribute [local irreducible] OQ OW AL AW AF SW
theorem raround_0 (l : List Pn) (ts : List T3) (hR : NetR l ts) (xs : List Int) (hxl : xs.length = (edL ts).length) (hx : ∀ k, k < xs.length → -1000000000 ≤ nt xs k ∧ nt xs k ≤ 1000000000) (i : Nat) (c c2 c3 z : Nat) :
  PCalls Tryz.prog 70 [.agg #[.slice (some ⟨0, 0, none⟩) l.length c, .slice (some ⟨1, 0, none⟩) ts.length c2], .int .i64 i, .slice (some ⟨2, 0, none⟩) xs.length c3] [some ⟨flatP l, false, 0⟩, some ⟨flatT ts, false, 0⟩, some ⟨flatN xs, false, z⟩] (.int .i64 (arK ts xs i (edL ts).length)) := by
 have hrS := fun (m : Mem) (A B : Blk) (a1 : m.at 0 = some A) (a2 : A.cells = flatP l) (b1 : m.at 1 = some B) (b2 : B.cells = flatT ts) (a3 : A.obj = Ob.plain) (b3 : B.obj = Ob.plain) (a4 : A.esz = 0) (b4 : B.esz = 0) => rSides_q l ts hR c c2 (by decide) a1 a2 b1 b2 a3 b3 a4 b4
 have hps : ∀ k, k < (edL ts).length → (flatP (sdL ts))[k * 2]? = some (.int .i64 (pt (sdL ts) k).x) ∧ (flatP (sdL ts))[k * 2 + 1]? = some (.int .i64 (pt (sdL ts) k).y) := fun k hk => flatP_get (sdL ts) k (by rw [sdL_len]; exact hk)
 have hg := fun (k : Nat) (hk : k < (edL ts).length) => flatN_get xs k (by omega)
 have hle := edL_le ts
 have h80 := hR.le
 have hbd := fun k (hk : k ≤ (edL ts).length) => arK_bd (ts := ts) (i := (i : Int)) hx k (by omega)
 have hxb := fun k (hk : k < (edL ts).length) => hx k (by omega)
 have h0 : arK ts xs i 0 = 0 := rfl
 have s1 : ∀ k, (pt (sdL ts) k).x = (i : Int) → (pt (sdL ts) k).y = (i : Int) → arK ts xs i (k + 1) = arK ts xs i k + nt xs k - nt xs k := fun k h1 h2 => by
  show _ + _ - _ = _
  rw [if_pos h1, if_pos h2]
 have s2 : ∀ k, (pt (sdL ts) k).x = (i : Int) → ¬ (pt (sdL ts) k).y = (i : Int) → arK ts xs i (k + 1) = arK ts xs i k + nt xs k := fun k h1 h2 => by
  show _ + _ - _ = _
  rw [if_pos h1, if_neg h2, Int.sub_zero]
 have s3 : ∀ k, ¬ (pt (sdL ts) k).x = (i : Int) → (pt (sdL ts) k).y = (i : Int) → arK ts xs i (k + 1) = arK ts xs i k - nt xs k := fun k h1 h2 => by
  show _ + _ - _ = _
  rw [if_neg h1, if_pos h2, Int.add_zero]
 have s4 : ∀ k, ¬ (pt (sdL ts) k).x = (i : Int) → ¬ (pt (sdL ts) k).y = (i : Int) → arK ts xs i (k + 1) = arK ts xs i k := fun k h1 h2 => by
  show _ + _ - _ = _
  rw [if_neg h1, if_neg h2, Int.add_zero, Int.sub_zero]
 rw [hxl]
 generalize arK ts xs i = AK at *
 refine PCalls.en 42 Tryz.func70 rfl (ro3p _ _ _ rfl rfl rfl) rfl (fun E => ?_)
 repeat' (first | with_reducible (first | refine Then.n ?_ | refine Then.x ?_ | refine InB.n ?_ | refine InB.hit ?_) | ((with_reducible refine AL.on ?_); first | ((first | refine AL.mv ?_ | refine AL.as ?_ | ((with_reducible refine AL.k_binOp ?_); first | refine AL.g (OQ.lss rfl rfl) ?_ | refine AL.g (OQ.eql rfl rfl) ?_ | refine AL.g (OQ.addi rfl rfl (by omega)) ?_ | refine AL.g (OQ.subi rfl rfl (by omega)) ?_) | ((with_reducible refine AL.k_load ?_); first | refine AL.g (OQ.loadN (ty := 25) (n := 2) rfl kr kr (by rfl)) ?_ | (refine AL.g (OQ.load1 (ty := 3) rfl kr (by (first | exact (hps k (by omega)).1 | exact (hps k (by omega)).2 | exact hg k (by omega)))) ?_)) | ((with_reducible refine AL.k_call ?_); refine AL.g (OQ.lenS (xt := 45) (r := (none, 2, true)) rfl kr) ?_)); refine AL.nm ?_) | ((first | refine AL.g (OQ.idxAddr (ty := 45) (z := 2) (g := true) rfl rfl kr (by omega) (by omega)) ?_ | refine AL.g (OQ.idxPtr (ty := 52) (n := 1) (l := 2) (g := false) rfl rfl kr (by omega) (by omega)) ?_ | refine AL.g (OQ.idxAddr (ty := 26) (z := 1) (g := false) rfl rfl kr (by omega) (by omega)) ?_); refine AL.nm ?_) | ((first | ((with_reducible refine AL.k_call ?_); refine AL.acall (g := 32) rfl kr rfl ((by exact hrS _ _ _ rfl rfl rfl rfl rfl rfl rfl rfl)) ?_) | refine AL.bx ?_); refine AL.nm ?_; refine AL.nM ?_) | refine AL.nil ?_) | ((with_reducible refine AW.on ?_); first | refine AW.seq ?_ | refine AW.skip ?_ | refine AW.exit ?_ | refine AW.ret ?_ | ((refine AW.block (id := 0) ?_); (refine AW.fk [1, 2, 7, 8, 9] ?_); (refine AW.loop (fun n' t' m => ∃ k : Nat, n' = (edL ts).length - k ∧ k ≤ (edL ts).length ∧ t' = (mtz 45 0 [(1, .int .i64 (i)), (2, .slice (some ⟨2, 0, none⟩) (edL ts).length c3), (7, .int .i64 (AK k)), (8, .slice (some ⟨4, 0, none⟩) ((edL ts).length) INF), (9, .int .i64 (k))]) ∧ m = [some ⟨flatP l, false, 0⟩, some ⟨flatT ts, false, 0⟩, some ⟨flatN xs, false, z⟩, some ⟨[.slice (some ⟨0, 0, none⟩) l.length c, .slice (some ⟨1, 0, none⟩) ts.length c2], true, 0⟩, some ⟨flatP (sdL ts), true, 2⟩]) ((edL ts).length) (by exact ⟨0, rfl, Nat.zero_le _, by rw [h0]; rfl, rfl⟩) ?_); (rintro n' t' m ⟨k, rfl, hk, rfl, rfl⟩); (refine AW.nT ?_)) | refine AW.block ?_ | (refine AW.region (id := 6) ?_; ((have q1 := hbd k (by omega); have q2 := hxb k (by omega)))) | refine AW.region ?_ | (refine AW.conds rfl (fun hc => ?_) (fun hc => ?_) <;> (try replace hc := nc hc) <;> skip)) | ((with_reducible refine ex_on ?_); ((first | rw [← s1 k ‹_› ‹_›] | rw [← s2 k ‹_› ‹_›] | rw [← s3 k ‹_› ‹_›] | rw [← s4 k ‹_› ‹_›]); refine ⟨(edL ts).length - (k + 1), (mtz 45 0 [(1, .int .i64 (i)), (2, .slice (some ⟨2, 0, none⟩) (edL ts).length c3), (7, .int .i64 (AK (k + 1))), (8, .slice (some ⟨4, 0, none⟩) ((edL ts).length) INF), (9, .int .i64 (k + 1))]), _, by omega, ?_, k + 1, rfl, by omega, rfl, rfl⟩; exact Wk.fk [1, 2, 7, 8, 9] rfl)) | ((with_reducible refine FinP.on ?_); (refine FinP.ret (.tmp wl .nil) ?_ rfl); (try simp only [pack, List.drop, List.take]); all_goals ((obtain rfl : k = (edL ts).length := (by omega); rfl))))
theorem raround_q {m : Mem} {bP bT bX n : Nat} {A B X : Blk} (l : List Pn) (ts : List T3) (hR : NetR l ts) (xs : List Int) (hxl : xs.length = (edL ts).length) (hx : ∀ k, k < xs.length → -1000000000 ≤ nt xs k ∧ nt xs k ≤ 1000000000) (i : Nat) (c c2 c3 : Nat) (a1 : m.at bP = some A) (a2 : A.cells = flatP l) (b1 : m.at bT = some B) (b2 : B.cells = flatT ts) (x1 : m.at bX = some X) (x2 : X.cells = flatN xs) (hn : xs.length = n) (a3 : A.obj = Ob.plain) (b3 : B.obj = Ob.plain) (x3 : X.obj = Ob.plain) (a4 : A.esz = 0) (b4 : B.esz = 0) :
  PCalls Tryz.prog 70 [.agg #[.slice (some ⟨bP, 0, none⟩) l.length c, .slice (some ⟨bT, 0, none⟩) ts.length c2], .int .i64 i, .slice (some ⟨bX, 0, none⟩) n c3] m (.int .i64 (arK ts xs i (edL ts).length)) := by
 subst hn
 exact PCalls.viaS [bP, bT, bX] (raround_0 l ts hR xs hxl hx i c c2 c3 X.esz) (ro3p _ _ _ rfl rfl rfl) ⟨bS a1 a3 a2 (flatP_scal _) a4, bS b1 b3 b2 (flatT_scal _) b4, bS x1 x3 x2 (flatN_scal _), trivial⟩ rfl rfl rfl rfl
theorem rDifferences_0 (l : List Pn) (ts : List T3) (hR : NetR l ts) (ph : List Int) (hph : phE l ph = 0) (c c2 c3 z : Nat) :
  ACalls Tryz.prog 25 [.agg #[.slice (some ⟨0, 0, none⟩) l.length c, .slice (some ⟨1, 0, none⟩) ts.length c2], .slice (some ⟨2, 0, none⟩) ph.length c3] [some ⟨flatP l, false, 0⟩, some ⟨flatT ts, false, 0⟩, some ⟨flatN ph, false, z⟩] (.slice (some ⟨3, 0, none⟩) (edL ts).length INF) [some ⟨flatP l, false, 0⟩, some ⟨flatT ts, false, 0⟩, some ⟨flatN ph, false, z⟩, some ⟨flatN (dfL ts ph), true, 1⟩] := by
 obtain ⟨hpl, hpb⟩ := phE_0 hph
 have hrE := fun (m : Mem) (A B : Blk) (a1 : m.at 0 = some A) (a2 : A.cells = flatP l) (b1 : m.at 1 = some B) (b2 : B.cells = flatT ts) (a3 : A.obj = Ob.plain) (b3 : B.obj = Ob.plain) (a4 : A.esz = 0) (b4 : B.esz = 0) => rEdges_q l ts hR c c2 (by decide) a1 a2 b1 b2 a3 b3 a4 b4
 have hps : ∀ k, k < (edL ts).length → (flatP (edL ts))[k * 2]? = some (.int .i64 (pt (edL ts) k).x) ∧ (flatP (edL ts))[k * 2 + 1]? = some (.int .i64 (pt (edL ts) k).y) := fun k hk => flatP_get (edL ts) k hk
 have hr := fun (k : Nat) (hk : k < (edL ts).length) => edL_at hR.ok k hk
 have hg := fun (k : Nat) (hk : k < ph.length) => flatN_get ph k hk
 have hpos := edL_pos hR
 have hle := edL_le ts
 have h80 := hR.le
 have hnt := fun (k : Nat) (hk : k < (edL ts).length) => dfL_nt (ph := ph) hk
 have hft := fun (k : Nat) (hk : k < (edL ts).length) => flatN_take (xs := dfL ts ph) (k := k) (by rw [dfL_len]; exact hk)
 have hfl : ∀ k, k ≤ (edL ts).length → (flatN ((dfL ts ph).take k)).length = k * 1 := fun k hk => by rw [flatN_len, List.length_take, dfL_len, Nat.min_eq_left hk, Nat.mul_one]
 have htl : (dfL ts ph).take (edL ts).length = dfL ts ph := by rw [← dfL_len ts ph, List.take_length]
 have hwr := fun (n : Int) (m : Mem) => Wrap_q n m
 refine ACalls.en 36 Tryz.func25 rfl rfl (fun E hE => ?_)
 repeat' (first | with_reducible (first | refine Then.n ?_ | refine Then.x ?_ | refine InB.n ?_ | refine InB.hit ?_) | ((with_reducible refine AL.on ?_); first | ((first | refine AL.mv ?_ | refine AL.as ?_ | ((with_reducible refine AL.k_load ?_); refine AL.g (OQ.loadN (ty := 25) (n := 2) rfl kr kr (by rfl)) ?_) | ((with_reducible refine AL.k_call ?_); refine AL.g (OQ.lenS (xt := 45) (r := (none, 2, true)) rfl kr) ?_) | ((with_reducible refine AL.k_binOp ?_); first | refine AL.g (OQ.lss rfl rfl) ?_ | refine AL.g (OQ.addi rfl rfl (by omega)) ?_)); refine AL.nm ?_) | ((first | ((with_reducible refine AL.k_call ?_); first | refine AL.acall (g := 31) rfl kr rfl ((by exact hrE _ _ _ rfl rfl rfl rfl rfl rfl rfl rfl)) ?_ | refine AL.w rfl (by first | exact OW.appendNil (e := 3) (z := 1) (zs := [.int .i64 0]) (by' := 8) rfl rfl kr kr kr rfl kr (by decide) rfl (by decide) (by decide) | exact OW.appendL (e := 3) (z := 1) (zs := [.int .i64 0]) (by' := 8) rfl rfl kr kr kr rfl kr (by decide) rfl rfl rfl (by decide) (by exact hfl k (by omega)) rfl rfl (by omega) (by omega)) ?_) | refine AL.bx ?_); refine AL.nm ?_; refine AL.nM ?_) | refine AL.nil ?_) | ((with_reducible refine AW.on ?_); first | refine AW.seq ?_ | refine AW.skip ?_ | refine AW.exit ?_ | refine AW.ret ?_ | ((refine AW.block (id := 0) ?_); (refine AW.fk [1, 5, 6, 7] ?_); (refine AW.loop (fun n' t' m => ∃ k : Nat, n' = (edL ts).length - k ∧ k ≤ (edL ts).length ∧ ((k = 0 ∧ t' = [jk, .slice (some ⟨2, 0, none⟩) ph.length c3, jk, jk, jk, .slice (some ⟨4, 0, none⟩) ((edL ts).length) INF, .slice none 0 0, .int .i64 (k), jk, jk, jk, jk, jk, jk, jk, jk, jk, jk, jk, jk, jk, jk, jk, jk, jk, jk, jk, jk, jk, jk, jk, jk, jk, jk, jk, jk, jk, jk] ∧ m = [some ⟨flatP l, false, 0⟩, some ⟨flatT ts, false, 0⟩, some ⟨flatN ph, false, z⟩, some ⟨[.slice (some ⟨0, 0, none⟩) l.length c, .slice (some ⟨1, 0, none⟩) ts.length c2], true, 0⟩, some ⟨flatP (edL ts), true, 2⟩]) ∨ (0 < k ∧ t' = [jk, .slice (some ⟨2, 0, none⟩) ph.length c3, jk, jk, jk, .slice (some ⟨4, 0, none⟩) ((edL ts).length) INF, .slice (some ⟨5, 0, none⟩) (k) INF, .int .i64 (k), jk, jk, jk, jk, jk, jk, jk, jk, jk, jk, jk, jk, jk, jk, jk, jk, jk, jk, jk, jk, jk, jk, jk, jk, jk, jk, jk, jk, jk, jk] ∧ m = [some ⟨flatP l, false, 0⟩, some ⟨flatT ts, false, 0⟩, some ⟨flatN ph, false, z⟩, some ⟨[.slice (some ⟨0, 0, none⟩) l.length c, .slice (some ⟨1, 0, none⟩) ts.length c2], true, 0⟩, some ⟨flatP (edL ts), true, 2⟩, some ⟨flatN ((dfL ts ph).take k), true, 1⟩]))) ((edL ts).length) (by exact ⟨0, rfl, Nat.zero_le _, .inl ⟨rfl, rfl, rfl⟩⟩) ?_); (rintro n' t' m ⟨k, rfl, hk, (⟨hk0, rfl, rfl⟩ | ⟨hk1, rfl, rfl⟩)⟩)) | refine AW.block ?_ | (refine AW.drawF (id := 6) 20 #[0, 0, 0, 0, 12, 28, 60, 126, 254, 0, 0, 0, 3072, 7168, 15360, 32256, 65024, 131070, 262142, 524286, 1048575, 2097151] kr kr ?_; (conv => (arg 8; simp only [List.take_succ_cons, List.take_zero])); ((have hq := hr k (by omega); have hq1 := hpb (pt (edL ts) k).x.toNat (by omega); have hq2 := hpb (pt (edL ts) k).y.toNat (by omega)))) | refine AW.region ?_ | (refine AW.conds rfl (fun hc => ?_) (fun hc => ?_) <;> (try replace hc := nc hc) <;> first | (exfalso; ((omega); done)) | skip)) | ((with_reducible refine AF.on ?_); first | ((first | ((with_reducible refine AF.k_move ?_); (refine AF.q 0 (SW.q (OQ.move wl) rfl) ?_)) | ((with_reducible refine AF.k_indexAddr ?_); first | refine AF.q 0 (SW.q (OQ.idxAddr (ty := 45) (z := 2) (g := true) rfl rfl kr (by omega) (by omega)) rfl) ?_ | refine AF.q 0 (SW.q (OQ.idxPtr (ty := 52) (n := 1) (l := 2) (g := false) rfl rfl kr (by omega) (by omega)) rfl) ?_ | refine AF.q 0 (SW.q (OQ.idxAddr (ty := 26) (z := 1) (g := false) rfl rfl kr (by omega) (by omega)) rfl) ?_) | ((with_reducible refine AF.k_load ?_); (refine AF.ql rfl (SW.q (OQ.load1 (ty := 3) rfl kr (by (first | exact (hps k (by omega)).1 | exact (hps k (by omega)).2 | exact hg _ (by omega)))) rfl) ?_)) | ((with_reducible refine AF.k_call ?_); refine AF.q 2 (SW.pcall (g := 23) rfl kr rfl (hwr _ _) rfl) ?_) | ((with_reducible refine AF.k_binOp ?_); refine AF.q 0 (SW.q (OQ.subi rfl rfl (by omega)) rfl) ?_)); refine AF.nm ?_) | ((refine AF.n1 0 (SW.w (OW.buildSl (ty := 26) (zs := [.int .i64 0]) (n := 1) (g := false) kr kr rfl rfl rfl (by decide) (by decide) rfl rfl) rfl) rfl ?_); refine AF.nm ?_; (conv => (arg 10; try tactic => exact nrmF))) | refine AF.nl ?_) | ((with_reducible refine ex_on ?_); first | (obtain rfl := hk0; have hf0 := hft 0 (by omega); rw [hnt 0 (by omega)] at hf0; refine ⟨(edL ts).length - 1, [jk, .slice (some ⟨2, 0, none⟩) ph.length c3, jk, jk, jk, .slice (some ⟨4, 0, none⟩) ((edL ts).length) INF, .slice (some ⟨5, 0, none⟩) (1) INF, .int .i64 (((0 + 1 : Nat) : Int)), jk, jk, jk, jk, jk, jk, jk, jk, jk, jk, jk, jk, jk, jk, jk, jk, jk, jk, jk, jk, jk, jk, jk, jk, jk, jk, jk, jk, jk, jk], [some ⟨flatP l, false, 0⟩, some ⟨flatT ts, false, 0⟩, some ⟨flatN ph, false, z⟩, some ⟨[.slice (some ⟨0, 0, none⟩) l.length c, .slice (some ⟨1, 0, none⟩) ts.length c2], true, 0⟩, some ⟨flatP (edL ts), true, 2⟩, some ⟨[.int .i64 (dfP ph (pt (edL ts) 0))], true, 1⟩], by omega, ?_, 0 + 1, rfl, by omega, .inr ⟨by omega, rfl, by rw [← hf0]; rfl⟩⟩; exact Wk.keep 5 [6] (by rw [hE]; exact Nat.le_of_ble_eq_true rfl) rfl rfl (by repeat (first | exact RenT.nil | refine RenT.jk ?_ | refine RenT.val (by rfl) (by rfl) ?_)) ⟨kl rfl (flatP_scal l), kl rfl (flatT_scal ts), kl rfl (flatN_scal ph), ki rfl, kl rfl (flatP_scal _), kl rfl rfl, trivial⟩) | (have hf0 := hft k (by omega); rw [hnt k (by omega)] at hf0; refine ⟨(edL ts).length - (k + 1), [jk, .slice (some ⟨2, 0, none⟩) ph.length c3, jk, jk, jk, .slice (some ⟨4, 0, none⟩) ((edL ts).length) INF, .slice (some ⟨5, 0, none⟩) (k + 1) INF, .int .i64 (((k + 1 : Nat) : Int)), jk, jk, jk, jk, jk, jk, jk, jk, jk, jk, jk, jk, jk, jk, jk, jk, jk, jk, jk, jk, jk, jk, jk, jk, jk, jk, jk, jk, jk, jk], [some ⟨flatP l, false, 0⟩, some ⟨flatT ts, false, 0⟩, some ⟨flatN ph, false, z⟩, some ⟨[.slice (some ⟨0, 0, none⟩) l.length c, .slice (some ⟨1, 0, none⟩) ts.length c2], true, 0⟩, some ⟨flatP (edL ts), true, 2⟩, some ⟨flatN ((dfL ts ph).take k) ++ [.int .i64 (dfP ph (pt (edL ts) k))], true, 1⟩], by omega, ?_, k + 1, rfl, by omega, .inr ⟨by omega, rfl, by rw [← hf0]⟩⟩; exact Wk.keep 5 [7] (by rw [hE]; exact Nat.le_of_ble_eq_true rfl) rfl rfl (by repeat (first | exact RenT.nil | refine RenT.jk ?_ | refine RenT.val (by rfl) (by rfl) ?_)) ⟨kl rfl (flatP_scal l), kl rfl (flatT_scal ts), kl rfl (flatN_scal ph), ki rfl, kl rfl (flatP_scal _), ⟨_, rfl, rfl, rfl, .inl ⟨rfl, by rw [List.all_append, flatN_scal]; rfl⟩⟩, trivial⟩)) | ((with_reducible refine FinA.on ?_); (obtain rfl : k = (edL ts).length := (by omega); rw [htl]; refine FinA.keep 3 [5] (.inl rfl) (.tmp wl .nil) ?_ rfl (Nat.le_of_eq hE) rfl rfl ⟨kl rfl (flatP_scal l), kl rfl (flatT_scal ts), kl rfl (flatN_scal ph), kl rfl (flatN_scal _), trivial⟩; rfl)))
theorem rDifferences_q {m : Mem} {bP bT bX n : Nat} {A B X : Blk} (l : List Pn) (ts : List T3) (hR : NetR l ts) (ph : List Int) (hph : phE l ph = 0) (c c2 c3 : Nat) (hd : [bP, bT, bX].Nodup) (a1 : m.at bP = some A) (a2 : A.cells = flatP l) (b1 : m.at bT = some B) (b2 : B.cells = flatT ts) (x1 : m.at bX = some X) (x2 : X.cells = flatN ph) (hn : ph.length = n) (a3 : A.obj = Ob.plain) (b3 : B.obj = Ob.plain) (x3 : X.obj = Ob.plain) (a4 : A.esz = 0) (b4 : B.esz = 0) :
  ACalls Tryz.prog 25 [.agg #[.slice (some ⟨bP, 0, none⟩) l.length c, .slice (some ⟨bT, 0, none⟩) ts.length c2], .slice (some ⟨bX, 0, none⟩) n c3] m (.slice (some ⟨m.length, 0, none⟩) (edL ts).length INF) (m ++ [some ⟨flatN (dfL ts ph), true, 1⟩]) := by
 subst hn
 have h := ACalls.viaS (m := m) (args := [.agg #[.slice (some ⟨bP, 0, none⟩) l.length c, .slice (some ⟨bT, 0, none⟩) ts.length c2], .slice (some ⟨bX, 0, none⟩) ph.length c3]) (v := .slice (some ⟨m.length, 0, none⟩) (edL ts).length INF) [bP, bT, bX] [] [some ⟨flatN (dfL ts ph), true, 1⟩] (rDifferences_0 l ts hR ph hph c c2 c3 X.esz) ⟨bS a1 a3 a2 (flatP_scal _) a4, bS b1 b3 b2 (flatT_scal _) b4, bS x1 x3 x2 (flatN_scal _), trivial⟩ hd ⟨⟨_, rfl, rfl⟩, ⟨_, rfl, rfl⟩, ⟨_, rfl, rfl⟩, ⟨rfl, rfl, rfl, .inl ⟨rfl, flatN_scal _⟩⟩, trivial⟩ rfl rfl rfl rfl
 exact h
end Go.Proofs.YtmohcmghbfhdlaaGreat
end
end
