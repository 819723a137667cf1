/- Chapter 8: the reference: RankOf, Solve, SolveOnly. -/
import Derived.Test.YthgbincoppnpgaaDoor08u
import Derived.Test.YthgbincoppnpgaaDoor08o
set_option linter.unusedSimpArgs false
set_option linter.unusedVariables false
namespace Go.Proofs.YthgbincoppnpgaaDoor
open Go Go.RowKit Go.Ab Go.Sr
set_option maxRecDepth 100000
set_option maxHeartbeats 4000000
attribute [local irreducible] OQ OW AL AW AD AF SW

theorem flatV_lda {m : Mem} {b n : Nat} {blk : Blk} {L : List V3} (hb : m.at b = some blk) (hc : blk.cells = flatV L) (hn : L.length = n) : m.ld b 0 (n * 3) = some (flatV L) := by
  subst hn
  have := flatV_len L
  unfold Mem.ld
  rw [hb]
  show (if 0 + L.length * 3 ≤ blk.cells.length then some ((blk.cells.drop 0).take (L.length * 3)) else none) = _
  rw [hc, if_pos (by omega), List.drop_zero, List.take_of_length_le (by omega)]
theorem rank_q {m : Mem} {b n c : Nat} {blk : Blk} (L : List V3) (hB : VB L) (hl : L.length ≤ 1000) (hb : m.at b = some blk) (hc : blk.cells = flatV L) (hn : L.length = n) : PCalls Tryd.prog 33 [.slice (some ⟨b, 0, none⟩) n c] m (.int .i64 (rkF L L.length)) := by
  subst hn
  exact PCalls.via1 (fun z => rank_c L hB hl c z) hb hc (flatV_scal L) rfl rfl rfl rfl
theorem rwT_rw (l : List Ep) (k : Nat) (h : k < l.length) : rwT l (k + 1) = rwT l k ++ [((rw_ (rws l) k).x, (rw_ (rws l) k).y, (rw_ (rws l) k).z)] := by rw [rwT_succ l k h, rw_rws l k h]
theorem rwT_vb {l : List Ep} (h : SRight l) : ∀ v ∈ rwT l l.length, (-400 ≤ v.1 ∧ v.1 ≤ 400) ∧ (-400 ≤ v.2.1 ∧ v.2.1 ≤ 400) ∧ -400 ≤ v.2.2 ∧ v.2.2 ≤ 400 := fun v hv => by
  rw [← rws_w] at hv
  obtain ⟨r, hr, rfl⟩ := List.mem_map.1 hv
  have := rws_rb h r hr
  simp only [Rw.w]
  omega
theorem VB.of {L : List V3} (h : ∀ v ∈ L, (-400 ≤ v.1 ∧ v.1 ≤ 400) ∧ (-400 ≤ v.2.1 ∧ v.2.1 ≤ 400) ∧ -400 ≤ v.2.2 ∧ v.2.2 ≤ 400) : VB L := fun _ hk => h _ (gv_mem hk)
theorem RankOf_c (nm : ByteArray) (l : List Ep) (hR : SRight l) (z0 : Nat) : PCalls Tryd.prog 13 [srI nm 0 l.length] [some ⟨flatE l, false, z0⟩] (.tuple #[.int .i64 (rkF (rwT l l.length) (rwT l l.length).length), junk]) := by
  have hn1 := hR.n1
  have hn2 := hR.n20
  have HR := fun (m : Mem) (b : Nat) (blk : Blk) (hb : m.at b = some blk) (hc : blk.cells = flatE l) (k : Nat) (hk : k < l.length) => row_q nm l hR hb hc rfl k hk
  have HR0 := fun (m : Mem) (b : Nat) (blk : Blk) (hb : m.at b = some blk) (hc : blk.cells = flatE l) => row_q nm l hR hb hc rfl 0 hn1
  simp only [Int.natCast_zero] at HR0
  have hlT := rwT_len l l.length (Nat.le_refl _)
  have HK := fun (m : Mem) (b c : Nat) (blk : Blk) (hb : m.at b = some blk) (hc : blk.cells = flatV (rwT l l.length)) => rank_q (c := c) (rwT l l.length) (VB.of (rwT_vb hR)) (by omega) hb hc hlT
  have HU : ∀ (x y z : Int), (0 ≤ x ∧ x ≤ 1) → (0 ≤ y ∧ y ≤ 1) → (0 ≤ z ∧ z ≤ 1) → ∃ r : Int, ∀ (m : Mem) (b c : Nat) (blk : Blk), m.at b = some blk → blk.cells = flatV (rwT l l.length) ++ [.int .i64 x, .int .i64 y, .int .i64 z] → PCalls Tryd.prog 33 [.slice (some ⟨b, 0, none⟩) (l.length + 1) c] m (.int .i64 r) := fun x y z hx hy hz =>
    ⟨_, fun m b c blk hb hc => rank_q (c := c) (rwT l l.length ++ [(x, y, z)]) (VB.of fun v hv => by
      rcases List.mem_append.1 hv with h | h
      · exact rwT_vb hR v h
      · rw [List.mem_singleton] at h
        subst h
        exact ⟨by simp only; omega, by simp only; omega, by simp only; omega⟩) (by simp; omega) hb (hc.trans (flatV_snoc (rwT l l.length) (x, y, z)).symm) (by simp [hlT])⟩
  obtain ⟨u0, HU0⟩ := HU 1 0 0 (by decide) (by decide) (by decide)
  obtain ⟨u1, HU1⟩ := HU 0 1 0 (by decide) (by decide) (by decide)
  obtain ⟨u2, HU2⟩ := HU 0 0 1 (by decide) (by decide) (by decide)
  clear HU
  have hs0 := rwT_rw l
  have hle := rwT_len l
  generalize hG : rkF (rwT l l.length) (rwT l l.length).length = rk at *
  clear hG hlT
  generalize hA : rwT l = A at *
  have hA0 : A 0 = [] := by rw [← hA]; rfl
  clear hA
  refine PCalls.enterJ (t := [srI nm 0 l.length, undef, undef, undef, undef, undef, undef, undef, undef, undef, undef, undef, undef, undef, undef, undef, undef, undef, undef, undef, undef, undef, undef, undef, undef, undef, undef, undef, undef, undef, undef, undef, undef, undef, undef, undef, undef, undef, undef, undef, undef, undef, undef, undef, undef, undef]) Tryd.func13 rfl (ro1 _ rfl) rfl fun E hE => ?_
  repeat' (first
    | with_reducible refine Then.n ?_
    | with_reducible refine Then.r ?_
    | with_reducible refine Then.x ?_
    | with_reducible refine InB.n ?_
    | with_reducible refine InB.r ?_
    | with_reducible refine InB.hit ?_
    | with_reducible refine InB.miss (by decide) ?_
    | ((with_reducible refine AL.on ?_); first
      | ((first | ((with_reducible refine AL.k_move ?_); first | (refine AL.q rfl (OQ.move (by conv => lhs; whnf)) ?_)) | ((with_reducible refine AL.k_assign ?_); first | (refine AL.q rfl (OQ.assign (by conv => lhs; whnf)) ?_)) | ((with_reducible refine AL.k_call ?_); first | refine AL.q rfl (OQ.lenS (xt := 22) (r := (none, 4, true)) rfl (by kernel_rfl)) ?_) | ((with_reducible refine AL.k_binOp ?_); first | refine AL.q rfl (OQ.lss rfl rfl) ?_ | refine AL.q rfl (OQ.addi rfl rfl (by omega)) ?_ | refine AL.q rfl (OQ.add rfl rfl) ?_ | refine AL.q rfl (OQ.gtr rfl rfl) ?_) | ((with_reducible refine AL.k_load ?_); first | (refine AL.q rfl (OQ.load1 (ty := 22) rfl (by kernel_rfl) (by conv => lhs; whnf)) ?_) | refine AL.q rfl (OQ.loadN (ty := 24) (n := 2) rfl (by kernel_rfl) (by kernel_rfl) rfl) ?_) | ((with_reducible refine AL.k_fieldAddr ?_); first | refine AL.q rfl (OQ.fieldA (ty := 24) (i := 1) (n := 1) (off := 1) (g := false) rfl (by kernel_rfl) (by decide)) ?_) | ((with_reducible refine AL.k_indexAddr ?_); first | refine AL.q rfl (OQ.idxPtr (ty := 28) (n := 1) (l := 3) (g := false) rfl rfl (by kernel_rfl) (by omega) (by omega)) ?_)); (conv => (arg 5; try tactic => exact nrm)))
      | ((first | first | refine AL.pcall (g := 32) rfl (by kernel_rfl) rfl ((by first | exact HR _ _ _ rfl rfl _ (by omega) | exact HR0 _ _ _ rfl rfl)) ?_ | refine AL.pcall (g := 33) rfl (by kernel_rfl) rfl ((by first | exact HK _ _ _ _ rfl rfl | exact HU0 _ _ _ _ rfl rfl | exact HU1 _ _ _ _ rfl rfl | exact HU2 _ _ _ _ rfl rfl)) ?_); (conv => (arg 5; try tactic => exact nrm)))
      | ((first | ((with_reducible refine AL.k_call ?_); first | refine AL.w rfl (by first | exact OW.appendNil (e := 28) (z := 3) (zs := [.int .i64 0, .int .i64 0, .int .i64 0]) (by' := 24) rfl rfl (by kernel_rfl) (by kernel_rfl) (by kernel_rfl) rfl (by kernel_rfl) (by omega) (by first | rfl | exact flatV_lda rfl rfl (by omega) | exact flatE_lda rfl rfl (by omega) | exact flatI_lda rfl rfl (by omega)) (by omega) (by omega) | exact OW.appendL (e := 28) (z := 3) (zs := [.int .i64 0, .int .i64 0, .int .i64 0]) (by' := 24) rfl rfl (by kernel_rfl) (by kernel_rfl) (by kernel_rfl) rfl (by kernel_rfl) (by omega) rfl rfl rfl (by decide) (by first | rfl | exact flatV_len _ | (rw [flatV_len, hle _ (Nat.le_refl _)])) (by first | rfl | exact flatV_lda rfl rfl (by omega) | exact flatE_lda rfl rfl (by omega) | exact flatI_lda rfl rfl (by omega)) (by first | rfl | exact one_of_scal (flatV_scal _) | exact one_of_scal (flatE_scal _) | exact one_of_scal (flatI_scal _)) (by omega) (by omega)) ?_ | refine AL.w rfl (by first | exact OW.appendNil (e := 3) (z := 1) (zs := [.int .i64 0]) (by' := 8) rfl rfl (by kernel_rfl) (by kernel_rfl) (by kernel_rfl) rfl (by kernel_rfl) (by omega) (by first | rfl | exact flatV_lda rfl rfl (by omega) | exact flatE_lda rfl rfl (by omega) | exact flatI_lda rfl rfl (by omega)) (by omega) (by omega) | exact OW.appendL (e := 3) (z := 1) (zs := [.int .i64 0]) (by' := 8) rfl rfl (by kernel_rfl) (by kernel_rfl) (by kernel_rfl) rfl (by kernel_rfl) (by omega) rfl rfl rfl (by decide) (by first | rfl | exact flatV_len _ | (rw [flatV_len, hle _ (Nat.le_refl _)])) (by first | rfl | exact flatV_lda rfl rfl (by omega) | exact flatE_lda rfl rfl (by omega) | exact flatI_lda rfl rfl (by omega)) (by first | rfl | exact one_of_scal (flatV_scal _) | exact one_of_scal (flatE_scal _) | exact one_of_scal (flatI_scal _)) (by omega) (by omega)) ?_) | ((with_reducible refine AL.k_buildSlice ?_); first | refine AL.w rfl (OW.buildSl (ty := 69) (zs := [.int .i64 0, .int .i64 0, .int .i64 0]) (n := 3) (g := true) (by kernel_rfl) (by kernel_rfl) rfl rfl rfl (by decide) (by decide) rfl rfl) ?_ | refine AL.w rfl (OW.buildSl (ty := 33) (zs := [.int .i64 0]) (n := 1) (g := false) (by kernel_rfl) (by kernel_rfl) rfl rfl rfl (by decide) (by decide) rfl rfl) ?_) | ((with_reducible refine AL.k_box ?_); first | (refine AL.w rfl (OW.box (by conv => lhs; whnf) (by intro r h; cases h)) ?_)) | ((with_reducible refine AL.k_alloc ?_); first | refine AL.w rfl (OW.alloc (ty := 28) (z := [.int .i64 0, .int .i64 0, .int .i64 0]) (by kernel_rfl) rfl) ?_) | ((with_reducible refine AL.k_store ?_); first | (refine AL.w rfl (OW.store (ty := 3) (n := 1) rfl (by conv => lhs; whnf) rfl rfl (by kernel_rfl) rfl rfl (by decide) rfl (Nat.le_of_ble_eq_true rfl) (by intro r h; cases h)) ?_))); (conv => (arg 5; try tactic => exact nrm)); (conv => (arg 6; try tactic => exact nrm)))
      | refine AL.nil ?_)
    | ((with_reducible refine AW.on ?_); first
      | refine AW.seq ?_
      | refine AW.skip ?_
      | refine AW.exit ?_
      | refine AW.ret ?_
      | ((refine AW.block (id := 0) ?_); (refine AW.wk (Wk.forget [false, true, false, false, true, true, false, false, false, false, false, false, false, false, false, false, false, false, false, false, false, false, false, false, false, false, false, false, false, false, false, false, false, false, false, false, false, false, false, false, false, false, false, false, false, false] rfl) ?_); (conv => (arg 4; simp only [fgt, if_true, if_false, Bool.false_eq_true])); (refine AW.loop (fun n t' m => ∃ k : Nat, n = l.length - k ∧ k ≤ l.length ∧ ((k = 0 ∧ t' = [junk, .pointer (some ⟨1, 0, none⟩), junk, junk, .slice none 0 0, .int .i64 (0), junk, junk, junk, junk, junk, junk, junk, junk, junk, junk, junk, junk, junk, junk, junk, junk, junk, junk, junk, junk, junk, junk, junk, junk, junk, junk, junk, junk, junk, junk, junk, junk, junk, junk, junk, junk, junk, junk, junk, junk] ∧ m = [some ⟨flatE l, false, z0⟩, some ⟨[.string nm, .slice (some ⟨0, 0, none⟩) (l.length) INF], true, 0⟩]) ∨ (0 < k ∧ t' = [junk, .pointer (some ⟨1, 0, none⟩), junk, junk, .slice (some ⟨2, 0, none⟩) ((A k).length) INF, .int .i64 (k), junk, junk, junk, junk, junk, junk, junk, junk, junk, junk, junk, junk, junk, junk, junk, junk, junk, junk, junk, junk, junk, junk, junk, junk, junk, junk, junk, junk, junk, junk, junk, junk, junk, junk, junk, junk, junk, junk, junk, junk] ∧ m = [some ⟨flatE l, false, z0⟩, some ⟨[.string nm, .slice (some ⟨0, 0, none⟩) (l.length) INF], true, 0⟩, some ⟨flatV (A k), true, 3⟩]))) (l.length) (by exact ⟨0, rfl, Nat.zero_le _, .inl ⟨rfl, rfl, rfl⟩⟩) ?_); (rintro n t' m ⟨k, rfl, hk, (⟨rfl, rfl, rfl⟩ | ⟨hk0, rfl, rfl⟩)⟩))
      | (refine AW.block (id := 2) ?_; refine AW.unroll 4 ?_)
      | refine AW.block ?_
      | (refine AW.drawF (id := 13) 8 #[0, 0, 3, 0, 8, 31, 63, 0, 255] (by kernel_rfl) (by kernel_rfl) ?_; (conv => (arg 8; simp only [List.take_succ_cons, List.take_zero])))
      | (refine AW.region (id := 3) ?_; ((have hlk := hle k hk)))
      | (refine AW.region (id := 6) ?_; ((obtain rfl : k = l.length := (by omega); rw [hlk])))
      | refine AW.region ?_
      | (refine AW.conds rfl (fun hc => ?_) (fun hc => ?_) <;> (try simp only [decide_eq_true_eq, decide_eq_false_iff_not, Bool.not_true, Bool.not_false, Bool.not_eq_true', Bool.not_eq_false', Int.not_lt, Int.not_le, Classical.not_not, ne_eq] at hc) <;> first | (exfalso; first | contradiction | (omega); done) | skip))
    | ((with_reducible refine AF.on ?_); first
      | ((first | ((with_reducible refine AF.k_move ?_); first | (refine AF.q 0 (SW.q (OQ.move (by conv => lhs; whnf)) rfl) ?_)) | ((with_reducible refine AF.k_call ?_); first | refine AF.q 2 (SW.pcall (g := 33) rfl (by kernel_rfl) rfl ((by first | exact HK _ _ _ _ rfl rfl | exact HU0 _ _ _ _ rfl rfl | exact HU1 _ _ _ _ rfl rfl | exact HU2 _ _ _ _ rfl rfl)) rfl) ?_) | ((with_reducible refine AF.k_load ?_); first | refine AF.ql rfl (SW.q (OQ.loadN (ty := 28) (n := 3) rfl (by kernel_rfl) (by kernel_rfl) rfl) rfl) ?_)); (conv => (arg 9; try tactic => exact nrmF)); (conv => (arg 11; try simp only [List.nil_append, List.cons_append])))
      | ((first | ((with_reducible refine AF.k_call ?_); first | refine AF.al rfl (SW.w (by first | exact OW.appendNil (e := 28) (z := 3) (zs := [.int .i64 0, .int .i64 0, .int .i64 0]) (by' := 24) rfl rfl (by kernel_rfl) (by kernel_rfl) (by kernel_rfl) rfl (by kernel_rfl) (by omega) (by first | rfl | exact flatV_lda rfl rfl (by omega) | exact flatE_lda rfl rfl (by omega) | exact flatI_lda rfl rfl (by omega)) (by omega) (by omega) | exact OW.appendL (e := 28) (z := 3) (zs := [.int .i64 0, .int .i64 0, .int .i64 0]) (by' := 24) rfl rfl (by kernel_rfl) (by kernel_rfl) (by kernel_rfl) rfl (by kernel_rfl) (by omega) rfl rfl rfl (by decide) (by first | rfl | exact flatV_len _ | (rw [flatV_len, hle _ (Nat.le_refl _)])) (by first | rfl | exact flatV_lda rfl rfl (by omega) | exact flatE_lda rfl rfl (by omega) | exact flatI_lda rfl rfl (by omega)) (by first | rfl | exact one_of_scal (flatV_scal _) | exact one_of_scal (flatE_scal _) | exact one_of_scal (flatI_scal _)) (by omega) (by omega)) rfl) rfl ?_ | refine AF.al2 rfl rfl (SW.w (by first | exact OW.appendNil (e := 28) (z := 3) (zs := [.int .i64 0, .int .i64 0, .int .i64 0]) (by' := 24) rfl rfl (by kernel_rfl) (by kernel_rfl) (by kernel_rfl) rfl (by kernel_rfl) (by omega) (by first | rfl | exact flatV_lda rfl rfl (by omega) | exact flatE_lda rfl rfl (by omega) | exact flatI_lda rfl rfl (by omega)) (by omega) (by omega) | exact OW.appendL (e := 28) (z := 3) (zs := [.int .i64 0, .int .i64 0, .int .i64 0]) (by' := 24) rfl rfl (by kernel_rfl) (by kernel_rfl) (by kernel_rfl) rfl (by kernel_rfl) (by omega) rfl rfl rfl (by decide) (by first | rfl | exact flatV_len _ | (rw [flatV_len, hle _ (Nat.le_refl _)])) (by first | rfl | exact flatV_lda rfl rfl (by omega) | exact flatE_lda rfl rfl (by omega) | exact flatI_lda rfl rfl (by omega)) (by first | rfl | exact one_of_scal (flatV_scal _) | exact one_of_scal (flatE_scal _) | exact one_of_scal (flatI_scal _)) (by omega) (by omega)) rfl) rfl ?_ | refine AF.n1 2 (SW.w (by first | exact OW.appendNil (e := 28) (z := 3) (zs := [.int .i64 0, .int .i64 0, .int .i64 0]) (by' := 24) rfl rfl (by kernel_rfl) (by kernel_rfl) (by kernel_rfl) rfl (by kernel_rfl) (by omega) (by first | rfl | exact flatV_lda rfl rfl (by omega) | exact flatE_lda rfl rfl (by omega) | exact flatI_lda rfl rfl (by omega)) (by omega) (by omega) | exact OW.appendL (e := 28) (z := 3) (zs := [.int .i64 0, .int .i64 0, .int .i64 0]) (by' := 24) rfl rfl (by kernel_rfl) (by kernel_rfl) (by kernel_rfl) rfl (by kernel_rfl) (by omega) rfl rfl rfl (by decide) (by first | rfl | exact flatV_len _ | (rw [flatV_len, hle _ (Nat.le_refl _)])) (by first | rfl | exact flatV_lda rfl rfl (by omega) | exact flatE_lda rfl rfl (by omega) | exact flatI_lda rfl rfl (by omega)) (by first | rfl | exact one_of_scal (flatV_scal _) | exact one_of_scal (flatE_scal _) | exact one_of_scal (flatI_scal _)) (by omega) (by omega)) rfl) rfl ?_) | ((with_reducible refine AF.k_buildSlice ?_); first | refine AF.n1 0 (SW.w (OW.buildSl0n (ty := 69) (n := 3) (g := true) (by kernel_rfl)) rfl) rfl ?_ | refine AF.n1 0 (SW.w (OW.buildSl (ty := 69) (zs := [.int .i64 0, .int .i64 0, .int .i64 0]) (n := 3) (g := true) (by kernel_rfl) (by kernel_rfl) rfl rfl rfl (by decide) (by decide) rfl rfl) rfl) rfl ?_)); (conv => (arg 9; try tactic => exact nrmF)); (conv => (arg 11; try simp only [List.nil_append, List.cons_append])); (conv => (arg 10; try tactic => exact nrmF)))
      | (refine AF.nil ?_ (by kernel_rfl); (conv => (arg 4; simp only [List.drop_succ_cons, List.drop_zero, List.drop_nil]))))
    | with_reducible refine AR.s ?_
    | ((with_reducible refine AR.out ?_); omega; done)
    | ((with_reducible refine ex_on ?_); first | (refine ⟨l.length - (0 + 1), _, _, by omega, ?_, 1, rfl, by omega, .inr ⟨by omega, rfl, rfl⟩⟩; rw [hs0 0 (by omega), hA0]; exact Wk.keep 2 [3] (by rw [hE]; exact (by decide : 1 ≤ 2)) rfl rfl (by repeat (first | exact RenT.nil | refine RenT.junk ?_ | refine RenT.val (by first | rfl | with_reducible assumption | (simp only [rn3, rn2, rn1, kσ]; done)) (by first | rfl | assumption | (simp [ok3, ok2, ok1]; done)) ?_)) ⟨⟨_, rfl, rfl, rfl, .inl ⟨rfl, flatE_scal l⟩⟩, ⟨_, rfl, rfl, rfl, .inr ⟨rfl, rfl⟩⟩, ⟨_, rfl, rfl, rfl, .inl ⟨rfl, rfl⟩⟩, trivial⟩) | (refine ⟨l.length - (k + 1), _, _, by omega, ?_, k + 1, rfl, by omega, .inr ⟨by omega, rfl, rfl⟩⟩; rw [hs0 k (by omega), List.length_append]; exact Wk.keep 2 [4] (by rw [hE]; exact (by decide : 1 ≤ 2)) rfl rfl (by repeat (first | exact RenT.nil | refine RenT.junk ?_ | refine RenT.val (by first | rfl | with_reducible assumption | (simp only [rn3, rn2, rn1, kσ]; done)) (by first | rfl | assumption | (simp [ok3, ok2, ok1]; done)) ?_)) ⟨⟨_, rfl, rfl, rfl, .inl ⟨rfl, flatE_scal l⟩⟩, ⟨_, rfl, rfl, rfl, .inr ⟨rfl, rfl⟩⟩, ⟨_, rfl, rfl, rfl, .inl ⟨flatV_snoc _ _, flatV_scal _⟩⟩, trivial⟩))
    | ((with_reducible refine FinJ.on ?_); first | exact FinJ.ret (.tmp (by conv => lhs; whnf) (.tmp (by conv => lhs; whnf) .nil)) (jle_two rfl) | exact FinJ.end (.tmp (by conv => lhs; whnf) (.tmp (by conv => lhs; whnf) .nil)) (jle_two rfl)))
end Go.Proofs.YthgbincoppnpgaaDoor
