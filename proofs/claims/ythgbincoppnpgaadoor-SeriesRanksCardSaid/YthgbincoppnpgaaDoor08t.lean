/- Chapter 8: the reference: the fit of a series. -/
import Derived.Test.YthgbincoppnpgaaDoor08s
import Derived.Test.YthgbincoppnpgaaDoor08n
set_option linter.unusedSimpArgs false
set_option linter.unusedVariables false
namespace Go.Proofs.YthgbincoppnpgaaDoor
open Go Go.RowKit Go.Ab Go.Sr
set_option maxRecDepth 100000
set_option maxHeartbeats 4000000
attribute [local irreducible] OQ OW AL AW AD AF SW

theorem rw_rws (l : List Ep) (k : Nat) (h : k < l.length) : rw_ (rws l) k = ⟨(ep l k).d - (ep l 0).d, (ep l k).b, 1, (ep l k).p⟩ := by
  unfold rw_
  rw [List.getD_eq_getElem?_getD, show (rws l)[k]? = some ⟨(ep l k).d - (ep l 0).d, (ep l k).b, 1, (ep l k).p⟩ from ?_]
  · rfl
  · unfold rws
    rw [List.getElem?_map, List.getElem?_eq_getElem h, show ep l k = l[k] from by unfold ep; rw [List.getD_eq_getElem?_getD, List.getElem?_eq_getElem h]; rfl]
    rfl
theorem row_c (nm : ByteArray) (l : List Ep) (hR : SRight l) (k : Nat) (hk : k < l.length) (z : Nat) : PCalls Tryd.prog 32 [srI nm 0 l.length, .int .i64 k] [some ⟨flatE l, false, z⟩] (.agg #[.int .i64 (rw_ (rws l) k).x, .int .i64 (rw_ (rws l) k).y, .int .i64 (rw_ (rws l) k).z]) := by
  rw [rw_rws l k hk]
  have h0 := flatE_get0 l hR.n1
  have h1 : (flatE l)[k * 4]? = some (.int .i64 (ep l k).d) := flatE_get l k 0 (by decide) hk
  have h2 : (flatE l)[k * 4 + 1]? = some (.int .i64 (ep l k).b) := flatE_get l k 1 (by decide) hk
  have hb := hR.bd k hk
  have hb0 := hR.bd 0 hR.n1
  have hn1 := hR.n1
  refine PCalls.enter (t := [srI nm 0 l.length, .int .i64 k, undef, undef, undef, undef, undef, undef, undef, undef, undef, undef, undef, undef, undef, undef, undef, undef, undef, undef, undef, undef, undef, undef]) Tryd.func32 rfl (ro1 _ rfl) rfl fun E => ?_
  repeat' (first
    | with_reducible refine Then.n ?_
    | with_reducible refine Then.r ?_
    | with_reducible refine Then.x ?_
    | with_reducible refine InB.n ?_
    | with_reducible refine InB.r ?_
    | with_reducible refine InB.hit ?_
    | with_reducible refine InB.miss (by decide) ?_
    | ((with_reducible refine AL.on ?_); first
      | ((first | ((with_reducible refine AL.k_box ?_); first | (refine AL.w rfl (OW.box (by conv => lhs; whnf) (by intro r h; cases h)) ?_)) | ((with_reducible refine AL.k_alloc ?_); first | refine AL.w rfl (OW.alloc (ty := 28) (z := [.int .i64 0, .int .i64 0, .int .i64 0]) (by kernel_rfl) rfl) ?_) | ((with_reducible refine AL.k_store ?_); first | (refine AL.w rfl (OW.store (ty := 28) (n := 3) rfl (by conv => lhs; whnf) rfl rfl (by kernel_rfl) rfl rfl (by decide) rfl (Nat.le_of_ble_eq_true rfl) (by intro r h; cases h)) ?_))); (conv => (arg 5; try tactic => exact nrm)); (conv => (arg 6; try tactic => exact nrm)))
      | refine AL.nil ?_)
    | ((with_reducible refine AW.on ?_); first
      | refine AW.seq ?_
      | refine AW.skip ?_
      | refine AW.exit ?_
      | refine AW.ret ?_
      | refine AW.block ?_
      | (refine AW.draw (id := 1) 19 #[0, 1, 0, 7, 15, 31, 0, 64, 192, 448, 960, 2047, 0, 4096, 0, 28672, 61440, 126976, 262143, 524287] (by kernel_rfl) (by kernel_rfl) ?_; (conv => (arg 8; simp only [List.take_succ_cons, List.take_zero])))
      | refine AW.region ?_
      | (refine AW.conds rfl (fun hc => ?_) (fun hc => ?_) <;> (try simp only [decide_eq_true_eq, decide_eq_false_iff_not, Bool.not_true, Bool.not_false, Bool.not_eq_true', Bool.not_eq_false', Int.not_lt, Int.not_le, Classical.not_not, ne_eq] at hc) <;> first | (exfalso; first | contradiction | (omega); done) | skip))
    | ((with_reducible refine AD.on ?_); first
      | ((first | ((with_reducible refine AD.k_load ?_); first | (refine AD.q rfl (OQ.load1 (ty := 22) rfl (by kernel_rfl) (by first | (first | exact h1 | exact h2 | exact h0) | (conv => lhs; whnf))) rfl rfl rfl ?_) | (refine AD.q rfl (OQ.load1 (ty := 3) rfl (by kernel_rfl) (by first | (first | exact h1 | exact h2 | exact h0) | (conv => lhs; whnf))) rfl rfl rfl ?_)) | ((with_reducible refine AD.k_move ?_); first | (refine AD.q rfl (OQ.move (by conv => lhs; whnf)) rfl rfl rfl ?_)) | ((with_reducible refine AD.k_binOp ?_); first | refine AD.q rfl (OQ.subi rfl rfl (by omega)) rfl rfl rfl ?_ | refine AD.q rfl (OQ.sub rfl rfl) rfl rfl rfl ?_)); (conv => (arg 10; try tactic => exact nrm)))
      | ((first | ((with_reducible refine AD.k_fieldAddr ?_); first | refine AD.q rfl (OQ.fieldA (ty := 24) (i := 1) (n := 1) (off := 1) (g := false) rfl (by kernel_rfl) (by decide)) rfl rfl rfl ?_ | refine AD.q rfl (OQ.fieldA (ty := 81) (i := 0) (n := 1) (off := 0) (g := false) rfl (by kernel_rfl) (by decide)) rfl rfl rfl ?_ | refine AD.q rfl (OQ.fieldA (ty := 81) (i := 1) (n := 1) (off := 1) (g := false) rfl (by kernel_rfl) (by decide)) rfl rfl rfl ?_) | ((with_reducible refine AD.k_indexAddr ?_); first | refine AD.q rfl (OQ.idxAddr (ty := 22) (z := 4) (g := true) rfl rfl (by kernel_rfl) (by omega) (by omega)) rfl rfl rfl ?_) | ((with_reducible refine AD.k_build ?_); first | refine AD.q rfl (OQ.buildA (ty := 28) (zs := [.int .i64 0, .int .i64 0, .int .i64 0]) (n := 1) (k := 3) (g := false) (by kernel_rfl) rfl (by kernel_rfl) rfl rfl rfl) rfl rfl rfl ?_)); (conv => (arg 10; try tactic => exact nrm)))
      | (refine AD.nil ?_; (conv => (arg 4; simp only [List.drop_succ_cons, List.drop_zero, List.drop_nil])); (conv => (arg 5; try tactic => exact nrm)); (conv => (arg 6; try tactic => exact nrm))))
    | ((with_reducible refine FinP.on ?_); (first | refine FinP.ret (.cellN (n := 3) (by conv => lhs; whnf) (by kernel_rfl) (by kernel_rfl) rfl .nil) ?_ rfl | refine FinP.end (.cellN (n := 3) (by conv => lhs; whnf) (by kernel_rfl) (by kernel_rfl) rfl .nil) ?_ rfl); (try simp only [pack, List.drop, List.take]); all_goals (rfl)))
theorem row_q {m : Mem} {b n : Nat} {blk : Blk} (nm : ByteArray) (l : List Ep) (hR : SRight l) (hb : m.at b = some blk) (hc : blk.cells = flatE l) (hn : l.length = n) (k : Nat) (hk : k < l.length) : PCalls Tryd.prog 32 [srI nm b n, .int .i64 k] m (.agg #[.int .i64 (rw_ (rws l) k).x, .int .i64 (rw_ (rws l) k).y, .int .i64 (rw_ (rws l) k).z]) := by
  subst hn
  exact PCalls.via1 (fun z => row_c nm l hR k hk z) hb hc (flatE_scal l) rfl rfl rfl rfl

theorem NormalOf_c (nm : ByteArray) (l : List Ep) (hR : SRight l) (z0 : Nat) : PCalls Tryd.prog 12 [srI nm 0 l.length] [some ⟨flatE l, false, z0⟩] (.tuple #[nmA (NM l), nmF (NM l)]) := by
  have hn1 := hR.n1
  have hn2 := hR.n20
  have hlen := rws_len l
  have HR := fun (m : Mem) (b : Nat) (blk : Blk) (hb : m.at b = some blk) (hc : blk.cells = flatE l) (k : Nat) (hk : k < l.length) => row_q nm l hR hb hc rfl k hk
  have hlv : ∀ k, k < l.length → (flatE l)[k * 4 + 2]? = some (.int .i64 (rw_ (rws l) k).v) := fun k hk => by
    rw [rw_rws l k hk]
    exact flatE_get l k 2 (by decide) hk
  have hN : ∀ k, NB (Go.Sr.nm ((rws l).take k)) := fun k => NB.of ((rws_rb2 hR).take k) (by simp; omega)
  have hr : ∀ k, k < l.length → _ := fun k hk => (rws_rb2 hR).at k (by omega)
  have ht := nm_take (rws l)
  rw [hlen] at ht
  have hall : Go.Sr.nm ((rws l).take l.length) = NM l := by rw [← hlen, List.take_length]; rfl
  refine PCalls.enterJ (t := [srI nm 0 l.length, undef, undef, undef, undef, undef, undef, undef, undef, undef, undef, undef, undef, undef, undef, undef, undef, undef, undef, undef, undef, undef, undef, undef, undef, undef, undef, undef, undef, undef, undef, undef, undef, undef, undef, undef, undef, undef, undef, undef, undef, undef, undef, undef, undef, undef, undef, undef, undef, undef, undef, undef, undef, undef, undef, undef, undef, undef, undef, undef, undef, undef, undef, undef, undef]) Tryd.func12 rfl (ro1 _ rfl) rfl fun E hE => ?_
  repeat' (first
    | with_reducible refine Then.n ?_
    | with_reducible refine Then.r ?_
    | with_reducible refine Then.x ?_
    | with_reducible refine InB.n ?_
    | with_reducible refine InB.r ?_
    | with_reducible refine InB.hit ?_
    | with_reducible refine InB.miss (by decide) ?_
    | ((with_reducible refine AL.on ?_); first
      | ((first | ((with_reducible refine AL.k_move ?_); first | (refine AL.q rfl (OQ.move (by conv => lhs; whnf)) ?_)) | ((with_reducible refine AL.k_binOp ?_); first | refine AL.q rfl (OQ.lss rfl rfl) ?_ | refine AL.q rfl (OQ.addi rfl rfl (by omega)) ?_ | refine AL.q rfl (OQ.add rfl rfl) ?_) | ((with_reducible refine AL.k_load ?_); first | (refine AL.q rfl (OQ.load1 (ty := 22) rfl (by kernel_rfl) (by first | (first | exact hlv _ (by omega)) | (conv => lhs; whnf))) ?_) | refine AL.q rfl (OQ.loadN (ty := 24) (n := 2) rfl (by kernel_rfl) (by kernel_rfl) (by first | (first | exact hlv _ (by omega)) | rfl)) ?_) | ((with_reducible refine AL.k_assign ?_); first | (refine AL.q rfl (OQ.assign (by conv => lhs; whnf)) ?_)) | ((with_reducible refine AL.k_call ?_); first | refine AL.q rfl (OQ.lenS (xt := 22) (r := (none, 4, true)) rfl (by kernel_rfl)) ?_)); (conv => (arg 5; try tactic => exact nrm)))
      | ((first | ((with_reducible refine AL.k_fieldAddr ?_); first | refine AL.q rfl (OQ.fieldA (ty := 24) (i := 1) (n := 1) (off := 1) (g := false) rfl (by kernel_rfl) (by decide)) ?_) | ((with_reducible refine AL.k_call ?_); first | refine AL.pcall (g := 32) rfl (by kernel_rfl) rfl (HR _ _ _ rfl rfl _ ‹_›) ?_)); (conv => (arg 5; try tactic => exact nrm)))
      | ((first | ((with_reducible refine AL.k_alloc ?_); first | refine AL.w rfl (OW.alloc (ty := 27) (z := [.int .i64 0, .int .i64 0, .int .i64 0, .int .i64 0, .int .i64 0, .int .i64 0, .int .i64 0, .int .i64 0, .int .i64 0]) (by kernel_rfl) rfl) ?_ | refine AL.w rfl (OW.alloc (ty := 28) (z := [.int .i64 0, .int .i64 0, .int .i64 0]) (by kernel_rfl) rfl) ?_) | ((with_reducible refine AL.k_store ?_); first | (refine AL.w rfl (OW.store (ty := 28) (n := 3) rfl (by conv => lhs; whnf) rfl rfl (by kernel_rfl) rfl rfl (by decide) rfl (Nat.le_of_ble_eq_true rfl) (by intro r h; cases h)) ?_) | (refine AL.w rfl (OW.store (ty := 3) (n := 1) rfl (by conv => lhs; whnf) rfl rfl (by kernel_rfl) rfl rfl (by decide) rfl (Nat.le_of_ble_eq_true rfl) (by intro r h; cases h)) ?_)) | ((with_reducible refine AL.k_box ?_); first | (refine AL.w rfl (OW.box (by conv => lhs; whnf) (by intro r h; cases h)) ?_))); (conv => (arg 5; try tactic => exact nrm)); (conv => (arg 6; try tactic => exact nrm)))
      | refine AL.nil ?_)
    | ((with_reducible refine AW.on ?_); first
      | refine AW.seq ?_
      | refine AW.skip ?_
      | refine AW.exit ?_
      | refine AW.ret ?_
      | ((refine AW.block (id := 0) ?_); (refine AW.wk (Wk.forget [false, true, true, true, true, true, true, false, false, false, false, false, false, false, false, false, false, false, false, false, false, false, false, false, false, false, false, false, false, false, false, false, false, false, false, false, false, false, false, false, false, false, false, false, false, false, false, false, false, false, false, false, false, false, false, false, false, false, false, false, false, false, false, false, false] rfl) ?_); (conv => (arg 4; simp only [fgt, if_true, if_false, Bool.false_eq_true])); (refine AW.loop (fun n t' m => ∃ (k : Nat) (N : Nm), n = l.length - k ∧ k ≤ l.length ∧ N = Go.Sr.nm ((rws l).take k) ∧ t' = [junk, .pointer (some ⟨1, 0, none⟩), .pointer (some ⟨2, 0, none⟩), .pointer (some ⟨3, 0, none⟩), .pointer (some ⟨4, 0, none⟩), .pointer (some ⟨5, 0, none⟩), .int .i64 (k), junk, junk, junk, junk, junk, junk, junk, junk, junk, junk, junk, junk, junk, junk, junk, junk, junk, junk, junk, junk, junk, junk, junk, junk, junk, junk, junk, junk, junk, junk, junk, junk, junk, junk, junk, junk, junk, junk, junk, junk, junk, junk, junk, junk, junk, junk, junk, junk, junk, junk, junk, junk, junk, junk, junk, junk, junk, junk] ∧ m = [some ⟨flatE l, false, z0⟩, some ⟨[.string nm, .slice (some ⟨0, 0, none⟩) (l.length) INF], true, 0⟩, some ⟨[.int .i64 (0), .int .i64 (0), .int .i64 (0), .int .i64 (0), .int .i64 (0), .int .i64 (0), .int .i64 (0), .int .i64 (0), .int .i64 (0)], true, 0⟩, some ⟨[.int .i64 (0), .int .i64 (0), .int .i64 (0)], true, 0⟩, some ⟨[.int .i64 (N.xx), .int .i64 (N.xy), .int .i64 (N.xz), .int .i64 (N.xy), .int .i64 (N.yy), .int .i64 (N.yz), .int .i64 (N.xz), .int .i64 (N.yz), .int .i64 (N.zz)], true, 0⟩, some ⟨[.int .i64 (N.p), .int .i64 (N.q), .int .i64 (N.r)], true, 0⟩]) (l.length) (by exact ⟨0, Go.Sr.nm [], rfl, Nat.zero_le _, rfl, rfl, rfl⟩) ?_); (rintro n t' m ⟨k, N, rfl, hk, hNk, rfl, rfl⟩))
      | (refine AW.block (id := 2) ?_; refine AW.unroll 4 ?_)
      | (refine AW.block (id := 4) ?_; refine AW.unroll 4 ?_)
      | refine AW.block ?_
      | (refine AW.draw (id := 13) 19 #[0, 1, 0, 7, 0, 16, 0, 112, 240, 496, 0, 1024, 3072, 0, 8192, 24576, 64512, 131056, 262143, 524287] (by kernel_rfl) (by kernel_rfl) ?_; (conv => (arg 8; simp only [List.take_succ_cons, List.take_zero])))
      | (refine AW.draw (id := 14) 16 #[0, 0, 2, 6, 0, 16, 48, 0, 128, 0, 896, 1920, 3968, 8176, 16382, 32767, 65535] (by kernel_rfl) (by kernel_rfl) ?_; (conv => (arg 8; simp only [List.take_succ_cons, List.take_zero])))
      | (refine AW.drawF (id := 15) 3 #[0, 0, 1, 7] (by kernel_rfl) (by kernel_rfl) ?_; (conv => (arg 8; simp only [List.take_succ_cons, List.take_zero])); ((obtain rfl : k = l.length := (by omega); rw [hall] at hNk; subst hNk)))
      | (refine AW.region (id := 6) ?_; ((have hkl : k < l.length := (by omega); have hb := hN k; rw [← hNk] at hb; have hx := rw_prod (hr k (by omega)); obtain ⟨b1, b2, b3, b4, b5, b6, b7, b8, b9⟩ := hb; obtain ⟨p1, p2, p3, p4, p5, p6, p7, p8, p9, pa, pb, pc⟩ := hx)))
      | refine AW.region ?_
      | (refine AW.conds rfl (fun hc => ?_) (fun hc => ?_) <;> (try simp only [decide_eq_true_eq, decide_eq_false_iff_not, Bool.not_true, Bool.not_false, Bool.not_eq_true', Bool.not_eq_false', Int.not_lt, Int.not_le, Classical.not_not, ne_eq] at hc) <;> first | (exfalso; first | contradiction | (omega); done) | skip))
    | ((with_reducible refine AD.on ?_); first
      | ((first | ((with_reducible refine AD.k_move ?_); first | (refine AD.q rfl (OQ.move (by conv => lhs; whnf)) rfl rfl rfl ?_)) | ((with_reducible refine AD.k_binOp ?_); first | refine AD.q rfl (OQ.muli rfl rfl (by omega)) rfl rfl rfl ?_ | refine AD.q rfl (OQ.mul rfl rfl) rfl rfl rfl ?_ | refine AD.q rfl (OQ.addi rfl rfl (by omega)) rfl rfl rfl ?_ | refine AD.q rfl (OQ.add rfl rfl) rfl rfl rfl ?_) | ((with_reducible refine AD.k_load ?_); first | (refine AD.q rfl (OQ.load1 (ty := 3) rfl (by kernel_rfl) (by first | (first | exact hlv _ (by omega)) | (conv => lhs; whnf))) rfl rfl rfl ?_) | (refine AD.q rfl (OQ.load1 (ty := 22) rfl (by kernel_rfl) (by first | (first | exact hlv _ (by omega)) | (conv => lhs; whnf))) rfl rfl rfl ?_))); (conv => (arg 10; try tactic => exact nrm)))
      | ((first | ((with_reducible refine AD.k_indexAddr ?_); first | refine AD.q rfl (OQ.idxPtr (ty := 27) (n := 1) (l := 9) (g := false) rfl rfl (by kernel_rfl) (by omega) (by omega)) rfl rfl rfl ?_ | refine AD.q rfl (OQ.idxPtr (ty := 28) (n := 1) (l := 3) (g := false) rfl rfl (by kernel_rfl) (by omega) (by omega)) rfl rfl rfl ?_ | refine AD.q rfl (OQ.idxAddr (ty := 22) (z := 4) (g := true) rfl rfl (by kernel_rfl) (by omega) (by omega)) rfl rfl rfl ?_) | ((with_reducible refine AD.k_fieldAddr ?_); first | refine AD.q rfl (OQ.fieldA (ty := 24) (i := 1) (n := 1) (off := 1) (g := false) rfl (by kernel_rfl) (by decide)) rfl rfl rfl ?_ | refine AD.q rfl (OQ.fieldA (ty := 81) (i := 2) (n := 1) (off := 2) (g := false) rfl (by kernel_rfl) (by decide)) rfl rfl rfl ?_)); (conv => (arg 10; try tactic => exact nrm)))
      | (refine AD.nil ?_; (conv => (arg 4; simp only [List.drop_succ_cons, List.drop_zero, List.drop_nil])); (conv => (arg 5; try tactic => exact nrm)); (conv => (arg 6; try tactic => exact nrm))))
    | ((with_reducible refine AF.on ?_); first
      | ((first | first | refine AF.ql rfl (SW.q (OQ.loadN (ty := 27) (n := 9) rfl (by kernel_rfl) (by kernel_rfl) (by first | (first | exact hlv _ (by omega)) | rfl)) rfl) ?_ | refine AF.ql rfl (SW.q (OQ.loadN (ty := 28) (n := 3) rfl (by kernel_rfl) (by kernel_rfl) (by first | (first | exact hlv _ (by omega)) | rfl)) rfl) ?_); (conv => (arg 9; try tactic => exact nrmF)); (conv => (arg 11; try simp only [List.nil_append, List.cons_append])))
      | ((first | first | (refine AF.sl rfl (SW.w (OW.store (ty := 27) (n := 9) rfl (by conv => lhs; whnf) rfl rfl (by kernel_rfl) rfl rfl (by decide) rfl (Nat.le_of_ble_eq_true rfl) (by intro r h; cases h)) rfl) rfl ?_)); (conv => (arg 9; try tactic => exact nrmF)); (conv => (arg 11; try simp only [List.nil_append, List.cons_append])); (conv => (arg 10; try tactic => exact nrmF)))
      | (refine AF.nil ?_ (by kernel_rfl); (conv => (arg 4; simp only [List.drop_succ_cons, List.drop_zero, List.drop_nil]))))
    | with_reducible refine AR.s ?_
    | ((with_reducible refine AR.out ?_); omega; done)
    | ((with_reducible refine ex_on ?_); (refine ⟨_, _, _, ?_, ?_, k + 1, _, rfl, (by omega), rfl, rfl, rfl⟩; omega; exact Wk.keep 6 [] (by rw [hE]; exact (by decide : 1 ≤ 6)) rfl rfl (by repeat (first | exact RenT.nil | refine RenT.junk ?_ | refine RenT.val (by first | rfl | with_reducible assumption | (simp only [rn3, rn2, rn1, kσ]; done)) (by first | rfl | assumption | (simp [ok3, ok2, ok1]; done)) ?_)) ⟨⟨_, rfl, rfl, rfl, .inl ⟨rfl, flatE_scal _⟩⟩, ⟨_, rfl, rfl, rfl, .inr ⟨rfl, rfl⟩⟩, ⟨_, rfl, rfl, rfl, .inl ⟨rfl, rfl⟩⟩, ⟨_, rfl, rfl, rfl, .inl ⟨rfl, rfl⟩⟩, ⟨_, rfl, rfl, rfl, .inl ⟨(by simp only [ht k (by omega), ← hNk, Int.mul_comm]), rfl⟩⟩, ⟨_, rfl, rfl, rfl, .inl ⟨(by simp only [ht k (by omega), ← hNk, Int.mul_comm]), rfl⟩⟩, trivial⟩))
    | ((with_reducible refine FinJ.on ?_); first | exact FinJ.ret (.cellN (n := 9) (by conv => lhs; whnf) (by kernel_rfl) (by kernel_rfl) rfl (.cellN (n := 3) (by conv => lhs; whnf) (by kernel_rfl) (by kernel_rfl) rfl .nil)) (jle_flat rfl) | exact FinJ.end (.cellN (n := 9) (by conv => lhs; whnf) (by kernel_rfl) (by kernel_rfl) rfl (.cellN (n := 3) (by conv => lhs; whnf) (by kernel_rfl) (by kernel_rfl) rfl .nil)) (jle_flat rfl)))
theorem NormalOf_q {m : Mem} {b n : Nat} {blk : Blk} (nm : ByteArray) (l : List Ep) (hR : SRight l) (hb : m.at b = some blk) (hc : blk.cells = flatE l) (hn : l.length = n) : PCalls Tryd.prog 12 [srI nm b n] m (.tuple #[nmA (NM l), nmF (NM l)]) := by
  subst hn
  exact PCalls.via1 (fun z => NormalOf_c nm l hR z) hb hc (flatE_scal l) rfl rfl rfl rfl
theorem th_form (a b c d : Int) : ∃ p q r s t u : Int, thV a b c d = .agg #[.int .i64 p, .int .i64 q, .int .i64 r, .int .i64 s, .int .i64 t, .int .i64 u] := by
  unfold thV
  split
  · exact ⟨_, _, _, _, _, _, rfl⟩
  · exact ⟨0, 0, 0, 0, 0, 0, rfl⟩
end Go.Proofs.YthgbincoppnpgaaDoor
