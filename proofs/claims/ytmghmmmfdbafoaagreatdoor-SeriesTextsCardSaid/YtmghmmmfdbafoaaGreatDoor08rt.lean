/- Chapter 8: Print and Parse of the reference. -/
/- Chapter 8: Parse of the reference. -/
/- Chapter 8: Parse of the reference, whole. -/
import Derived.Test.YtmghmmmfdbafoaaGreatDoorTr
import Derived.Test.YtmghmmmfdbafoaaGreatDoor08tw
import Derived.Test.YtmghmmmfdbafoaaGreatDoor08r
import Derived.Test.YtmghmmmfdbafoaaGreatDoor08sl
set_option linter.unusedSimpArgs false
set_option linter.unusedVariables false
section
section
namespace Go.Sr
open Go.Lib Go.Tx
theorem fmt_snoc' (nm : List UInt8) (l : List Ep) (e : Ep) : fmtP nm (l ++ [e]) = fmtP nm l ++ ([101, 112, 111, 99, 104, 32] : List UInt8) ++ itoa e.d ++ [32] ++ itoa e.b ++ [32] ++ itoa e.p ++ [32] ++ itoa e.m ++ [10] := by
  have h : lineE e = ([101, 112, 111, 99, 104, 32] : List UInt8) ++ itoa e.d ++ [32] ++ itoa e.b ++ [32] ++ itoa e.p ++ [32] ++ itoa e.m := by
    unfold lineE numsE
    simp [join_cons, joinTail, wEpoch]
  unfold fmtP
  simp only [List.map_append, List.map_cons, List.map_nil, h]
  simp [List.append_assoc]
end Go.Sr
namespace Go.Proofs.YtmghmmmfdbafoaaGreatDoor
open Go Go.RowKit Go.Ab Go.Sr Go.Lib Go.Tx
set_option maxRecDepth 100000
set_option maxHeartbeats 2000000
attribute [local irreducible] OQ OW AL AW AD AF SW
theorem rPrint_y (N : List UInt8) (l : List Ep) (hc0 : srE N l = 0) (z0 : Nat) : PCalls Tryz.prog 10 [srI (tx N) 0 l.length] [some ⟨flatE l, false, z0⟩] (.string (tx (fmtP N l))) := by
  obtain ⟨hR, hN⟩ := srE_right hc0
  have hn2 := hR.n20
  have hnl : N.length ≤ 12 := (of_decide_eq_true hN).2.1
  have hns : (tx N).size = N.length := rfl
  have hld := fun (k : Nat) (hk : k < l.length) (r : Mem) => flatE_ld (m := some ⟨flatE l, false, z0⟩ :: r) (b := 0) (l := l) rfl rfl k hk
  have hbd : ∀ k, k < l.length → ∀ n ∈ numsE (ep l k), -100000 ≤ n ∧ n ≤ 100000 := fun k hk => by
    have h1 := hR.ok k hk
    have h2 : epOk (ep l k) = true := by
      unfold epE at h1
      split at h1
      · omega
      · rename_i hx
        simpa using hx
    exact ep_bd h2
  have HD : ∀ k, k < l.length → ∀ n ∈ numsE (ep l k), (∀ m : Mem, PCalls Tryz.prog 28 [.int .i64 n] m (.string (tx (itoa n)))) ∧ (tx (itoa n)).size ≤ 20 := fun k hk n hn => by
    have := hbd k hk n hn
    exact ⟨fun m => Decimal_q n (by omega) (by omega) m, itoa_len n (by omega) (by omega)⟩
  have hF0 : (⟨#[115, 101, 114, 105, 101, 115, 32]⟩ : ByteArray) ++ tx N ++ ⟨#[10]⟩ = tx (fmtP N (l.take 0)) := by
    rw [List.take_zero, fmt_zero, tx_app, tx_app]
    rfl
  have hF1 : ∀ k, k < l.length → tx (fmtP N (l.take k)) ++ ⟨#[101, 112, 111, 99, 104, 32]⟩ ++ tx (itoa (ep l k).d) ++ ⟨#[32]⟩ ++ tx (itoa (ep l k).b) ++ ⟨#[32]⟩ ++ tx (itoa (ep l k).p) ++ ⟨#[32]⟩ ++ tx (itoa (ep l k).m) ++ ⟨#[10]⟩ = tx (fmtP N (l.take (k + 1))) := fun k hk => by
    rw [take_ep l k hk, fmt_snoc']
    simp only [tx_app]
    rfl
  have hFE : tx (fmtP N (l.take l.length)) = tx (fmtP N l) := by rw [List.take_length]
  have hFS : ∀ k, (tx (fmtP N (l.take k))).size ≤ 60000 := fun k => Nat.le_trans (fmt_pre N l k) (fmt_len_le hc0)
  have h0 := fun k hk => (HD k hk (ep l k).d (by simp [numsE])).1
  have h1 := fun k hk => (HD k hk (ep l k).b (by simp [numsE])).1
  have h2 := fun k hk => (HD k hk (ep l k).p (by simp [numsE])).1
  have h3 := fun k hk => (HD k hk (ep l k).m (by simp [numsE])).1
  have s0 := fun k hk => (HD k hk (ep l k).d (by simp [numsE])).2
  have s1 := fun k hk => (HD k hk (ep l k).b (by simp [numsE])).2
  have s2 := fun k hk => (HD k hk (ep l k).p (by simp [numsE])).2
  have s3 := fun k hk => (HD k hk (ep l k).m (by simp [numsE])).2
  clear HD hbd hN
  have hb : (⟨#[32]⟩ : ByteArray).size = 1 := rfl
  have hb6 : (⟨#[101, 112, 111, 99, 104, 32]⟩ : ByteArray).size = 6 := rfl
  have hb7 : (⟨#[115, 101, 114, 105, 101, 115, 32]⟩ : ByteArray).size = 7 := rfl
  have hb1 : (⟨#[10]⟩ : ByteArray).size = 1 := rfl
  generalize tx (fmtP N l) = R at *
  generalize hF : (fun k => tx (fmtP N (l.take k))) = F at *
  have hF' : ∀ k, tx (fmtP N (l.take k)) = F k := fun k => congrFun hF k
  simp only [hF'] at hF0 hF1 hFE hFS
  clear hF hF'
  generalize hA : (fun k => tx (itoa (ep l k).d)) = A at *
  have hA' : ∀ k, tx (itoa (ep l k).d) = A k := fun k => congrFun hA k
  generalize hB : (fun k => tx (itoa (ep l k).b)) = B at *
  have hB' : ∀ k, tx (itoa (ep l k).b) = B k := fun k => congrFun hB k
  generalize hC : (fun k => tx (itoa (ep l k).p)) = C at *
  have hC' : ∀ k, tx (itoa (ep l k).p) = C k := fun k => congrFun hC k
  generalize hG : (fun k => tx (itoa (ep l k).m)) = G at *
  have hG' : ∀ k, tx (itoa (ep l k).m) = G k := fun k => congrFun hG k
  simp only [hA', hB', hC', hG'] at hF1 h0 h1 h2 h3 s0 s1 s2 s3
  clear hA hA' hB hB' hC hC' hG hG' hc0
  refine PCalls.enterJ (t := [srI (tx N) 0 l.length, undef, undef, undef, undef, undef, undef, undef, undef, undef, undef, undef, undef, undef, undef, undef, undef, undef, undef, undef, undef, undef, undef, undef, undef, undef, undef, undef, undef, undef, undef, undef, undef, undef, undef, undef, undef, undef, undef, undef, undef, undef, undef, undef, undef]) Tryz.func10 rfl (ro1 _ rfl) rfl fun E hE => ?_
  repeat' (first
    | with_reducible refine Then.n ?_
    | with_reducible refine Then.r ?_
    | with_reducible refine Then.x ?_
    | with_reducible refine InB.n ?_
    | with_reducible refine InB.r ?_
    | with_reducible refine InB.hit ?_
    | with_reducible refine InB.miss (by decide) ?_
    | ((with_reducible refine AL.on ?_); first
      | ((first | ((with_reducible refine AL.k_binOp ?_); first | (refine AL.q rfl (OQ.cat rfl rfl (by simp only [ByteArray.size_append, hb, hb6, hb7, hb1]; omega)) ?_) | refine AL.q rfl (OQ.lss rfl rfl) ?_ | refine AL.q rfl (OQ.addi rfl rfl (by omega)) ?_ | refine AL.q rfl (OQ.add rfl rfl) ?_) | ((with_reducible refine AL.k_load ?_); first | (refine AL.q rfl (OQ.load1 (ty := 9) rfl (by kernel_rfl) (by first | (exact hld _ (by omega) _) | (conv => lhs; whnf))) ?_) | (refine AL.q rfl (OQ.load1 (ty := 22) rfl (by kernel_rfl) (by first | (exact hld _ (by omega) _) | (conv => lhs; whnf))) ?_) | refine AL.q rfl (OQ.loadN (ty := 64) (n := 4) rfl (by kernel_rfl) (by kernel_rfl) (by first | (exact hld _ (by omega) _) | rfl)) ?_) | ((with_reducible refine AL.k_assign ?_); first | (refine AL.q rfl (OQ.assign (by conv => lhs; whnf)) ?_)) | ((with_reducible refine AL.k_move ?_); first | (refine AL.q rfl (OQ.move (by conv => lhs; whnf)) ?_)) | ((with_reducible refine AL.k_call ?_); first | refine AL.q rfl (OQ.lenS (xt := 22) (r := (none, 4, true)) rfl (by kernel_rfl)) ?_)); (conv => (arg 5; try tactic => exact nrm)))
      | ((first | ((with_reducible refine AL.k_fieldAddr ?_); first | refine AL.q rfl (OQ.fieldA (ty := 24) (i := 0) (n := 1) (off := 0) (g := false) rfl (by kernel_rfl) (by decide)) ?_ | refine AL.q rfl (OQ.fieldA (ty := 24) (i := 1) (n := 1) (off := 1) (g := false) rfl (by kernel_rfl) (by decide)) ?_) | ((with_reducible refine AL.k_indexAddr ?_); first | refine AL.q rfl (OQ.idxAddr (ty := 22) (z := 4) (g := true) rfl rfl (by kernel_rfl) (by omega) (by omega)) ?_)); (conv => (arg 5; try tactic => exact nrm)))
      | ((first | ((with_reducible refine AL.k_box ?_); first | (refine AL.w rfl (OW.box (by conv => lhs; whnf) (by intro r h; cases h)) ?_)) | ((with_reducible refine AL.k_alloc ?_); first | refine AL.w rfl (OW.alloc (ty := 64) (z := [.int .i64 0, .int .i64 0, .int .i64 0, .int .i64 0]) (by kernel_rfl) rfl) ?_) | ((with_reducible refine AL.k_store ?_); first | (refine AL.w rfl (OW.store (ty := 64) (n := 4) rfl (by conv => lhs; whnf) rfl rfl (by kernel_rfl) rfl rfl (by decide) rfl (Nat.le_of_ble_eq_true rfl) (by intro r h; cases h)) ?_))); (conv => (arg 5; try tactic => exact nrm)); (conv => (arg 6; try tactic => exact nrm)))
      | refine AL.nil ?_)
    | ((with_reducible refine AW.on ?_); first
      | refine AW.seq ?_
      | refine AW.skip ?_
      | refine AW.exit ?_
      | refine AW.ret ?_
      | ((refine AW.block (id := 0) ?_); (refine AW.wk (Wk.forget [false, true, false, true, true, false, false, false, false, false, false, false, false, false, false, false, false, false, false, false, false, false, false, false, false, false, false, false, false, false, false, false, false, false, false, false, false, false, false, false, false, false, false, false, false] rfl) ?_); (conv => (arg 4; simp only [fgt, if_true, if_false, Bool.false_eq_true])); (refine AW.loop (fun n t' m => ∃ k : Nat, n = l.length - k ∧ k ≤ l.length ∧ t' = [junk, .pointer (some ⟨1, 0, none⟩), junk, .string (F k), .int .i64 (k), junk, junk, junk, junk, junk, junk, junk, junk, junk, junk, junk, junk, junk, junk, junk, junk, junk, junk, junk, junk, junk, junk, junk, junk, junk, junk, junk, junk, junk, junk, junk, junk, junk, junk, junk, junk, junk, junk, junk, junk] ∧ m = [some ⟨flatE l, false, z0⟩, some ⟨[.string (tx N), .slice (some ⟨0, 0, none⟩) l.length INF], true, 0⟩]) (l.length) (by exact ⟨0, rfl, Nat.zero_le _, by rw [← hF0]; rfl, rfl⟩) ?_); (rintro n t' m ⟨k, rfl, hk, rfl, rfl⟩))
      | refine AW.block ?_
      | (refine AW.draw (id := 6) 23 #[0, 1, 0, 4, 12, 31, 63, 0, 128, 412, 1023, 2047, 0, 4096, 13212, 32767, 65535, 0, 131072, 422812, 1048575, 2097151, 4194303] (by kernel_rfl) (by kernel_rfl) ?_; (conv => (arg 8; simp only [List.take_succ_cons, List.take_zero])); ((have q0 := s0 k (by omega); have q1 := s1 k (by omega); have q2 := s2 k (by omega); have q3 := s3 k (by omega); have q4 := hFS k)))
      | refine AW.region ?_
      | (refine AW.conds rfl (fun hc => ?_) (fun hc => ?_) <;> (try simp only [decide_eq_true_eq, decide_eq_false_iff_not, Bool.not_true, Bool.not_false, Bool.not_eq_true', Bool.not_eq_false', Int.not_lt, Int.not_le, Classical.not_not, ne_eq] at hc) <;> first | (exfalso; first | contradiction | (omega); done) | skip))
    | ((with_reducible refine AD.on ?_); first
      | ((first | ((with_reducible refine AD.k_binOp ?_); first | (refine AD.q rfl (OQ.cat rfl rfl (by simp only [ByteArray.size_append, hb, hb6, hb7, hb1]; omega)) rfl rfl rfl ?_)) | ((with_reducible refine AD.k_load ?_); first | (refine AD.q rfl (OQ.load1 (ty := 3) rfl (by kernel_rfl) (by first | (exact hld _ (by omega) _) | (conv => lhs; whnf))) rfl rfl rfl ?_)) | ((with_reducible refine AD.k_assign ?_); first | (refine AD.q rfl (OQ.assign (by conv => lhs; whnf)) rfl rfl rfl ?_)) | ((with_reducible refine AD.k_move ?_); first | (refine AD.q rfl (OQ.move (by conv => lhs; whnf)) rfl rfl rfl ?_))); (conv => (arg 10; try tactic => exact nrm)))
      | ((first | ((with_reducible refine AD.k_fieldAddr ?_); first | refine AD.q rfl (OQ.fieldA (ty := 64) (i := 0) (n := 1) (off := 0) (g := false) rfl (by kernel_rfl) (by decide)) rfl rfl rfl ?_ | refine AD.q rfl (OQ.fieldA (ty := 64) (i := 1) (n := 1) (off := 1) (g := false) rfl (by kernel_rfl) (by decide)) rfl rfl rfl ?_ | refine AD.q rfl (OQ.fieldA (ty := 64) (i := 2) (n := 1) (off := 2) (g := false) rfl (by kernel_rfl) (by decide)) rfl rfl rfl ?_ | refine AD.q rfl (OQ.fieldA (ty := 64) (i := 3) (n := 1) (off := 3) (g := false) rfl (by kernel_rfl) (by decide)) rfl rfl rfl ?_) | ((with_reducible refine AD.k_call ?_); first | refine AD.pcall (g := 28) rfl (by kernel_rfl) rfl ((by first | exact h0 k (by omega) _ | exact h1 k (by omega) _ | exact h2 k (by omega) _ | exact h3 k (by omega) _)) rfl rfl ?_)); (conv => (arg 10; try tactic => exact nrm)))
      | (refine AD.nil ?_; (conv => (arg 4; simp only [List.drop_succ_cons, List.drop_zero, List.drop_nil])); (conv => (arg 5; try tactic => exact nrm)); (conv => (arg 6; try tactic => exact nrm))))
    | ((with_reducible refine ex_on ?_); (refine ⟨l.length - (k + 1), [junk, .pointer (some ⟨1, 0, none⟩), junk, .string (F (k + 1)), .int .i64 (k + 1), junk, junk, junk, junk, junk, junk, junk, junk, junk, junk, junk, junk, junk, junk, junk, junk, junk, junk, junk, junk, junk, junk, junk, junk, junk, junk, junk, junk, junk, junk, junk, junk, junk, junk, junk, junk, junk, junk, junk, junk], [some ⟨flatE l, false, z0⟩, some ⟨[.string (tx N), .slice (some ⟨0, 0, none⟩) l.length INF], true, 0⟩], by omega, ?_, k + 1, rfl, by omega, rfl, rfl⟩; rw [← hF1 k (by omega)]; exact Wk.keep 2 [] (Nat.le_succ_of_le (Nat.le_of_eq hE)) rfl rfl (by repeat (first | exact RenT.nil | refine RenT.junk ?_ | refine RenT.val (by first | rfl | with_reducible assumption | (simp only [rn3, rn2, rn1, kσ]; done)) (by first | rfl | assumption | (simp [ok3, ok2, ok1]; done)) ?_)) ⟨⟨_, rfl, rfl, rfl, .inl ⟨rfl, flatE_scal l⟩⟩, ⟨_, rfl, rfl, rfl, .inr ⟨rfl, rfl⟩⟩, trivial⟩))
    | ((with_reducible refine FinJ.on ?_); (obtain rfl : k = l.length := (by omega); rw [hFE]; first | exact FinJ.ret (.tmp (by conv => lhs; whnf) .nil) (jle_flat rfl) | exact FinJ.end (.tmp (by conv => lhs; whnf) .nil) (jle_flat rfl))))
end Go.Proofs.YtmghmmmfdbafoaaGreatDoor
end
end

section
section
namespace Go.Proofs.YtmghmmmfdbafoaaGreatDoor
open Go Go.RowKit Go.Ab Go.Sr Go.Lib Go.Tx
set_option maxRecDepth 100000
set_option maxHeartbeats 2000000
attribute [local irreducible] OQ OW AL AW AD AF SW
theorem beq_tx' (a b : List UInt8) : ((tx a).toList == (tx b).toList) = decide (a = b) := by
  rw [ByteArray.toList_eq, ByteArray.toList_eq, tx_list, tx_list]
  by_cases h : a = b <;> simp [h]
abbrev serB' : ByteArray := ⟨#[115, 101, 114, 105, 101, 115]⟩
abbrev epoB' : ByteArray := ⟨#[101, 112, 111, 99, 104]⟩
theorem cut_q (c0 : UInt8) (l : List UInt8) (hl : l.length ≤ 1000000) (m : Mem) : ACalls Tryz.prog 29 [.string (tx l), .int .u8 c0.toNat] m (.slice (some ⟨m.length, 0, none⟩) ((cutAt c0 l).map tx).length INF) (m ++ [some ⟨((cutAt c0 l).map tx).map Value.string, true, 1⟩]) :=
  ACalls.viaN (m0 := []) (x := some ⟨((cutAt c0 l).map tx).map Value.string, true, 1⟩) (fun _ => 0) (Cut_c c0 l hl) (fun x bk hx => by simp [Mem.at] at hx) (fun x hx => absurd hx (by simp)) (fun blk h => by cases h; exact ⟨rfl, stx_scal _⟩) rfl rfl (by simp [rn3, rn2, rn1, τn]) rfl
/-- How 'Cut' answers on a line. -/
def CtA (l : ByteArray) (n : Nat) (R : List Value) : Prop := R.all scal = true ∧ ∀ m : Mem, ACalls Tryz.prog 29 [.string l, .int .u8 32] m (.slice (some ⟨m.length, 0, none⟩) n INF) (m ++ [some ⟨R, true, 1⟩])
theorem cta_of (l : List UInt8) (hl : l.length ≤ 1000000) : CtA (tx l) (cutAt 32 l).length ((cutAt 32 l).map fun l => .string (tx l)) := by
  have h := fun m => cut_q 32 l hl m
  simp only [List.length_map, List.map_map] at h
  exact ⟨List.all_eq_true.2 fun v hv => by obtain ⟨p, _, rfl⟩ := List.mem_map.1 hv; rfl, h⟩
def NmA (p : ByteArray) (v : Int) (b : Bool) : Prop := ∀ m : Mem, PCalls Tryz.prog 30 [.string p, .int .i64 7] m (.tuple #[.int .i64 v, .bool b])
/-- What a line of a head may be. -/
theorem head_cases (l : List UInt8) (hl : l.length ≤ 1000000) : (∃ n q, rdH l = some n ∧ CtA (tx l) 2 [.string q, .string (tx n)] ∧ (q.toList == serB'.toList) = true) ∨
    (rdH l = none ∧ ∃ n q R, CtA (tx l) n (.string q :: R) ∧ 1 ≤ n ∧ (n ≠ 2 ∨ (n = 2 ∧ (q.toList == serB'.toList) = false))) := by
  have HS := cta_of l hl
  obtain ⟨q0, qs, hc⟩ := List.exists_cons_of_ne_nil (cut_ne 32 l)
  rw [hc] at HS
  by_cases h2 : qs.length = 1
  · match qs, h2 with
    | [n], _ =>
      by_cases hq : q0 = wSeries
      · subst hq
        refine .inl ⟨n, tx wSeries, ?_, HS, by rw [show serB' = tx wSeries from rfl, beq_tx']; simp⟩
        unfold rdH
        rw [hc]
        simp
      · refine .inr ⟨?_, 2, tx q0, _, HS, by decide, .inr ⟨rfl, by rw [show serB' = tx wSeries from rfl, beq_tx']; exact decide_eq_false hq⟩⟩
        unfold rdH
        rw [hc]
        simp [hq]
  · refine .inr ⟨?_, _, tx q0, _, HS, by simp, .inl (by simpa using h2)⟩
    unfold rdH
    rw [hc]
    match qs, h2 with
    | [], _ => rfl
    | [n], h => exact absurd rfl h
    | a :: b :: r, _ => rfl
/-- What a line of a date may be. -/
theorem date_cases (l : List UInt8) (hl : l.length ≤ 1000000) : (∃ e q p0 p1 p2 p3, rdE l = some e ∧ CtA (tx l) 5 [.string q, .string p0, .string p1, .string p2, .string p3] ∧ (q.toList == epoB'.toList) = true ∧ NmA p0 e.d true ∧ NmA p1 e.b true ∧ NmA p2 e.p true ∧ NmA p3 e.m true) ∨
    (rdE l = none ∧ ∃ n q R, CtA (tx l) n (.string q :: R) ∧ 1 ≤ n ∧ (n ≠ 5 ∨ (n = 5 ∧ (q.toList == epoB'.toList) = false))) ∨
    (rdE l = none ∧ ∃ q p0 p1 p2 p3 v0 v1 v2 v3, CtA (tx l) 5 [.string q, .string p0, .string p1, .string p2, .string p3] ∧ (q.toList == epoB'.toList) = true ∧
      (NmA p0 v0 false ∨ (NmA p0 v0 true ∧ NmA p1 v1 false) ∨ (NmA p0 v0 true ∧ NmA p1 v1 true ∧ NmA p2 v2 false) ∨ (NmA p0 v0 true ∧ NmA p1 v1 true ∧ NmA p2 v2 true ∧ NmA p3 v3 false))) := by
  have HS := cta_of l hl
  have hsub := cut_le 32 l
  obtain ⟨q0, qs, hc⟩ := List.exists_cons_of_ne_nil (cut_ne 32 l)
  rw [hc] at HS hsub
  by_cases h5 : qs.length = 4
  · match qs, h5 with
    | [x0, x1, x2, x3], _ =>
      by_cases hq : q0 = wEpoch
      · subst hq
        have hw : ((tx wEpoch).toList == epoB'.toList) = true := by rw [show epoB' = tx wEpoch from rfl, beq_tx']; simp
        have hN : ∀ x ∈ [x0, x1, x2, x3], (∃ v, numD 7 x = some v ∧ NmA (tx x) v true) ∨ (numD 7 x = none ∧ NmA (tx x) 0 false) := fun x hx => by
          have h := fun m => Number_d 7 (by decide) x (Nat.le_trans (hsub x (List.mem_cons_of_mem _ hx)) hl) m
          cases hv : numD 7 x with
          | none => rw [hv] at h; exact .inr ⟨rfl, h⟩
          | some v => rw [hv] at h; exact .inl ⟨v, rfl, h⟩
        have hd : rdE l = match numD 7 x0, numD 7 x1, numD 7 x2, numD 7 x3 with | some v0, some v1, some v2, some v3 => some ⟨v0, v1, v2, v3⟩ | _, _, _, _ => none := by
          unfold rdE
          rw [hc]
          simp only [if_true]
          cases numD 7 x0 <;> cases numD 7 x1 <;> cases numD 7 x2 <;> cases numD 7 x3 <;> rfl
        rcases hN x0 (by simp) with ⟨v0, e0, g0⟩ | ⟨e0, g0⟩
        · rcases hN x1 (by simp) with ⟨v1, e1, g1⟩ | ⟨e1, g1⟩
          · rcases hN x2 (by simp) with ⟨v2, e2, g2⟩ | ⟨e2, g2⟩
            · rcases hN x3 (by simp) with ⟨v3, e3, g3⟩ | ⟨e3, g3⟩
              · exact .inl ⟨⟨v0, v1, v2, v3⟩, _, _, _, _, _, by rw [hd, e0, e1, e2, e3], HS, hw, g0, g1, g2, g3⟩
              · exact .inr (.inr ⟨by rw [hd, e0, e1, e2, e3], _, _, _, _, _, v0, v1, v2, 0, HS, hw, .inr (.inr (.inr ⟨g0, g1, g2, g3⟩))⟩)
            · exact .inr (.inr ⟨by rw [hd, e0, e1, e2], _, _, _, _, _, v0, v1, 0, 0, HS, hw, .inr (.inr (.inl ⟨g0, g1, g2⟩))⟩)
          · exact .inr (.inr ⟨by rw [hd, e0, e1], _, _, _, _, _, v0, 0, 0, 0, HS, hw, .inr (.inl ⟨g0, g1⟩)⟩)
        · exact .inr (.inr ⟨by rw [hd, e0], _, _, _, _, _, 0, 0, 0, 0, HS, hw, .inl g0⟩)
      · refine .inr (.inl ⟨?_, 5, tx q0, _, HS, by decide, .inr ⟨rfl, by rw [show epoB' = tx wEpoch from rfl, beq_tx']; exact decide_eq_false hq⟩⟩)
        unfold rdE
        rw [hc]
        simp [hq]
  · refine .inr (.inl ⟨?_, _, tx q0, _, HS, by simp, .inl (by simpa using h5)⟩)
    unfold rdE
    rw [hc]
    match qs, h5 with
    | [], _ => rfl
    | [_], _ => rfl
    | [_, _], _ => rfl
    | [_, _, _], _ => rfl
    | [_, _, _, _], h => exact absurd rfl h
    | _ :: _ :: _ :: _ :: _ :: _, _ => rfl
theorem rParse_big (t : List UInt8) (h : 60000 < t.length) : ACalls Tryz.prog 12 [.string (tx t)] [] (resP (prsP t)) (slM (prsP t).2.1) := by
  rw [prs_big h]
  have hsz : (tx t).size = t.length := rfl
  refine ACalls.enter (t := [.string (tx t), undef, undef, undef, undef, undef, undef, undef, undef, undef, undef, undef, undef, undef, undef, undef, undef, undef, undef, undef, undef, undef, undef, undef, undef, undef, undef, undef, undef, undef, undef, undef, undef, undef, undef, undef, undef, undef, undef, undef, undef, undef, undef, undef, undef, undef, undef, undef, undef, undef, undef, undef, undef, undef, undef, undef, undef, undef, undef, undef, undef, undef, undef, undef, undef, undef, undef, undef, undef, undef, undef, undef, undef, undef, undef, undef, undef, undef, undef, undef, undef, undef, undef, undef, undef, undef, undef, undef, undef, undef, undef, undef, undef, undef, undef, undef, undef, undef, undef, undef, undef, undef, undef, undef, undef, undef, undef, undef, undef, undef, undef, undef, undef, undef, undef, undef, undef, undef, undef, undef]) Tryz.func12 rfl rfl fun E hE => ?_
  repeat' (first
    | with_reducible refine Then.n ?_
    | with_reducible refine Then.r ?_
    | with_reducible refine Then.x ?_
    | with_reducible refine InB.n ?_
    | with_reducible refine InB.r ?_
    | with_reducible refine InB.hit ?_
    | with_reducible refine InB.miss (by decide) ?_
    | ((with_reducible refine AL.on ?_); first
      | (refine AL.gd rfl ?_; first | (refine AL.gskip rfl rfl ?_; (conv => (arg 5; try tactic => exact nrm))) | (refine AL.gs1 rfl rfl (fun hc => ?_) (fun hc => ?_) <;> (try simp only [decide_eq_true_eq, decide_eq_false_iff_not, Bool.not_true, Bool.not_false, Bool.not_eq_true', Bool.not_eq_false', Int.not_lt, Int.not_le, Classical.not_not, ne_eq] at hc) <;> first | (exfalso; first | contradiction | (omega); done) | (conv => (arg 5; try tactic => exact nrm))) | (refine AL.gs0 rfl rfl (fun hc => ?_) (fun hc => ?_) <;> (try simp only [decide_eq_true_eq, decide_eq_false_iff_not, Bool.not_true, Bool.not_false, Bool.not_eq_true', Bool.not_eq_false', Int.not_lt, Int.not_le, Classical.not_not, ne_eq] at hc) <;> first | (exfalso; first | contradiction | (omega); done) | (conv => (arg 5; try tactic => exact nrm))))
      | ((first | ((with_reducible refine AL.k_move ?_); first | (refine AL.q rfl (OQ.move (by conv => lhs; whnf)) ?_)) | ((with_reducible refine AL.k_assign ?_); first | (refine AL.q rfl (OQ.assign (by conv => lhs; whnf)) ?_)) | ((with_reducible refine AL.k_binOp ?_); first | refine AL.q rfl (OQ.gtr rfl rfl) ?_ | refine AL.q rfl (OQ.lss rfl rfl) ?_ | refine AL.q rfl (OQ.subi rfl rfl (by omega)) ?_ | refine AL.q rfl (OQ.sub rfl rfl) ?_ | refine AL.q rfl (OQ.eql rfl rfl) ?_ | refine AL.q rfl (OQ.strne rfl rfl) ?_ | refine AL.q rfl (OQ.addi rfl rfl (by omega)) ?_ | refine AL.q rfl (OQ.add rfl rfl) ?_ | refine AL.q rfl (OQ.neq rfl rfl) ?_) | ((with_reducible refine AL.k_load ?_); first | refine AL.q rfl (OQ.loadN (ty := 24) (n := 2) rfl (by kernel_rfl) (by kernel_rfl) rfl) ?_ | (refine AL.q rfl (OQ.load1 (ty := 9) rfl (by kernel_rfl) (by conv => lhs; whnf)) ?_) | (refine AL.q rfl (OQ.load1 (ty := 22) rfl (by kernel_rfl) (by conv => lhs; whnf)) ?_) | (refine AL.q rfl (OQ.load1 (ty := 3) rfl (by kernel_rfl) (by conv => lhs; whnf)) ?_)) | ((with_reducible refine AL.k_indexAddr ?_); first | refine AL.q rfl (OQ.idxAddr (ty := 77) (z := 1) (g := false) rfl rfl (by kernel_rfl) (by omega) (by omega)) ?_ | refine AL.q rfl (OQ.idxPtr (ty := 79) (n := 1) (l := 4) (g := false) rfl rfl (by kernel_rfl) (by omega) (by omega)) ?_) | ((with_reducible refine AL.k_call ?_); first | refine AL.q rfl (OQ.lenStr rfl Tryz.underlying9) ?_ | refine AL.q rfl (OQ.lenS (xt := 77) (r := (none, 1, false)) rfl (by kernel_rfl)) ?_) | ((with_reducible refine AL.k_pick ?_); first | (refine AL.q rfl (OQ.pickT rfl (by with_reducible rfl) (by conv => lhs; whnf)) ?_) | (refine AL.q rfl (OQ.pickF rfl (by with_reducible rfl) (by conv => lhs; whnf)) ?_)) | ((with_reducible refine AL.k_fieldAddr ?_); first | refine AL.q rfl (OQ.fieldA (ty := 24) (i := 0) (n := 1) (off := 0) (g := false) rfl (by kernel_rfl) (by decide)) ?_ | refine AL.q rfl (OQ.fieldA (ty := 24) (i := 1) (n := 1) (off := 1) (g := false) rfl (by kernel_rfl) (by decide)) ?_) | ((with_reducible refine AL.k_extract ?_); first | refine AL.q rfl (OQ.extract rfl rfl) ?_) | ((with_reducible refine AL.k_unOp ?_); first | refine AL.q rfl (OQ.not rfl) ?_)); (conv => (arg 5; try tactic => exact nrm)))
      | ((first | first | refine AL.q rfl (OQ.buildS (ty := 24) (zs := [.string ⟨#[]⟩, .slice none 0 0]) (pls := [(0, 1), (1, 1)]) (by kernel_rfl) rfl (by kernel_rfl) rfl rfl rfl) ?_ | refine AL.q rfl (OQ.buildS (ty := 64) (zs := [.int .i64 0, .int .i64 0, .int .i64 0, .int .i64 0]) (pls := [(0, 1), (1, 1), (2, 1), (3, 1)]) (by kernel_rfl) rfl (by kernel_rfl) rfl rfl rfl) ?_); (conv => (arg 5; try tactic => exact nrm)))
      | ((first | ((with_reducible refine AL.k_store ?_); first | (refine AL.w rfl (OW.store (ty := 24) (n := 2) rfl (by conv => lhs; whnf) rfl rfl (by kernel_rfl) rfl rfl (by decide) rfl (Nat.le_of_ble_eq_true rfl) (by intro r h; cases h)) ?_) | (refine AL.w rfl (OW.store (ty := 9) (n := 1) rfl (by conv => lhs; whnf) rfl rfl (by kernel_rfl) rfl rfl (by decide) rfl (Nat.le_of_ble_eq_true rfl) (by intro r h; cases h)) ?_) | (refine AL.w rfl (OW.store (ty := 3) (n := 1) rfl (by conv => lhs; whnf) rfl rfl (by kernel_rfl) rfl rfl (by decide) rfl (Nat.le_of_ble_eq_true rfl) (by intro r h; cases h)) ?_) | (refine AL.w rfl (OW.store (ty := 22) (n := 1) rfl (by conv => lhs; whnf) rfl rfl (by kernel_rfl) rfl rfl (by decide) rfl (Nat.le_of_ble_eq_true rfl) (by intro r h; cases h)) ?_)) | ((with_reducible refine AL.k_call ?_); first | refine AL.w rfl (by first | exact OW.appendNil (e := 64) (z := 4) (zs := [.int .i64 0, .int .i64 0, .int .i64 0, .int .i64 0]) (by' := 32) rfl rfl (by kernel_rfl) (by kernel_rfl) (by kernel_rfl) rfl (by kernel_rfl) (by decide) rfl (by decide) (by decide) | exact OW.appendL (e := 64) (z := 4) (zs := [.int .i64 0, .int .i64 0, .int .i64 0, .int .i64 0]) (by' := 32) rfl rfl (by kernel_rfl) (by kernel_rfl) (by kernel_rfl) rfl (by kernel_rfl) (by decide) rfl rfl rfl (by decide) (by omega) rfl rfl (by omega) (by omega)) ?_) | ((with_reducible refine AL.k_alloc ?_); first | refine AL.w rfl (OW.alloc (ty := 24) (z := [.string ⟨#[]⟩, .slice none 0 0]) (by kernel_rfl) rfl) ?_ | refine AL.w rfl (OW.alloc (ty := 79) (z := [.int .i64 0, .int .i64 0, .int .i64 0, .int .i64 0]) (by kernel_rfl) rfl) ?_) | ((with_reducible refine AL.k_buildSlice ?_); first | refine AL.w rfl (OW.buildSl (ty := 22) (zs := [.int .i64 0, .int .i64 0, .int .i64 0, .int .i64 0]) (n := 4) (g := true) (by kernel_rfl) (by kernel_rfl) rfl rfl rfl (by decide) (by decide) rfl rfl) ?_)); (conv => (arg 5; try tactic => exact nrm)); (conv => (arg 6; try tactic => exact nrm)))
      | (refine AL.bs rfl (fun hc => ?_) (fun hc => ?_) <;> (fail_if_success (with_reducible exact lit_no hc)) <;> (try simp only [decide_eq_true_eq, decide_eq_false_iff_not, Bool.not_true, Bool.not_false, Bool.not_eq_true', Bool.not_eq_false', Int.not_lt, Int.not_le, Classical.not_not, ne_eq] at hc) <;> first | (exfalso; first | contradiction | (omega); done) | (conv => (arg 5; try tactic => exact nrm)))
      | refine AL.nil ?_)
    | ((with_reducible refine AW.on ?_); first
      | refine AW.seq ?_
      | refine AW.skip ?_
      | refine AW.exit ?_
      | refine AW.ret ?_
      | refine AW.block ?_
      | (refine AW.region (id := 5) ?_; exfalso; omega; done)
      | refine AW.region ?_
      | (refine AW.conds rfl (fun hc => ?_) (fun hc => ?_) <;> (try simp only [decide_eq_true_eq, decide_eq_false_iff_not, Bool.not_true, Bool.not_false, Bool.not_eq_true', Bool.not_eq_false', Int.not_lt, Int.not_le, Classical.not_not, ne_eq] at hc) <;> first | (exfalso; first | contradiction | (omega); done) | skip))
    | ((with_reducible refine FinA.on ?_); (refine FinA.keep 0 [] (.inl rfl) (.cellN (n := 2) (by conv => lhs; whnf) (by kernel_rfl) (by kernel_rfl) rfl (.tmp (by conv => lhs; whnf) (.tmp (by conv => lhs; whnf) .nil))) ?_ rfl (Nat.le_of_eq hE) rfl rfl trivial; rfl)))
end Go.Proofs.YtmghmmmfdbafoaaGreatDoor
end
end

section
section
namespace Go.Proofs.YtmghmmmfdbafoaaGreatDoor
open Go Go.RowKit Go.Ab Go.Sr Go.Lib Go.Tx
set_option maxRecDepth 100000
set_option maxHeartbeats 4000000
/-- The k-th line. -/
def lnT (t : List UInt8) (k : Nat) : List UInt8 := (cutAt 10 t).getD k []
theorem cut_parts (t : List UInt8) : cutAt 10 t = bsP t ++ [laP t] := by
  unfold bsP laP
  have hne := cut_ne 10 t
  rw [List.getLastD_eq_getLast?, List.getLast?_eq_some_getLast hne, Option.getD_some, List.dropLast_concat_getLast]
theorem lnT_lt {t : List UInt8} {k : Nat} (h : k < (bsP t).length) : lnT t k = (bsP t).getD k [] := by
  unfold lnT
  rw [cut_parts, List.getD_eq_getElem?_getD, List.getElem?_append_left h, List.getD_eq_getElem?_getD]
theorem lnT_la (t : List UInt8) : lnT t (bsP t).length = laP t := by
  unfold lnT
  rw [cut_parts, List.getD_eq_getElem?_getD, List.getElem?_append_right (Nat.le_refl _)]
  simp
theorem cut_len10 (t : List UInt8) : (cutAt 10 t).length = (bsP t).length + 1 := by
  rw [cut_parts t, List.length_append]
  rfl
theorem rround {t nm : List UInt8} {k : Nat} {es : List Ep} (ht : t.length ≤ 1000) (hR : RdS t k nm es) :
    (k = (bsP t).length ∧ k ≠ 0 ∧ ((tx (lnT t k)).toList == (⟨#[]⟩ : ByteArray).toList) = true ∧ prsP t = (if srE nm es = 0 then (nm, es, 0, 0) else ([], [], 0, srE nm es))) ∨
    (k = (bsP t).length ∧ (((tx (lnT t k)).toList == (⟨#[]⟩ : ByteArray).toList) = false ∨ (((tx (lnT t k)).toList == (⟨#[]⟩ : ByteArray).toList) = true ∧ k = 0)) ∧ prsP t = ([], [], k + 1, 7)) ∨
    (k < (bsP t).length ∧ k = 0 ∧ es = [] ∧ ∃ n q, RdS t 1 n [] ∧ CtA (tx (lnT t k)) 2 [.string q, .string (tx n)] ∧ (q.toList == serB'.toList) = true) ∨
    (k < (bsP t).length ∧ k = 0 ∧ es = [] ∧ prsP t = ([], [], 1, 7) ∧ ∃ n q R, CtA (tx (lnT t k)) n (.string q :: R) ∧ 1 ≤ n ∧ (n ≠ 2 ∨ (n = 2 ∧ (q.toList == serB'.toList) = false))) ∨
    (k < (bsP t).length ∧ 0 < k ∧ ∃ e q p0 p1 p2 p3, RdS t (k + 1) nm (es ++ [e]) ∧ CtA (tx (lnT t k)) 5 [.string q, .string p0, .string p1, .string p2, .string p3] ∧ (q.toList == epoB'.toList) = true ∧ NmA p0 e.d true ∧ NmA p1 e.b true ∧ NmA p2 e.p true ∧ NmA p3 e.m true) ∨
    (k < (bsP t).length ∧ 0 < k ∧ prsP t = ([], [], k + 1, 7) ∧ ∃ n q R, CtA (tx (lnT t k)) n (.string q :: R) ∧ 1 ≤ n ∧ (n ≠ 5 ∨ (n = 5 ∧ (q.toList == epoB'.toList) = false))) ∨
    (k < (bsP t).length ∧ 0 < k ∧ prsP t = ([], [], k + 1, 7) ∧ ∃ q p0 p1 p2 p3 v0 v1 v2 v3, CtA (tx (lnT t k)) 5 [.string q, .string p0, .string p1, .string p2, .string p3] ∧ (q.toList == epoB'.toList) = true ∧
      (NmA p0 v0 false ∨ (NmA p0 v0 true ∧ NmA p1 v1 false) ∨ (NmA p0 v0 true ∧ NmA p1 v1 true ∧ NmA p2 v2 false) ∨ (NmA p0 v0 true ∧ NmA p1 v1 true ∧ NmA p2 v2 true ∧ NmA p3 v3 false))) := by
  have ht' : t.length ≤ 60000 := by omega
  rcases Nat.lt_or_eq_of_le hR.le with hk | hk
  · have hb := bs_sub t k hk
    rw [← lnT_lt hk] at hb
    rcases Nat.eq_zero_or_pos k with h0 | h0
    · subst h0
      have hes := hR.z (by omega)
      refine .inr (.inr ?_)
      rcases head_cases (lnT t 0) (by omega) with ⟨n, q, hr, hC, hq⟩ | ⟨hr, n, q, R, hC, h1, h2⟩
      · rw [lnT_lt hk] at hr
        exact .inl ⟨hk, rfl, hes, n, q, hR.head hk hr, hC, hq⟩
      · rw [lnT_lt hk] at hr
        exact .inr (.inl ⟨hk, rfl, hes, prs_none ht' (hR.headNo hk hr), n, q, R, hC, h1, h2⟩)
    · refine .inr (.inr (.inr (.inr ?_)))
      rcases date_cases (lnT t k) (by omega) with ⟨e, q, p0, p1, p2, p3, hr, hC, hq, g0, g1, g2, g3⟩ | ⟨hr, n, q, R, hC, h1, h2⟩ | ⟨hr, q, p0, p1, p2, p3, v0, v1, v2, v3, hC, hq, hg⟩
      · rw [lnT_lt hk] at hr
        exact .inl ⟨hk, h0, e, q, p0, p1, p2, p3, hR.next h0 hk hr, hC, hq, g0, g1, g2, g3⟩
      · rw [lnT_lt hk] at hr
        exact .inr (.inl ⟨hk, h0, prs_none ht' (hR.nextNo h0 hk hr), n, q, R, hC, h1, h2⟩)
      · rw [lnT_lt hk] at hr
        exact .inr (.inr ⟨hk, h0, prs_none ht' (hR.nextNo h0 hk hr), q, p0, p1, p2, p3, v0, v1, v2, v3, hC, hq, hg⟩)
  · have hL : lnT t k = laP t := by rw [hk, lnT_la]
    have hE : ((tx (lnT t k)).toList == (⟨#[]⟩ : ByteArray).toList) = decide (laP t = []) := by
      rw [hL]
      exact beq_tx' (laP t) []
    by_cases hl : laP t = []
    · rw [decide_eq_true hl] at hE
      rcases Nat.eq_zero_or_pos k with h0 | h0
      · subst h0
        exact .inr (.inl ⟨hk, .inr ⟨hE, rfl⟩, prs_none ht' (hR.none hk)⟩)
      · exact .inl ⟨hk, by omega, hE, prs_some ht' (hR.end hk hl (by omega))⟩
    · rw [decide_eq_false hl] at hE
      exact .inr (.inl ⟨hk, .inl hE, prs_none ht' (hR.last hk hl)⟩)
attribute [local irreducible] OQ OW AL AW AD AF SW
theorem rParse_l (t : List UInt8) (ht : t.length ≤ 1000) : ACalls Tryz.prog 12 [.string (tx t)] [] (resP (prsP t)) (slM (prsP t).2.1) := by
  have hsz : (tx t).size = t.length := rfl
  have HR := fun (k : Nat) (nm : List UInt8) (es : List Ep) (hR : RdS t k nm es) => rround ht hR
  have hnb := cut_len10 t
  have hbl := bs_len t
  have HC10 := fun m => cut_q 10 t (by omega) m
  have HV : ∀ q, prsP t = q → resP (prsP t) = resP q ∧ slM (prsP t).2.1 = slM q.2.1 := fun q h => by rw [h]; exact ⟨rfl, rfl⟩
  have hZ := RdS.zero t
  have hle : ∀ {k nm es}, RdS t k nm es → k ≤ (bsP t).length ∧ es.length ≤ k ∧ nm.length ≤ t.length := fun h => ⟨h.le, h.len, h.sz⟩
  have hld : ∀ k, k < (cutAt 10 t).length → (((cutAt 10 t).map tx).map Value.string)[k]? = some (.string (tx (lnT t k))) := fun k hk => by
    simp [lnT, hk]
  have HK : ∀ (nm : List UInt8) (es : List Ep), nm.length ≤ 1000 → es.length ≤ 1000 → ∀ (m : Mem) (v : Value), SlE m v es → PCalls Tryz.prog 8 [srV (tx nm) v] m (.int .i64 (srE nm es)) := fun nm es h1 h2 m v hS => rCheckSeries_q (tx nm) hS h1 h2
  have hLs := stx_scal ((cutAt 10 t).map tx)
  simp only [List.length_map] at HC10
  rw [hnb] at hld HC10
  generalize (((cutAt 10 t).map tx).map Value.string) = LL at *
  generalize hX : resP (prsP t) = V at *
  generalize hY : slM (prsP t).2.1 = ME at *
  generalize (bsP t).length = B at *
  generalize hLN : (fun k => tx (lnT t k)) = LN at *
  have hLN' : ∀ k, tx (lnT t k) = LN k := fun k => congrFun hLN k
  simp only [hLN'] at hld HR
  clear hLN hLN' hX hY hnb
  refine ACalls.enter (t := [.string (tx t), undef, undef, undef, undef, undef, undef, undef, undef, undef, undef, undef, undef, undef, undef, undef, undef, undef, undef, undef, undef, undef, undef, undef, undef, undef, undef, undef, undef, undef, undef, undef, undef, undef, undef, undef, undef, undef, undef, undef, undef, undef, undef, undef, undef, undef, undef, undef, undef, undef, undef, undef, undef, undef, undef, undef, undef, undef, undef, undef, undef, undef, undef, undef, undef, undef, undef, undef, undef, undef, undef, undef, undef, undef, undef, undef, undef, undef, undef, undef, undef, undef, undef, undef, undef, undef, undef, undef, undef, undef, undef, undef, undef, undef, undef, undef, undef, undef, undef, undef, undef, undef, undef, undef, undef, undef, undef, undef, undef, undef, undef, undef, undef, undef, undef, undef, undef, undef, undef, undef]) Tryz.func12 rfl rfl fun E hE => ?_
  repeat' (first
    | with_reducible refine Then.n ?_
    | with_reducible refine Then.r ?_
    | with_reducible refine Then.x ?_
    | with_reducible refine InB.n ?_
    | with_reducible refine InB.r ?_
    | with_reducible refine InB.hit ?_
    | with_reducible refine InB.miss (by decide) ?_
    | ((with_reducible refine AL.on ?_); first
      | (refine AL.gd rfl ?_; first | (refine AL.gskip rfl rfl ?_; (conv => (arg 5; try tactic => exact nrm))) | (refine AL.gs1 rfl rfl (fun hc => ?_) (fun hc => ?_) <;> (try simp only [decide_eq_true_eq, decide_eq_false_iff_not, Bool.not_true, Bool.not_false, Bool.not_eq_true', Bool.not_eq_false', Int.not_lt, Int.not_le, Classical.not_not, ne_eq] at hc) <;> first | (exfalso; first | contradiction | (first | omega | (simp at hc; done) | (simp_all; done) | (simp_all; omega)); done) | (conv => (arg 5; try tactic => exact nrm))) | (refine AL.gs0 rfl rfl (fun hc => ?_) (fun hc => ?_) <;> (try simp only [decide_eq_true_eq, decide_eq_false_iff_not, Bool.not_true, Bool.not_false, Bool.not_eq_true', Bool.not_eq_false', Int.not_lt, Int.not_le, Classical.not_not, ne_eq] at hc) <;> first | (exfalso; first | contradiction | (first | omega | (simp at hc; done) | (simp_all; done) | (simp_all; omega)); done) | (conv => (arg 5; try tactic => exact nrm))))
      | ((first | ((with_reducible refine AL.k_move ?_); first | (refine AL.q rfl (OQ.move (by conv => lhs; whnf)) ?_)) | ((with_reducible refine AL.k_assign ?_); first | (refine AL.q rfl (OQ.assign (by conv => lhs; whnf)) ?_)) | ((with_reducible refine AL.k_binOp ?_); first | refine AL.q rfl (OQ.gtr rfl rfl) ?_ | refine AL.q rfl (OQ.lss rfl rfl) ?_ | refine AL.q rfl (OQ.subi rfl rfl (by omega)) ?_ | refine AL.q rfl (OQ.sub rfl rfl) ?_ | refine AL.q rfl (OQ.eql rfl rfl) ?_ | refine AL.q rfl (OQ.strne rfl rfl) ?_ | refine AL.q rfl (OQ.addi rfl rfl (by omega)) ?_ | refine AL.q rfl (OQ.add rfl rfl) ?_ | refine AL.q rfl (OQ.neq rfl rfl) ?_) | ((with_reducible refine AL.k_load ?_); first | refine AL.q rfl (OQ.loadN (ty := 24) (n := 2) rfl (by kernel_rfl) (by kernel_rfl) (by first | (exact hld _ (by omega)) | rfl)) ?_ | (refine AL.q rfl (OQ.load1 (ty := 9) rfl (by kernel_rfl) (by first | (exact hld _ (by omega)) | (conv => lhs; whnf))) ?_) | (refine AL.q rfl (OQ.load1 (ty := 22) rfl (by kernel_rfl) (by first | (exact hld _ (by omega)) | (conv => lhs; whnf))) ?_) | (refine AL.q rfl (OQ.load1 (ty := 3) rfl (by kernel_rfl) (by first | (exact hld _ (by omega)) | (conv => lhs; whnf))) ?_)) | ((with_reducible refine AL.k_call ?_); first | refine AL.q rfl (OQ.lenStr rfl Tryz.underlying9) ?_ | refine AL.q rfl (OQ.lenS (xt := 77) (r := (none, 1, false)) rfl (by kernel_rfl)) ?_) | ((with_reducible refine AL.k_pick ?_); first | (refine AL.q rfl (OQ.pickT rfl (by with_reducible rfl) (by conv => lhs; whnf)) ?_) | (refine AL.q rfl (OQ.pickF rfl (by with_reducible rfl) (by conv => lhs; whnf)) ?_)) | ((with_reducible refine AL.k_extract ?_); first | refine AL.q rfl (OQ.extract rfl rfl) ?_) | ((with_reducible refine AL.k_unOp ?_); first | refine AL.q rfl (OQ.not rfl) ?_)); (conv => (arg 5; try tactic => exact nrm)))
      | ((first | ((with_reducible refine AL.k_indexAddr ?_); first | refine AL.q rfl (OQ.idxAddr (ty := 77) (z := 1) (g := false) rfl rfl (by kernel_rfl) (by omega) (by omega)) ?_ | refine AL.q rfl (OQ.idxPtr (ty := 79) (n := 1) (l := 4) (g := false) rfl rfl (by kernel_rfl) (by omega) (by omega)) ?_) | ((with_reducible refine AL.k_call ?_); first | refine AL.pcall (g := 30) rfl (by kernel_rfl) rfl ((by first | exact g0 _ | exact g1 _ | exact g2 _ | exact g3 _)) ?_ | refine AL.pcall (g := 8) rfl (by kernel_rfl) rfl ((by first | exact HK nm es (by omega) (by omega) _ _ (.blk _ _ rfl rfl rfl) | exact HK nm [] (by omega) (by simp) _ _ (.nil rfl rfl))) ?_) | ((with_reducible refine AL.k_fieldAddr ?_); first | refine AL.q rfl (OQ.fieldA (ty := 24) (i := 0) (n := 1) (off := 0) (g := false) rfl (by kernel_rfl) (by decide)) ?_ | refine AL.q rfl (OQ.fieldA (ty := 24) (i := 1) (n := 1) (off := 1) (g := false) rfl (by kernel_rfl) (by decide)) ?_) | ((with_reducible refine AL.k_build ?_); first | refine AL.q rfl (OQ.buildS (ty := 24) (zs := [.string ⟨#[]⟩, .slice none 0 0]) (pls := [(0, 1), (1, 1)]) (by kernel_rfl) rfl (by kernel_rfl) rfl rfl rfl) ?_ | refine AL.q rfl (OQ.buildS (ty := 64) (zs := [.int .i64 0, .int .i64 0, .int .i64 0, .int .i64 0]) (pls := [(0, 1), (1, 1), (2, 1), (3, 1)]) (by kernel_rfl) rfl (by kernel_rfl) rfl rfl rfl) ?_)); (conv => (arg 5; try tactic => exact nrm)))
      | ((first | ((with_reducible refine AL.k_store ?_); first | (refine AL.w rfl (OW.store (ty := 24) (n := 2) rfl (by conv => lhs; whnf) rfl rfl (by kernel_rfl) rfl rfl (by decide) rfl (Nat.le_of_ble_eq_true rfl) (by intro r h; cases h)) ?_) | (refine AL.w rfl (OW.store (ty := 9) (n := 1) rfl (by conv => lhs; whnf) rfl rfl (by kernel_rfl) rfl rfl (by decide) rfl (Nat.le_of_ble_eq_true rfl) (by intro r h; cases h)) ?_) | (refine AL.w rfl (OW.store (ty := 3) (n := 1) rfl (by conv => lhs; whnf) rfl rfl (by kernel_rfl) rfl rfl (by decide) rfl (Nat.le_of_ble_eq_true rfl) (by intro r h; cases h)) ?_) | (refine AL.w rfl (OW.store (ty := 22) (n := 1) rfl (by conv => lhs; whnf) rfl rfl (by kernel_rfl) rfl rfl (by decide) rfl (Nat.le_of_ble_eq_true rfl) (by intro r h; cases h)) ?_)) | ((with_reducible refine AL.k_call ?_); first | refine AL.acall (g := 29) rfl (by kernel_rfl) rfl ((by first | exact HC10 _ | exact hC.2 _)) ?_ | refine AL.w rfl (by first | exact OW.appendNil (e := 64) (z := 4) (zs := [.int .i64 0, .int .i64 0, .int .i64 0, .int .i64 0]) (by' := 32) rfl rfl (by kernel_rfl) (by kernel_rfl) (by kernel_rfl) rfl (by kernel_rfl) (by decide) rfl (by decide) (by decide) | exact OW.appendL (e := 64) (z := 4) (zs := [.int .i64 0, .int .i64 0, .int .i64 0, .int .i64 0]) (by' := 32) rfl rfl (by kernel_rfl) (by kernel_rfl) (by kernel_rfl) rfl (by kernel_rfl) (by decide) rfl rfl rfl (by decide) (by exact flatE_len _) rfl rfl (by omega) (by omega)) ?_) | ((with_reducible refine AL.k_alloc ?_); first | refine AL.w rfl (OW.alloc (ty := 24) (z := [.string ⟨#[]⟩, .slice none 0 0]) (by kernel_rfl) rfl) ?_ | refine AL.w rfl (OW.alloc (ty := 79) (z := [.int .i64 0, .int .i64 0, .int .i64 0, .int .i64 0]) (by kernel_rfl) rfl) ?_) | ((with_reducible refine AL.k_buildSlice ?_); first | refine AL.w rfl (OW.buildSl (ty := 22) (zs := [.int .i64 0, .int .i64 0, .int .i64 0, .int .i64 0]) (n := 4) (g := true) (by kernel_rfl) (by kernel_rfl) rfl rfl rfl (by decide) (by decide) rfl rfl) ?_)); (conv => (arg 5; try tactic => exact nrm)); (conv => (arg 6; try tactic => exact nrm)))
      | (refine AL.bs rfl (fun hc => ?_) (fun hc => ?_) <;> (fail_if_success (with_reducible exact lit_no hc)) <;> (try simp only [decide_eq_true_eq, decide_eq_false_iff_not, Bool.not_true, Bool.not_false, Bool.not_eq_true', Bool.not_eq_false', Int.not_lt, Int.not_le, Classical.not_not, ne_eq] at hc) <;> first | (exfalso; first | contradiction | (first | omega | (simp at hc; done) | (simp_all; done) | (simp_all; omega)); done) | (conv => (arg 5; try tactic => exact nrm)))
      | refine AL.nil ?_)
    | ((with_reducible refine AW.on ?_); first
      | refine AW.seq ?_
      | refine AW.skip ?_
      | refine AW.exit ?_
      | refine AW.ret ?_
      | ((refine AW.block (id := 0) ?_); (refine AW.wk (t' := [junk, junk, .pointer (some ⟨0, 0, none⟩), junk, junk, .pointer (some ⟨1, 0, none⟩), .pointer (some ⟨2, 0, none⟩), .slice (some ⟨3, 0, none⟩) (B + 1) INF, .int .i64 (((0 : Nat) : Int)), junk, junk, junk, junk, junk, junk, junk, junk, junk, junk, junk, junk, junk, junk, junk, junk, junk, junk, junk, junk, junk, junk, junk, junk, junk, junk, junk, junk, junk, junk, junk, junk, junk, junk, junk, junk, junk, junk, junk, junk, junk, junk, junk, junk, junk, junk, junk, junk, junk, junk, junk, junk, junk, junk, junk, junk, junk, junk, junk, junk, junk, junk, junk, junk, junk, junk, junk, junk, junk, junk, junk, junk, junk, junk, junk, junk, junk, junk, junk, junk, junk, junk, junk, junk, junk, junk, junk, junk, junk, junk, junk, junk, junk, junk, junk, junk, junk, junk, junk, junk, junk, junk, junk, junk, junk, junk, junk, junk, junk, junk, junk]) (m' := [some ⟨[.string ⟨#[]⟩, .slice none 0 0], true, 0⟩, some ⟨[.string ⟨#[]⟩, .slice none 0 0], true, 0⟩, some ⟨[.string (tx []), slv 4 []], true, 0⟩, some ⟨LL, true, 1⟩, slB []]) (Wk.keep 0 [0, 1, 2, 3, 4] (Nat.le_of_eq hE) rfl rfl (by repeat (first | exact RenT.nil | refine RenT.junk ?_ | refine RenT.val (by first | rfl | with_reducible assumption | (simp only [rn3, rn2, rn1, kσ]; done)) (by first | rfl | assumption | (simp [ok3, ok2, ok1]; done)) ?_)) ⟨⟨_, rfl, rfl, rfl, .inl ⟨rfl, rfl⟩⟩, ⟨_, rfl, rfl, rfl, .inl ⟨rfl, rfl⟩⟩, ⟨_, rfl, rfl, rfl, .inl ⟨rfl, rfl⟩⟩, ⟨_, rfl, rfl, rfl, .inl ⟨rfl, hLs⟩⟩, trivial⟩) ?_); (refine AW.loop (fun c t' m => ∃ (k : Nat) (nm : List UInt8) (es : List Ep), c = B + 1 - k ∧ RdS t k nm es ∧ t' = [junk, junk, .pointer (some ⟨0, 0, none⟩), junk, junk, .pointer (some ⟨1, 0, none⟩), .pointer (some ⟨2, 0, none⟩), .slice (some ⟨3, 0, none⟩) (B + 1) INF, .int .i64 (k), junk, junk, junk, junk, junk, junk, junk, junk, junk, junk, junk, junk, junk, junk, junk, junk, junk, junk, junk, junk, junk, junk, junk, junk, junk, junk, junk, junk, junk, junk, junk, junk, junk, junk, junk, junk, junk, junk, junk, junk, junk, junk, junk, junk, junk, junk, junk, junk, junk, junk, junk, junk, junk, junk, junk, junk, junk, junk, junk, junk, junk, junk, junk, junk, junk, junk, junk, junk, junk, junk, junk, junk, junk, junk, junk, junk, junk, junk, junk, junk, junk, junk, junk, junk, junk, junk, junk, junk, junk, junk, junk, junk, junk, junk, junk, junk, junk, junk, junk, junk, junk, junk, junk, junk, junk, junk, junk, junk, junk, junk, junk] ∧ m = [some ⟨[.string ⟨#[]⟩, .slice none 0 0], true, 0⟩, some ⟨[.string ⟨#[]⟩, .slice none 0 0], true, 0⟩, some ⟨[.string (tx nm), slv 4 es], true, 0⟩, some ⟨LL, true, 1⟩, slB es]) (B + 1) (by exact ⟨0, [], [], rfl, hZ, rfl, rfl⟩) ?_); (rintro c t' m ⟨k, nm, es, rfl, hR, rfl, rfl⟩); (have hkl := hle hR); (rcases HR k nm es hR with ⟨hk, h0, hE', hp⟩ | ⟨hk, hE', hp⟩ | ⟨hk, h0, he, n, q, hR', hC, hq⟩ | ⟨hk, h0, he, hp, n, q, R, hC, h1, h2⟩ | ⟨hk, h0, e, q, p0, p1, p2, p3, hR', hC, hq, g0, g1, g2, g3⟩ | ⟨hk, h0, hp, n, q, R, hC, h1, h2⟩ | ⟨hk, h0, hp, q, p0, p1, p2, p3, v0, v1, v2, v3, hC, hq, (g0 | ⟨g0, g1⟩ | ⟨g0, g1, g2⟩ | ⟨g0, g1, g2, g3⟩)⟩); (all_goals (clear HR HC10 hsz); all_goals (try (subst h0)); all_goals (rcases Classical.em (es = []) with hDn | hDn)); (all_goals (first | (exfalso; exact hDn he; done) | (subst hDn; rw [slv_nil, slB_nil]) | rw [slv_ne _ hDn, slB_ne hDn])))
      | (refine AW.block (id := 2) ?_; refine AW.unroll 5 ?_)
      | refine AW.block ?_
      | (refine AW.region (id := 3) ?_; exfalso; first | omega | (simp at hc; done) | (simp_all; done) | (simp_all; omega); done)
      | refine AW.region ?_
      | (refine AW.conds rfl (fun hc => ?_) (fun hc => ?_) <;> (try simp only [decide_eq_true_eq, decide_eq_false_iff_not, Bool.not_true, Bool.not_false, Bool.not_eq_true', Bool.not_eq_false', Int.not_lt, Int.not_le, Classical.not_not, ne_eq] at hc) <;> first | (exfalso; first | contradiction | (first | omega | (simp at hc; done) | (simp_all; done) | (simp_all; omega)); done) | skip))
    | with_reducible refine AR.s ?_
    | ((with_reducible refine AR.out ?_); first | omega | (simp at hc; done) | (simp_all; done) | (simp_all; omega); done)
    | ((with_reducible refine ex_on ?_); first   | (refine ⟨B + 1 - (0 + 1), [junk, junk, .pointer (some ⟨0, 0, none⟩), junk, junk, .pointer (some ⟨1, 0, none⟩), .pointer (some ⟨2, 0, none⟩), .slice (some ⟨3, 0, none⟩) (B + 1) INF, .int .i64 (((0 + 1 : Nat) : Int)), junk, junk, junk, junk, junk, junk, junk, junk, junk, junk, junk, junk, junk, junk, junk, junk, junk, junk, junk, junk, junk, junk, junk, junk, junk, junk, junk, junk, junk, junk, junk, junk, junk, junk, junk, junk, junk, junk, junk, junk, junk, junk, junk, junk, junk, junk, junk, junk, junk, junk, junk, junk, junk, junk, junk, junk, junk, junk, junk, junk, junk, junk, junk, junk, junk, junk, junk, junk, junk, junk, junk, junk, junk, junk, junk, junk, junk, junk, junk, junk, junk, junk, junk, junk, junk, junk, junk, junk, junk, junk, junk, junk, junk, junk, junk, junk, junk, junk, junk, junk, junk, junk, junk, junk, junk, junk, junk, junk, junk, junk, junk], [some ⟨[.string ⟨#[]⟩, .slice none 0 0], true, 0⟩, some ⟨[.string ⟨#[]⟩, .slice none 0 0], true, 0⟩, some ⟨[.string (tx n), .slice none 0 0], true, 0⟩, some ⟨LL, true, 1⟩, none], by omega, ?_, 0 + 1, n, [], rfl, hR', rfl, rfl⟩; exact Wk.keep 0 [0, 1, 2, 3, 4] (Nat.le_of_eq hE) rfl rfl (by repeat (first | exact RenT.nil | refine RenT.junk ?_ | refine RenT.val (by first | rfl | with_reducible assumption | (simp only [rn3, rn2, rn1, kσ]; done)) (by first | rfl | assumption | (simp [ok3, ok2, ok1]; done)) ?_)) ⟨⟨_, rfl, rfl, rfl, .inl ⟨rfl, rfl⟩⟩, ⟨_, rfl, rfl, rfl, .inl ⟨rfl, rfl⟩⟩, ⟨_, rfl, rfl, rfl, .inl ⟨rfl, rfl⟩⟩, ⟨_, rfl, rfl, rfl, .inl ⟨rfl, hLs⟩⟩, trivial⟩)   | (refine ⟨B + 1 - (k + 1), [junk, junk, .pointer (some ⟨0, 0, none⟩), junk, junk, .pointer (some ⟨1, 0, none⟩), .pointer (some ⟨2, 0, none⟩), .slice (some ⟨3, 0, none⟩) (B + 1) INF, .int .i64 (((k + 1 : Nat) : Int)), junk, junk, junk, junk, junk, junk, junk, junk, junk, junk, junk, junk, junk, junk, junk, junk, junk, junk, junk, junk, junk, junk, junk, junk, junk, junk, junk, junk, junk, junk, junk, junk, junk, junk, junk, junk, junk, junk, junk, junk, junk, junk, junk, junk, junk, junk, junk, junk, junk, junk, junk, junk, junk, junk, junk, junk, junk, junk, junk, junk, junk, junk, junk, junk, junk, junk, junk, junk, junk, junk, junk, junk, junk, junk, junk, junk, junk, junk, junk, junk, junk, junk, junk, junk, junk, junk, junk, junk, junk, junk, junk, junk, junk, junk, junk, junk, junk, junk, junk, junk, junk, junk, junk, junk, junk, junk, junk, junk, junk, junk, junk], [some ⟨[.string ⟨#[]⟩, .slice none 0 0], true, 0⟩, some ⟨[.string ⟨#[]⟩, .slice none 0 0], true, 0⟩, some ⟨[.string (tx nm), .slice (some ⟨4, 0, none⟩) 1 INF], true, 0⟩, some ⟨LL, true, 1⟩, some ⟨flatE [e], true, 4⟩], by omega, ?_, k + 1, nm, [] ++ [e], rfl, hR', rfl, rfl⟩; exact Wk.keep 0 [0, 1, 2, 3, 8] (Nat.le_of_eq hE) rfl rfl (by repeat (first | exact RenT.nil | refine RenT.junk ?_ | refine RenT.val (by first | rfl | with_reducible assumption | (simp only [rn3, rn2, rn1, kσ]; done)) (by first | rfl | assumption | (simp [ok3, ok2, ok1]; done)) ?_)) ⟨⟨_, rfl, rfl, rfl, .inl ⟨rfl, rfl⟩⟩, ⟨_, rfl, rfl, rfl, .inl ⟨rfl, rfl⟩⟩, ⟨_, rfl, rfl, rfl, .inr ⟨rfl, rfl⟩⟩, ⟨_, rfl, rfl, rfl, .inl ⟨rfl, hLs⟩⟩, ⟨_, rfl, rfl, rfl, .inl ⟨rfl, rfl⟩⟩, trivial⟩)   | (refine ⟨B + 1 - (k + 1), [junk, junk, .pointer (some ⟨0, 0, none⟩), junk, junk, .pointer (some ⟨1, 0, none⟩), .pointer (some ⟨2, 0, none⟩), .slice (some ⟨3, 0, none⟩) (B + 1) INF, .int .i64 (((k + 1 : Nat) : Int)), junk, junk, junk, junk, junk, junk, junk, junk, junk, junk, junk, junk, junk, junk, junk, junk, junk, junk, junk, junk, junk, junk, junk, junk, junk, junk, junk, junk, junk, junk, junk, junk, junk, junk, junk, junk, junk, junk, junk, junk, junk, junk, junk, junk, junk, junk, junk, junk, junk, junk, junk, junk, junk, junk, junk, junk, junk, junk, junk, junk, junk, junk, junk, junk, junk, junk, junk, junk, junk, junk, junk, junk, junk, junk, junk, junk, junk, junk, junk, junk, junk, junk, junk, junk, junk, junk, junk, junk, junk, junk, junk, junk, junk, junk, junk, junk, junk, junk, junk, junk, junk, junk, junk, junk, junk, junk, junk, junk, junk, junk, junk], [some ⟨[.string ⟨#[]⟩, .slice none 0 0], true, 0⟩, some ⟨[.string ⟨#[]⟩, .slice none 0 0], true, 0⟩, some ⟨[.string (tx nm), .slice (some ⟨4, 0, none⟩) (es.length + 1) INF], true, 0⟩, some ⟨LL, true, 1⟩, some ⟨flatE (es ++ [e]), true, 4⟩], by omega, ?_, k + 1, nm, es ++ [e], rfl, hR', rfl, by rw [slv_ne _ (by simp), slB_ne (by simp), List.length_append]; rfl⟩; exact Wk.keep 0 [0, 1, 2, 3, 8] (Nat.le_of_eq hE) rfl rfl (by repeat (first | exact RenT.nil | refine RenT.junk ?_ | refine RenT.val (by first | rfl | with_reducible assumption | (simp only [rn3, rn2, rn1, kσ]; done)) (by first | rfl | assumption | (simp [ok3, ok2, ok1]; done)) ?_)) ⟨⟨_, rfl, rfl, rfl, .inl ⟨rfl, rfl⟩⟩, ⟨_, rfl, rfl, rfl, .inl ⟨rfl, rfl⟩⟩, ⟨_, rfl, rfl, rfl, .inr ⟨rfl, rfl⟩⟩, ⟨_, rfl, rfl, rfl, .inl ⟨rfl, hLs⟩⟩, ⟨_, rfl, rfl, rfl, .inl ⟨flatE_snoc _ _, flatE_scal _⟩⟩, trivial⟩))
    | ((with_reducible refine FinA.on ?_); first   | (rw [(HV _ hp).1, (HV _ hp).2]; refine FinA.keep 0 [] (.inl rfl) (.cellN (n := 2) (by conv => lhs; whnf) (by kernel_rfl) (by kernel_rfl) rfl (.tmp (by conv => lhs; whnf) (.tmp (by conv => lhs; whnf) .nil))) ?_ rfl (Nat.le_of_eq hE) rfl rfl trivial; rfl)   | (rw [if_neg (by omega)] at hp; rw [(HV _ hp).1, (HV _ hp).2]; refine FinA.keep 0 [] (.inl rfl) (.cellN (n := 2) (by conv => lhs; whnf) (by kernel_rfl) (by kernel_rfl) rfl (.tmp (by conv => lhs; whnf) (.tmp (by conv => lhs; whnf) .nil))) ?_ rfl (Nat.le_of_eq hE) rfl rfl trivial; rfl)   | (rw [if_pos (by omega)] at hp; rw [(HV _ hp).1, (HV _ hp).2, slM_ne hDn, resP_ne hDn]; refine FinA.keep 0 [4] (.inl rfl) (.cellN (n := 2) (by conv => lhs; whnf) (by kernel_rfl) (by kernel_rfl) rfl (.tmp (by conv => lhs; whnf) (.tmp (by conv => lhs; whnf) .nil))) ?_ rfl (Nat.le_of_eq hE) rfl rfl ⟨⟨_, rfl, rfl, rfl, .inl ⟨rfl, flatE_scal _⟩⟩, trivial⟩; rfl)   | (rw [if_pos (by omega)] at hp; rw [(HV _ hp).1, (HV _ hp).2]; refine FinA.keep 0 [] (.inl rfl) (.cellN (n := 2) (by conv => lhs; whnf) (by kernel_rfl) (by kernel_rfl) rfl (.tmp (by conv => lhs; whnf) (.tmp (by conv => lhs; whnf) .nil))) ?_ rfl (Nat.le_of_eq hE) rfl rfl trivial; rfl)))
end Go.Proofs.YtmghmmmfdbafoaaGreatDoor
end
end
