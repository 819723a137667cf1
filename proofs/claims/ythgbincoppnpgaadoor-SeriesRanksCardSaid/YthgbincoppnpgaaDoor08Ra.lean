/- SeriesRanks: the rank is 3 just if all parameters are determined; the first dates alone have no greater rank. -/
import Derived.Test.YthgbincoppnpgaaDoor08No
import Derived.Test.YthgbincoppnpgaaDoor08Y
set_option linter.unusedSimpArgs false
set_option linter.unusedVariables false
namespace Go.Ab
open Go Go.RowKit
section
variable {P : Program} {t : T} {m : Mem} {dst : Option Tmp} {ty rt : TypeId} {pos : String} {after : Array Edge} {guard : Option (Nat × Bool)} {x : Operand} {lo hi : Option Operand} {l h u : Int}
theorem OQ.sliceTo2 {b n c z k : Nat} {g : Bool} {blk : Blk} (hx : t.ev x = .slice (some ⟨b, 0, none⟩) n c) (hf : elemOf' P ty = some (none, z, g)) (hb : m.at b = some blk) (hz : blk.esz = 0 ∨ blk.esz = z)
    (hl : bnd t lo 0 = some 0) (hh : bnd t hi n = some h) (hk : h = (k : Int)) (h2 : k ≤ n) : OQ P ⟨dst, .slice ty x lo hi none, rt, pos, after, guard⟩ t m (.slice (some ⟨b, 0, none⟩) k c) := by
  subst hk
  have := OQ.sliceS (dst := dst) (rt := rt) (pos := pos) (after := after) (guard := guard) hx hf hb hz hl hh (by decide) (by omega) (by omega)
  simpa using this
end
end Go.Ab
namespace Go.Sr
theorem rkF_mono {A B : List V3} {i k : Nat} (h : ∀ x, x < i → gv A x = gv B x) (hik : i ≤ k) : rkF A i ≤ rkF B k := by
  have h3 : E3 A i → E3 B k := fun ⟨a, b, c, h1, h2, h3, h4⟩ => ⟨a, b, c, h1, h2, by omega, by rw [← h a h3, ← h b (by omega), ← h c (by omega)]; exact h4⟩
  have h2 : E2 A i → E2 B k := fun ⟨a, b, h1, h2, h4⟩ => ⟨a, b, h1, by omega, by rw [← h a h2, ← h b (by omega)]; exact h4⟩
  have h1 : E1 A i → E1 B k := fun ⟨a, h2, h4⟩ => ⟨a, by omega, by rw [← h a h2]; exact h4⟩
  unfold rkF
  by_cases a3 : E3 A i
  · rw [if_pos a3, if_pos (h3 a3)]; omega
  · rw [if_neg a3]
    by_cases b3 : E3 B k
    · rw [if_pos b3]
      split
      · omega
      · split <;> omega
    · rw [if_neg b3]
      by_cases a2 : E2 A i
      · rw [if_pos a2, if_pos (h2 a2)]; omega
      · rw [if_neg a2]
        by_cases b2 : E2 B k
        · rw [if_pos b2]
          split <;> omega
        · rw [if_neg b2]
          by_cases a1 : E1 A i
          · rw [if_pos a1, if_pos (h1 a1)]; omega
          · rw [if_neg a1]
            split <;> omega
theorem rkF_bd (A : List V3) (i : Nat) (h0 : 0 < i) (h : gv A 0 ≠ (0, 0, 0)) : 1 ≤ rkF A i ∧ rkF A i ≤ 3 := by
  have h1 : E1 A i := ⟨0, h0, h⟩
  unfold rkF
  rw [if_pos h1]
  split
  · omega
  · split <;> omega
theorem rkT_2 (a b m : Int) : rkT a b m ≤ 2 := by
  unfold rkT
  split
  · omega
  · split <;> omega
theorem some_open (n : Sx) (h : rkA n < 3) (h1 : 1 ≤ rkA n) : rkT n.yy n.zz n.mx = rkA n ∨ rkT n.zz n.xx n.my = rkA n ∨ rkT n.xx n.yy n.mz = rkA n := by
  unfold rkA at *
  unfold rkT
  by_cases c : n.det ≠ 0
  · rw [if_pos c] at h; omega
  · rw [if_neg c] at h h1 ⊢
    by_cases d : n.mz ≠ 0 ∨ n.my ≠ 0 ∨ n.mx ≠ 0
    · rw [if_pos d]
      rcases d with d | d | d
      · exact .inr (.inr (if_pos d))
      · exact .inr (.inl (if_pos d))
      · exact .inl (if_pos d)
    · rw [if_neg d] at h1 ⊢
      by_cases e : n.xx ≠ 0 ∨ n.yy ≠ 0 ∨ n.zz ≠ 0
      · rw [if_pos e]
        rw [if_neg (show ¬ n.mx ≠ 0 by omega), if_neg (show ¬ n.my ≠ 0 by omega), if_neg (show ¬ n.mz ≠ 0 by omega)]
        rcases e with e | e | e
        · exact .inr (.inr (if_pos (.inl e)))
        · exact .inr (.inr (if_pos (.inr e)))
        · exact .inl (if_pos (.inr e))
      · rw [if_neg e] at h1; omega
theorem SRight.take {l : List Ep} (h : SRight l) (j : Nat) (h1 : 1 ≤ j) (h2 : j ≤ l.length) : SRight (l.take j) := by
  have he : ∀ k, k < j → ep (l.take j) k = ep l k := fun k hk => by
    unfold ep
    rw [List.getD_eq_getElem?_getD, List.getD_eq_getElem?_getD, List.getElem?_take_of_lt hk]
  have hl : (l.take j).length = j := by rw [List.length_take]; omega
  refine ⟨by omega, by have := h.n20; omega, fun k hk => ?_⟩
  rw [hl] at hk
  have := h.ok k (by omega)
  unfold epE at *
  rw [he k hk, he 0 (by omega)]
  by_cases hk0 : 0 < k
  · rw [he (k - 1) (by omega)]; exact this
  · obtain rfl : k = 0 := by omega
    simp only [Nat.lt_irrefl, false_and, if_false] at this ⊢
    exact this
end Go.Sr
section
namespace Go.Proofs.YthgbincoppnpgaaDoor
open Go.ChangeShapes Go.WideShapes Go.ChangeAt Go Go.RowKit Go.Ab Go.Sr
set_option maxRecDepth 100000
set_option maxHeartbeats 4000000
theorem flatE_pre (l : List Ep) (j i : Nat) (v : Value) (h : (flatE (l.take j))[i]? = some v) : (flatE l)[i]? = some v := by
  have e : flatE l = flatE (l.take j) ++ flatE (l.drop j) := by
    unfold flatE
    rw [← List.flatMap_append, List.take_append_drop]
  rw [e, List.getElem?_append_left (List.getElem?_eq_some_iff.1 h).1]
  exact h
theorem RankOf_p {m : Mem} {b n : Nat} {blk : Blk} {l : List Ep} {nm : ByteArray} (hn : nm.size ≤ 1000) (hR : SRight l) (hN : nameB nm.data.toList = true) (rk r0 r1 r2 : Int) (L : List Int) (hrk : rkA (sxN (NM l)) = rk) (hr0 : rkT (NM l).yy (NM l).zz (sxN (NM l)).mx = r0) (hr1 : rkT (NM l).zz (NM l).xx (sxN (NM l)).my = r1) (hr2 : rkT (NM l).xx (NM l).yy (sxN (NM l)).mz = r2)
    (hL : D8 (r0 = rk) (r1 = rk) (r2 = rk) L) (hb : m.at b = some blk) (hc : ∀ (j : Nat) (v : Value), (flatE l)[j]? = some v → blk.cells[j]? = some v) (hln : l.length = n) (hg : m.at 1 = some glB) :
    ACallsK (AtG 1 0) Tryd.prog 9 [srI nm b n] m (.tuple #[.int .i64 rk, inV m.length L, .int .i64 0]) (m ++ [inB L]) := by
  subst hln
  refine ACallsK.viaN (m0 := [some ⟨flatE l, false, blk.esz⟩, some glB]) (x := inB L) (fun i => if i = 0 then b else 1) (AtG.via (n0 := 2) (by decide) rfl) (RankOf_y hn hR hN blk.esz rk r0 r1 r2 L hrk hr0 hr1 hr2 hL) (fun x bk hx => ?_) (fun x hx => ?_) (inB_scal L) rfl rfl ?_ ?_
  · have := Mem.at_lt hx
    match x, this with
    | 0, _ =>
      cases hx
      exact ⟨rfl, ok1_of_scal (flatE_scal l), blk, hb, rfl, fun j v hv => by rw [rn1_scal (List.all_eq_true.1 (flatE_scal l) v (List.mem_of_getElem? hv))]; exact hc j v hv⟩
    | 1, _ =>
      cases hx
      exact ⟨rfl, rfl, _, hg, rfl, fun j v hv => by rw [rn1_scal (List.all_eq_true.1 (show glB.cells.all Ab.scal = true from rfl) v (List.mem_of_getElem? hv))]; exact hv⟩
    | x + 2, h => exact absurd h (by simp)
  · match x, hx with
    | 0, _ => exact ⟨_, rfl⟩
    | 1, _ => exact ⟨_, rfl⟩
    | x + 2, h => exact absurd h (by simp)
  · show Value.tuple #[.int .i64 rk, rn2 _ (inV 2 L), .int .i64 0] = _
    rw [inV_rn2]
    simp [τn]
  · show (true && (ok2 3 (inV 2 L) && (true && true))) = true
    rw [inV_ok2 L (by decide)]
    rfl
theorem D8_nil {p0 p1 p2 : Prop} {L : List Int} (h : D8 p0 p1 p2 L) : L = [] ↔ ¬ p0 ∧ ¬ p1 ∧ ¬ p2 := by
  rcases h with ⟨h0, h1, h2, rfl⟩ | ⟨h0, h1, h2, rfl⟩ | ⟨h0, h1, h2, rfl⟩ | ⟨h0, h1, h2, rfl⟩ | ⟨h0, h1, h2, rfl⟩ | ⟨h0, h1, h2, rfl⟩ | ⟨h0, h1, h2, rfl⟩ | ⟨h0, h1, h2, rfl⟩ <;> simp [h0, h1, h2]
theorem rk_sx (l : List Ep) : rkF (rwT l l.length) (rwT l l.length).length = rkA (sxN (NM l)) := by
  have e : sx (rwT l l.length) = sxN (NM l) := by rw [← rws_w]; exact sx_nm (rws l)
  rw [rkF_sx, e]
theorem rw_0 (l : List Ep) (k : Nat) (h0 : 0 < k) (hk : k ≤ l.length) : gv (rwT l k) 0 ≠ (0, 0, 0) := by
  unfold gv rwT
  rw [List.getD_eq_getElem?_getD, List.getElem?_map, List.getElem?_take_of_lt h0, List.getElem?_eq_getElem (by omega)]
  simp
theorem rw_take (l : List Ep) (j : Nat) (h0 : 0 < j) (hj : j ≤ l.length) (x : Nat) (hx : x < j) : gv (rwT (l.take j) j) x = gv (rwT l l.length) x := by
  have e0 : ep (l.take j) 0 = ep l 0 := by
    unfold ep
    rw [List.getD_eq_getElem?_getD, List.getD_eq_getElem?_getD, List.getElem?_take_of_lt h0]
  unfold gv rwT
  rw [e0, List.getD_eq_getElem?_getD, List.getD_eq_getElem?_getD, List.getElem?_map, List.getElem?_map, List.getElem?_take_of_lt hx, List.getElem?_take_of_lt hx, List.getElem?_take_of_lt (by omega)]
/-- The first dates have no greater rank. -/
theorem rk_take (l : List Ep) (j : Nat) (h0 : 0 < j) (hj : j ≤ l.length) : rkA (sxN (NM (l.take j))) ≤ rkA (sxN (NM l)) := by
  have hl : (l.take j).length = j := by rw [List.length_take]; omega
  rw [← rk_sx, ← rk_sx, hl, rwT_len _ _ (by omega), rwT_len _ _ (Nat.le_refl _)]
  exact rkF_mono (rw_take l j h0 hj) hj
theorem rk_bd (l : List Ep) (h1 : 1 ≤ l.length) : 1 ≤ rkA (sxN (NM l)) ∧ rkA (sxN (NM l)) ≤ 3 := by
  rw [← rk_sx, rwT_len _ _ (Nat.le_refl _)]
  exact rkF_bd _ _ h1 (rw_0 l _ h1 (Nat.le_refl _))
theorem th_30 (a b c d : Int) : thE a b c d ≠ 30 := by
  unfold thE
  split <;> omega
theorem sl_30 (l : List Ep) : (slE (NM l) = 30 ∧ rkA (sxN (NM l)) < 3) ∨ (slE (NM l) ≠ 30 ∧ ¬ rkA (sxN (NM l)) < 3) := by
  have h := rk_det l
  rw [rk_sx] at h
  unfold slE
  by_cases hd : (NM l).det = 0
  · rw [if_pos hd]
    exact .inl ⟨rfl, h.2 hd⟩
  · rw [if_neg hd]
    exact .inr ⟨th_30 _ _ _ _, fun h' => hd (h.1 h')⟩
theorem sl_frm (N : Nm) : ∃ a b c d e f : Int, slV N = .agg #[.int .i64 a, .int .i64 b, .int .i64 c, .int .i64 d, .int .i64 e, .int .i64 f] := by
  unfold slV thV
  split
  · exact ⟨0, 0, 0, 0, 0, 0, rfl⟩
  · split
    · exact ⟨_, _, _, _, _, _, rfl⟩
    · exact ⟨0, 0, 0, 0, 0, 0, rfl⟩
theorem Within_r (n lo hi : Int) (h : lo ≤ n ∧ n ≤ hi) (m : Mem) : PCalls Tryd.prog 17 [.int .i64 n, .int .i64 lo, .int .i64 hi] m (.bool true) := by
  refine PCalls.any ?_ rfl rfl m
  refine PCalls.enter (t := [.int .i64 n, .int .i64 lo, .int .i64 hi, undef, undef, undef, undef, undef, undef, undef, undef, undef, undef, undef, undef]) Tryd.func17 rfl (ro_nil) rfl fun E => ?_
  repeat' (first
    | with_reducible refine Then.n ?_
    | with_reducible refine Then.r ?_
    | with_reducible refine Then.x ?_
    | with_reducible refine InB.n ?_
    | with_reducible refine InB.r ?_
    | with_reducible refine InB.hit ?_
    | with_reducible refine InB.miss (by decide) ?_
    | ((with_reducible refine AL.on ?_); first
      | (refine AL.gd rfl ?_; first | (refine AL.gskip rfl rfl ?_; (conv => (arg 5; try tactic => exact nrm))) | (refine AL.gs1 rfl rfl (fun hc => ?_) (fun hc => ?_) <;> (try simp only [decide_eq_true_eq, decide_eq_false_iff_not, Bool.not_true, Bool.not_false, Bool.not_eq_true', Bool.not_eq_false', Int.not_lt, Int.not_le, Classical.not_not, ne_eq] at hc) <;> first | (exfalso; first | contradiction | (omega); done) | (conv => (arg 5; try tactic => exact nrm))) | (refine AL.gs0 rfl rfl (fun hc => ?_) (fun hc => ?_) <;> (try simp only [decide_eq_true_eq, decide_eq_false_iff_not, Bool.not_true, Bool.not_false, Bool.not_eq_true', Bool.not_eq_false', Int.not_lt, Int.not_le, Classical.not_not, ne_eq] at hc) <;> first | (exfalso; first | contradiction | (omega); done) | (conv => (arg 5; try tactic => exact nrm))))
      | ((first | ((with_reducible refine AL.k_move ?_); first | (refine AL.q rfl (OQ.move (by conv => lhs; whnf)) ?_)) | ((with_reducible refine AL.k_assign ?_); first | (refine AL.q rfl (OQ.assign (by conv => lhs; whnf)) ?_)) | ((with_reducible refine AL.k_binOp ?_); first | refine AL.q rfl (OQ.leq rfl rfl) ?_) | ((with_reducible refine AL.k_pick ?_); first | (refine AL.q rfl (OQ.pickT rfl (by with_reducible rfl) (by conv => lhs; whnf)) ?_) | (refine AL.q rfl (OQ.pickF rfl (by with_reducible rfl) (by conv => lhs; whnf)) ?_))); (conv => (arg 5; try tactic => exact nrm)))
      | (refine AL.bs rfl (fun hc => ?_) (fun hc => ?_) <;> (fail_if_success (with_reducible exact lit_no hc)) <;> (try simp only [decide_eq_true_eq, decide_eq_false_iff_not, Bool.not_true, Bool.not_false, Bool.not_eq_true', Bool.not_eq_false', Int.not_lt, Int.not_le, Classical.not_not, ne_eq] at hc) <;> first | (exfalso; first | contradiction | (omega); done) | (conv => (arg 5; try tactic => exact nrm)))
      | refine AL.nil ?_)
    | ((with_reducible refine AW.on ?_); first
      | refine AW.seq ?_
      | refine AW.skip ?_
      | refine AW.exit ?_
      | refine AW.ret ?_
      | refine AW.block ?_
      | refine AW.region ?_
      | (refine AW.conds rfl (fun hc => ?_) (fun hc => ?_) <;> (try simp only [decide_eq_true_eq, decide_eq_false_iff_not, Bool.not_true, Bool.not_false, Bool.not_eq_true', Bool.not_eq_false', Int.not_lt, Int.not_le, Classical.not_not, ne_eq] at hc) <;> first | (exfalso; first | contradiction | (omega); done) | skip))
    | ((with_reducible refine FinP.on ?_); (first | refine FinP.ret (.tmp (by conv => lhs; whnf) .nil) ?_ rfl | refine FinP.end (.tmp (by conv => lhs; whnf) .nil) ?_ rfl); (try simp only [pack, List.drop, List.take]); all_goals ((first | rfl | (simp; omega)))))
section
attribute [local irreducible] OQ OW AL AW AD AF SW inV inB
theorem SkL_n {v : Value} {m0 : Mem} {l : List Ep} (nm : ByteArray) (x : Int) (h : Sh l v m0) (hn : (nm.size : Int) ≤ 9223372036854775807) (hl : (l.length : Int) ≤ 9223372036854775807) (hf : fewS nm.size l.length = false) : PCalls Tryd.prog 4 [srV nm v, .int .i64 x] m0 (.bool true) := by
  have HA := awake_q
  have HF := fun (m : Mem) (v : Value) (hS : SlE m v l) => few_q nm hS hn hl
  rw [hf] at HF
  have hro := h.ro
  rcases h with ⟨rfl, rfl, h3⟩ | ⟨rfl, rfl, h3⟩ | ⟨z0, rfl, rfl⟩
  all_goals
    refine PCalls.enter (t := [srV nm _, .int .i64 x, undef, undef, undef, undef, undef, undef, undef, undef, undef, undef, undef, undef, undef, undef, undef, undef, undef, undef, undef, undef, undef, undef, undef, undef, undef, undef, undef, undef, undef, undef, undef, undef, undef, undef, undef, undef, undef, undef, undef, undef, undef, undef, undef, undef, undef, undef, undef, undef, undef, undef, undef, undef, undef, undef, undef, undef, undef, undef, undef, undef, undef, undef, undef, undef, undef, undef, undef, undef, undef, undef, undef, undef, undef, undef, undef, undef, undef, undef, undef, undef, undef, undef, undef]) Tryd.func4 rfl (hro) rfl fun E => ?_
    repeat' (first
      | with_reducible refine Then.n ?_
      | with_reducible refine Then.r ?_
      | with_reducible refine Then.x ?_
      | with_reducible refine InB.n ?_
      | with_reducible refine InB.r ?_
      | with_reducible refine InB.hit ?_
      | with_reducible refine InB.miss (by decide) ?_
      | ((with_reducible refine AL.on ?_); first
        | (refine AL.gd rfl ?_; first | (refine AL.gskip rfl rfl ?_; (conv => (arg 5; try tactic => exact nrm))) | (refine AL.gs1 rfl rfl (fun hc => ?_) (fun hc => ?_) <;> (try simp only [decide_eq_true_eq, decide_eq_false_iff_not, Bool.not_true, Bool.not_false, Bool.not_eq_true', Bool.not_eq_false', Int.not_lt, Int.not_le, Classical.not_not, ne_eq] at hc) <;> first | (exfalso; first | contradiction | (first | omega | (simp at *; done)); done) | (conv => (arg 5; try tactic => exact nrm))) | (refine AL.gs0 rfl rfl (fun hc => ?_) (fun hc => ?_) <;> (try simp only [decide_eq_true_eq, decide_eq_false_iff_not, Bool.not_true, Bool.not_false, Bool.not_eq_true', Bool.not_eq_false', Int.not_lt, Int.not_le, Classical.not_not, ne_eq] at hc) <;> first | (exfalso; first | contradiction | (first | omega | (simp at *; done)); done) | (conv => (arg 5; try tactic => exact nrm))))
        | ((first | ((with_reducible refine AL.k_move ?_); first | (refine AL.q rfl (OQ.move (by conv => lhs; whnf)) ?_)) | ((with_reducible refine AL.k_call ?_); first | refine AL.q rfl (OQ.lenS (xt := 33) (r := (none, 1, false)) rfl (by kernel_rfl)) ?_) | ((with_reducible refine AL.k_assign ?_); first | (refine AL.q rfl (OQ.assign (by conv => lhs; whnf)) ?_)) | ((with_reducible refine AL.k_binOp ?_); first | refine AL.q rfl (OQ.neq rfl rfl) ?_ | refine AL.q rfl (OQ.eql rfl rfl) ?_ | refine AL.q rfl (OQ.leq rfl rfl) ?_ | refine AL.q rfl (OQ.booleq rfl rfl Tryd.underlying4) ?_ | refine AL.q rfl (OQ.lss rfl rfl) ?_) | ((with_reducible refine AL.k_load ?_); first | refine AL.q rfl (OQ.loadN (ty := 24) (n := 2) rfl (by kernel_rfl) (by kernel_rfl) rfl) ?_) | ((with_reducible refine AL.k_extract ?_); first | refine AL.q rfl (OQ.extract rfl rfl) ?_) | ((with_reducible refine AL.k_pick ?_); first | (refine AL.q rfl (OQ.pickT rfl (by with_reducible rfl) (by conv => lhs; whnf)) ?_) | (refine AL.q rfl (OQ.pickF rfl (by with_reducible rfl) (by conv => lhs; whnf)) ?_)) | ((with_reducible refine AL.k_unOp ?_); first | refine AL.q rfl (OQ.not rfl) ?_)); (conv => (arg 5; try tactic => exact nrm)))
        | ((first | first | refine AL.pcall (g := 5) rfl (by kernel_rfl) rfl (HA _) ?_ | refine AL.pcall (g := 6) rfl (by kernel_rfl) rfl ((by first | exact HF _ _ (.blk 0 _ rfl rfl rfl) | exact HF _ _ (.nil h3 rfl) | exact HF _ _ (.lost h3 rfl))) ?_); (conv => (arg 5; try tactic => exact nrm)))
        | ((first | ((with_reducible refine AL.k_store ?_); first | (refine AL.w rfl (OW.store (ty := 24) (n := 2) rfl (by conv => lhs; whnf) rfl rfl (by kernel_rfl) rfl rfl (by decide) rfl (Nat.le_of_ble_eq_true rfl) (by intro r h; cases h)) ?_) | (refine AL.w rfl (OW.store (ty := 22) (n := 1) rfl (by conv => lhs; whnf) rfl rfl (by kernel_rfl) rfl rfl (by decide) rfl (Nat.le_of_ble_eq_true rfl) (by intro r h; cases h)) ?_) | (refine AL.w rfl (OW.store (ty := 46) (n := 6) rfl (by conv => lhs; whnf) rfl rfl (by kernel_rfl) rfl rfl (by decide) rfl (Nat.le_of_ble_eq_true rfl) (by intro r h; cases h)) ?_)) | ((with_reducible refine AL.k_alloc ?_); first | refine AL.w rfl (OW.alloc (ty := 24) (z := [.string ⟨#[]⟩, .slice none 0 0]) (by kernel_rfl) rfl) ?_ | refine AL.w rfl (OW.alloc (ty := 46) (z := [.int .i64 0, .int .i64 0, .int .i64 0, .int .i64 0, .int .i64 0, .int .i64 0]) (by kernel_rfl) rfl) ?_) | ((with_reducible refine AL.k_box ?_); first | (refine AL.w rfl (OW.box (by conv => lhs; whnf) (by intro r h; cases h)) ?_))); (conv => (arg 5; try tactic => exact nrm)); (conv => (arg 6; try tactic => exact nrm)))
        | (refine AL.bs rfl (fun hc => ?_) (fun hc => ?_) <;> (fail_if_success (with_reducible exact lit_no hc)) <;> (try simp only [decide_eq_true_eq, decide_eq_false_iff_not, Bool.not_true, Bool.not_false, Bool.not_eq_true', Bool.not_eq_false', Int.not_lt, Int.not_le, Classical.not_not, ne_eq] at hc) <;> first | (exfalso; first | contradiction | (first | omega | (simp at *; done)); done) | (conv => (arg 5; try tactic => exact nrm)))
        | refine AL.nil ?_)
      | ((with_reducible refine AW.on ?_); first
        | refine AW.seq ?_
        | refine AW.skip ?_
        | refine AW.exit ?_
        | refine AW.ret ?_
        | refine AW.block ?_
        | (refine AW.draw (id := 7) 10 #[0, 1, 0, 0, 8, 24, 60, 124, 255, 511, 1023] (by kernel_rfl) (by kernel_rfl) ?_; (conv => (arg 8; simp only [List.take_succ_cons, List.take_zero])))
        | (refine AW.region (id := 2) ?_; exfalso; first | omega | (simp at *; done); done)
        | (refine AW.region (id := 5) ?_; exfalso; first | omega | (simp at *; done); done)
        | refine AW.region ?_
        | (refine AW.conds rfl (fun hc => ?_) (fun hc => ?_) <;> (try simp only [decide_eq_true_eq, decide_eq_false_iff_not, Bool.not_true, Bool.not_false, Bool.not_eq_true', Bool.not_eq_false', Int.not_lt, Int.not_le, Classical.not_not, ne_eq] at hc) <;> first | (exfalso; first | contradiction | (first | omega | (simp at *; done)); done) | skip))
      | ((with_reducible refine AD.on ?_); first
        | ((first | ((with_reducible refine AD.k_move ?_); first | (refine AD.q rfl (OQ.move (by conv => lhs; whnf)) rfl rfl rfl ?_)) | ((with_reducible refine AD.k_call ?_); first | refine AD.q rfl (OQ.lenS (xt := 22) (r := (none, 4, true)) rfl (by kernel_rfl)) rfl rfl rfl ?_) | ((with_reducible refine AD.k_binOp ?_); first | refine AD.q rfl (OQ.addi rfl rfl (by omega)) rfl rfl rfl ?_ | refine AD.q rfl (OQ.add rfl rfl) rfl rfl rfl ?_) | ((with_reducible refine AD.k_load ?_); first | (refine AD.q rfl (OQ.load1 (ty := 22) rfl (by kernel_rfl) (by conv => lhs; whnf)) rfl rfl rfl ?_)) | ((with_reducible refine AD.k_fieldAddr ?_); first | refine AD.q rfl (OQ.fieldA (ty := 24) (i := 1) (n := 1) (off := 1) (g := false) rfl (by kernel_rfl) (by decide)) rfl rfl rfl ?_)); (conv => (arg 10; try tactic => exact nrm)))
        | (refine AD.nil ?_; (conv => (arg 4; simp only [List.drop_succ_cons, List.drop_zero, List.drop_nil])); (conv => (arg 5; try tactic => exact nrm)); (conv => (arg 6; try tactic => exact nrm))))
      | ((with_reducible refine FinP.on ?_); (first | refine FinP.ret (.tmp (by conv => lhs; whnf) .nil) ?_ rfl | refine FinP.end (.tmp (by conv => lhs; whnf) .nil) ?_ rfl); (try simp only [pack, List.drop, List.take]); all_goals (rfl)))
theorem SkL_e {v : Value} {m0 : Mem} {l : List Ep} (nm : ByteArray) (x : Int) (h : Sh l v m0) (hn : nm.size ≤ 1000) (hl : l.length ≤ 1000) (hf : fewS nm.size l.length = true) (c : Int) (hc : srE nm.data.toList l = c) (hc0 : c ≠ 0) : PCalls Tryd.prog 4 [srV nm v, .int .i64 x] m0 (.bool true) := by
  have HA := awake_q
  have HF := fun (m : Mem) (v : Value) (hS : SlE m v l) => few_q nm hS (by omega) (by omega)
  rw [hf] at HF
  have HC := fun (m : Mem) (v : Value) (hS : SlE m v l) => rCheckSeries_q nm hS hn hl
  rw [hc] at HC
  have hro := h.ro
  rcases h with ⟨rfl, rfl, h3⟩ | ⟨rfl, rfl, h3⟩ | ⟨z0, rfl, rfl⟩
  all_goals
    refine PCalls.enter (t := [srV nm _, .int .i64 x, undef, undef, undef, undef, undef, undef, undef, undef, undef, undef, undef, undef, undef, undef, undef, undef, undef, undef, undef, undef, undef, undef, undef, undef, undef, undef, undef, undef, undef, undef, undef, undef, undef, undef, undef, undef, undef, undef, undef, undef, undef, undef, undef, undef, undef, undef, undef, undef, undef, undef, undef, undef, undef, undef, undef, undef, undef, undef, undef, undef, undef, undef, undef, undef, undef, undef, undef, undef, undef, undef, undef, undef, undef, undef, undef, undef, undef, undef, undef, undef, undef, undef, undef]) Tryd.func4 rfl (hro) rfl fun E => ?_
    repeat' (first
      | with_reducible refine Then.n ?_
      | with_reducible refine Then.r ?_
      | with_reducible refine Then.x ?_
      | with_reducible refine InB.n ?_
      | with_reducible refine InB.r ?_
      | with_reducible refine InB.hit ?_
      | with_reducible refine InB.miss (by decide) ?_
      | ((with_reducible refine AL.on ?_); first
        | (refine AL.gd rfl ?_; first | (refine AL.gskip rfl rfl ?_; (conv => (arg 5; try tactic => exact nrm))) | (refine AL.gs1 rfl rfl (fun hc => ?_) (fun hc => ?_) <;> (try simp only [decide_eq_true_eq, decide_eq_false_iff_not, Bool.not_true, Bool.not_false, Bool.not_eq_true', Bool.not_eq_false', Int.not_lt, Int.not_le, Classical.not_not, ne_eq] at hc) <;> first | (exfalso; first | contradiction | (first | omega | (simp at *; done) | (simp_all; done)); done) | (conv => (arg 5; try tactic => exact nrm))) | (refine AL.gs0 rfl rfl (fun hc => ?_) (fun hc => ?_) <;> (try simp only [decide_eq_true_eq, decide_eq_false_iff_not, Bool.not_true, Bool.not_false, Bool.not_eq_true', Bool.not_eq_false', Int.not_lt, Int.not_le, Classical.not_not, ne_eq] at hc) <;> first | (exfalso; first | contradiction | (first | omega | (simp at *; done) | (simp_all; done)); done) | (conv => (arg 5; try tactic => exact nrm))))
        | ((first | ((with_reducible refine AL.k_move ?_); first | (refine AL.q rfl (OQ.move (by conv => lhs; whnf)) ?_)) | ((with_reducible refine AL.k_call ?_); first | refine AL.q rfl (OQ.lenS (xt := 33) (r := (none, 1, false)) rfl (by kernel_rfl)) ?_) | ((with_reducible refine AL.k_assign ?_); first | (refine AL.q rfl (OQ.assign (by conv => lhs; whnf)) ?_)) | ((with_reducible refine AL.k_binOp ?_); first | refine AL.q rfl (OQ.neq rfl rfl) ?_ | refine AL.q rfl (OQ.eql rfl rfl) ?_ | refine AL.q rfl (OQ.leq rfl rfl) ?_ | refine AL.q rfl (OQ.booleq rfl rfl Tryd.underlying4) ?_ | refine AL.q rfl (OQ.lss rfl rfl) ?_) | ((with_reducible refine AL.k_load ?_); first | refine AL.q rfl (OQ.loadN (ty := 24) (n := 2) rfl (by kernel_rfl) (by kernel_rfl) rfl) ?_) | ((with_reducible refine AL.k_extract ?_); first | refine AL.q rfl (OQ.extract rfl rfl) ?_) | ((with_reducible refine AL.k_pick ?_); first | (refine AL.q rfl (OQ.pickT rfl (by with_reducible rfl) (by conv => lhs; whnf)) ?_) | (refine AL.q rfl (OQ.pickF rfl (by with_reducible rfl) (by conv => lhs; whnf)) ?_)) | ((with_reducible refine AL.k_unOp ?_); first | refine AL.q rfl (OQ.not rfl) ?_)); (conv => (arg 5; try tactic => exact nrm)))
        | ((first | first | refine AL.pcall (g := 5) rfl (by kernel_rfl) rfl (HA _) ?_ | refine AL.pcall (g := 6) rfl (by kernel_rfl) rfl ((by first | exact HF _ _ (.blk 0 _ rfl rfl rfl) | exact HF _ _ (.nil h3 rfl) | exact HF _ _ (.lost h3 rfl))) ?_ | refine AL.pcall (g := 10) rfl (by kernel_rfl) rfl ((by first | exact HC _ _ (.blk 0 _ rfl rfl rfl) | exact HC _ _ (.nil h3 rfl) | exact HC _ _ (.lost h3 rfl))) ?_); (conv => (arg 5; try tactic => exact nrm)))
        | ((first | ((with_reducible refine AL.k_store ?_); first | (refine AL.w rfl (OW.store (ty := 24) (n := 2) rfl (by conv => lhs; whnf) rfl rfl (by kernel_rfl) rfl rfl (by decide) rfl (Nat.le_of_ble_eq_true rfl) (by intro r h; cases h)) ?_) | (refine AL.w rfl (OW.store (ty := 22) (n := 1) rfl (by conv => lhs; whnf) rfl rfl (by kernel_rfl) rfl rfl (by decide) rfl (Nat.le_of_ble_eq_true rfl) (by intro r h; cases h)) ?_) | (refine AL.w rfl (OW.store (ty := 46) (n := 6) rfl (by conv => lhs; whnf) rfl rfl (by kernel_rfl) rfl rfl (by decide) rfl (Nat.le_of_ble_eq_true rfl) (by intro r h; cases h)) ?_)) | ((with_reducible refine AL.k_alloc ?_); first | refine AL.w rfl (OW.alloc (ty := 24) (z := [.string ⟨#[]⟩, .slice none 0 0]) (by kernel_rfl) rfl) ?_ | refine AL.w rfl (OW.alloc (ty := 46) (z := [.int .i64 0, .int .i64 0, .int .i64 0, .int .i64 0, .int .i64 0, .int .i64 0]) (by kernel_rfl) rfl) ?_) | ((with_reducible refine AL.k_box ?_); first | (refine AL.w rfl (OW.box (by conv => lhs; whnf) (by intro r h; cases h)) ?_))); (conv => (arg 5; try tactic => exact nrm)); (conv => (arg 6; try tactic => exact nrm)))
        | (refine AL.bs rfl (fun hc => ?_) (fun hc => ?_) <;> (fail_if_success (with_reducible exact lit_no hc)) <;> (try simp only [decide_eq_true_eq, decide_eq_false_iff_not, Bool.not_true, Bool.not_false, Bool.not_eq_true', Bool.not_eq_false', Int.not_lt, Int.not_le, Classical.not_not, ne_eq] at hc) <;> first | (exfalso; first | contradiction | (first | omega | (simp at *; done) | (simp_all; done)); done) | (conv => (arg 5; try tactic => exact nrm)))
        | refine AL.nil ?_)
      | ((with_reducible refine AW.on ?_); first
        | refine AW.seq ?_
        | refine AW.skip ?_
        | refine AW.exit ?_
        | refine AW.ret ?_
        | refine AW.block ?_
        | (refine AW.draw (id := 7) 10 #[0, 1, 0, 0, 8, 24, 60, 124, 255, 511, 1023] (by kernel_rfl) (by kernel_rfl) ?_; (conv => (arg 8; simp only [List.take_succ_cons, List.take_zero])))
        | (refine AW.region (id := 2) ?_; exfalso; first | omega | (simp at *; done) | (simp_all; done); done)
        | (refine AW.region (id := 5) ?_; exfalso; first | omega | (simp at *; done) | (simp_all; done); done)
        | refine AW.region ?_
        | (refine AW.conds rfl (fun hc => ?_) (fun hc => ?_) <;> (try simp only [decide_eq_true_eq, decide_eq_false_iff_not, Bool.not_true, Bool.not_false, Bool.not_eq_true', Bool.not_eq_false', Int.not_lt, Int.not_le, Classical.not_not, ne_eq] at hc) <;> first | (exfalso; first | contradiction | (first | omega | (simp at *; done) | (simp_all; done)); done) | skip))
      | ((with_reducible refine AD.on ?_); first
        | ((first | ((with_reducible refine AD.k_move ?_); first | (refine AD.q rfl (OQ.move (by conv => lhs; whnf)) rfl rfl rfl ?_)) | ((with_reducible refine AD.k_call ?_); first | refine AD.q rfl (OQ.lenS (xt := 22) (r := (none, 4, true)) rfl (by kernel_rfl)) rfl rfl rfl ?_) | ((with_reducible refine AD.k_binOp ?_); first | refine AD.q rfl (OQ.addi rfl rfl (by omega)) rfl rfl rfl ?_ | refine AD.q rfl (OQ.add rfl rfl) rfl rfl rfl ?_) | ((with_reducible refine AD.k_load ?_); first | (refine AD.q rfl (OQ.load1 (ty := 22) rfl (by kernel_rfl) (by conv => lhs; whnf)) rfl rfl rfl ?_)) | ((with_reducible refine AD.k_fieldAddr ?_); first | refine AD.q rfl (OQ.fieldA (ty := 24) (i := 1) (n := 1) (off := 1) (g := false) rfl (by kernel_rfl) (by decide)) rfl rfl rfl ?_)); (conv => (arg 10; try tactic => exact nrm)))
        | (refine AD.nil ?_; (conv => (arg 4; simp only [List.drop_succ_cons, List.drop_zero, List.drop_nil])); (conv => (arg 5; try tactic => exact nrm)); (conv => (arg 6; try tactic => exact nrm))))
      | ((with_reducible refine FinP.on ?_); (first | refine FinP.ret (.tmp (by conv => lhs; whnf) .nil) ?_ rfl | refine FinP.end (.tmp (by conv => lhs; whnf) .nil) ?_ rfl); (try simp only [pack, List.drop, List.take]); all_goals (rfl)))
theorem SkL_y {l : List Ep} (nm : ByteArray) (x : Int) (hn : nm.size ≤ 1000) (hl : l.length ≤ 1000) (hf : fewS nm.size l.length = true) (hR : SRight l) (hN : nameB nm.data.toList = true) (hc : srE nm.data.toList l = 0) : PCallsK (AtG 1 0) Tryd.prog 4 [srI nm 0 l.length, .int .i64 x] [some ⟨flatE l, false, 0⟩, some glB] (.bool true) := by
  have HA := awake_q
  have HF := fun (m : Mem) (v : Value) (hS : SlE m v l) => few_q nm hS (by omega) (by omega)
  rw [hf] at HF
  have HC := fun (m : Mem) (v : Value) (hS : SlE m v l) => rCheckSeries_q nm hS hn hl
  rw [hc] at HC
  have HY := fun (m : Mem) (v : Value) (hS : SlE m v l) => Copy_q nm hS hl
  have hn1 := hR.n1
  have hn20 := hR.n20
  have HM := Mod_q x l.length (by omega)
  have hm0 := Int.emod_nonneg x (by omega : (l.length : Int) ≠ 0)
  have hm1 := Int.emod_lt_of_pos x (by omega : (0 : Int) < l.length)
  obtain ⟨j, hj⟩ : ∃ j : Nat, 1 + x % (l.length : Int) = (j : Int) := ⟨(1 + x % (l.length : Int)).toNat, by omega⟩
  have hj1 : 1 ≤ j := by omega
  have hj2 : j ≤ l.length := by omega
  generalize x % (l.length : Int) = r at *
  have HS := fun (m : Mem) (b : Nat) (k : Blk) (hb : m.at b = some k) (hk : k.cells = flatE l) => Solve_q hn hR hN hb hk rfl
  obtain ⟨v0, v1, v2, v3, v4, v5, hv⟩ := sl_frm (NM l)
  rw [hv] at HS
  have h30 := sl_30 l
  have hbd := rk_bd l hn1
  have hle := rk_take l j (by omega) hj2
  have hlt : (l.take j).length = j := by rw [List.length_take]; omega
  obtain ⟨L, hL⟩ := D8_ex (rkT (NM l).yy (NM l).zz (sxN (NM l)).mx = rkA (sxN (NM l))) (rkT (NM l).zz (NM l).xx (sxN (NM l)).my = rkA (sxN (NM l))) (rkT (NM l).xx (NM l).yy (sxN (NM l)).mz = rkA (sxN (NM l)))
  obtain ⟨L', hL'⟩ := D8_ex (rkT (NM (l.take j)).yy (NM (l.take j)).zz (sxN (NM (l.take j))).mx = rkA (sxN (NM (l.take j)))) (rkT (NM (l.take j)).zz (NM (l.take j)).xx (sxN (NM (l.take j))).my = rkA (sxN (NM (l.take j)))) (rkT (NM (l.take j)).xx (NM (l.take j)).yy (sxN (NM (l.take j))).mz = rkA (sxN (NM (l.take j))))
  have H3 := fun (m : Mem) (b : Nat) (k : Blk) (hb : m.at b = some k) (hk : k.cells = flatE l) (hg : m.at 1 = some glB) => RankOf_k hn hR hN _ _ _ _ L rfl rfl rfl rfl hL hb hk rfl hg
  have H4 := fun (m : Mem) (b : Nat) (k : Blk) (hb : m.at b = some k) (hk : k.cells = flatE l) (hg : m.at 1 = some glB) => RankOf_p hn (hR.take j hj1 hj2) hN _ _ _ _ L' rfl rfl rfl rfl hL' hb (fun i v hv => by rw [hk]; exact flatE_pre l j i v hv) hlt hg
  have HW := Within_r (rkA (sxN (NM l))) 1 3 hbd
  have hnil : L = [] ↔ rkA (sxN (NM l)) = 3 := by
    rw [D8_nil hL]
    have t0 := rkT_2 (NM l).yy (NM l).zz (sxN (NM l)).mx
    have t1 := rkT_2 (NM l).zz (NM l).xx (sxN (NM l)).my
    have t2 := rkT_2 (NM l).xx (NM l).yy (sxN (NM l)).mz
    constructor
    · rintro ⟨a0, a1, a2⟩
      apply Classical.byContradiction
      intro h3
      rcases some_open (sxN (NM l)) (by omega) hbd.1 with h | h | h
      · exact a0 h
      · exact a1 h
      · exact a2 h
    · intro h3
      rw [h3]
      exact ⟨by omega, by omega, by omega⟩
  clear hL hL' hv
  generalize rkA (sxN (NM (l.take j))) = rm at *
  generalize rkA (sxN (NM l)) = rk at *
  generalize slE (NM l) = es at *
  generalize NM l = N at *
  cases L with
  | nil =>
    have hk3 : rk = 3 := hnil.1 rfl
    subst hk3
    have hes : es ≠ 30 := by omega
    clear h30 hnil hbd
    simp only [inV_n, inB_n] at H3
    refine PCallsK.enterJ (t := [srI nm 0 l.length, .int .i64 x, undef, undef, undef, undef, undef, undef, undef, undef, undef, undef, undef, undef, undef, undef, undef, undef, undef, undef, undef, undef, undef, undef, undef, undef, undef, undef, undef, undef, undef, undef, undef, undef, undef, undef, undef, undef, undef, undef, undef, undef, undef, undef, undef, undef, undef, undef, undef, undef, undef, undef, undef, undef, undef, undef, undef, undef, undef, undef, undef, undef, undef, undef, undef, undef, undef, undef, undef, undef, undef, undef, undef, undef, undef, undef, undef, undef, undef, undef, undef, undef, undef, undef, undef]) Tryd.func4 rfl (ro2 _ _ rfl rfl) rfl fun E hE hG => ?_
    repeat' (first
      | with_reducible refine Then.n ?_
      | with_reducible refine Then.r ?_
      | with_reducible refine Then.x ?_
      | with_reducible refine InB.n ?_
      | with_reducible refine InB.r ?_
      | with_reducible refine InB.hit ?_
      | with_reducible refine InB.miss (by decide) ?_
      | ((with_reducible refine AL.on ?_); first
        | (refine AL.gd rfl ?_; first | (refine AL.gskip rfl rfl ?_; (conv => (arg 5; try tactic => exact nrm))) | (refine AL.gs1 rfl rfl (fun hc => ?_) (fun hc => ?_) <;> (try simp only [decide_eq_true_eq, decide_eq_false_iff_not, Bool.not_true, Bool.not_false, Bool.not_eq_true', Bool.not_eq_false', Int.not_lt, Int.not_le, Classical.not_not, ne_eq] at hc) <;> first | (exfalso; first | contradiction | (first | omega | (simp at *; done) | (simp_all; done)); done) | (conv => (arg 5; try tactic => exact nrm))) | (refine AL.gs0 rfl rfl (fun hc => ?_) (fun hc => ?_) <;> (try simp only [decide_eq_true_eq, decide_eq_false_iff_not, Bool.not_true, Bool.not_false, Bool.not_eq_true', Bool.not_eq_false', Int.not_lt, Int.not_le, Classical.not_not, ne_eq] at hc) <;> first | (exfalso; first | contradiction | (first | omega | (simp at *; done) | (simp_all; done)); done) | (conv => (arg 5; try tactic => exact nrm))))
        | ((first | ((with_reducible refine AL.k_move ?_); first | (refine AL.q rfl (OQ.move (by conv => lhs; whnf)) ?_)) | ((with_reducible refine AL.k_call ?_); first | refine AL.q rfl (OQ.lenS (xt := 33) (r := (none, 1, false)) rfl (by kernel_rfl)) ?_) | ((with_reducible refine AL.k_assign ?_); first | (refine AL.q rfl (OQ.assign (by conv => lhs; whnf)) ?_)) | ((with_reducible refine AL.k_binOp ?_); first | refine AL.q rfl (OQ.neq rfl rfl) ?_ | refine AL.q rfl (OQ.eql rfl rfl) ?_ | refine AL.q rfl (OQ.leq rfl rfl) ?_ | refine AL.q rfl (OQ.booleq rfl rfl Tryd.underlying4) ?_ | refine AL.q rfl (OQ.lss rfl rfl) ?_) | ((with_reducible refine AL.k_load ?_); first | refine AL.q rfl (OQ.loadN (ty := 24) (n := 2) rfl (by kernel_rfl) (by kernel_rfl) rfl) ?_) | ((with_reducible refine AL.k_extract ?_); first | refine AL.q rfl (OQ.extract rfl rfl) ?_) | ((with_reducible refine AL.k_pick ?_); first | (refine AL.q rfl (OQ.pickT rfl (by with_reducible rfl) (by conv => lhs; whnf)) ?_) | (refine AL.q rfl (OQ.pickF rfl (by with_reducible rfl) (by conv => lhs; whnf)) ?_)) | ((with_reducible refine AL.k_unOp ?_); first | refine AL.q rfl (OQ.not rfl) ?_)); (conv => (arg 5; try tactic => exact nrm)))
        | ((first | first | refine AL.pcall (g := 5) rfl (by kernel_rfl) rfl (HA _) ?_ | refine AL.pcall (g := 6) rfl (by kernel_rfl) rfl (HF _ _ (.blk 0 _ rfl rfl rfl)) ?_ | refine AL.pcall (g := 10) rfl (by kernel_rfl) rfl (HC _ _ (.blk 0 _ rfl rfl rfl)) ?_ | refine AL.pcall (g := 16) rfl (by kernel_rfl) rfl (HS _ _ _ rfl rfl) ?_ | refine AL.pcall (g := 17) rfl (by kernel_rfl) rfl (HW _) ?_); (conv => (arg 5; try tactic => exact nrm)))
        | ((first | ((with_reducible refine AL.k_call ?_); first | refine AL.acall (g := 8) rfl (by kernel_rfl) rfl ((HY _ _ (.blk 0 _ rfl rfl rfl))) ?_ | refine AL.acallK hG (g := 9) rfl (by kernel_rfl) rfl ((by first | exact H3 _ _ _ rfl rfl rfl | exact H4 _ _ _ rfl rfl rfl)) ?_) | ((with_reducible refine AL.k_store ?_); first | (refine AL.w rfl (OW.store (ty := 24) (n := 2) rfl (by conv => lhs; whnf) rfl rfl (by kernel_rfl) rfl rfl (by decide) rfl (Nat.le_of_ble_eq_true rfl) (by intro r h; cases h)) ?_) | (refine AL.w rfl (OW.store (ty := 22) (n := 1) rfl (by conv => lhs; whnf) rfl rfl (by kernel_rfl) rfl rfl (by decide) rfl (Nat.le_of_ble_eq_true rfl) (by intro r h; cases h)) ?_) | (refine AL.w rfl (OW.store (ty := 46) (n := 6) rfl (by conv => lhs; whnf) rfl rfl (by kernel_rfl) rfl rfl (by decide) rfl (Nat.le_of_ble_eq_true rfl) (by intro r h; cases h)) ?_)) | ((with_reducible refine AL.k_alloc ?_); first | refine AL.w rfl (OW.alloc (ty := 24) (z := [.string ⟨#[]⟩, .slice none 0 0]) (by kernel_rfl) rfl) ?_ | refine AL.w rfl (OW.alloc (ty := 46) (z := [.int .i64 0, .int .i64 0, .int .i64 0, .int .i64 0, .int .i64 0, .int .i64 0]) (by kernel_rfl) rfl) ?_) | ((with_reducible refine AL.k_box ?_); first | (refine AL.w rfl (OW.box (by conv => lhs; whnf) (by intro r h; cases h)) ?_))); (conv => (arg 5; try tactic => exact nrm)); (conv => (arg 6; try tactic => exact nrm)))
        | (refine AL.bs rfl (fun hc => ?_) (fun hc => ?_) <;> (fail_if_success (with_reducible exact lit_no hc)) <;> (try simp only [decide_eq_true_eq, decide_eq_false_iff_not, Bool.not_true, Bool.not_false, Bool.not_eq_true', Bool.not_eq_false', Int.not_lt, Int.not_le, Classical.not_not, ne_eq] at hc) <;> first | (exfalso; first | contradiction | (first | omega | (simp at *; done) | (simp_all; done)); done) | (conv => (arg 5; try tactic => exact nrm)))
        | refine AL.nil ?_)
      | ((with_reducible refine AW.on ?_); first
        | refine AW.seq ?_
        | refine AW.skip ?_
        | refine AW.exit ?_
        | refine AW.ret ?_
        | refine AW.block ?_
        | (refine AW.draw (id := 7) 10 #[0, 1, 0, 0, 8, 24, 60, 124, 255, 511, 1023] (by kernel_rfl) (by kernel_rfl) ?_; (conv => (arg 8; simp only [List.take_succ_cons, List.take_zero])))
        | (refine AW.region (id := 2) ?_; exfalso; first | omega | (simp at *; done) | (simp_all; done); done)
        | (refine AW.region (id := 4) ?_; exfalso; first | omega | (simp at *; done) | (simp_all; done); done)
        | refine AW.region ?_
        | (refine AW.conds rfl (fun hc => ?_) (fun hc => ?_) <;> (try simp only [decide_eq_true_eq, decide_eq_false_iff_not, Bool.not_true, Bool.not_false, Bool.not_eq_true', Bool.not_eq_false', Int.not_lt, Int.not_le, Classical.not_not, ne_eq] at hc) <;> first | (exfalso; first | contradiction | (first | omega | (simp at *; done) | (simp_all; done)); done) | skip))
      | ((with_reducible refine AD.on ?_); first
        | ((first | ((with_reducible refine AD.k_move ?_); first | (refine AD.q rfl (OQ.move (by conv => lhs; whnf)) rfl rfl rfl ?_)) | ((with_reducible refine AD.k_call ?_); first | refine AD.q rfl (OQ.lenS (xt := 22) (r := (none, 4, true)) rfl (by kernel_rfl)) rfl rfl rfl ?_) | ((with_reducible refine AD.k_binOp ?_); first | refine AD.q rfl (OQ.addi rfl rfl (by omega)) rfl rfl rfl ?_ | refine AD.q rfl (OQ.add rfl rfl) rfl rfl rfl ?_) | ((with_reducible refine AD.k_load ?_); first | (refine AD.q rfl (OQ.load1 (ty := 22) rfl (by kernel_rfl) (by conv => lhs; whnf)) rfl rfl rfl ?_)) | ((with_reducible refine AD.k_fieldAddr ?_); first | refine AD.q rfl (OQ.fieldA (ty := 24) (i := 1) (n := 1) (off := 1) (g := false) rfl (by kernel_rfl) (by decide)) rfl rfl rfl ?_) | refine AD.q rfl (OQ.sliceTo2 (ty := 22) (k := j) (z := 4) (g := true) rfl (by kernel_rfl) rfl (.inr rfl) rfl rfl hj hj2) rfl rfl rfl ?_); (conv => (arg 10; try tactic => exact nrm)))
        | ((first | first | refine AD.pcall (g := 15) rfl (by kernel_rfl) rfl (HM _) rfl rfl ?_); (conv => (arg 10; try tactic => exact nrm)))
        | (refine AD.nil ?_; (conv => (arg 4; simp only [List.drop_succ_cons, List.drop_zero, List.drop_nil])); (conv => (arg 5; try tactic => exact nrm)); (conv => (arg 6; try tactic => exact nrm))))
      | ((with_reducible refine FinJ.on ?_); ((first | refine FinJ.ret (.tmp (by conv => lhs; whnf) .nil) ?_ | refine FinJ.end (.tmp (by conv => lhs; whnf) .nil) ?_); (refine (fun hh => hh ▸ jle_flat rfl : ∀ {b : Bool}, b = true → jle (.bool true) (pack [.bool b])) ?_); first | rfl | (simp; done) | (simp [hes]; done))))
  | cons a L =>
    have hk3 : rk ≠ 3 := fun h => by have := hnil.2 h; cases this
    have hes : es = 30 := by omega
    subst hes
    have hk4 : rk < 3 := by omega
    clear h30 hnil
    simp only [inV_c, inB_c] at H3
    refine PCallsK.enterJ (t := [srI nm 0 l.length, .int .i64 x, undef, undef, undef, undef, undef, undef, undef, undef, undef, undef, undef, undef, undef, undef, undef, undef, undef, undef, undef, undef, undef, undef, undef, undef, undef, undef, undef, undef, undef, undef, undef, undef, undef, undef, undef, undef, undef, undef, undef, undef, undef, undef, undef, undef, undef, undef, undef, undef, undef, undef, undef, undef, undef, undef, undef, undef, undef, undef, undef, undef, undef, undef, undef, undef, undef, undef, undef, undef, undef, undef, undef, undef, undef, undef, undef, undef, undef, undef, undef, undef, undef, undef, undef]) Tryd.func4 rfl (ro2 _ _ rfl rfl) rfl fun E hE hG => ?_
    repeat' (first
      | with_reducible refine Then.n ?_
      | with_reducible refine Then.r ?_
      | with_reducible refine Then.x ?_
      | with_reducible refine InB.n ?_
      | with_reducible refine InB.r ?_
      | with_reducible refine InB.hit ?_
      | with_reducible refine InB.miss (by decide) ?_
      | ((with_reducible refine AL.on ?_); first
        | (refine AL.gd rfl ?_; first | (refine AL.gskip rfl rfl ?_; (conv => (arg 5; try tactic => exact nrm))) | (refine AL.gs1 rfl rfl (fun hc => ?_) (fun hc => ?_) <;> (try simp only [decide_eq_true_eq, decide_eq_false_iff_not, Bool.not_true, Bool.not_false, Bool.not_eq_true', Bool.not_eq_false', Int.not_lt, Int.not_le, Classical.not_not, ne_eq] at hc) <;> first | (exfalso; first | contradiction | (first | omega | (have hq := hc; simp [hk3] at hq; done) | (have hq := hc; simp [hk3] at hq; omega)); done) | (conv => (arg 5; try tactic => exact nrm))) | (refine AL.gs0 rfl rfl (fun hc => ?_) (fun hc => ?_) <;> (try simp only [decide_eq_true_eq, decide_eq_false_iff_not, Bool.not_true, Bool.not_false, Bool.not_eq_true', Bool.not_eq_false', Int.not_lt, Int.not_le, Classical.not_not, ne_eq] at hc) <;> first | (exfalso; first | contradiction | (first | omega | (have hq := hc; simp [hk3] at hq; done) | (have hq := hc; simp [hk3] at hq; omega)); done) | (conv => (arg 5; try tactic => exact nrm))))
        | ((first | ((with_reducible refine AL.k_move ?_); first | (refine AL.q rfl (OQ.move (by conv => lhs; whnf)) ?_)) | ((with_reducible refine AL.k_call ?_); first | refine AL.q rfl (OQ.lenS (xt := 33) (r := (none, 1, false)) rfl (by kernel_rfl)) ?_) | ((with_reducible refine AL.k_assign ?_); first | (refine AL.q rfl (OQ.assign (by conv => lhs; whnf)) ?_)) | ((with_reducible refine AL.k_binOp ?_); first | refine AL.q rfl (OQ.neq rfl rfl) ?_ | refine AL.q rfl (OQ.eql rfl rfl) ?_ | refine AL.q rfl (OQ.leq rfl rfl) ?_ | refine AL.q rfl (OQ.booleq rfl rfl Tryd.underlying4) ?_ | refine AL.q rfl (OQ.lss rfl rfl) ?_) | ((with_reducible refine AL.k_load ?_); first | refine AL.q rfl (OQ.loadN (ty := 24) (n := 2) rfl (by kernel_rfl) (by kernel_rfl) rfl) ?_) | ((with_reducible refine AL.k_extract ?_); first | refine AL.q rfl (OQ.extract rfl rfl) ?_) | ((with_reducible refine AL.k_pick ?_); first | (refine AL.q rfl (OQ.pickT rfl (by with_reducible rfl) (by conv => lhs; whnf)) ?_) | (refine AL.q rfl (OQ.pickF rfl (by with_reducible rfl) (by conv => lhs; whnf)) ?_)) | ((with_reducible refine AL.k_unOp ?_); first | refine AL.q rfl (OQ.not rfl) ?_)); (conv => (arg 5; try tactic => exact nrm)))
        | ((first | first | refine AL.pcall (g := 5) rfl (by kernel_rfl) rfl (HA _) ?_ | refine AL.pcall (g := 6) rfl (by kernel_rfl) rfl (HF _ _ (.blk 0 _ rfl rfl rfl)) ?_ | refine AL.pcall (g := 10) rfl (by kernel_rfl) rfl (HC _ _ (.blk 0 _ rfl rfl rfl)) ?_ | refine AL.pcall (g := 16) rfl (by kernel_rfl) rfl (HS _ _ _ rfl rfl) ?_ | refine AL.pcall (g := 17) rfl (by kernel_rfl) rfl (HW _) ?_); (conv => (arg 5; try tactic => exact nrm)))
        | ((first | ((with_reducible refine AL.k_call ?_); first | refine AL.acall (g := 8) rfl (by kernel_rfl) rfl ((HY _ _ (.blk 0 _ rfl rfl rfl))) ?_ | refine AL.acallK hG (g := 9) rfl (by kernel_rfl) rfl ((by first | exact H3 _ _ _ rfl rfl rfl | exact H4 _ _ _ rfl rfl rfl)) ?_) | ((with_reducible refine AL.k_store ?_); first | (refine AL.w rfl (OW.store (ty := 24) (n := 2) rfl (by conv => lhs; whnf) rfl rfl (by kernel_rfl) rfl rfl (by decide) rfl (Nat.le_of_ble_eq_true rfl) (by intro r h; cases h)) ?_) | (refine AL.w rfl (OW.store (ty := 22) (n := 1) rfl (by conv => lhs; whnf) rfl rfl (by kernel_rfl) rfl rfl (by decide) rfl (Nat.le_of_ble_eq_true rfl) (by intro r h; cases h)) ?_) | (refine AL.w rfl (OW.store (ty := 46) (n := 6) rfl (by conv => lhs; whnf) rfl rfl (by kernel_rfl) rfl rfl (by decide) rfl (Nat.le_of_ble_eq_true rfl) (by intro r h; cases h)) ?_)) | ((with_reducible refine AL.k_alloc ?_); first | refine AL.w rfl (OW.alloc (ty := 24) (z := [.string ⟨#[]⟩, .slice none 0 0]) (by kernel_rfl) rfl) ?_ | refine AL.w rfl (OW.alloc (ty := 46) (z := [.int .i64 0, .int .i64 0, .int .i64 0, .int .i64 0, .int .i64 0, .int .i64 0]) (by kernel_rfl) rfl) ?_) | ((with_reducible refine AL.k_box ?_); first | (refine AL.w rfl (OW.box (by conv => lhs; whnf) (by intro r h; cases h)) ?_))); (conv => (arg 5; try tactic => exact nrm)); (conv => (arg 6; try tactic => exact nrm)))
        | (refine AL.bs rfl (fun hc => ?_) (fun hc => ?_) <;> (fail_if_success (with_reducible exact lit_no hc)) <;> (try simp only [decide_eq_true_eq, decide_eq_false_iff_not, Bool.not_true, Bool.not_false, Bool.not_eq_true', Bool.not_eq_false', Int.not_lt, Int.not_le, Classical.not_not, ne_eq] at hc) <;> first | (exfalso; first | contradiction | (first | omega | (have hq := hc; simp [hk3] at hq; done) | (have hq := hc; simp [hk3] at hq; omega)); done) | (conv => (arg 5; try tactic => exact nrm)))
        | refine AL.nil ?_)
      | ((with_reducible refine AW.on ?_); first
        | refine AW.seq ?_
        | refine AW.skip ?_
        | refine AW.exit ?_
        | refine AW.ret ?_
        | refine AW.block ?_
        | (refine AW.draw (id := 7) 10 #[0, 1, 0, 0, 8, 24, 60, 124, 255, 511, 1023] (by kernel_rfl) (by kernel_rfl) ?_; (conv => (arg 8; simp only [List.take_succ_cons, List.take_zero])))
        | (refine AW.region (id := 2) ?_; exfalso; first | omega | (have hq := hc; simp [hk3] at hq; done) | (have hq := hc; simp [hk3] at hq; omega); done)
        | (refine AW.region (id := 4) ?_; exfalso; first | omega | (have hq := hc; simp [hk3] at hq; done) | (have hq := hc; simp [hk3] at hq; omega); done)
        | refine AW.region ?_
        | (refine AW.conds rfl (fun hc => ?_) (fun hc => ?_) <;> (try simp only [decide_eq_true_eq, decide_eq_false_iff_not, Bool.not_true, Bool.not_false, Bool.not_eq_true', Bool.not_eq_false', Int.not_lt, Int.not_le, Classical.not_not, ne_eq] at hc) <;> first | (exfalso; first | contradiction | (first | omega | (have hq := hc; simp [hk3] at hq; done) | (have hq := hc; simp [hk3] at hq; omega)); done) | skip))
      | ((with_reducible refine AD.on ?_); first
        | ((first | ((with_reducible refine AD.k_move ?_); first | (refine AD.q rfl (OQ.move (by conv => lhs; whnf)) rfl rfl rfl ?_)) | ((with_reducible refine AD.k_call ?_); first | refine AD.q rfl (OQ.lenS (xt := 22) (r := (none, 4, true)) rfl (by kernel_rfl)) rfl rfl rfl ?_) | ((with_reducible refine AD.k_binOp ?_); first | refine AD.q rfl (OQ.addi rfl rfl (by omega)) rfl rfl rfl ?_ | refine AD.q rfl (OQ.add rfl rfl) rfl rfl rfl ?_) | ((with_reducible refine AD.k_load ?_); first | (refine AD.q rfl (OQ.load1 (ty := 22) rfl (by kernel_rfl) (by conv => lhs; whnf)) rfl rfl rfl ?_)) | ((with_reducible refine AD.k_fieldAddr ?_); first | refine AD.q rfl (OQ.fieldA (ty := 24) (i := 1) (n := 1) (off := 1) (g := false) rfl (by kernel_rfl) (by decide)) rfl rfl rfl ?_) | refine AD.q rfl (OQ.sliceTo2 (ty := 22) (k := j) (z := 4) (g := true) rfl (by kernel_rfl) rfl (.inr rfl) rfl rfl hj hj2) rfl rfl rfl ?_); (conv => (arg 10; try tactic => exact nrm)))
        | ((first | first | refine AD.pcall (g := 15) rfl (by kernel_rfl) rfl (HM _) rfl rfl ?_); (conv => (arg 10; try tactic => exact nrm)))
        | (refine AD.nil ?_; (conv => (arg 4; simp only [List.drop_succ_cons, List.drop_zero, List.drop_nil])); (conv => (arg 5; try tactic => exact nrm)); (conv => (arg 6; try tactic => exact nrm))))
      | ((with_reducible refine FinJ.on ?_); ((first | refine FinJ.ret (.tmp (by conv => lhs; whnf) .nil) ?_ | refine FinJ.end (.tmp (by conv => lhs; whnf) .nil) ?_); (refine (fun hh => hh ▸ jle_flat rfl : ∀ {b : Bool}, b = true → jle (.bool true) (pack [.bool b])) ?_); first | rfl | (simp; done) | (simp [hk4]; done))))
end
theorem SkL_ne {v : Value} {m0 : Mem} {l : List Ep} (nm : ByteArray) (x : Int) (h : Sh l v m0) (hn : (nm.size : Int) ≤ 9223372036854775807) (hl : (l.length : Int) ≤ 9223372036854775807) (hx : ¬ (fewS nm.size l.length = true ∧ srE nm.data.toList l = 0)) : PCalls Tryd.prog 4 [srV nm v, .int .i64 x] m0 (.bool true) := by
  cases hf : fewS nm.size l.length with
  | false => exact SkL_n nm x h hn hl hf
  | true =>
    have hb := of_decide_eq_true hf
    exact SkL_e nm x h (by omega) (by omega) hf _ rfl fun hc => hx ⟨hf, hc⟩
end Go.Proofs.YthgbincoppnpgaaDoor
namespace Go.Proofs.YthgbincoppnpgaaDoor.SeriesRanks
open Go.ChangeShapes Go.WideShapes Go.ChangeAt Go Go.RowKit Go.Ab Go.Sr Go.Proofs.YthgbincoppnpgaaDoor
set_option maxRecDepth 100000
theorem walk {W : World} (hL : laidMet Tryd.prog [("swath/series.all", Rows.laid_swath_series_all)] W) (nm : ByteArray) (a : Option Addr) (l : List Ep) (cap : Nat) (x : Int) (hnm : nm.size ≤ maxLen) (hcap : l.length ≤ cap) (hcm : cap ≤ maxLen) (hS : SlX W a (flatE l)) (hz : a = none → cap = 0) : Calls Tryd.prog 4 #[.agg #[.string nm, .slice a l.length cap], .int .i64 x] W fun e w' => e = .returned (.bool true) ∧ Below W.heap.size W w' := by
  simp only [maxLen] at hnm hcm
  by_cases hx : fewS nm.size l.length = true ∧ srE nm.data.toList l = 0
  · obtain ⟨g0, g1, g2⟩ := cell_of_laid hL
    have hr := srE_right hx.2
    have hb := of_decide_eq_true hx.1
    exact glueK (us := [.int .i64 x]) rfl hS hcap hz hr.1.n1 g0 g1 g2 (SkL_y nm x (by omega) (by omega) hx.1 hr.1 hr.2 hx.2)
  · exact glueS (us := [.int .i64 x]) rfl hS hcap hz fun v m0 h => SkL_ne nm x h (by omega) (by omega) hx
theorem laid_met (os : Os) (args : Array Value) : laidMet Tryd.prog [("swath/series.all", Rows.laid_swath_series_all)] ((laidWorld os).forCall (fun _ _ => 0) ⟨#[], args, []⟩).memory :=
  laidMet_of_run (ps := [.cell 0 0, .cell 0 1, .cell 0 2]) 8 (by kernel_rfl) (by kernel_rfl) (by kernel_rfl)
set_option maxRecDepth 100000 in
theorem lifted (os : Os) (started : os.Started) (H : Type) (enc : TypeId × Value → H) :
    ReturnsInHanded {} Tryd.checked os 4 .any (fun w args => (Rows.seriesRanksSpec.pre enc Tryd.prog Tryd.f4 Rows.seriesRanksRow.domain false w args ∧ laidMet Tryd.prog Rows.seriesRanksRow.laid w) ∧ sizedMet enc Tryd.prog Tryd.f4 (OpenSpec.ofChange Rows.seriesRanksSpec) false w args)
      (Rows.seriesRanksSpec.post enc Tryd.prog Tryd.f4 false true false false) := by
  refine returnsInHanded_of_change_and (C := Tryd.checked) (X := fun w _ => laidMet Tryd.prog Rows.seriesRanksRow.laid w) (fun _ _ _ hh h => h.of_heap hh) own started (by kernel_rfl) Tryd.func4
    (ChangeSpec.witness_at (enc := enc) (C := Tryd.checked) (os := os) (X := fun w _ => laidMet Tryd.prog Rows.seriesRanksRow.laid w) false (laidWorld os) #[.agg #[.string ⟨#[]⟩, .slice none 0 0], .int .i64 0] 8 rfl (by kernel_rfl) (by kernel_rfl) (by kernel_rfl) (by kernel_rfl) (by kernel_rfl) (laid_met os _)) ?_
  intro W base args ds gs before hval0 hW hcnd _ hL _
  have hval : ∀ (j : Nat) t v, Tryd.f4.params[j]? = some t → args[j]? = some v → Value.okWide Tryd.prog W .any base t v := hval0
  have hW' := hW
  obtain ⟨p, q, hA0, hV, rfl, hfz, hnd⟩ := hW
  have hA : DataW.TrodAll enc Tryd.prog W 0 (fun _ => true) true Tryd.f4.params.toList args.toList ds p := hA0
  rw [Tryd.params4] at hA hval
  obtain ⟨v0, vs0, d0, ds0, p0, q0, hargs, rfl, rfl, h0, r0⟩ := trodAll_cons hA
  obtain ⟨v1, vs1, d1, ds1, p1, q1, rfl, rfl, rfl, h1, r1⟩ := trodAll_cons r0
  obtain ⟨rfl, rfl, rfl⟩ := trodAll_nil r1
  obtain rfl : args = #[v0, v1] := by cases args; simp_all
  obtain ⟨rfl, rfl⟩ := trodVars_none hV
  clear hA0 hval0
  have hlt := hW'.lt
  have g0 := h0
  have g1 := h1
  obtain ⟨nm0, a0, l0, cap0, rfl, hnm0, hcap0, hcm0, hS0, hz0⟩ := open_S (hval 0 24 v0 rfl rfl) h0
  obtain ⟨x1, rfl, -, -, wx1⟩ := open_int Tryd.underlying3 (hval 1 3 v1 rfl rfl) h1
  simp only [List.append_nil] at hW' hlt ⊢
  refine (walk hL nm0 a0 l0 cap0 x1 hnm0 hcap0 hcm0 hS0 hz0).mono fun e W' ⟨he, hb⟩ => ?_
  subst he
  have stay : ∀ (t : TypeId) v d ps (sp : Nat → Bool), Tryd.prog.readableRec t = true → t < Tryd.prog.types.size → DataW.Trod enc Tryd.prog W 0 (fun _ => true) true t v d ps → (∀ x ∈ ps, x.block < W.heap.size) → (∀ x ∈ ps, sp x.block = true) → DataW.Trod enc Tryd.prog W' 0 sp true t v d ps :=
    fun t v d ps sp hr ht h hx hs => Go.WideElems.Trod_stays laid hr ht h (fun x hxp => hb.same (hx x hxp)) hs
  exact ⟨_, rfl, post_below (pa := p0 ++ (p1 ++ [])) (pv := []) hW' (fun _ _ _ => trodAll_mk1 (shut_bool Tryd.underlying4 true)) (fun sp hs => (trodAll_cons_mk (stay 24 _ _ _ sp (by kernel_rfl) (of_decide_eq_true (by kernel_rfl)) g0 (fun x hx => hlt x (by simp [hx])) (fun x hx => hs x (by simp [hx]))) (trodAll_cons_mk (stay 3 _ _ _ sp (by kernel_rfl) (of_decide_eq_true (by kernel_rfl)) g1 (fun x hx => hlt x (by simp [hx])) (fun x hx => hs x (by simp [hx]))) (trodAll_mk0)))) (fun _ _ => rfl) (by simp)
    hb (ok_one (by kernel_rfl) rfl (okWide_bool_mk Tryd.underlying4 true))⟩

theorem over : Rows.seriesRanksRow.holds Tryd.pinned (OpenSpec.ofChange Rows.seriesRanksSpec) :=
  OpenClaim.holds_of_wide 4 Tryd.f4 rfl rfl rfl rfl rfl rfl rfl ⟨rfl, rfl, rfl, rfl, rfl⟩ rfl rfl rfl rfl rfl (by kernel_rfl) Tryd.func4 (by kernel_rfl)
    (of_decide_eq_true (by kernel_rfl)) (by unfold Func.isWrapper; first | (rw [if_pos (by decide +kernel)]; kernel_rfl) | (rw [if_neg (by decide +kernel)]; exact ⟨rfl, rfl⟩))
    (fun os started H enc _ => lifted os started H enc)

theorem plain_par (j : Nat) (t : TypeId) (ht : Tryd.f4.params[j]? = some t) : Tryd.prog.wantsStandIn t = false := by
  rw [Tryd.params4] at ht
  match j, ht with
  | 0, ht => cases ht; exact (show Tryd.prog.wantsStandIn _ = false by kernel_rfl)
  | 1, ht => cases ht; exact (show Tryd.prog.wantsStandIn _ = false by kernel_rfl)
  | j + 2, ht => simp at ht
/-- The statement: the tied card. -/
theorem proved : Rows.SeriesRanksCardSaid :=
  Claim7.holds_tied_plain_at .later [] [.widerDeep] true (true, "8969422fb97db3702c4520d9637b9f7b9e0738f6e0149eba45d89b934ac60878") false
    over (fun _ h => by cases h) (by kernel_rfl) (fun _ h => by cases h) seriesRanks_row_tie rfl ⟨rfl, rfl⟩ (by kernel_rfl) rfl
    (fun f fn hf hfn => by
      obtain rfl : f = 4 := Option.some.inj ((show Tryd.prog.funcNamed "swath/swathlaw08.SeriesRanks" = some 4 by kernel_rfl).symm.trans hf) |>.symm
      obtain rfl : fn = Tryd.f4 := (Option.some.inj (Tryd.func4.symm.trans hfn)).symm
      exact ⟨by kernel_rfl, plain_par⟩)
    (by kernel_rfl)
#print axioms proved
end Go.Proofs.YthgbincoppnpgaaDoor.SeriesRanks
end
