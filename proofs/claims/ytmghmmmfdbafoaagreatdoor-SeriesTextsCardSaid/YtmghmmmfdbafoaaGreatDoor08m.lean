/- Chapter 8: the fit of a series. -/
import Derived.Test.YtmghmmmfdbafoaaGreatDoor08l
import Derived.Test.YtmghmmmfdbafoaaGreatDoor08h
set_option linter.unusedSimpArgs false
set_option linter.unusedVariables false
namespace Go.Proofs.YtmghmmmfdbafoaaGreatDoor
open Go Go.RowKit Go.Ab Go.Sr
set_option maxRecDepth 100000
set_option maxHeartbeats 2000000
attribute [local irreducible] OQ OW AL AW AD AF SW

theorem IB2 {a b : Int} (ha : -9000000000000000000 ≤ a ∧ a ≤ 9000000000000000000) (hb : -9000000000000000000 ≤ b ∧ b ≤ 9000000000000000000) : IB [a, b] := fun k hk => by
  match k, hk with
  | 0, _ => exact ha
  | 1, _ => exact hb
  | k + 2, h => exact absurd (show k + 2 < 2 from h) (by omega)
theorem IB3 {a b c : Int} (ha : -9000000000000000000 ≤ a ∧ a ≤ 9000000000000000000) (hb : -9000000000000000000 ≤ b ∧ b ≤ 9000000000000000000) (hc : -9000000000000000000 ≤ c ∧ c ≤ 9000000000000000000) : IB [a, b, c] := fun k hk => by
  match k, hk with
  | 0, _ => exact ha
  | 1, _ => exact hb
  | 2, _ => exact hc
  | k + 3, h => exact absurd (show k + 3 < 3 from h) (by omega)
abbrev z4 : Value := .agg #[.int .i64 0, .int .i64 0, .int .i64 0, .int .i64 0]
abbrev z6 : Value := .agg #[.int .i64 0, .int .i64 0, .int .i64 0, .int .i64 0, .int .i64 0, .int .i64 0]
abbrev z9 : Value := .agg #[.int .i64 0, .int .i64 0, .int .i64 0, .int .i64 0, .int .i64 0, .int .i64 0, .int .i64 0, .int .i64 0, .int .i64 0]
theorem lnfr_q (s c d : Int) (hs : -9000000000000000000 ≤ s ∧ s ≤ 9000000000000000000) (hc : -9000000000000000000 ≤ c ∧ c ≤ 9000000000000000000) (hd : -9000000000000000000 ≤ d ∧ d ≤ 9000000000000000000) (h0 : d ≠ 0) (m : Mem) :
    PCalls Tryz.prog 37 [.agg #[.int .i64 s, .int .i64 c, .int .i64 d]] m (.tuple #[twV s c d, .int .i64 (twE s c d)]) := by
  cases h : allSm d [s, c] with
  | true =>
    have h' := h
    simp only [allSm, List.all_cons, List.all_nil, Bool.and_true, Bool.and_eq_true] at h'
    rw [show twV s c d = .agg #[.int .i64 (frN s d), .int .i64 (frD s d), .int .i64 (frN c d), .int .i64 (frD c d)] by simp [twV, h', h0], show twE s c d = 0 by simp [twE, h', h0]]
    have HF : ∀ (m : Mem) (b cc : Nat) (blk : Blk), m.at b = some blk → blk.cells = [.int .i64 s, .int .i64 c] → ACalls Tryz.prog 33 [.int .i64 d, .slice (some ⟨b, 0, none⟩) 2 cc] m (.tuple #[.slice (some ⟨m.length, 0, none⟩) 2 INF, .int .i64 0]) (m ++ [some ⟨[.int .i64 (frN s d), .int .i64 (frD s d), .int .i64 (frN c d), .int .i64 (frD c d)], true, 2⟩]) := fun m b cc blk h1 h2 => fracs_ok d [s, c] h1 h2 rfl h0 hd (IB2 hs hc) (by simp) (by simp) h
    refine PCalls.any ?_ rfl rfl m
    refine PCalls.enter (t := [.agg #[.int .i64 s, .int .i64 c, .int .i64 d], undef, undef, undef, undef, undef, undef, undef, undef, undef, undef, undef, undef, undef, undef, undef, undef, undef, undef, undef, undef, undef, undef, undef]) Tryz.func37 rfl (ro_nil) rfl fun E => ?_
    repeat' (first
      | with_reducible refine Then.n ?_
      | with_reducible refine Then.r ?_
      | with_reducible refine Then.x ?_
      | with_reducible refine InB.n ?_
      | with_reducible refine InB.r ?_
      | with_reducible refine InB.hit ?_
      | with_reducible refine InB.miss (by decide) ?_
      | ((with_reducible refine AL.on ?_); first
        | ((first | ((with_reducible refine AL.k_assign ?_); first | (refine AL.q rfl (OQ.assign (by conv => lhs; whnf)) ?_)) | ((with_reducible refine AL.k_load ?_); first | (refine AL.q rfl (OQ.load1 (ty := 3) rfl (by kernel_rfl) (by conv => lhs; whnf)) ?_) | refine AL.q rfl (OQ.loadN (ty := 45) (n := 4) rfl (by kernel_rfl) (by kernel_rfl) rfl) ?_) | ((with_reducible refine AL.k_move ?_); first | (refine AL.q rfl (OQ.move (by conv => lhs; whnf)) ?_)) | ((with_reducible refine AL.k_fieldAddr ?_); first | refine AL.q rfl (OQ.fieldA (ty := 98) (i := 2) (n := 1) (off := 2) (g := false) rfl (by kernel_rfl) (by decide)) ?_ | refine AL.q rfl (OQ.fieldA (ty := 98) (i := 0) (n := 1) (off := 0) (g := false) rfl (by kernel_rfl) (by decide)) ?_ | refine AL.q rfl (OQ.fieldA (ty := 98) (i := 1) (n := 1) (off := 1) (g := false) rfl (by kernel_rfl) (by decide)) ?_) | ((with_reducible refine AL.k_extract ?_); first | refine AL.q rfl (OQ.extract rfl rfl) ?_) | ((with_reducible refine AL.k_binOp ?_); first | refine AL.q rfl (OQ.neq rfl rfl) ?_) | refine AL.q rfl (OQ.arrAt (ty := 45) (k := 2) (z := 2) (g := true) rfl (by kernel_rfl) (by omega) (by omega)) ?_); (conv => (arg 5; try tactic => exact nrm)))
        | ((first | first | refine AL.q rfl (OQ.buildA (ty := 45) (zs := [.int .i64 0, .int .i64 0, .int .i64 0, .int .i64 0]) (n := 2) (k := 2) (g := true) (by kernel_rfl) rfl (by kernel_rfl) rfl rfl rfl) ?_); (conv => (arg 5; try tactic => exact nrm)))
        | ((first | ((with_reducible refine AL.k_store ?_); first | (refine AL.w rfl (OW.store (ty := 45) (n := 4) rfl (by conv => lhs; whnf) rfl rfl (by kernel_rfl) rfl rfl (by decide) rfl (Nat.le_of_ble_eq_true rfl) (by intro r h; cases h)) ?_)) | ((with_reducible refine AL.k_box ?_); first | (refine AL.w rfl (OW.box (by conv => lhs; whnf) (by intro r h; cases h)) ?_)) | ((with_reducible refine AL.k_alloc ?_); first | refine AL.w rfl (OW.alloc (ty := 45) (z := [.int .i64 0, .int .i64 0, .int .i64 0, .int .i64 0]) (by kernel_rfl) rfl) ?_) | ((with_reducible refine AL.k_buildSlice ?_); first | refine AL.w rfl (OW.buildSl (ty := 83) (zs := [.int .i64 0]) (n := 1) (g := false) (by kernel_rfl) (by kernel_rfl) rfl rfl rfl (by decide) (by decide) rfl rfl) ?_) | ((with_reducible refine AL.k_call ?_); first | refine AL.acall (g := 33) rfl (by kernel_rfl) rfl ((by exact HF _ _ _ _ rfl rfl)) ?_)); (conv => (arg 5; try tactic => exact nrm)); (conv => (arg 6; try tactic => exact nrm)))
        | refine AL.nil ?_)
      | ((with_reducible refine AW.on ?_); first
        | refine AW.seq ?_
        | refine AW.skip ?_
        | refine AW.exit ?_
        | refine AW.ret ?_
        | refine AW.block ?_
        | (refine AW.region (id := 3) ?_; exfalso; omega; done)
        | refine AW.region ?_
        | (refine AW.conds rfl (fun hc => ?_) (fun hc => ?_) <;> (try simp only [decide_eq_true_eq, decide_eq_false_iff_not, Bool.not_true, Bool.not_false, Bool.not_eq_true', Bool.not_eq_false', Int.not_lt, Int.not_le, Classical.not_not, ne_eq] at hc) <;> first | (exfalso; first | contradiction | (omega); done) | skip))
      | ((with_reducible refine FinP.on ?_); (first | refine FinP.ret (.cellN (n := 4) (by conv => lhs; whnf) (by kernel_rfl) (by kernel_rfl) rfl (.tmp (by conv => lhs; whnf) .nil)) ?_ rfl | refine FinP.end (.cellN (n := 4) (by conv => lhs; whnf) (by kernel_rfl) (by kernel_rfl) rfl (.tmp (by conv => lhs; whnf) .nil)) ?_ rfl); (try simp only [pack, List.drop, List.take]); all_goals (rfl)))
  | false =>
    have h' := h
    simp only [allSm, List.all_cons, List.all_nil, Bool.and_true, Bool.and_eq_false_iff] at h'
    have h'' : ¬ (frSm s d = true ∧ frSm c d = true) := fun hh => by rcases h' with e | e <;> simp [e] at hh
    rw [show twV s c d = z4 by simp [twV, h''], show twE s c d = 8 by simp [twE, h'', h0]]
    have HF : ∀ (m : Mem) (b cc : Nat) (blk : Blk), m.at b = some blk → blk.cells = [.int .i64 s, .int .i64 c] → PCalls Tryz.prog 33 [.int .i64 d, .slice (some ⟨b, 0, none⟩) 2 cc] m (.tuple #[.slice none 0 0, .int .i64 8]) := fun m b cc blk h1 h2 => fracs_bad d [s, c] h1 h2 rfl h0 hd (IB2 hs hc) (by simp) h
    refine PCalls.any ?_ rfl rfl m
    refine PCalls.enter (t := [.agg #[.int .i64 s, .int .i64 c, .int .i64 d], undef, undef, undef, undef, undef, undef, undef, undef, undef, undef, undef, undef, undef, undef, undef, undef, undef, undef, undef, undef, undef, undef, undef]) Tryz.func37 rfl (ro_nil) rfl fun E => ?_
    repeat' (first
      | with_reducible refine Then.n ?_
      | with_reducible refine Then.r ?_
      | with_reducible refine Then.x ?_
      | with_reducible refine InB.n ?_
      | with_reducible refine InB.r ?_
      | with_reducible refine InB.hit ?_
      | with_reducible refine InB.miss (by decide) ?_
      | ((with_reducible refine AL.on ?_); first
        | ((first | ((with_reducible refine AL.k_assign ?_); first | (refine AL.q rfl (OQ.assign (by conv => lhs; whnf)) ?_)) | ((with_reducible refine AL.k_load ?_); first | (refine AL.q rfl (OQ.load1 (ty := 3) rfl (by kernel_rfl) (by conv => lhs; whnf)) ?_) | refine AL.q rfl (OQ.loadN (ty := 45) (n := 4) rfl (by kernel_rfl) (by kernel_rfl) rfl) ?_) | ((with_reducible refine AL.k_move ?_); first | (refine AL.q rfl (OQ.move (by conv => lhs; whnf)) ?_)) | ((with_reducible refine AL.k_fieldAddr ?_); first | refine AL.q rfl (OQ.fieldA (ty := 98) (i := 2) (n := 1) (off := 2) (g := false) rfl (by kernel_rfl) (by decide)) ?_ | refine AL.q rfl (OQ.fieldA (ty := 98) (i := 0) (n := 1) (off := 0) (g := false) rfl (by kernel_rfl) (by decide)) ?_ | refine AL.q rfl (OQ.fieldA (ty := 98) (i := 1) (n := 1) (off := 1) (g := false) rfl (by kernel_rfl) (by decide)) ?_) | ((with_reducible refine AL.k_extract ?_); first | refine AL.q rfl (OQ.extract rfl rfl) ?_) | ((with_reducible refine AL.k_binOp ?_); first | refine AL.q rfl (OQ.neq rfl rfl) ?_) | refine AL.q rfl (OQ.arrAt (ty := 45) (k := 2) (z := 2) (g := true) rfl (by kernel_rfl) (by omega) (by omega)) ?_); (conv => (arg 5; try tactic => exact nrm)))
        | ((first | ((with_reducible refine AL.k_call ?_); first | refine AL.pcall (g := 33) rfl (by kernel_rfl) rfl (HF _ _ _ _ rfl rfl) ?_) | ((with_reducible refine AL.k_build ?_); first | refine AL.q rfl (OQ.buildA (ty := 45) (zs := [.int .i64 0, .int .i64 0, .int .i64 0, .int .i64 0]) (n := 2) (k := 2) (g := true) (by kernel_rfl) rfl (by kernel_rfl) rfl rfl rfl) ?_)); (conv => (arg 5; try tactic => exact nrm)))
        | ((first | ((with_reducible refine AL.k_store ?_); first | (refine AL.w rfl (OW.store (ty := 45) (n := 4) rfl (by conv => lhs; whnf) rfl rfl (by kernel_rfl) rfl rfl (by decide) rfl (Nat.le_of_ble_eq_true rfl) (by intro r h; cases h)) ?_)) | ((with_reducible refine AL.k_box ?_); first | (refine AL.w rfl (OW.box (by conv => lhs; whnf) (by intro r h; cases h)) ?_)) | ((with_reducible refine AL.k_alloc ?_); first | refine AL.w rfl (OW.alloc (ty := 45) (z := [.int .i64 0, .int .i64 0, .int .i64 0, .int .i64 0]) (by kernel_rfl) rfl) ?_) | ((with_reducible refine AL.k_buildSlice ?_); first | refine AL.w rfl (OW.buildSl (ty := 83) (zs := [.int .i64 0]) (n := 1) (g := false) (by kernel_rfl) (by kernel_rfl) rfl rfl rfl (by decide) (by decide) rfl rfl) ?_)); (conv => (arg 5; try tactic => exact nrm)); (conv => (arg 6; try tactic => exact nrm)))
        | refine AL.nil ?_)
      | ((with_reducible refine AW.on ?_); first
        | refine AW.seq ?_
        | refine AW.skip ?_
        | refine AW.exit ?_
        | refine AW.ret ?_
        | refine AW.block ?_
        | (refine AW.region (id := 4) ?_; exfalso; omega; done)
        | refine AW.region ?_
        | (refine AW.conds rfl (fun hc => ?_) (fun hc => ?_) <;> (try simp only [decide_eq_true_eq, decide_eq_false_iff_not, Bool.not_true, Bool.not_false, Bool.not_eq_true', Bool.not_eq_false', Int.not_lt, Int.not_le, Classical.not_not, ne_eq] at hc) <;> first | (exfalso; first | contradiction | (omega); done) | skip))
      | ((with_reducible refine FinP.on ?_); (first | refine FinP.ret (.cellN (n := 4) (by conv => lhs; whnf) (by kernel_rfl) (by kernel_rfl) rfl (.tmp (by conv => lhs; whnf) .nil)) ?_ rfl | refine FinP.end (.cellN (n := 4) (by conv => lhs; whnf) (by kernel_rfl) (by kernel_rfl) rfl (.tmp (by conv => lhs; whnf) .nil)) ?_ rfl); (try simp only [pack, List.drop, List.take]); all_goals (rfl)))

/-- The observations of a right series. -/
def rws (l : List Ep) : List Rw := l.map fun e => ⟨e.d - (ep l 0).d, e.b, 1, e.p⟩
theorem rws_w (l : List Ep) : (rws l).map Rw.w = rwT l l.length := by unfold rws rwT; rw [List.take_length, List.map_map]; rfl
theorem rws_v (l : List Ep) : (rws l).map Rw.v = rwP l l.length := by unfold rws rwP; rw [List.take_length, List.map_map]; rfl
theorem rws_len (l : List Ep) : (rws l).length = l.length := by simp [rws]
theorem rws_rb {l : List Ep} (h : SRight l) : RB 400 100 (rws l) := fun r hr => by
  obtain ⟨e, he, rfl⟩ := List.mem_map.1 hr
  obtain ⟨k, hk, rfl⟩ := List.getElem_of_mem he
  have := h.bd k hk
  have e : ep l k = l[k] := by unfold ep; rw [List.getD_eq_getElem?_getD, List.getElem?_eq_getElem hk]; rfl
  rw [e] at this
  simp only
  omega
theorem rws_rb2 {l : List Ep} (h : SRight l) : RB 400 200 (rws l) := fun r hr => by
  have := rws_rb h r hr
  omega
theorem rws_sb {l : List Ep} (h : SRight l) : SB (nm (rws l)) := SB.of (rws_rb h) (by rw [rws_len]; exact h.n20)
theorem rowsOf_q {m : Mem} {b n : Nat} {blk : Blk} (nm : ByteArray) (l : List Ep) (hb : m.at b = some blk) (hc : blk.cells = flatE l) (hn : l.length = n) (hR : SRight l) : ACalls Tryz.prog 59 [srI nm b n] m
    (.agg #[.slice (some ⟨m.length, 0, none⟩) n INF, .slice (some ⟨m.length + 1, 0, none⟩) n INF]) (m ++ [some ⟨flatV ((rws l).map Rw.w), true, 3⟩, some ⟨flatI ((rws l).map Rw.v), true, 1⟩]) := by
  subst hn
  have := ACalls.viaS [b] [] [some ⟨flatV (rwT l l.length), true, 3⟩, some ⟨flatI (rwP l l.length), true, 1⟩] (rowsOf_c nm l blk.esz hR) (m := m) (args := [srI nm b l.length]) (v := .agg #[.slice (some ⟨m.length, 0, none⟩) l.length INF, .slice (some ⟨m.length + 1, 0, none⟩) l.length INF])
    ⟨⟨blk, hb, rfl, (fun h => nomatch h), .inl ⟨hc, flatE_scal l⟩⟩, trivial⟩ (by simp) ⟨⟨_, rfl, rfl⟩, ⟨rfl, rfl, rfl, .inl ⟨rfl, flatV_scal _⟩⟩, ⟨rfl, rfl, rfl, .inl ⟨rfl, flatI_scal _⟩⟩, trivial⟩ rfl rfl (by simp [rn3, rn2, rn1, τn]) rfl
  rw [← rws_w, ← rws_v] at this
  exact this
theorem normal_q {m : Mem} {a b n : Nat} {k0 k1 : Blk} (R : List Rw) (hB : RB 400 200 R) (hl : R.length ≤ 24) (hn : R.length = n) (h0 : m.at a = some k0) (h1 : m.at b = some k1) (hc0 : k0.cells = flatV (R.map Rw.w)) (hc1 : k1.cells = flatI (R.map Rw.v)) :
    PCalls Tryz.prog 60 [.agg #[.slice (some ⟨a, 0, none⟩) n INF, .slice (some ⟨b, 0, none⟩) n INF]] m (nmV (nm R)) := by
  subst hn
  exact PCalls.viaS [a, b] (ACalls.still (normal_a R hB hl k0.esz k1.esz) (ro2 _ _ rfl rfl) rfl) (ro2 _ _ rfl rfl) ⟨⟨k0, h0, rfl, (fun h => nomatch h), .inl ⟨hc0, flatV_scal _⟩⟩, ⟨k1, h1, rfl, (fun h => nomatch h), .inl ⟨hc1, flatI_scal _⟩⟩, trivial⟩ rfl rfl rfl rfl

/-- Where dates are, or none: what is walked. -/
def Sh (l : List Ep) (v : Value) (m0 : Mem) : Prop := (v = .slice none 0 0 ∧ m0 = [] ∧ l = []) ∨ (v = lostS ∧ m0 = [] ∧ l = []) ∨ ∃ z, v = .slice (some ⟨0, 0, none⟩) l.length INF ∧ m0 = [some ⟨flatE l, false, z⟩]
theorem Sh.up {f : FuncId} {us : List Value} {r v : Value} {m : Mem} {l : List Ep} {nm : ByteArray} (hS : SlE m v l) (hu : us.all flat = true) (hr : flat r = true) (h : ∀ v m0, Sh l v m0 → PCalls Tryz.prog f (srV nm v :: us) m0 r) : PCalls Tryz.prog f (srV nm v :: us) m r := by
  have hmap : ∀ τ : Nat → Nat, us.map (rn3 τ) = us := fun τ => by
    have : ∀ u ∈ us, rn3 τ u = id u := fun u hx => rn3_flat (List.all_eq_true.1 hu u hx)
    rw [List.map_congr_left this, List.map_id]
  have hok : ∀ n, us.all (ok3 n) = true := fun n => List.all_eq_true.2 fun u hx => ok3_flat (List.all_eq_true.1 hu u hx)
  rcases hS with ⟨i, k, rfl, hk, hc⟩ | ⟨rfl, rfl⟩ | ⟨rfl, rfl⟩
  · refine PCalls.viaS (m0 := [some ⟨flatE l, false, k.esz⟩]) [i] (h _ _ (.inr (.inr ⟨k.esz, rfl, rfl⟩))) (ro1 _ rfl) ⟨⟨k, hk, rfl, (fun h => nomatch h), .inl ⟨hc, flatE_scal l⟩⟩, trivial⟩ ?_ ?_ (rn3_flat hr) (ok3_flat hr)
    · rw [List.map_cons, hmap]; rfl
    · rw [List.all_cons, hok]; rfl
  · refine PCalls.viaS (m0 := []) [] (h _ _ (.inl ⟨rfl, rfl, rfl⟩)) (fun b blk h => by simp [Mem.at] at h) trivial ?_ ?_ (rn3_flat hr) (ok3_flat hr)
    · rw [List.map_cons, hmap]; rfl
    · rw [List.all_cons, hok]; rfl
  · refine PCalls.viaS (m0 := []) [] (h _ _ (.inr (.inl ⟨rfl, rfl, rfl⟩))) (fun b blk h => by simp [Mem.at] at h) trivial ?_ ?_ (rn3_flat hr) (ok3_flat hr)
    · rw [List.map_cons, hmap]; rfl
    · rw [List.all_cons, hok]; rfl
theorem Sh.ro {l : List Ep} {v : Value} {m0 : Mem} (h : Sh l v m0) : m0.ro := by
  rcases h with ⟨_, rfl, _⟩ | ⟨_, rfl, _⟩ | ⟨z, _, rfl⟩
  · exact ro_nil
  · exact ro_nil
  · exact ro1 _ rfl

end Go.Proofs.YtmghmmmfdbafoaaGreatDoor
