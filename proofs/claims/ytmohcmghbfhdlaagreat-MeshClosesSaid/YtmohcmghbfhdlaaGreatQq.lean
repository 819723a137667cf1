/- Chapter 6: open, for all nets, in a greater memory. -/
import Derived.Test.YtmohcmghbfhdlaaGreatQd
import Derived.Test.YtmohcmghbfhdlaaGreatQp
section
set_option linter.unusedSimpArgs false
set_option linter.unusedVariables false
section
namespace Go.Me
open Go.Ab Go.Proofs.YtmohcmghbfhdlaaGreat
theorem fst_cases (f : Nat → Int) (n : Nat) : (∀ j, j < n → f j = 0) ∨ ∃ i, i < n ∧ (∀ j, j < i → f j = 0) ∧ f i ≠ 0 := by
  induction n with
  | zero => exact .inl fun j h => absurd h (by omega)
  | succ n ih =>
    rcases ih with h | ⟨i, h1, h2, h3⟩
    · by_cases h4 : f n = 0
      · refine .inl fun j hj => ?_
        rcases Nat.lt_or_eq_of_le (Nat.le_of_lt_succ hj) with h5 | rfl
        · exact h j h5
        · exact h4
      · exact .inr ⟨n, by omega, h, h4⟩
    · exact .inr ⟨i, by omega, h2, h3⟩
structure NetR (l : List Pn) (ts : List T3) : Prop where
  cp : cpB l = 0
  le : ts.length ≤ 80
  all : ∀ j, j < ts.length → trK l ts j = 0
  op : opB l ts = false
  gp : gpB l ts = false
theorem netE_0 {l : List Pn} {ts : List T3} : netE l ts = 0 ↔ NetR l ts := by
  constructor
  · intro h
    unfold netE at h
    by_cases h1 : cpB l ≠ 0
    · rw [if_pos h1] at h; exact absurd h h1
    · rw [if_neg h1] at h
      by_cases h2 : 80 < ts.length
      · rw [if_pos h2] at h; cases h
      · rw [if_neg h2] at h
        rcases fst_cases (trK l ts) ts.length with h3 | ⟨i, h3, h4, h5⟩
        · rw [fstN_no _ h3, if_neg (fun h => h rfl)] at h
          cases h6 : opB l ts with
          | true => rw [h6, if_pos rfl] at h; cases h
          | false =>
            rw [h6, if_neg (by decide)] at h
            cases h7 : gpB l ts with
            | true => rw [h7, if_pos rfl] at h; cases h
            | false => exact ⟨Classical.not_not.1 h1, by omega, h3, h6, h7⟩
        · rw [fstN_yes h4 h5 _ h3, if_pos (by omega)] at h
          exact absurd h h5
  · rintro ⟨h1, h2, h3, h4, h5⟩
    unfold netE
    rw [if_neg (fun h => h h1), if_neg (by omega), fstN_no _ h3, if_neg (fun h => h rfl), h4, if_neg (by decide), h5, if_neg (by decide)]
theorem netI_0 {l : List Pn} {ts : List T3} (h : netE l ts = 0) : netI l ts = 0 := by
  obtain ⟨h1, h2, h3, h4, h5⟩ := netE_0.1 h
  unfold netI
  rw [if_neg (fun h => h h1), if_neg (by omega), fstN_no _ h3, if_neg (fun h => h rfl)]
end Go.Me
namespace Go.Proofs.YtmohcmghbfhdlaaGreat
open Go Go.RowKit Go.Ab Go.Me
set_option maxRecDepth 100000
set_option maxHeartbeats 4000000
attribute [local irreducible] OQ OW AL AW AF SW
theorem open_8 (l : List Pn) (ts : List T3) (c c2 z z1 : Nat) (hz : z = 0 ∨ z = 2) (h0 : cpB l = 0) (h80 : 80 < ts.length) : PCalls Tryz.prog 71 [.agg #[.slice (some ⟨0, 0, none⟩) l.length c, .slice (some ⟨1, 0, none⟩) ts.length c2]] [some ⟨flatP l, false, z⟩, some ⟨flatT ts, false, z1⟩] (.tuple #[.pointer none, .int .i64 0, .int .i64 8]) := by
  have h40 := (cp_ok h0).1
  have hp := fun (m : Mem) (b : Nat) (blk : Blk) (h1 : m.at b = some blk) (h2 : blk.cells = flatP l) (h3 : blk.esz = 0 ∨ blk.esz = 2) (h4 : blk.obj = Ob.plain) => CheckPoints_q (c := c) l h1 h2 rfl (by omega) h3 h4
  rw [h0] at hp
  generalize cpA l = A0 at *
  refine PCalls.en 164 Tryz.func71 rfl (ro2p _ _ rfl rfl) rfl (fun E => ?_)
  repeat' (first | with_reducible (first | refine Then.n ?_ | refine Then.r ?_) | ((with_reducible refine AL.on ?_); first | ((first | ((with_reducible refine AL.k_move ?_); (refine AL.q rfl (OQ.move wl) ?_)) | ((with_reducible refine AL.k_assign ?_); (refine AL.q rfl (OQ.assign wl) ?_)) | ((with_reducible refine AL.k_load ?_); first | (refine AL.q rfl (OQ.load1 (ty := 22) rfl kr wl) ?_) | (refine AL.q rfl (OQ.load1 (ty := 23) rfl kr wl) ?_)) | ((with_reducible refine AL.k_call ?_); refine AL.q rfl (OQ.lenS (xt := 23) (r := (none, 3, true)) rfl kr) ?_) | ((with_reducible refine AL.k_fieldAddr ?_); first | refine AL.q rfl (OQ.fieldA (ty := 25) (i := 0) (n := 1) (off := 0) (g := false) rfl kr (by decide)) ?_ | refine AL.q rfl (OQ.fieldA (ty := 25) (i := 1) (n := 1) (off := 1) (g := false) rfl kr (by decide)) ?_) | ((with_reducible refine AL.k_binOp ?_); first | refine AL.q rfl (OQ.neq rfl rfl) ?_ | refine AL.q rfl (OQ.gtr rfl rfl) ?_) | ((with_reducible refine AL.k_extract ?_); refine AL.q rfl (OQ.extract rfl rfl) ?_)); (refine AL.nm ?_)) | ((((with_reducible refine AL.k_call ?_); refine AL.pcall (g := 121) rfl kr rfl ((by exact hp _ 0 _ rfl rfl hz rfl)) ?_)); (refine AL.nm ?_)) | ((((with_reducible refine AL.k_box ?_); (refine AL.w rfl (OW.box wl (by intro r h; cases h)) ?_))); (refine AL.nm ?_); (refine AL.nM ?_)) | refine AL.nil ?_) | ((with_reducible refine AW.on ?_); first | refine AW.seq ?_ | refine AW.skip ?_ | refine AW.ret ?_ | refine AW.region ?_ | (refine AW.conds rfl (fun hc => ?_) (fun hc => ?_) <;> (try replace hc := nc hc) <;> first | (exfalso; first | contradiction | (omega); done) | skip)) | ((with_reducible refine FinP.on ?_); (refine FinP.ret (.tmp wl (.tmp wl (.tmp wl .nil))) ?_ rfl); (try simp only [pack, List.drop, List.take]); all_goals (rfl)))
theorem open_e0 (l : List Pn) (ts : List T3) (c c2 z z1 : Nat) (hz : z = 0 ∨ z = 2) (hl : l.length ≤ 1000000) (he : netE l ts ≠ 0) : PCalls Tryz.prog 71 [.agg #[.slice (some ⟨0, 0, none⟩) l.length c, .slice (some ⟨1, 0, none⟩) ts.length c2]] [some ⟨flatP l, false, z⟩, some ⟨flatT ts, false, z1⟩] (.tuple #[.pointer none, .int .i64 (netI l ts), .int .i64 (netE l ts)]) := by
  unfold netE at he
  unfold netE netI
  by_cases h1 : cpB l ≠ 0
  · rw [if_pos h1, if_pos h1]
    exact open_c l ts c c2 z z1 hz hl h1
  · rw [if_neg h1] at he
    rw [if_neg h1, if_neg h1]
    have h0 : cpB l = 0 := Classical.not_not.1 h1
    by_cases h2 : 80 < ts.length
    · rw [if_pos h2, if_pos h2]
      exact open_8 l ts c c2 z z1 hz h0 h2
    · rw [if_neg h2] at he
      rw [if_neg h2, if_neg h2]
      rcases fst_cases (trK l ts) ts.length with h3 | ⟨i, h3, h4, h5⟩
      · rw [fstN_no _ h3, if_neg (fun h => h rfl)] at he
        rw [fstN_no _ h3, if_neg (fun h => h rfl), if_neg (fun h => h rfl)]
        cases h6 : opB l ts with
        | true => rw [if_pos rfl]; exact open_o l ts c c2 z z1 hz h0 (by omega) h3 h6
        | false =>
          rw [h6, if_neg (by decide)] at he
          rw [if_neg (by decide)]
          cases h7 : gpB l ts with
          | true => rw [if_pos rfl]; exact open_g l ts c c2 z z1 hz h0 (by omega) h3 h6 h7
          | false => rw [h7] at he; exact absurd rfl he
      · rw [fstN_yes h4 h5 _ h3, if_pos (by omega), if_pos (by omega)]
        exact open_t l ts c c2 z z1 hz h0 (by omega) i h3 h4 h5
structure ArgN (m : Mem) (bP bT : Nat) (l : List Pn) (ts : List T3) : Prop where
  P : ∃ A : Blk, m.at bP = some A ∧ A.cells = flatP l ∧ (A.esz = 0 ∨ A.esz = 2) ∧ A.obj = Ob.plain
  T : ∃ B : Blk, m.at bT = some B ∧ B.cells = flatT ts ∧ B.obj = Ob.plain
  ne : bP ≠ bT
theorem open_e {m : Mem} {bP bT n k c c2 : Nat} (l : List Pn) (ts : List T3) (hA : ArgN m bP bT l ts) (hn : l.length = n) (hk : ts.length = k) (hl : l.length ≤ 1000000) (he : netE l ts ≠ 0) :
    PCalls Tryz.prog 71 [.agg #[.slice (some ⟨bP, 0, none⟩) n c, .slice (some ⟨bT, 0, none⟩) k c2]] m (.tuple #[.pointer none, .int .i64 (netI l ts), .int .i64 (netE l ts)]) := by
  subst hn hk
  obtain ⟨⟨A, h1, h2, h3, h4⟩, ⟨B, h5, h6, h7⟩, _⟩ := hA
  exact PCalls.viaS [bP, bT] (open_e0 l ts c c2 A.esz B.esz h3 hl he) (ro2p _ _ rfl rfl) ⟨⟨_, h1, by unfold Blk.shp Blk.shpR; rw [h4]; rfl, (fun h => nomatch h), .inl ⟨h2, flatP_scal _⟩⟩, ⟨_, h5, by unfold Blk.shp Blk.shpR; rw [h7]; rfl, (fun h => nomatch h), .inl ⟨h6, flatT_scal _⟩⟩, trivial⟩ rfl rfl rfl rfl
abbrev netM (b bP bT n c k c2 : Nat) (ts : List T3) : Mem := [some ⟨[.slice (some ⟨bP, 0, none⟩) n c, .slice (some ⟨bT, 0, none⟩) k c2, .slice (some ⟨b + 2, 0, none⟩) (edL ts).length INF, .map (some (b + 1))], true, 0⟩, some (mpX (lfA ts) true 0), some ⟨flatP (edL ts), true, 2⟩]
theorem open_y {m : Mem} {bP bT n k c c2 : Nat} (l : List Pn) (ts : List T3) (hA : ArgN m bP bT l ts) (hn : l.length = n) (hk : ts.length = k) (hR : NetR l ts) :
    ACalls Tryz.prog 71 [.agg #[.slice (some ⟨bP, 0, none⟩) n c, .slice (some ⟨bT, 0, none⟩) k c2]] m (.tuple #[.pointer (some ⟨m.length, 0, none⟩), .int .i64 0, .int .i64 0]) (m ++ netM m.length bP bT n c k c2 ts) := by
  subst hn hk
  obtain ⟨⟨A, h1, h2, h3, h4⟩, ⟨B, h5, h6, h7⟩, hne⟩ := hA
  obtain ⟨g1, g2, g3, g4, g5⟩ := hR
  have h := ACalls.viaS (m := m) (args := [.agg #[.slice (some ⟨bP, 0, none⟩) l.length c, .slice (some ⟨bT, 0, none⟩) ts.length c2]]) (v := .tuple #[.pointer (some ⟨m.length, 0, none⟩), .int .i64 0, .int .i64 0]) [bP, bT] [] (netM m.length bP bT l.length c ts.length c2 ts) (open_y0 l ts c c2 A.esz B.esz h3 g1 g2 g3 g4 g5) ⟨⟨_, h1, by unfold Blk.shp Blk.shpR; rw [h4]; rfl, (fun h => nomatch h), .inl ⟨h2, flatP_scal _⟩⟩, ⟨_, h5, by unfold Blk.shp Blk.shpR; rw [h7]; rfl, (fun h => nomatch h), .inl ⟨h6, flatT_scal _⟩⟩, trivial⟩ (by simpa using hne) ?_ rfl rfl rfl rfl
  · exact h
  · exact ⟨⟨_, rfl, rfl⟩, ⟨_, rfl, rfl⟩, ⟨rfl, rfl, rfl, .inr ⟨rfl, rfl⟩⟩, ⟨rfl, rfl, rfl, .inl ⟨rfl, rfl⟩⟩, ⟨rfl, rfl, rfl, .inl ⟨rfl, flatP_scal _⟩⟩, trivial⟩
end Go.Proofs.YtmohcmghbfhdlaaGreat
end
end
/- Chapter 6: CheckNet, Edges, Sides (the program's). -/
section
set_option linter.unusedSimpArgs false
set_option linter.unusedVariables false
section
namespace Go.Me
open Go.Ab Go.Proofs.YtmohcmghbfhdlaaGreat
def sdP (ts : List T3) (e : Pn) : Pn := ⟨lk (lfA ts) (e.x, e.y), lk (lfA ts) (e.y, e.x)⟩
def sdL (ts : List T3) : List Pn := (edL ts).map (sdP ts)
theorem sdL_len (ts : List T3) : (sdL ts).length = (edL ts).length := List.length_map _
theorem sdL_pt {ts : List T3} {k : Nat} (h : k < (edL ts).length) : pt (sdL ts) k = sdP ts (pt (edL ts) k) := by
  unfold pt sdL
  rw [List.getD_eq_getElem?_getD, List.getD_eq_getElem?_getD, List.getElem?_map, List.getElem?_eq_getElem h]
  rfl
theorem edL_rng {l : List Pn} {ts : List T3} (h : LfOk l.length (lfA ts)) : ∀ e ∈ edL ts, (0 ≤ e.x ∧ e.x < l.length) ∧ (0 ≤ e.y ∧ e.y < l.length) := fun e he => by
  have h1 := (sortE_perm _).mem_iff.1 he
  unfold eqS at h1
  obtain ⟨j, _, h2⟩ := List.mem_flatMap.1 h1
  unfold pk at h2
  cases hq : (lfA ts)[j]? with
  | none => rw [hq] at h2; simp at h2
  | some p =>
    rw [hq] at h2
    have hr := h.rng p (List.mem_of_getElem? hq)
    simp only at h2
    unfold pkE at h2
    split at h2
    · rw [List.mem_singleton] at h2
      subst h2
      simp only
      split <;> split <;> omega
    · simp at h2
theorem edL_at {l : List Pn} {ts : List T3} (h : LfOk l.length (lfA ts)) (k : Nat) (hk : k < (edL ts).length) : (0 ≤ (pt (edL ts) k).x ∧ (pt (edL ts) k).x < l.length) ∧ (0 ≤ (pt (edL ts) k).y ∧ (pt (edL ts) k).y < l.length) := edL_rng h _ (pt_mem hk)
theorem edL_le (ts : List T3) : (edL ts).length ≤ 3 * ts.length := by
  unfold edL
  rw [sortE_len]
  have := eqS_le (ts := ts) (seen := List.range (lfA ts).length)
  rw [List.length_range] at this
  have h2 : (lfA ts).length = 3 * ts.length := lfA_len ts.length
  omega
theorem NetR.ok {l : List Pn} {ts : List T3} (h : NetR l ts) : LfOk l.length (lfA ts) := lf_ok ts.length h.all
end Go.Me
namespace Go.Proofs.YtmohcmghbfhdlaaGreat
open Go Go.RowKit Go.Ab Go.Me
set_option maxRecDepth 100000
set_option maxHeartbeats 4000000
attribute [local irreducible] OQ OW AL AW AF SW
structure OpenN (m : Mem) (bN bL bE bP bT : Nat) (c c2 : Nat) (l : List Pn) (ts : List T3) : Prop where
  P : ∃ A : Blk, m.at bP = some A ∧ A.cells = flatP l ∧ A.obj = Ob.plain
  T : ∃ B : Blk, m.at bT = some B ∧ B.cells = flatT ts ∧ B.obj = Ob.plain
  N : ∃ N : Blk, m.at bN = some N ∧ N.cells = [.slice (some ⟨bP, 0, none⟩) l.length c, .slice (some ⟨bT, 0, none⟩) ts.length c2, .slice (some ⟨bE, 0, none⟩) (edL ts).length INF, .map (some bL)] ∧ N.obj = Ob.plain
  L : ∃ own : Bool, m.at bL = some (mpX (lfA ts) own 0)
  E : ∃ D : Blk, m.at bE = some D ∧ D.cells = flatP (edL ts) ∧ D.obj = Ob.plain
theorem sides_0 (l : List Pn) (ts : List T3) (hR : NetR l ts) (c c2 z0 z1 z2 z4 i : Nat) (hi : i < (edL ts).length) :
    PCalls Tryz.prog 72 [.pointer (some ⟨2, 0, none⟩), .int .i64 i] [some ⟨flatP l, false, z0⟩, some ⟨flatT ts, false, z1⟩, some ⟨[.slice (some ⟨0, 0, none⟩) l.length c, .slice (some ⟨1, 0, none⟩) ts.length c2, .slice (some ⟨4, 0, none⟩) (edL ts).length INF, .map (some 3)], false, z2⟩, some (mpX (lfA ts) false 0), some ⟨flatP (edL ts), false, z4⟩] (.agg #[.int .i64 (sdP ts (pt (edL ts) i)).x, .int .i64 (sdP ts (pt (edL ts) i)).y]) := by
  have hL := hR.ok
  have h40 := (cp_ok hR.cp).1
  have hr := edL_at hL i hi
  have hle := edL_le ts
  have h80 := hR.le
  have hat : ∀ (a b : Int) (hab : okE (a, b)) (m : Mem) (A B N D : Blk) (own : Bool) (h1 : m.at 0 = some A) (h2 : A.cells = flatP l) (h3 : m.at 1 = some B) (h4 : B.cells = flatT ts) (h5 : m.at 2 = some N) (h6 : N.cells = [.slice (some ⟨0, 0, none⟩) l.length c, .slice (some ⟨1, 0, none⟩) ts.length c2, .slice (some ⟨4, 0, none⟩) (edL ts).length INF, .map (some 3)]) (h7 : m.at 3 = some (mpX (lfA ts) own 0)) (h8 : m.at 4 = some D) (h9 : D.cells = flatP (edL ts)) (o1 : A.obj = Ob.plain) (o2 : B.obj = Ob.plain) (o3 : N.obj = Ob.plain) (o4 : D.obj = Ob.plain), PCalls Tryz.prog 130 [.pointer (some ⟨2, 0, none⟩), .int .i64 a, .int .i64 b] m (.int .i64 (lk (lfA ts) (a, b))) := fun a b hab m A B N D own h1 h2 h3 h4 h5 h6 h7 h8 h9 o1 o2 o3 o4 => at_e l ts (edL ts) (lfA ts) hL.nd (hL.okE (by omega)) a b hab h1 h2 h3 h4 h5 h6 h7 rfl h8 h9 o1 o2 o3 o4
  unfold sdP
  refine PCalls.en 24 Tryz.func72 rfl (ro5p _ _ _ _ _ rfl rfl rfl rfl rfl) rfl (fun E => ?_)
  repeat' (first | with_reducible (refine Then.n ?_) | ((with_reducible refine AL.on ?_); first | ((first | ((with_reducible refine AL.k_load ?_); first | (refine AL.q rfl (OQ.load1 (ty := 45) rfl kr (by (conv => lhs; whnf))) ?_) | refine AL.q rfl (OQ.loadN (ty := 52) (n := 2) rfl kr kr (by (exact flatP_ld rfl rfl _ (by omega)))) ?_) | ((with_reducible refine AL.k_move ?_); (refine AL.q rfl (OQ.move wl) ?_)) | refine AL.q rfl (OQ.nilCheck rfl) ?_); (refine AL.nm ?_)) | ((first | ((with_reducible refine AL.k_indexAddr ?_); refine AL.q rfl (OQ.idxAddr (ty := 45) (z := 2) (g := true) rfl rfl kr (by omega) (by omega)) ?_) | ((with_reducible refine AL.k_call ?_); refine AL.pcall (g := 130) rfl kr rfl ((by exact hat _ _ ⟨⟨by omega, by omega⟩, by omega, by omega⟩ _ _ _ _ _ _ rfl rfl rfl rfl rfl rfl rfl rfl rfl rfl rfl rfl rfl)) ?_) | ((with_reducible refine AL.k_fieldAddr ?_); refine AL.q rfl (OQ.fieldA (ty := 110) (i := 1) (n := 1) (off := 2) (g := false) rfl kr (by decide)) ?_) | ((with_reducible refine AL.k_build ?_); refine AL.q rfl (OQ.buildA (ty := 52) (zs := [.int .i64 0, .int .i64 0]) (n := 1) (k := 2) (g := false) kr rfl kr rfl rfl rfl) ?_)); (refine AL.nm ?_)) | ((first | ((with_reducible refine AL.k_alloc ?_); refine AL.w rfl (OW.alloc (ty := 52) (z := [.int .i64 0, .int .i64 0]) kr rfl) ?_) | ((with_reducible refine AL.k_store ?_); (refine AL.w rfl (OW.store (ty := 52) (n := 2) rfl wl rfl rfl kr rfl rfl (by decide) rfl (Nat.le_of_ble_eq_true rfl) (by intro r h; cases h)) ?_))); (refine AL.nm ?_); (refine AL.nM ?_)) | refine AL.nil ?_) | ((with_reducible refine AW.on ?_); first | refine AW.seq ?_ | refine AW.ret ?_ | (refine AW.drawF (id := 2) 11 #[0, 0, 2, 0, 8, 31, 0, 0, 128, 0, 512, 2047, 4095, 8191] kr kr ?_; (conv => (arg 8; simp only [List.take_succ_cons, List.take_zero]))) | refine AW.region ?_) | ((with_reducible refine AF.on ?_); first | ((first | ((with_reducible refine AF.k_load ?_); (refine AF.ql rfl (SW.q (OQ.load1 (ty := 3) rfl kr (by (conv => lhs; whnf))) rfl) ?_)) | ((with_reducible refine AF.k_indexAddr ?_); refine AF.q 0 (SW.q (OQ.idxPtr (ty := 52) (n := 1) (l := 2) (g := false) rfl rfl kr (by omega) (by omega)) rfl) ?_) | ((with_reducible refine AF.k_move ?_); (refine AF.q 0 (SW.q (OQ.move wl) rfl) ?_)) | ((with_reducible refine AF.k_call ?_); refine AF.q 2 (SW.pcall (g := 130) rfl kr rfl ((by exact hat _ _ ⟨⟨by omega, by omega⟩, by omega, by omega⟩ _ _ _ _ _ _ rfl rfl rfl rfl rfl rfl rfl rfl rfl rfl rfl rfl rfl)) rfl) ?_)); (conv => (arg 9; try tactic => exact nrmF)); (conv => (arg 11; try simp only [List.nil_append, List.cons_append]))) | (refine AF.nil ?_ kr; (conv => (arg 4; simp only [List.drop_succ_cons, List.drop_zero, List.drop_nil])))) | ((with_reducible refine FinP.on ?_); (refine FinP.ret (.cellN (n := 2) wl kr kr rfl .nil) ?_ rfl); (try simp only [pack, List.drop, List.take]); all_goals (rfl)))
theorem sides_q {m : Mem} {bN bL bE bP bT c c2 i : Nat} {l : List Pn} {ts : List T3} (h : OpenN m bN bL bE bP bT c c2 l ts) (hR : NetR l ts) (hi : i < (edL ts).length) :
    PCalls Tryz.prog 72 [.pointer (some ⟨bN, 0, none⟩), .int .i64 i] m (.agg #[.int .i64 (sdP ts (pt (edL ts) i)).x, .int .i64 (sdP ts (pt (edL ts) i)).y]) := by
  obtain ⟨⟨A, a1, a2, a3⟩, ⟨B, b1, b2, b3⟩, ⟨N, n1, n2, n3⟩, ⟨own, l1⟩, ⟨D, d1, d2, d3⟩⟩ := h
  exact PCalls.viaS [bP, bT, bN, bL, bE] (sides_0 l ts hR c c2 A.esz B.esz N.esz D.esz i hi) (ro5p _ _ _ _ _ rfl rfl rfl rfl rfl)
    ⟨⟨_, a1, by unfold Blk.shp Blk.shpR; rw [a3]; rfl, (fun h => nomatch h), .inl ⟨a2, flatP_scal _⟩⟩, ⟨_, b1, by unfold Blk.shp Blk.shpR; rw [b3]; rfl, (fun h => nomatch h), .inl ⟨b2, flatT_scal _⟩⟩, ⟨_, n1, by unfold Blk.shp Blk.shpR; rw [n3]; rfl, (fun h => nomatch h), .inr ⟨n2, rfl⟩⟩, ⟨_, l1, rfl, (fun h => nomatch h), .inl ⟨rfl, rfl⟩⟩, ⟨_, d1, by unfold Blk.shp Blk.shpR; rw [d3]; rfl, (fun h => nomatch h), .inl ⟨d2, flatP_scal _⟩⟩, trivial⟩ rfl rfl rfl rfl
end Go.Proofs.YtmohcmghbfhdlaaGreat
end
end
/- Chapter 6: CheckNet, Edges, Sides (the program's). -/
section
set_option linter.unusedSimpArgs false
set_option linter.unusedVariables false
section
namespace Go.Me
open Go.Ab Go.Proofs.YtmohcmghbfhdlaaGreat
theorem edL_pos {l : List Pn} {ts : List T3} (h : NetR l ts) : 0 < (edL ts).length := by
  have h1 : ts.length ≠ 0 := by
    have := h.gp
    unfold gpB at this
    rw [Bool.or_eq_false_iff, Bool.or_eq_false_iff, decide_eq_false_iff_not] at this
    exact this.1.1
  unfold edL
  rw [sortE_len]
  exact List.length_pos_iff.2 (eqS_pos h.all (by omega) (fun j hj => List.mem_range.2 hj))
theorem flatP_take {es : List Pn} {k : Nat} (h : k < es.length) : flatP (es.take k) ++ [.int .i64 (pt es k).x, .int .i64 (pt es k).y] = flatP (es.take (k + 1)) := by
  rw [List.take_add_one, List.getElem?_eq_getElem h, Option.toList_some, flatP_snoc]
  unfold pt
  rw [List.getD_eq_getElem?_getD, List.getElem?_eq_getElem h]
  rfl
end Go.Me
namespace Go.Proofs.YtmohcmghbfhdlaaGreat
open Go Go.RowKit Go.Ab Go.Me
set_option maxRecDepth 100000
set_option maxHeartbeats 4000000
attribute [local irreducible] OQ OW AL AW AF SW
theorem Sides_y0 (l : List Pn) (ts : List T3) (c c2 z z1 : Nat) (hz : z = 0 ∨ z = 2) (hR : NetR l ts) : ACalls Tryz.prog 28 [.agg #[.slice (some ⟨0, 0, none⟩) l.length c, .slice (some ⟨1, 0, none⟩) ts.length c2]] [some ⟨flatP l, false, z⟩, some ⟨flatT ts, false, z1⟩] (.tuple #[.slice (some ⟨2, 0, none⟩) (sdL ts).length INF, .int .i64 0]) [some ⟨flatP l, false, z⟩, some ⟨flatT ts, false, z1⟩, some ⟨flatP (sdL ts), true, 2⟩] := by
  have hy := fun (m : Mem) (hA : ArgN m 0 1 l ts) => open_y (c := c) (c2 := c2) l ts hA rfl rfl hR
  have hs := fun (m : Mem) (i : Nat) (h : OpenN m 3 4 5 0 1 c c2 l ts) (hi : i < (edL ts).length) => sides_q (i := i) h hR hi
  have hps := fun (i : Nat) (hi : i < (edL ts).length) => sdL_pt (ts := ts) hi
  have hpos := edL_pos hR
  have hle := edL_le ts
  have h80 := hR.le
  rw [sdL_len]
  have hft := fun (k : Nat) (hk : k < (edL ts).length) => flatP_take (es := sdL ts) (k := k) (by rw [sdL_len]; exact hk)
  have hfl : ∀ k, k ≤ (edL ts).length → (flatP ((sdL ts).take k)).length = k * 2 := fun k hk => by rw [flatP_len, List.length_take, sdL_len, Nat.min_eq_left hk]
  have htl : (sdL ts).take (edL ts).length = sdL ts := by rw [← sdL_len, List.take_length]
  refine ACalls.en 33 Tryz.func28 rfl rfl (fun E hE => ?_)
  repeat' (first | with_reducible (first | refine Then.n ?_ | refine Then.x ?_ | refine InB.n ?_ | refine InB.hit ?_) | ((with_reducible refine AL.on ?_); first | ((first | ((with_reducible refine AL.k_assign ?_); (refine AL.q rfl (OQ.assign wl) ?_)) | ((with_reducible refine AL.k_move ?_); (refine AL.q rfl (OQ.move wl) ?_)) | ((with_reducible refine AL.k_call ?_); refine AL.q rfl (OQ.lenS (xt := 45) (r := (none, 2, true)) rfl kr) ?_) | ((with_reducible refine AL.k_extract ?_); refine AL.q rfl (OQ.extract rfl rfl) ?_) | ((with_reducible refine AL.k_binOp ?_); first | refine AL.q rfl (OQ.neq rfl rfl) ?_ | refine AL.q rfl (OQ.lss rfl rfl) ?_ | refine AL.q rfl (OQ.addi rfl rfl (by omega)) ?_) | ((with_reducible refine AL.k_load ?_); first | refine AL.q rfl (OQ.loadN (ty := 25) (n := 2) rfl kr kr rfl) ?_ | (refine AL.q rfl (OQ.load1 (ty := 45) rfl kr wl) ?_)) | ((with_reducible refine AL.k_fieldAddr ?_); refine AL.q rfl (OQ.fieldA (ty := 110) (i := 1) (n := 1) (off := 2) (g := false) rfl kr (by decide)) ?_) | refine AL.q rfl (OQ.nilCheck rfl) ?_); (refine AL.nm ?_)) | ((refine AL.pcall (g := 72) rfl kr rfl ((by exact hs _ k ⟨⟨_, rfl, rfl, rfl⟩, ⟨_, rfl, rfl, rfl⟩, ⟨_, rfl, rfl, rfl⟩, ⟨_, rfl⟩, ⟨_, rfl, rfl, rfl⟩⟩ (by omega))) ?_); (refine AL.nm ?_)) | ((first | ((with_reducible refine AL.k_call ?_); first | refine AL.acall (g := 71) rfl kr rfl ((by exact hy _ ⟨⟨_, rfl, rfl, hz, rfl⟩, ⟨_, rfl, rfl, rfl⟩, by decide⟩)) ?_ | refine AL.w rfl (by first | exact OW.appendNil (e := 52) (z := 2) (zs := [.int .i64 0, .int .i64 0]) (by' := 16) rfl rfl kr kr kr rfl kr (by decide) rfl (by decide) (by decide) | exact OW.appendL (e := 52) (z := 2) (zs := [.int .i64 0, .int .i64 0]) (by' := 16) rfl rfl kr kr kr rfl kr (by decide) rfl rfl rfl (by decide) (by exact hfl k (by omega)) rfl rfl (by omega) (by omega)) ?_) | ((with_reducible refine AL.k_box ?_); (refine AL.w rfl (OW.box wl (by intro r h; cases h)) ?_)) | ((with_reducible refine AL.k_buildSlice ?_); refine AL.w rfl (OW.buildSl (ty := 45) (zs := [.int .i64 0, .int .i64 0]) (n := 2) (g := true) kr kr rfl rfl rfl (by decide) (by decide) rfl rfl) ?_)); (refine AL.nm ?_); (refine AL.nM ?_)) | refine AL.nil ?_) | ((with_reducible refine AW.on ?_); first | refine AW.seq ?_ | refine AW.skip ?_ | refine AW.exit ?_ | refine AW.ret ?_ | ((refine AW.block (id := 0) ?_); (refine AW.fk [4, 7, 22, 23] ?_); (refine AW.loop (fun n' t' m => ∃ k : Nat, n' = (edL ts).length - k ∧ k ≤ (edL ts).length ∧ ((k = 0 ∧ t' = [jk, jk, jk, jk, .pointer (some ⟨3, 0, none⟩), jk, jk, .slice none 0 0, jk, jk, jk, jk, jk, jk, jk, jk, jk, jk, jk, jk, jk, jk, .int .i64 ((edL ts).length), .int .i64 (k), jk, jk, jk, jk, jk, jk, jk, jk, jk, jk] ∧ m = [some ⟨flatP l, false, z⟩, some ⟨flatT ts, false, z1⟩, some ⟨[.slice (some ⟨0, 0, none⟩) l.length c, .slice (some ⟨1, 0, none⟩) ts.length c2], true, 0⟩, some ⟨[.slice (some ⟨0, 0, none⟩) l.length c, .slice (some ⟨1, 0, none⟩) ts.length c2, .slice (some ⟨5, 0, none⟩) (edL ts).length INF, .map (some 4)], true, 0⟩, some (mpX (lfA ts) true 0), some ⟨flatP (edL ts), true, 2⟩]) ∨ (0 < k ∧ t' = [jk, jk, jk, jk, .pointer (some ⟨3, 0, none⟩), jk, jk, .slice (some ⟨6, 0, none⟩) (k) INF, jk, jk, jk, jk, jk, jk, jk, jk, jk, jk, jk, jk, jk, jk, .int .i64 ((edL ts).length), .int .i64 (k), jk, jk, jk, jk, jk, jk, jk, jk, jk, jk] ∧ m = [some ⟨flatP l, false, z⟩, some ⟨flatT ts, false, z1⟩, some ⟨[.slice (some ⟨0, 0, none⟩) l.length c, .slice (some ⟨1, 0, none⟩) ts.length c2], true, 0⟩, some ⟨[.slice (some ⟨0, 0, none⟩) l.length c, .slice (some ⟨1, 0, none⟩) ts.length c2, .slice (some ⟨5, 0, none⟩) (edL ts).length INF, .map (some 4)], true, 0⟩, some (mpX (lfA ts) true 0), some ⟨flatP (edL ts), true, 2⟩, some ⟨flatP ((sdL ts).take k), true, 2⟩]))) ((edL ts).length) (by exact ⟨0, rfl, Nat.zero_le _, .inl ⟨rfl, rfl, rfl⟩⟩) ?_); (rintro n' t' m ⟨k, rfl, hk, (⟨hk0, rfl, rfl⟩ | ⟨hk1, rfl, rfl⟩)⟩)) | refine AW.block ?_ | refine AW.region ?_ | (refine AW.conds rfl (fun hc => ?_) (fun hc => ?_) <;> (try replace hc := nc hc) <;> first | (exfalso; first | contradiction | (omega); done) | skip)) | ((with_reducible refine ex_on ?_); first | (obtain rfl := hk0; have hf0 := hft 0 (by omega); rw [hps 0 (by omega)] at hf0; refine ⟨(edL ts).length - 1, [jk, jk, jk, jk, .pointer (some ⟨3, 0, none⟩), jk, jk, .slice (some ⟨6, 0, none⟩) (1) INF, jk, jk, jk, jk, jk, jk, jk, jk, jk, jk, jk, jk, jk, jk, .int .i64 ((edL ts).length), .int .i64 (((0 + 1 : Nat) : Int)), jk, jk, jk, jk, jk, jk, jk, jk, jk, jk], [some ⟨flatP l, false, z⟩, some ⟨flatT ts, false, z1⟩, some ⟨[.slice (some ⟨0, 0, none⟩) l.length c, .slice (some ⟨1, 0, none⟩) ts.length c2], true, 0⟩, some ⟨[.slice (some ⟨0, 0, none⟩) l.length c, .slice (some ⟨1, 0, none⟩) ts.length c2, .slice (some ⟨5, 0, none⟩) (edL ts).length INF, .map (some 4)], true, 0⟩, some (mpX (lfA ts) true 0), some ⟨flatP (edL ts), true, 2⟩, some ⟨[.int .i64 (sdP ts (pt (edL ts) 0)).x, .int .i64 (sdP ts (pt (edL ts) 0)).y], true, 2⟩], by omega, ?_, 0 + 1, rfl, by omega, .inr ⟨by omega, rfl, by rw [← hf0]; rfl⟩⟩; exact Wk.keep 6 [7] (by rw [hE]; exact Nat.le_of_ble_eq_true rfl) rfl rfl (by repeat (first | exact RenT.nil | refine RenT.jk ?_ | refine RenT.val (by rfl) (by rfl) ?_)) ⟨⟨_, rfl, rfl, rfl, .inl ⟨rfl, flatP_scal l⟩⟩, ⟨_, rfl, rfl, rfl, .inl ⟨rfl, flatT_scal ts⟩⟩, ⟨_, rfl, rfl, rfl, .inr ⟨rfl, rfl⟩⟩, ⟨_, rfl, rfl, rfl, .inr ⟨rfl, rfl⟩⟩, ⟨_, rfl, rfl, rfl, .inl ⟨rfl, rfl⟩⟩, ⟨_, rfl, rfl, rfl, .inl ⟨rfl, flatP_scal _⟩⟩, ⟨_, rfl, rfl, rfl, .inl ⟨rfl, rfl⟩⟩, trivial⟩) | (have hf0 := hft k (by omega); rw [hps k (by omega)] at hf0; refine ⟨(edL ts).length - (k + 1), [jk, jk, jk, jk, .pointer (some ⟨3, 0, none⟩), jk, jk, .slice (some ⟨6, 0, none⟩) (k + 1) INF, jk, jk, jk, jk, jk, jk, jk, jk, jk, jk, jk, jk, jk, jk, .int .i64 ((edL ts).length), .int .i64 (((k + 1 : Nat) : Int)), jk, jk, jk, jk, jk, jk, jk, jk, jk, jk], [some ⟨flatP l, false, z⟩, some ⟨flatT ts, false, z1⟩, some ⟨[.slice (some ⟨0, 0, none⟩) l.length c, .slice (some ⟨1, 0, none⟩) ts.length c2], true, 0⟩, some ⟨[.slice (some ⟨0, 0, none⟩) l.length c, .slice (some ⟨1, 0, none⟩) ts.length c2, .slice (some ⟨5, 0, none⟩) (edL ts).length INF, .map (some 4)], true, 0⟩, some (mpX (lfA ts) true 0), some ⟨flatP (edL ts), true, 2⟩, some ⟨flatP ((sdL ts).take k) ++ [.int .i64 (sdP ts (pt (edL ts) k)).x, .int .i64 (sdP ts (pt (edL ts) k)).y], true, 2⟩], by omega, ?_, k + 1, rfl, by omega, .inr ⟨by omega, rfl, by rw [← hf0]⟩⟩; exact Wk.keep 6 [8] (by rw [hE]; exact Nat.le_of_ble_eq_true rfl) rfl rfl (by repeat (first | exact RenT.nil | refine RenT.jk ?_ | refine RenT.val (by rfl) (by rfl) ?_)) ⟨⟨_, rfl, rfl, rfl, .inl ⟨rfl, flatP_scal l⟩⟩, ⟨_, rfl, rfl, rfl, .inl ⟨rfl, flatT_scal ts⟩⟩, ⟨_, rfl, rfl, rfl, .inr ⟨rfl, rfl⟩⟩, ⟨_, rfl, rfl, rfl, .inr ⟨rfl, rfl⟩⟩, ⟨_, rfl, rfl, rfl, .inl ⟨rfl, rfl⟩⟩, ⟨_, rfl, rfl, rfl, .inl ⟨rfl, flatP_scal _⟩⟩, ⟨_, rfl, rfl, rfl, .inl ⟨rfl, by rw [List.all_append, flatP_scal]; rfl⟩⟩, trivial⟩)) | ((with_reducible refine FinA.on ?_); (obtain rfl : k = (edL ts).length := (by omega); rw [htl]; refine FinA.keep 2 [6] (.inl rfl) (.tmp wl (.tmp wl .nil)) ?_ rfl (Nat.le_of_eq hE) rfl rfl ⟨⟨_, rfl, rfl, rfl, .inl ⟨rfl, flatP_scal l⟩⟩, ⟨_, rfl, rfl, rfl, .inl ⟨rfl, flatT_scal ts⟩⟩, ⟨_, rfl, rfl, rfl, .inl ⟨rfl, flatP_scal _⟩⟩, trivial⟩; rfl)))
end Go.Proofs.YtmohcmghbfhdlaaGreat
end
end
