/- Chapter 6: open, for all nets, in a greater memory. -/
import Derived.Test.YtmohcmghbfhdlaaGreatQd
import Derived.Test.YtmohcmghbfhdlaaGreatQp
import Derived.Test.YtmohcmghbfhdlaaGreatQk
section
set_option linter.unusedSimpArgs false
set_option linter.unusedVariables false
section
namespace Go.Me
open Go.Ab Go.Proofs.YtmohcmghbfhdlaaGreat
theorem fst_cases (f : Nat → Int) (n : Nat) : (∀ j, j < n → f j = 0) ∨ ∃ i, i < n ∧ (∀ j, j < i → f j = 0) ∧ f i ≠ 0 := by
  induction n with
  | zero => exact .inl fun j h => absurd h (by omega)
  | succ n ih =>
    rcases ih with h | ⟨i, h1, h2, h3⟩
    · by_cases h4 : f n = 0
      · refine .inl fun j hj => ?_
        rcases Nat.lt_or_eq_of_le (Nat.le_of_lt_succ hj) with h5 | rfl
        · exact h j h5
        · exact h4
      · exact .inr ⟨n, by omega, h, h4⟩
    · exact .inr ⟨i, by omega, h2, h3⟩
structure NetR (l : List Pn) (ts : List T3) : Prop where
  cp : cpB l = 0
  le : ts.length ≤ 80
  all : ∀ j, j < ts.length → trK l ts j = 0
  op : opB l ts = false
  gp : gpB l ts = false
theorem netE_0 {l : List Pn} {ts : List T3} : netE l ts = 0 ↔ NetR l ts := by
  constructor
  · intro h
    unfold netE at h
    by_cases h1 : cpB l ≠ 0
    · rw [if_pos h1] at h; exact absurd h h1
    · rw [if_neg h1] at h
      by_cases h2 : 80 < ts.length
      · rw [if_pos h2] at h; cases h
      · rw [if_neg h2] at h
        rcases fst_cases (trK l ts) ts.length with h3 | ⟨i, h3, h4, h5⟩
        · rw [fstN_no _ h3, if_neg (fun h => h rfl)] at h
          cases h6 : opB l ts with
          | true => rw [h6, if_pos rfl] at h; cases h
          | false =>
            rw [h6, if_neg (by decide)] at h
            cases h7 : gpB l ts with
            | true => rw [h7, if_pos rfl] at h; cases h
            | false => exact ⟨Classical.not_not.1 h1, by omega, h3, h6, h7⟩
        · rw [fstN_yes h4 h5 _ h3, if_pos (by omega)] at h
          exact absurd h h5
  · rintro ⟨h1, h2, h3, h4, h5⟩
    unfold netE
    rw [if_neg (fun h => h h1), if_neg (by omega), fstN_no _ h3, if_neg (fun h => h rfl), h4, if_neg (by decide), h5, if_neg (by decide)]
theorem netI_0 {l : List Pn} {ts : List T3} (h : netE l ts = 0) : netI l ts = 0 := by
  obtain ⟨h1, h2, h3, h4, h5⟩ := netE_0.1 h
  unfold netI
  rw [if_neg (fun h => h h1), if_neg (by omega), fstN_no _ h3, if_neg (fun h => h rfl)]
end Go.Me
namespace Go.Proofs.YtmohcmghbfhdlaaGreat
open Go Go.RowKit Go.Ab Go.Me
set_option maxRecDepth 100000
set_option maxHeartbeats 4000000
attribute [local irreducible] OQ OW AL AW AF SW
theorem open_8 (l : List Pn) (ts : List T3) (c c2 z z1 : Nat) (hz : z = 0 ∨ z = 2) (h0 : cpB l = 0) (h80 : 80 < ts.length) : PCalls Tryz.prog 71 [.agg #[.slice (some ⟨0, 0, none⟩) l.length c, .slice (some ⟨1, 0, none⟩) ts.length c2]] [some ⟨flatP l, false, z⟩, some ⟨flatT ts, false, z1⟩] (.tuple #[.pointer none, .int .i64 0, .int .i64 8]) := by
  have h40 := (cp_ok h0).1
  have hp := fun (m : Mem) (b : Nat) (blk : Blk) (h1 : m.at b = some blk) (h2 : blk.cells = flatP l) (h3 : blk.esz = 0 ∨ blk.esz = 2) (h4 : blk.obj = Ob.plain) => CheckPoints_q (c := c) l h1 h2 rfl (by omega) h3 h4
  rw [h0] at hp
  generalize cpA l = A0 at *
  refine PCalls.en 164 Tryz.func71 rfl (ro2p _ _ rfl rfl) rfl (fun E => ?_)
  repeat' (first | with_reducible (first | refine Then.n ?_ | refine Then.r ?_) | ((with_reducible refine AL.on ?_); first | ((first | ((with_reducible refine AL.k_move ?_); (refine AL.q rfl (OQ.move wl) ?_)) | ((with_reducible refine AL.k_assign ?_); (refine AL.q rfl (OQ.assign wl) ?_)) | ((with_reducible refine AL.k_load ?_); first | (refine AL.q rfl (OQ.load1 (ty := 22) rfl kr wl) ?_) | (refine AL.q rfl (OQ.load1 (ty := 23) rfl kr wl) ?_)) | ((with_reducible refine AL.k_call ?_); refine AL.q rfl (OQ.lenS (xt := 23) (r := (none, 3, true)) rfl kr) ?_) | ((with_reducible refine AL.k_fieldAddr ?_); first | refine AL.q rfl (OQ.fieldA (ty := 25) (i := 0) (n := 1) (off := 0) (g := false) rfl kr (by decide)) ?_ | refine AL.q rfl (OQ.fieldA (ty := 25) (i := 1) (n := 1) (off := 1) (g := false) rfl kr (by decide)) ?_) | ((with_reducible refine AL.k_binOp ?_); first | refine AL.q rfl (OQ.neq rfl rfl) ?_ | refine AL.q rfl (OQ.gtr rfl rfl) ?_) | ((with_reducible refine AL.k_extract ?_); refine AL.q rfl (OQ.extract rfl rfl) ?_)); (refine AL.nm ?_)) | ((((with_reducible refine AL.k_call ?_); refine AL.pcall (g := 121) rfl kr rfl ((by exact hp _ 0 _ rfl rfl hz rfl)) ?_)); (refine AL.nm ?_)) | ((((with_reducible refine AL.k_box ?_); (refine AL.w rfl (OW.box wl (by intro r h; cases h)) ?_))); (refine AL.nm ?_); (refine AL.nM ?_)) | refine AL.nil ?_) | ((with_reducible refine AW.on ?_); first | refine AW.seq ?_ | refine AW.skip ?_ | refine AW.ret ?_ | refine AW.region ?_ | (refine AW.conds rfl (fun hc => ?_) (fun hc => ?_) <;> (try replace hc := nc hc) <;> first | (exfalso; first | contradiction | (omega); done) | skip)) | ((with_reducible refine FinP.on ?_); (refine FinP.ret (.tmp wl (.tmp wl (.tmp wl .nil))) ?_ rfl); (try simp only [pack, List.drop, List.take]); all_goals (rfl)))
theorem open_e0 (l : List Pn) (ts : List T3) (c c2 z z1 : Nat) (hz : z = 0 ∨ z = 2) (hl : l.length ≤ 1000000) (he : netE l ts ≠ 0) : PCalls Tryz.prog 71 [.agg #[.slice (some ⟨0, 0, none⟩) l.length c, .slice (some ⟨1, 0, none⟩) ts.length c2]] [some ⟨flatP l, false, z⟩, some ⟨flatT ts, false, z1⟩] (.tuple #[.pointer none, .int .i64 (netI l ts), .int .i64 (netE l ts)]) := by
  unfold netE at he
  unfold netE netI
  by_cases h1 : cpB l ≠ 0
  · rw [if_pos h1, if_pos h1]
    exact open_c l ts c c2 z z1 hz hl h1
  · rw [if_neg h1] at he
    rw [if_neg h1, if_neg h1]
    have h0 : cpB l = 0 := Classical.not_not.1 h1
    by_cases h2 : 80 < ts.length
    · rw [if_pos h2, if_pos h2]
      exact open_8 l ts c c2 z z1 hz h0 h2
    · rw [if_neg h2] at he
      rw [if_neg h2, if_neg h2]
      rcases fst_cases (trK l ts) ts.length with h3 | ⟨i, h3, h4, h5⟩
      · rw [fstN_no _ h3, if_neg (fun h => h rfl)] at he
        rw [fstN_no _ h3, if_neg (fun h => h rfl), if_neg (fun h => h rfl)]
        cases h6 : opB l ts with
        | true => rw [if_pos rfl]; exact open_o l ts c c2 z z1 hz h0 (by omega) h3 h6
        | false =>
          rw [h6, if_neg (by decide)] at he
          rw [if_neg (by decide)]
          cases h7 : gpB l ts with
          | true => rw [if_pos rfl]; exact open_g l ts c c2 z z1 hz h0 (by omega) h3 h6 h7
          | false => rw [h7] at he; exact absurd rfl he
      · rw [fstN_yes h4 h5 _ h3, if_pos (by omega), if_pos (by omega)]
        exact open_t l ts c c2 z z1 hz h0 (by omega) i h3 h4 h5
structure ArgN (m : Mem) (bP bT : Nat) (l : List Pn) (ts : List T3) : Prop where
  P : ∃ A : Blk, m.at bP = some A ∧ A.cells = flatP l ∧ (A.esz = 0 ∨ A.esz = 2) ∧ A.obj = Ob.plain
  T : ∃ B : Blk, m.at bT = some B ∧ B.cells = flatT ts ∧ B.obj = Ob.plain
  ne : bP ≠ bT
theorem open_e {m : Mem} {bP bT n k c c2 : Nat} (l : List Pn) (ts : List T3) (hA : ArgN m bP bT l ts) (hn : l.length = n) (hk : ts.length = k) (hl : l.length ≤ 1000000) (he : netE l ts ≠ 0) :
    PCalls Tryz.prog 71 [.agg #[.slice (some ⟨bP, 0, none⟩) n c, .slice (some ⟨bT, 0, none⟩) k c2]] m (.tuple #[.pointer none, .int .i64 (netI l ts), .int .i64 (netE l ts)]) := by
  subst hn hk
  obtain ⟨⟨A, h1, h2, h3, h4⟩, ⟨B, h5, h6, h7⟩, _⟩ := hA
  exact PCalls.viaS [bP, bT] (open_e0 l ts c c2 A.esz B.esz h3 hl he) (ro2p _ _ rfl rfl) ⟨⟨_, h1, by unfold Blk.shp Blk.shpR; rw [h4]; rfl, (fun h => nomatch h), .inl ⟨h2, flatP_scal _⟩⟩, ⟨_, h5, by unfold Blk.shp Blk.shpR; rw [h7]; rfl, (fun h => nomatch h), .inl ⟨h6, flatT_scal _⟩⟩, trivial⟩ rfl rfl rfl rfl
abbrev netM (b bP bT n c k c2 : Nat) (ts : List T3) : Mem := [some ⟨[.slice (some ⟨bP, 0, none⟩) n c, .slice (some ⟨bT, 0, none⟩) k c2, .slice (some ⟨b + 2, 0, none⟩) (edL ts).length INF, .map (some (b + 1))], true, 0⟩, some (mpX (lfA ts) true 0), some ⟨flatP (edL ts), true, 2⟩]
theorem open_y {m : Mem} {bP bT n k c c2 : Nat} (l : List Pn) (ts : List T3) (hA : ArgN m bP bT l ts) (hn : l.length = n) (hk : ts.length = k) (hR : NetR l ts) :
    ACalls Tryz.prog 71 [.agg #[.slice (some ⟨bP, 0, none⟩) n c, .slice (some ⟨bT, 0, none⟩) k c2]] m (.tuple #[.pointer (some ⟨m.length, 0, none⟩), .int .i64 0, .int .i64 0]) (m ++ netM m.length bP bT n c k c2 ts) := by
  subst hn hk
  obtain ⟨⟨A, h1, h2, h3, h4⟩, ⟨B, h5, h6, h7⟩, hne⟩ := hA
  obtain ⟨g1, g2, g3, g4, g5⟩ := hR
  have h := ACalls.viaS (m := m) (args := [.agg #[.slice (some ⟨bP, 0, none⟩) l.length c, .slice (some ⟨bT, 0, none⟩) ts.length c2]]) (v := .tuple #[.pointer (some ⟨m.length, 0, none⟩), .int .i64 0, .int .i64 0]) [bP, bT] [] (netM m.length bP bT l.length c ts.length c2 ts) (open_y0 l ts c c2 A.esz B.esz h3 g1 g2 g3 g4 g5) ⟨⟨_, h1, by unfold Blk.shp Blk.shpR; rw [h4]; rfl, (fun h => nomatch h), .inl ⟨h2, flatP_scal _⟩⟩, ⟨_, h5, by unfold Blk.shp Blk.shpR; rw [h7]; rfl, (fun h => nomatch h), .inl ⟨h6, flatT_scal _⟩⟩, trivial⟩ (by simpa using hne) ?_ rfl rfl rfl rfl
  · exact h
  · exact ⟨⟨_, rfl, rfl⟩, ⟨_, rfl, rfl⟩, ⟨rfl, rfl, rfl, .inr ⟨rfl, rfl⟩⟩, ⟨rfl, rfl, rfl, .inl ⟨rfl, rfl⟩⟩, ⟨rfl, rfl, rfl, .inl ⟨rfl, flatP_scal _⟩⟩, trivial⟩
end Go.Proofs.YtmohcmghbfhdlaaGreat
end
end
/- Chapter 6: CheckNet, Edges, Sides (the program's). -/
section
set_option linter.unusedSimpArgs false
set_option linter.unusedVariables false
section
namespace Go.Me
open Go.Ab Go.Proofs.YtmohcmghbfhdlaaGreat
def sdP (ts : List T3) (e : Pn) : Pn := ⟨lk (lfA ts) (e.x, e.y), lk (lfA ts) (e.y, e.x)⟩
def sdL (ts : List T3) : List Pn := (edL ts).map (sdP ts)
theorem sdL_len (ts : List T3) : (sdL ts).length = (edL ts).length := List.length_map _
theorem sdL_pt {ts : List T3} {k : Nat} (h : k < (edL ts).length) : pt (sdL ts) k = sdP ts (pt (edL ts) k) := by
  unfold pt sdL
  rw [List.getD_eq_getElem?_getD, List.getD_eq_getElem?_getD, List.getElem?_map, List.getElem?_eq_getElem h]
  rfl
theorem edL_rng {l : List Pn} {ts : List T3} (h : LfOk l.length (lfA ts)) : ∀ e ∈ edL ts, (0 ≤ e.x ∧ e.x < l.length) ∧ (0 ≤ e.y ∧ e.y < l.length) := fun e he => by
  have h1 := (sortE_perm _).mem_iff.1 he
  unfold eqS at h1
  obtain ⟨j, _, h2⟩ := List.mem_flatMap.1 h1
  unfold pk at h2
  cases hq : (lfA ts)[j]? with
  | none => rw [hq] at h2; simp at h2
  | some p =>
    rw [hq] at h2
    have hr := h.rng p (List.mem_of_getElem? hq)
    simp only at h2
    unfold pkE at h2
    split at h2
    · rw [List.mem_singleton] at h2
      subst h2
      simp only
      split <;> split <;> omega
    · simp at h2
theorem edL_at {l : List Pn} {ts : List T3} (h : LfOk l.length (lfA ts)) (k : Nat) (hk : k < (edL ts).length) : (0 ≤ (pt (edL ts) k).x ∧ (pt (edL ts) k).x < l.length) ∧ (0 ≤ (pt (edL ts) k).y ∧ (pt (edL ts) k).y < l.length) := edL_rng h _ (pt_mem hk)
theorem edL_le (ts : List T3) : (edL ts).length ≤ 3 * ts.length := by
  unfold edL
  rw [sortE_len]
  have := eqS_le (ts := ts) (seen := List.range (lfA ts).length)
  rw [List.length_range] at this
  have h2 : (lfA ts).length = 3 * ts.length := lfA_len ts.length
  omega
theorem NetR.ok {l : List Pn} {ts : List T3} (h : NetR l ts) : LfOk l.length (lfA ts) := lf_ok ts.length h.all
end Go.Me
namespace Go.Proofs.YtmohcmghbfhdlaaGreat
open Go Go.RowKit Go.Ab Go.Me
set_option maxRecDepth 100000
set_option maxHeartbeats 4000000
attribute [local irreducible] OQ OW AL AW AF SW
structure OpenN (m : Mem) (bN bL bE bP bT : Nat) (c c2 : Nat) (l : List Pn) (ts : List T3) : Prop where
  P : ∃ A : Blk, m.at bP = some A ∧ A.cells = flatP l ∧ A.obj = Ob.plain
  T : ∃ B : Blk, m.at bT = some B ∧ B.cells = flatT ts ∧ B.obj = Ob.plain
  N : ∃ N : Blk, m.at bN = some N ∧ N.cells = [.slice (some ⟨bP, 0, none⟩) l.length c, .slice (some ⟨bT, 0, none⟩) ts.length c2, .slice (some ⟨bE, 0, none⟩) (edL ts).length INF, .map (some bL)] ∧ N.obj = Ob.plain
  L : ∃ own : Bool, m.at bL = some (mpX (lfA ts) own 0)
  E : ∃ D : Blk, m.at bE = some D ∧ D.cells = flatP (edL ts) ∧ D.obj = Ob.plain
theorem sides_0 (l : List Pn) (ts : List T3) (hR : NetR l ts) (c c2 z0 z1 z2 z4 i : Nat) (hi : i < (edL ts).length) :
    PCalls Tryz.prog 72 [.pointer (some ⟨2, 0, none⟩), .int .i64 i] [some ⟨flatP l, false, z0⟩, some ⟨flatT ts, false, z1⟩, some ⟨[.slice (some ⟨0, 0, none⟩) l.length c, .slice (some ⟨1, 0, none⟩) ts.length c2, .slice (some ⟨4, 0, none⟩) (edL ts).length INF, .map (some 3)], false, z2⟩, some (mpX (lfA ts) false 0), some ⟨flatP (edL ts), false, z4⟩] (.agg #[.int .i64 (sdP ts (pt (edL ts) i)).x, .int .i64 (sdP ts (pt (edL ts) i)).y]) := by
  have hL := hR.ok
  have h40 := (cp_ok hR.cp).1
  have hr := edL_at hL i hi
  have hle := edL_le ts
  have h80 := hR.le
  have hat : ∀ (a b : Int) (hab : okE (a, b)) (m : Mem) (A B N D : Blk) (own : Bool) (h1 : m.at 0 = some A) (h2 : A.cells = flatP l) (h3 : m.at 1 = some B) (h4 : B.cells = flatT ts) (h5 : m.at 2 = some N) (h6 : N.cells = [.slice (some ⟨0, 0, none⟩) l.length c, .slice (some ⟨1, 0, none⟩) ts.length c2, .slice (some ⟨4, 0, none⟩) (edL ts).length INF, .map (some 3)]) (h7 : m.at 3 = some (mpX (lfA ts) own 0)) (h8 : m.at 4 = some D) (h9 : D.cells = flatP (edL ts)) (o1 : A.obj = Ob.plain) (o2 : B.obj = Ob.plain) (o3 : N.obj = Ob.plain) (o4 : D.obj = Ob.plain), PCalls Tryz.prog 130 [.pointer (some ⟨2, 0, none⟩), .int .i64 a, .int .i64 b] m (.int .i64 (lk (lfA ts) (a, b))) := fun a b hab m A B N D own h1 h2 h3 h4 h5 h6 h7 h8 h9 o1 o2 o3 o4 => at_e l ts (edL ts) (lfA ts) hL.nd (hL.okE (by omega)) a b hab h1 h2 h3 h4 h5 h6 h7 rfl h8 h9 o1 o2 o3 o4
  unfold sdP
  refine PCalls.en 24 Tryz.func72 rfl (ro5p _ _ _ _ _ rfl rfl rfl rfl rfl) rfl (fun E => ?_)
  repeat' (first | with_reducible (refine Then.n ?_) | ((with_reducible refine AL.on ?_); first | ((first | ((with_reducible refine AL.k_load ?_); first | (refine AL.q rfl (OQ.load1 (ty := 45) rfl kr (by (conv => lhs; whnf))) ?_) | refine AL.q rfl (OQ.loadN (ty := 52) (n := 2) rfl kr kr (by (exact flatP_ld rfl rfl _ (by omega)))) ?_) | ((with_reducible refine AL.k_move ?_); (refine AL.q rfl (OQ.move wl) ?_)) | refine AL.q rfl (OQ.nilCheck rfl) ?_); (refine AL.nm ?_)) | ((first | ((with_reducible refine AL.k_indexAddr ?_); refine AL.q rfl (OQ.idxAddr (ty := 45) (z := 2) (g := true) rfl rfl kr (by omega) (by omega)) ?_) | ((with_reducible refine AL.k_call ?_); refine AL.pcall (g := 130) rfl kr rfl ((by exact hat _ _ ⟨⟨by omega, by omega⟩, by omega, by omega⟩ _ _ _ _ _ _ rfl rfl rfl rfl rfl rfl rfl rfl rfl rfl rfl rfl rfl)) ?_) | ((with_reducible refine AL.k_fieldAddr ?_); refine AL.q rfl (OQ.fieldA (ty := 110) (i := 1) (n := 1) (off := 2) (g := false) rfl kr (by decide)) ?_) | ((with_reducible refine AL.k_build ?_); refine AL.q rfl (OQ.buildA (ty := 52) (zs := [.int .i64 0, .int .i64 0]) (n := 1) (k := 2) (g := false) kr rfl kr rfl rfl rfl) ?_)); (refine AL.nm ?_)) | ((first | ((with_reducible refine AL.k_alloc ?_); refine AL.w rfl (OW.alloc (ty := 52) (z := [.int .i64 0, .int .i64 0]) kr rfl) ?_) | ((with_reducible refine AL.k_store ?_); (refine AL.w rfl (OW.store (ty := 52) (n := 2) rfl wl rfl rfl kr rfl rfl (by decide) rfl (Nat.le_of_ble_eq_true rfl) (by intro r h; cases h)) ?_))); (refine AL.nm ?_); (refine AL.nM ?_)) | refine AL.nil ?_) | ((with_reducible refine AW.on ?_); first | refine AW.seq ?_ | refine AW.ret ?_ | (refine AW.drawF (id := 2) 11 #[0, 0, 2, 0, 8, 31, 0, 0, 128, 0, 512, 2047, 4095, 8191] kr kr ?_; (conv => (arg 8; simp only [List.take_succ_cons, List.take_zero]))) | refine AW.region ?_) | ((with_reducible refine AF.on ?_); first | ((first | ((with_reducible refine AF.k_load ?_); (refine AF.ql rfl (SW.q (OQ.load1 (ty := 3) rfl kr (by (conv => lhs; whnf))) rfl) ?_)) | ((with_reducible refine AF.k_indexAddr ?_); refine AF.q 0 (SW.q (OQ.idxPtr (ty := 52) (n := 1) (l := 2) (g := false) rfl rfl kr (by omega) (by omega)) rfl) ?_) | ((with_reducible refine AF.k_move ?_); (refine AF.q 0 (SW.q (OQ.move wl) rfl) ?_)) | ((with_reducible refine AF.k_call ?_); refine AF.q 2 (SW.pcall (g := 130) rfl kr rfl ((by exact hat _ _ ⟨⟨by omega, by omega⟩, by omega, by omega⟩ _ _ _ _ _ _ rfl rfl rfl rfl rfl rfl rfl rfl rfl rfl rfl rfl rfl)) rfl) ?_)); (conv => (arg 9; try tactic => exact nrmF)); (conv => (arg 11; try simp only [List.nil_append, List.cons_append]))) | (refine AF.nil ?_ kr; (conv => (arg 4; simp only [List.drop_succ_cons, List.drop_zero, List.drop_nil])))) | ((with_reducible refine FinP.on ?_); (refine FinP.ret (.cellN (n := 2) wl kr kr rfl .nil) ?_ rfl); (try simp only [pack, List.drop, List.take]); all_goals (rfl)))
theorem sides_q {m : Mem} {bN bL bE bP bT c c2 i : Nat} {l : List Pn} {ts : List T3} (h : OpenN m bN bL bE bP bT c c2 l ts) (hR : NetR l ts) (hi : i < (edL ts).length) :
    PCalls Tryz.prog 72 [.pointer (some ⟨bN, 0, none⟩), .int .i64 i] m (.agg #[.int .i64 (sdP ts (pt (edL ts) i)).x, .int .i64 (sdP ts (pt (edL ts) i)).y]) := by
  obtain ⟨⟨A, a1, a2, a3⟩, ⟨B, b1, b2, b3⟩, ⟨N, n1, n2, n3⟩, ⟨own, l1⟩, ⟨D, d1, d2, d3⟩⟩ := h
  exact PCalls.viaS [bP, bT, bN, bL, bE] (sides_0 l ts hR c c2 A.esz B.esz N.esz D.esz i hi) (ro5p _ _ _ _ _ rfl rfl rfl rfl rfl)
    ⟨⟨_, a1, by unfold Blk.shp Blk.shpR; rw [a3]; rfl, (fun h => nomatch h), .inl ⟨a2, flatP_scal _⟩⟩, ⟨_, b1, by unfold Blk.shp Blk.shpR; rw [b3]; rfl, (fun h => nomatch h), .inl ⟨b2, flatT_scal _⟩⟩, ⟨_, n1, by unfold Blk.shp Blk.shpR; rw [n3]; rfl, (fun h => nomatch h), .inr ⟨n2, rfl⟩⟩, ⟨_, l1, rfl, (fun h => nomatch h), .inl ⟨rfl, rfl⟩⟩, ⟨_, d1, by unfold Blk.shp Blk.shpR; rw [d3]; rfl, (fun h => nomatch h), .inl ⟨d2, flatP_scal _⟩⟩, trivial⟩ rfl rfl rfl rfl
end Go.Proofs.YtmohcmghbfhdlaaGreat
end
end
/- Chapter 6: CheckNet, Edges, Sides (the program's). -/
section
set_option linter.unusedSimpArgs false
set_option linter.unusedVariables false
section
namespace Go.Me
open Go.Ab Go.Proofs.YtmohcmghbfhdlaaGreat
theorem edL_pos {l : List Pn} {ts : List T3} (h : NetR l ts) : 0 < (edL ts).length := by
  have h1 : ts.length ≠ 0 := by
    have := h.gp
    unfold gpB at this
    rw [Bool.or_eq_false_iff, Bool.or_eq_false_iff, decide_eq_false_iff_not] at this
    exact this.1.1
  unfold edL
  rw [sortE_len]
  exact List.length_pos_iff.2 (eqS_pos h.all (by omega) (fun j hj => List.mem_range.2 hj))
theorem flatP_take {es : List Pn} {k : Nat} (h : k < es.length) : flatP (es.take k) ++ [.int .i64 (pt es k).x, .int .i64 (pt es k).y] = flatP (es.take (k + 1)) := by
  rw [List.take_add_one, List.getElem?_eq_getElem h, Option.toList_some, flatP_snoc]
  unfold pt
  rw [List.getD_eq_getElem?_getD, List.getElem?_eq_getElem h]
  rfl
end Go.Me
namespace Go.Proofs.YtmohcmghbfhdlaaGreat
open Go Go.RowKit Go.Ab Go.Me
set_option maxRecDepth 100000
set_option maxHeartbeats 4000000
attribute [local irreducible] OQ OW AL AW AF SW
theorem Sides_y0 (l : List Pn) (ts : List T3) (c c2 z z1 : Nat) (hz : z = 0 ∨ z = 2) (hR : NetR l ts) : ACalls Tryz.prog 28 [.agg #[.slice (some ⟨0, 0, none⟩) l.length c, .slice (some ⟨1, 0, none⟩) ts.length c2]] [some ⟨flatP l, false, z⟩, some ⟨flatT ts, false, z1⟩] (.tuple #[.slice (some ⟨2, 0, none⟩) (sdL ts).length INF, .int .i64 0]) [some ⟨flatP l, false, z⟩, some ⟨flatT ts, false, z1⟩, some ⟨flatP (sdL ts), true, 2⟩] := by
  have hy := fun (m : Mem) (hA : ArgN m 0 1 l ts) => open_y (c := c) (c2 := c2) l ts hA rfl rfl hR
  have hs := fun (m : Mem) (i : Nat) (h : OpenN m 3 4 5 0 1 c c2 l ts) (hi : i < (edL ts).length) => sides_q (i := i) h hR hi
  have hps := fun (i : Nat) (hi : i < (edL ts).length) => sdL_pt (ts := ts) hi
  have hpos := edL_pos hR
  have hle := edL_le ts
  have h80 := hR.le
  rw [sdL_len]
  have hft := fun (k : Nat) (hk : k < (edL ts).length) => flatP_take (es := sdL ts) (k := k) (by rw [sdL_len]; exact hk)
  have hfl : ∀ k, k ≤ (edL ts).length → (flatP ((sdL ts).take k)).length = k * 2 := fun k hk => by rw [flatP_len, List.length_take, sdL_len, Nat.min_eq_left hk]
  have htl : (sdL ts).take (edL ts).length = sdL ts := by rw [← sdL_len, List.take_length]
  refine ACalls.en 33 Tryz.func28 rfl rfl (fun E hE => ?_)
  repeat' (first | with_reducible (first | refine Then.n ?_ | refine Then.x ?_ | refine InB.n ?_ | refine InB.hit ?_) | ((with_reducible refine AL.on ?_); first | ((first | ((with_reducible refine AL.k_assign ?_); (refine AL.q rfl (OQ.assign wl) ?_)) | ((with_reducible refine AL.k_move ?_); (refine AL.q rfl (OQ.move wl) ?_)) | ((with_reducible refine AL.k_call ?_); refine AL.q rfl (OQ.lenS (xt := 45) (r := (none, 2, true)) rfl kr) ?_) | ((with_reducible refine AL.k_extract ?_); refine AL.q rfl (OQ.extract rfl rfl) ?_) | ((with_reducible refine AL.k_binOp ?_); first | refine AL.q rfl (OQ.neq rfl rfl) ?_ | refine AL.q rfl (OQ.lss rfl rfl) ?_ | refine AL.q rfl (OQ.addi rfl rfl (by omega)) ?_) | ((with_reducible refine AL.k_load ?_); first | refine AL.q rfl (OQ.loadN (ty := 25) (n := 2) rfl kr kr rfl) ?_ | (refine AL.q rfl (OQ.load1 (ty := 45) rfl kr wl) ?_)) | ((with_reducible refine AL.k_fieldAddr ?_); refine AL.q rfl (OQ.fieldA (ty := 110) (i := 1) (n := 1) (off := 2) (g := false) rfl kr (by decide)) ?_) | refine AL.q rfl (OQ.nilCheck rfl) ?_); (refine AL.nm ?_)) | ((refine AL.pcall (g := 72) rfl kr rfl ((by exact hs _ k ⟨⟨_, rfl, rfl, rfl⟩, ⟨_, rfl, rfl, rfl⟩, ⟨_, rfl, rfl, rfl⟩, ⟨_, rfl⟩, ⟨_, rfl, rfl, rfl⟩⟩ (by omega))) ?_); (refine AL.nm ?_)) | ((first | ((with_reducible refine AL.k_call ?_); first | refine AL.acall (g := 71) rfl kr rfl ((by exact hy _ ⟨⟨_, rfl, rfl, hz, rfl⟩, ⟨_, rfl, rfl, rfl⟩, by decide⟩)) ?_ | refine AL.w rfl (by first | exact OW.appendNil (e := 52) (z := 2) (zs := [.int .i64 0, .int .i64 0]) (by' := 16) rfl rfl kr kr kr rfl kr (by decide) rfl (by decide) (by decide) | exact OW.appendL (e := 52) (z := 2) (zs := [.int .i64 0, .int .i64 0]) (by' := 16) rfl rfl kr kr kr rfl kr (by decide) rfl rfl rfl (by decide) (by exact hfl k (by omega)) rfl rfl (by omega) (by omega)) ?_) | ((with_reducible refine AL.k_box ?_); (refine AL.w rfl (OW.box wl (by intro r h; cases h)) ?_)) | ((with_reducible refine AL.k_buildSlice ?_); refine AL.w rfl (OW.buildSl (ty := 45) (zs := [.int .i64 0, .int .i64 0]) (n := 2) (g := true) kr kr rfl rfl rfl (by decide) (by decide) rfl rfl) ?_)); (refine AL.nm ?_); (refine AL.nM ?_)) | refine AL.nil ?_) | ((with_reducible refine AW.on ?_); first | refine AW.seq ?_ | refine AW.skip ?_ | refine AW.exit ?_ | refine AW.ret ?_ | ((refine AW.block (id := 0) ?_); (refine AW.fk [4, 7, 22, 23] ?_); (refine AW.loop (fun n' t' m => ∃ k : Nat, n' = (edL ts).length - k ∧ k ≤ (edL ts).length ∧ ((k = 0 ∧ t' = [jk, jk, jk, jk, .pointer (some ⟨3, 0, none⟩), jk, jk, .slice none 0 0, jk, jk, jk, jk, jk, jk, jk, jk, jk, jk, jk, jk, jk, jk, .int .i64 ((edL ts).length), .int .i64 (k), jk, jk, jk, jk, jk, jk, jk, jk, jk, jk] ∧ m = [some ⟨flatP l, false, z⟩, some ⟨flatT ts, false, z1⟩, some ⟨[.slice (some ⟨0, 0, none⟩) l.length c, .slice (some ⟨1, 0, none⟩) ts.length c2], true, 0⟩, some ⟨[.slice (some ⟨0, 0, none⟩) l.length c, .slice (some ⟨1, 0, none⟩) ts.length c2, .slice (some ⟨5, 0, none⟩) (edL ts).length INF, .map (some 4)], true, 0⟩, some (mpX (lfA ts) true 0), some ⟨flatP (edL ts), true, 2⟩]) ∨ (0 < k ∧ t' = [jk, jk, jk, jk, .pointer (some ⟨3, 0, none⟩), jk, jk, .slice (some ⟨6, 0, none⟩) (k) INF, jk, jk, jk, jk, jk, jk, jk, jk, jk, jk, jk, jk, jk, jk, .int .i64 ((edL ts).length), .int .i64 (k), jk, jk, jk, jk, jk, jk, jk, jk, jk, jk] ∧ m = [some ⟨flatP l, false, z⟩, some ⟨flatT ts, false, z1⟩, some ⟨[.slice (some ⟨0, 0, none⟩) l.length c, .slice (some ⟨1, 0, none⟩) ts.length c2], true, 0⟩, some ⟨[.slice (some ⟨0, 0, none⟩) l.length c, .slice (some ⟨1, 0, none⟩) ts.length c2, .slice (some ⟨5, 0, none⟩) (edL ts).length INF, .map (some 4)], true, 0⟩, some (mpX (lfA ts) true 0), some ⟨flatP (edL ts), true, 2⟩, some ⟨flatP ((sdL ts).take k), true, 2⟩]))) ((edL ts).length) (by exact ⟨0, rfl, Nat.zero_le _, .inl ⟨rfl, rfl, rfl⟩⟩) ?_); (rintro n' t' m ⟨k, rfl, hk, (⟨hk0, rfl, rfl⟩ | ⟨hk1, rfl, rfl⟩)⟩)) | refine AW.block ?_ | refine AW.region ?_ | (refine AW.conds rfl (fun hc => ?_) (fun hc => ?_) <;> (try replace hc := nc hc) <;> first | (exfalso; first | contradiction | (omega); done) | skip)) | ((with_reducible refine ex_on ?_); first | (obtain rfl := hk0; have hf0 := hft 0 (by omega); rw [hps 0 (by omega)] at hf0; refine ⟨(edL ts).length - 1, [jk, jk, jk, jk, .pointer (some ⟨3, 0, none⟩), jk, jk, .slice (some ⟨6, 0, none⟩) (1) INF, jk, jk, jk, jk, jk, jk, jk, jk, jk, jk, jk, jk, jk, jk, .int .i64 ((edL ts).length), .int .i64 (((0 + 1 : Nat) : Int)), jk, jk, jk, jk, jk, jk, jk, jk, jk, jk], [some ⟨flatP l, false, z⟩, some ⟨flatT ts, false, z1⟩, some ⟨[.slice (some ⟨0, 0, none⟩) l.length c, .slice (some ⟨1, 0, none⟩) ts.length c2], true, 0⟩, some ⟨[.slice (some ⟨0, 0, none⟩) l.length c, .slice (some ⟨1, 0, none⟩) ts.length c2, .slice (some ⟨5, 0, none⟩) (edL ts).length INF, .map (some 4)], true, 0⟩, some (mpX (lfA ts) true 0), some ⟨flatP (edL ts), true, 2⟩, some ⟨[.int .i64 (sdP ts (pt (edL ts) 0)).x, .int .i64 (sdP ts (pt (edL ts) 0)).y], true, 2⟩], by omega, ?_, 0 + 1, rfl, by omega, .inr ⟨by omega, rfl, by rw [← hf0]; rfl⟩⟩; exact Wk.keep 6 [7] (by rw [hE]; exact Nat.le_of_ble_eq_true rfl) rfl rfl (by repeat (first | exact RenT.nil | refine RenT.jk ?_ | refine RenT.val (by rfl) (by rfl) ?_)) ⟨⟨_, rfl, rfl, rfl, .inl ⟨rfl, flatP_scal l⟩⟩, ⟨_, rfl, rfl, rfl, .inl ⟨rfl, flatT_scal ts⟩⟩, ⟨_, rfl, rfl, rfl, .inr ⟨rfl, rfl⟩⟩, ⟨_, rfl, rfl, rfl, .inr ⟨rfl, rfl⟩⟩, ⟨_, rfl, rfl, rfl, .inl ⟨rfl, rfl⟩⟩, ⟨_, rfl, rfl, rfl, .inl ⟨rfl, flatP_scal _⟩⟩, ⟨_, rfl, rfl, rfl, .inl ⟨rfl, rfl⟩⟩, trivial⟩) | (have hf0 := hft k (by omega); rw [hps k (by omega)] at hf0; refine ⟨(edL ts).length - (k + 1), [jk, jk, jk, jk, .pointer (some ⟨3, 0, none⟩), jk, jk, .slice (some ⟨6, 0, none⟩) (k + 1) INF, jk, jk, jk, jk, jk, jk, jk, jk, jk, jk, jk, jk, jk, jk, .int .i64 ((edL ts).length), .int .i64 (((k + 1 : Nat) : Int)), jk, jk, jk, jk, jk, jk, jk, jk, jk, jk], [some ⟨flatP l, false, z⟩, some ⟨flatT ts, false, z1⟩, some ⟨[.slice (some ⟨0, 0, none⟩) l.length c, .slice (some ⟨1, 0, none⟩) ts.length c2], true, 0⟩, some ⟨[.slice (some ⟨0, 0, none⟩) l.length c, .slice (some ⟨1, 0, none⟩) ts.length c2, .slice (some ⟨5, 0, none⟩) (edL ts).length INF, .map (some 4)], true, 0⟩, some (mpX (lfA ts) true 0), some ⟨flatP (edL ts), true, 2⟩, some ⟨flatP ((sdL ts).take k) ++ [.int .i64 (sdP ts (pt (edL ts) k)).x, .int .i64 (sdP ts (pt (edL ts) k)).y], true, 2⟩], by omega, ?_, k + 1, rfl, by omega, .inr ⟨by omega, rfl, by rw [← hf0]⟩⟩; exact Wk.keep 6 [8] (by rw [hE]; exact Nat.le_of_ble_eq_true rfl) rfl rfl (by repeat (first | exact RenT.nil | refine RenT.jk ?_ | refine RenT.val (by rfl) (by rfl) ?_)) ⟨⟨_, rfl, rfl, rfl, .inl ⟨rfl, flatP_scal l⟩⟩, ⟨_, rfl, rfl, rfl, .inl ⟨rfl, flatT_scal ts⟩⟩, ⟨_, rfl, rfl, rfl, .inr ⟨rfl, rfl⟩⟩, ⟨_, rfl, rfl, rfl, .inr ⟨rfl, rfl⟩⟩, ⟨_, rfl, rfl, rfl, .inl ⟨rfl, rfl⟩⟩, ⟨_, rfl, rfl, rfl, .inl ⟨rfl, flatP_scal _⟩⟩, ⟨_, rfl, rfl, rfl, .inl ⟨rfl, by rw [List.all_append, flatP_scal]; rfl⟩⟩, trivial⟩)) | ((with_reducible refine FinA.on ?_); (obtain rfl : k = (edL ts).length := (by omega); rw [htl]; refine FinA.keep 2 [6] (.inl rfl) (.tmp wl (.tmp wl .nil)) ?_ rfl (Nat.le_of_eq hE) rfl rfl ⟨⟨_, rfl, rfl, rfl, .inl ⟨rfl, flatP_scal l⟩⟩, ⟨_, rfl, rfl, rfl, .inl ⟨rfl, flatT_scal ts⟩⟩, ⟨_, rfl, rfl, rfl, .inl ⟨rfl, flatP_scal _⟩⟩, trivial⟩; rfl)))
end Go.Proofs.YtmohcmghbfhdlaaGreat
end
end
/- Chapter 6: what holds of a right net (plain). -/
section
set_option linter.unusedSimpArgs false
set_option linter.unusedVariables false
namespace Go.Me
open Go.Ab Go.Proofs.YtmohcmghbfhdlaaGreat
set_option maxRecDepth 100000
theorem lk_no {l : List Pn} {ts : List T3} (h : NetR l ts) {e : IE} : lk (lfA ts) e = -1 ↔ e ∉ (lfA ts).map (·.1) :=
  ⟨fun h1 => lk_notin (fun p hp => (h.ok.rng p hp).2.2) h1, fun h1 => lk_not h1⟩
theorem take_tr {ts : List T3} {k : Nat} (h : k < ts.length) : ts.take (k + 1) = ts.take k ++ [tr ts k] := by
  rw [List.take_add_one, List.getElem?_eq_getElem h]
  unfold tr
  rw [List.getD_eq_getElem?_getD, List.getElem?_eq_getElem h]
  rfl
theorem insL_mem {l : List Int} {k x : Int} : x ∈ insL l k ↔ x ∈ l ∨ x = k := by
  unfold insL
  split
  · rename_i h
    constructor
    · exact .inl
    · rintro (h1 | rfl)
      · exact h1
      · exact h
  · rw [List.mem_append, List.mem_singleton]
theorem us_mem {ts : List T3} {x : Int} : ∀ k, x ∈ us ts k ↔ ∃ j, j < k ∧ (x = (tr ts j).1 ∨ x = (tr ts j).2.1 ∨ x = (tr ts j).2.2)
  | 0 => by simp [us]
  | k + 1 => by
    unfold us
    rw [insL_mem, insL_mem, insL_mem, us_mem k]
    constructor
    · rintro (((⟨j, h1, h2⟩ | h) | h) | h)
      · exact ⟨j, by omega, h2⟩
      · exact ⟨k, by omega, .inl h⟩
      · exact ⟨k, by omega, .inr (.inl h)⟩
      · exact ⟨k, by omega, .inr (.inr h)⟩
    · rintro ⟨j, h1, h2⟩
      rcases Nat.lt_or_eq_of_le (Nat.le_of_lt_succ h1) with h3 | rfl
      · exact .inl (.inl (.inl ⟨j, h3, h2⟩))
      · rcases h2 with h2 | h2 | h2
        · exact .inl (.inl (.inr h2))
        · exact .inl (.inr h2)
        · exact .inr h2
theorem us_full {l : List Pn} {ts : List T3} (hall : ∀ j, j < ts.length → trK l ts j = 0) : (us ts ts.length).length = l.length ↔ ∀ i : Nat, i < l.length → (i : Int) ∈ us ts ts.length := by
  have hr : ∀ x ∈ us ts ts.length, 0 ≤ x ∧ x < l.length := fun x hx => by
    obtain ⟨j, hj, h⟩ := (us_mem _).1 hx
    obtain ⟨h1, _⟩ := trK_0 (hall j hj)
    unfold inR at h1
    omega
  have hn := us_nodup ts ts.length
  have hle : (us ts ts.length).length ≤ l.length := by
    have := le_nodup (us ts ts.length) ((List.range l.length).map Int.ofNat) hn fun y hy => by
      obtain ⟨h1, h2⟩ := hr y hy
      exact List.mem_map.2 ⟨y.toNat, List.mem_range.2 (by omega), by simp only [Int.ofNat_eq_natCast]; omega⟩
    rwa [List.length_map, List.length_range] at this
  constructor
  · intro he i hi
    apply Classical.byContradiction
    intro hno
    have := le_nodup (us ts ts.length) (((List.range l.length).map Int.ofNat).erase (i : Int)) hn fun y hy => by
      obtain ⟨h1, h2⟩ := hr y hy
      refine (List.mem_erase_of_ne (fun e => hno (by rw [← e]; exact hy))).2 ?_
      exact List.mem_map.2 ⟨y.toNat, List.mem_range.2 (by omega), by simp only [Int.ofNat_eq_natCast]; omega⟩
    rw [List.length_erase_of_mem (show (i : Int) ∈ (List.range l.length).map Int.ofNat from List.mem_map.2 ⟨i, List.mem_range.2 hi, rfl⟩), List.length_map, List.length_range] at this
    omega
  · intro h
    have := le_nodup ((List.range l.length).map Int.ofNat) (us ts ts.length) (by
      unfold List.Nodup
      rw [List.pairwise_map]
      have : (List.range l.length).Nodup := List.nodup_range
      exact this.imp fun {a b} hne he => hne (Int.ofNat.inj he)) fun y hy => by
      obtain ⟨i, hi, rfl⟩ := List.mem_map.1 hy
      exact h i (List.mem_range.1 hi)
    rw [List.length_map, List.length_range] at this
    omega
theorem NetR.g {l : List Pn} {ts : List T3} (h : NetR l ts) : 0 < ts.length ∧ arT l ts ts.length = arS l (hl l) (hl l).length ∧ (us ts ts.length).length = l.length := by
  have := h.gp
  unfold gpB at this
  rw [Bool.or_eq_false_iff, Bool.or_eq_false_iff, decide_eq_false_iff_not, decide_eq_false_iff_not, decide_eq_false_iff_not] at this
  omega
end Go.Me
end
/- Chapter 6: what the reference's look for an edge finds, its order of triangles (plain). -/
section
set_option linter.unusedSimpArgs false
set_option linter.unusedVariables false
namespace Go.Me
open Go.Ab Go.Proofs.YtmohcmghbfhdlaaGreat
set_option maxRecDepth 100000
theorem lf_ix {ts : List T3} : ∀ k, ∀ p ∈ lf ts k, 0 ≤ p.2 ∧ p.2 < (k : Int)
  | 0, p, hp => by unfold lf at hp; cases hp
  | k + 1, p, hp => by
    unfold lf at hp
    simp only [List.mem_append, List.mem_singleton] at hp
    rcases hp with ((h | rfl) | rfl) | rfl
    · have := lf_ix k p h
      omega
    all_goals simp only; omega
theorem lf_sc (ts : List T3) (k : Nat) : lf ts (k + 1) = lf ts k ++ [(((tr ts k).1, (tr ts k).2.1), (k : Int))] ++ [(((tr ts k).2.1, (tr ts k).2.2), (k : Int))] ++ [(((tr ts k).2.2, (tr ts k).1), (k : Int))] := rfl
theorem lk_cons (p : IE × Int) (r : List (IE × Int)) (e : IE) : lk (p :: r) e = if p.1 = e then p.2 else lk r e := rfl
theorem lk_app (e : IE) (B : List (IE × Int)) : ∀ A : List (IE × Int), lk (A ++ B) e = if e ∈ A.map (·.1) then lk A e else lk B e
  | [] => by simp
  | p :: A => by
    rw [List.cons_append, List.map_cons, lk_cons, lk_cons]
    by_cases h : p.1 = e
    · rw [if_pos h, if_pos h, if_pos (by rw [List.mem_cons]; exact .inl h.symm)]
    · rw [if_neg h, if_neg h, lk_app e B A]
      by_cases h2 : e ∈ A.map (·.1)
      · rw [if_pos h2, if_pos (List.mem_cons_of_mem _ h2)]
      · rw [if_neg h2, if_neg (fun h3 => (List.mem_cons.1 h3).elim (fun h4 => h h4.symm) h2)]
def isE (t : T3) (e : IE) : Prop := e = (t.1, t.2.1) ∨ e = (t.2.1, t.2.2) ∨ e = (t.2.2, t.1)
instance (t : T3) (e : IE) : Decidable (isE t e) := by unfold isE; infer_instance
theorem lk_succ {ts : List T3} {k : Nat} {e : IE} (h : lk (lf ts k) e = -1) : lk (lf ts (k + 1)) e = if isE (tr ts k) e then (k : Int) else -1 := by
  have hn : e ∉ (lf ts k).map (·.1) := lk_notin (fun p hp => (lf_ix k p hp).1) h
  rw [lf_sc, List.append_assoc, List.append_assoc, lk_app, if_neg hn]
  show lk [(((tr ts k).1, (tr ts k).2.1), (k : Int)), (((tr ts k).2.1, (tr ts k).2.2), (k : Int)), (((tr ts k).2.2, (tr ts k).1), (k : Int))] e = _
  rw [lk_cons, lk_cons, lk_cons]
  by_cases h1 : ((tr ts k).1, (tr ts k).2.1) = e
  · rw [if_pos h1, if_pos (show isE (tr ts k) e from .inl h1.symm)]
  · rw [if_neg h1]
    by_cases h2 : ((tr ts k).2.1, (tr ts k).2.2) = e
    · rw [if_pos h2, if_pos (show isE (tr ts k) e from .inr (.inl h2.symm))]
    · rw [if_neg h2]
      by_cases h3 : ((tr ts k).2.2, (tr ts k).1) = e
      · rw [if_pos h3, if_pos (show isE (tr ts k) e from .inr (.inr h3.symm))]
      · rw [if_neg h3, if_neg (fun hh : isE (tr ts k) e => hh.elim (fun h => h1 h.symm) fun hh => hh.elim (fun h => h2 h.symm) fun h => h3 h.symm)]
        rfl
theorem lk_keep {ts : List T3} {k n : Nat} {e : IE} (h : lk (lf ts k) e ≠ -1) (hn : k ≤ n) : lk (lf ts n) e = lk (lf ts k) e := by
  induction n with
  | zero => rw [show k = 0 by omega]
  | succ n ih =>
    by_cases hk : k = n + 1
    · rw [hk]
    · rw [← ih (by omega), lf_sc, List.append_assoc, List.append_assoc, lk_app, if_pos]
      apply Classical.byContradiction
      intro hh
      have := lk_not hh
      rw [ih (by omega)] at this
      exact h this
theorem has_yes {ts : List T3} {k n : Nat} {e : IE} (h : lk (lf ts k) e = -1) (he : isE (tr ts k) e) (hn : k < n) : lk (lf ts n) e = k := by
  have h1 := lk_succ h
  rw [if_pos he] at h1
  rw [← h1]
  exact lk_keep (by omega) (by omega)
theorem has_no {ts : List T3} {k : Nat} {e : IE} (h : lk (lf ts k) e = -1) (he : ¬ isE (tr ts k) e) : lk (lf ts (k + 1)) e = -1 := by
  rw [lk_succ h, if_neg he]
theorem cmpI_anti (a b : Int) : cmpI b a = -cmpI a b := by
  unfold cmpI
  repeat' split
  all_goals omega
theorem cmp3_anti (a b : T3) : cmp3 b a = -cmp3 a b := by
  unfold cmp3
  rw [cmpI_anti a.1, cmpI_anti a.2.1, cmpI_anti a.2.2]
  repeat' split
  all_goals omega
end Go.Me
end
/- Chapter 6: what the reference's look for an edge, its order of triangles and its hull's area are (plain). -/
section
set_option linter.unusedSimpArgs false
set_option linter.unusedVariables false
namespace Go.Me
open Go.Ab Go.Proofs.YtmohcmghbfhdlaaGreat
set_option maxRecDepth 100000
def haK (l : List Pn) (H : List Nat) : Nat → Int
  | 0 => 0
  | k + 1 => haK l H k + cr (pt l (ot H 0)) (pt l (ot H (k + 1))) (pt l (ot H (k + 2)))
theorem haK_ar {l : List Pn} {H : List Nat} : ∀ k, k + 2 ≤ H.length → haK l H k = arS l H (k + 1) + ((pt l (ot H (k + 1))).x * (pt l (ot H 0)).y - (pt l (ot H (k + 1))).y * (pt l (ot H 0)).x)
  | 0, h => by
    unfold haK arS arS
    rw [Nat.zero_add, Nat.mod_eq_of_lt (show 1 < H.length by omega)]
    grind
  | k + 1, h => by
    have e : arS l H (k + 1 + 1) = arS l H (k + 1) + ((pt l (ot H (k + 1))).x * (pt l (ot H ((k + 1 + 1) % H.length))).y - (pt l (ot H (k + 1))).y * (pt l (ot H ((k + 1 + 1) % H.length))).x) := rfl
    rw [e, Nat.mod_eq_of_lt (show k + 1 + 1 < H.length by omega)]
    show haK l H k + _ = _
    rw [haK_ar k (by omega)]
    unfold cr
    grind
theorem haK_all {l : List Pn} {H : List Nat} (h : 3 ≤ H.length) : haK l H (H.length - 2) = arS l H H.length := by
  rw [haK_ar _ (by omega)]
  obtain ⟨k, hk⟩ : ∃ k, H.length = k + 2 := ⟨H.length - 2, by omega⟩
  have e : arS l H (k + 2) = arS l H (k + 1) + ((pt l (ot H (k + 1))).x * (pt l (ot H ((k + 2) % H.length))).y - (pt l (ot H (k + 1))).y * (pt l (ot H ((k + 2) % H.length))).x) := rfl
  rw [hk] at e ⊢
  rw [show k + 2 - 2 = k by omega, e, Nat.mod_self]
theorem arS_two {l : List Pn} {H : List Nat} (h : H.length ≤ 2) : arS l H H.length = 0 := by
  match H, h with
  | [], _ => rfl
  | [a], _ =>
    show arS l [a] 1 = 0
    unfold arS arS
    simp [ot]
    grind
  | [a, b], _ =>
    show arS l [a, b] 2 = 0
    unfold arS arS arS
    simp [ot]
    grind
theorem netE_t {l : List Pn} {ts : List T3} (h0 : cpB l = 0) (h80 : ts.length ≤ 80) {i : Nat} (hi : i < ts.length) (hj : ∀ j, j < i → trK l ts j = 0) (he : trK l ts i ≠ 0) : netE l ts = trK l ts i ∧ netI l ts = i := by
  refine ⟨?_, ?_⟩
  · unfold netE
    rw [if_neg (fun h => h h0), if_neg (by omega), fstN_yes hj he _ hi, if_pos (by omega), Int.toNat_natCast]
  · unfold netI
    rw [if_neg (fun h => h h0), if_neg (by omega), fstN_yes hj he _ hi, if_pos (by omega)]
theorem netI_z {l : List Pn} {ts : List T3} (h0 : cpB l = 0) (h80 : ts.length ≤ 80) (hall : ∀ j, j < ts.length → trK l ts j = 0) : netI l ts = 0 := by
  unfold netI
  rw [if_neg (fun h => h h0), if_neg (by omega), fstN_no _ hall, if_neg (fun h => h rfl)]
theorem netE_o {l : List Pn} {ts : List T3} (h0 : cpB l = 0) (h80 : ts.length ≤ 80) (hall : ∀ j, j < ts.length → trK l ts j = 0) (ho : opB l ts = true) : netE l ts = 25 ∧ netI l ts = 0 := by
  refine ⟨?_, netI_z h0 h80 hall⟩
  unfold netE
  rw [if_neg (fun h => h h0), if_neg (by omega), fstN_no _ hall, if_neg (fun h => h rfl), if_pos ho]
theorem netE_g {l : List Pn} {ts : List T3} (h0 : cpB l = 0) (h80 : ts.length ≤ 80) (hall : ∀ j, j < ts.length → trK l ts j = 0) (ho : opB l ts = false) (hg : gpB l ts = true) : netE l ts = 14 ∧ netI l ts = 0 := by
  refine ⟨?_, netI_z h0 h80 hall⟩
  unfold netE
  rw [if_neg (fun h => h h0), if_neg (by omega), fstN_no _ hall, if_neg (fun h => h rfl), ho, if_neg (by decide), hg, if_pos rfl]
end Go.Me
end
/- Chapter 6: the reference's area of the hull. -/
section
set_option linter.unusedSimpArgs false
set_option linter.unusedVariables false
section
namespace Go.Me
open Go.Ab Go.Proofs.YtmohcmghbfhdlaaGreat
theorem haK_bd {l : List Pn} {H : List Nat} (hok : ∀ k, k < l.length → (pt l k).Ok) (hH : ∀ k, k < H.length → ot H k < l.length) : ∀ k, k + 2 ≤ H.length → -(800000000 * (k : Int)) ≤ haK l H k ∧ haK l H k ≤ 800000000 * (k : Int)
  | 0, _ => by unfold haK; omega
  | k + 1, h => by
    have h1 := haK_bd hok hH k (by omega)
    have h2 := cr_bd (hok _ (hH 0 (by omega))) (hok _ (hH (k + 1) (by omega))) (hok _ (hH (k + 2) (by omega)))
    show -(800000000 * ((k + 1 : Nat) : Int)) ≤ haK l H k + cr _ _ _ ∧ haK l H k + cr _ _ _ ≤ _
    unfold cr
    omega
end Go.Me
namespace Go.Proofs.YtmohcmghbfhdlaaGreat
open Go Go.RowKit Go.Ab Go.Me
set_option maxRecDepth 100000
set_option maxHeartbeats 4000000
attribute [local irreducible] OQ OW AL AW AF SW
theorem HullArea_0 (l : List Pn) (c z : Nat) (h0 : cpB l = 0) : PCalls Tryz.prog 77 [.slice (some ⟨0, 0, none⟩) l.length c] [some ⟨flatP l, false, z⟩] (.int .i64 (arS l (hl l) (hl l).length)) := by
  obtain ⟨h40, hok, hap⟩ := cp_ok h0
  have hle := hl_le h0
  cases hf : flK l (l.length - 2) with
  | true =>
    rw [arS_two (hl_flat h0 hf)]
    have hr := fun (m : Mem) (blk : Blk) (h1 : m.at 0 = some blk) (h2 : blk.cells = flatP l) (h3 : blk.obj = Ob.plain) => rHull_fq (c := c) l hok hf h1 h2 rfl (by omega) h3
    refine PCalls.en 38 Tryz.func77 rfl (ro1p _ rfl) rfl (fun E => ?_)
    repeat' (first | with_reducible (first | refine Then.n ?_ | refine Then.x ?_ | refine InB.hit ?_) | ((with_reducible refine AL.on ?_); first | ((first | ((with_reducible refine AL.k_move ?_); (refine AL.q rfl (OQ.move wl) ?_)) | ((with_reducible refine AL.k_assign ?_); (refine AL.q rfl (OQ.assign wl) ?_)) | ((with_reducible refine AL.k_binOp ?_); refine AL.q rfl (OQ.lss rfl rfl) ?_) | ((with_reducible refine AL.k_call ?_); refine AL.q rfl (OQ.lenS (xt := 26) (r := (none, 1, false)) rfl kr) ?_)); (refine AL.nm ?_)) | ((refine AL.pcall (g := 60) rfl kr rfl ((by exact hr _ _ rfl rfl rfl)) ?_); (refine AL.nm ?_)) | refine AL.nil ?_) | ((with_reducible refine AW.on ?_); first | refine AW.seq ?_ | refine AW.exit ?_ | refine AW.ret ?_ | (refine AW.block (id := 0) ?_; refine AW.unroll 1 ?_) | refine AW.region ?_ | (refine AW.conds rfl (fun hc => ?_) (fun hc => ?_) <;> (try replace hc := nc hc) <;> first | (exfalso; contradiction) | skip)) | with_reducible refine AR.s ?_ | ((with_reducible refine FinP.on ?_); (refine FinP.ret (.tmp wl .nil) ?_ rfl); (try simp only [pack, List.drop, List.take]); all_goals (rfl)))
  | false =>
    have hR := hl_ring h0 hf
    rw [← haK_all hR.len]
    have hr := fun (m : Mem) (blk : Blk) (h1 : m.at 0 = some blk) (h2 : blk.cells = flatP l) (h3 : blk.obj = Ob.plain) => rHull_y (c := c) l h0 hf h1 h2 rfl h3
    have hbd := haK_bd (l := l) (H := hl l) hok hR.bd
    have hl3 := hR.len
    have hin := hR.bd
    have hA := fun (i j k : Nat) (h1 : i < (hl l).length) (h2 : j < (hl l).length) (h3 : k < (hl l).length) (m : Mem) => Area_q (hok _ (hin i h1)) (hok _ (hin j h2)) (hok _ (hin k h3)) m
    have hz : haK l (hl l) 0 = 0 := rfl
    have hs : ∀ k, haK l (hl l) k + cr (pt l (ot (hl l) 0)) (pt l (ot (hl l) (k + 1))) (pt l (ot (hl l) (k + 2))) = haK l (hl l) (k + 1) := fun k => rfl
    have hcb : ∀ k, k + 3 ≤ (hl l).length → -800000000 ≤ cr (pt l (ot (hl l) 0)) (pt l (ot (hl l) (k + 1))) (pt l (ot (hl l) (k + 2))) ∧ cr (pt l (ot (hl l) 0)) (pt l (ot (hl l) (k + 1))) (pt l (ot (hl l) (k + 2))) ≤ 800000000 := fun k hk => by
      have := cr_bd (hok _ (hin 0 (by omega))) (hok _ (hin (k + 1) (by omega))) (hok _ (hin (k + 2) (by omega)))
      unfold cr
      omega
    have hgo := flatO_get (hl l)
    have hg1 : ∀ k : Nat, k + 1 < (hl l).length → (flatO (hl l))[((k : Int) + 2 - 1).toNat]? = some (.int .i64 (ot (hl l) (k + 1))) := fun k hk => by
      rw [show ((k : Int) + 2 - 1).toNat = k + 1 by omega]
      exact flatO_get _ _ hk
    have hg2 : ∀ k : Nat, k + 2 < (hl l).length → (flatO (hl l))[((k : Int) + 2).toNat]? = some (.int .i64 (ot (hl l) (k + 2))) := fun k hk => by
      rw [show ((k : Int) + 2).toNat = k + 2 by omega]
      exact flatO_get _ _ hk
    have hld := fun (k : Nat) (hk : k < l.length) (r : Mem) => flatP_ld (m := some ⟨flatP l, false, z⟩ :: r) (b := 0) (l := l) rfl rfl k hk
    generalize haK l (hl l) = HK at *
    generalize hl l = H at *
    refine PCalls.en 38 Tryz.func77 rfl (ro1p _ rfl) rfl (fun E => ?_)
    repeat' (first | with_reducible (first | refine Then.n ?_ | refine Then.x ?_ | refine InB.n ?_ | refine InB.hit ?_) | ((with_reducible refine AL.on ?_); first | ((first | ((with_reducible refine AL.k_move ?_); (refine AL.q rfl (OQ.move wl) ?_)) | ((with_reducible refine AL.k_assign ?_); (refine AL.q rfl (OQ.assign wl) ?_)) | ((with_reducible refine AL.k_binOp ?_); first | refine AL.q rfl (OQ.lss rfl rfl) ?_ | refine AL.q rfl (OQ.addi rfl rfl (by omega)) ?_) | ((with_reducible refine AL.k_call ?_); refine AL.q rfl (OQ.lenS (xt := 26) (r := (none, 1, false)) rfl kr) ?_)); (refine AL.nm ?_)) | ((refine AL.acall (g := 60) rfl kr rfl ((by exact hr _ _ rfl rfl rfl)) ?_); (refine AL.nm ?_); (refine AL.nM ?_)) | refine AL.nil ?_) | ((with_reducible refine AW.on ?_); first | refine AW.seq ?_ | refine AW.skip ?_ | refine AW.exit ?_ | refine AW.ret ?_ | ((refine AW.block (id := 0) ?_); (refine AW.fk [0, 3, 4, 5] ?_); (refine AW.loop (fun n' t' m => ∃ k : Nat, n' = H.length - 2 - k ∧ k + 2 ≤ H.length ∧ t' = (mtz 39 0 [(0, .slice (some ⟨0, 0, none⟩) l.length c), (3, .slice (some ⟨1, 0, none⟩) (H.length) INF), (4, .int .i64 (HK k)), (5, .int .i64 (k + 2))]) ∧ m = [some ⟨flatP l, false, z⟩, some ⟨flatO H, true, 1⟩]) (H.length - 2) (by exact ⟨0, rfl, by omega, by rw [hz]; rfl, rfl⟩) ?_); (rintro n' t' m ⟨k, rfl, hk, rfl, rfl⟩); (refine AW.nT ?_)) | refine AW.block ?_ | (refine AW.drawF (id := 6) 23 #[0, 0, 0, 4, 12, 30, 62, 0, 0, 0, 512, 1792, 3840, 8064, 16256, 0, 0, 0, 196608, 458752, 1015808, 2064384, 4194302, 8388607, 16777215] kr kr ?_; (conv => (arg 8; simp only [List.take_succ_cons, List.take_zero])); ((have q1 := hcb k (by omega); have q2 := hbd k (by omega)))) | refine AW.region ?_ | (refine AW.conds rfl (fun hc => ?_) (fun hc => ?_) <;> (try replace hc := nc hc) <;> skip)) | ((with_reducible refine AF.on ?_); first | ((first | ((with_reducible refine AF.k_move ?_); (refine AF.q 0 (SW.q (OQ.move wl) rfl) ?_)) | ((with_reducible refine AF.k_indexAddr ?_); first | (refine AF.q 0 (SW.q (OQ.idxAddr (ty := 26) (z := 1) (g := false) rfl rfl kr (by omega) (by omega)) rfl) ?_) | (refine AF.q 0 (SW.q (OQ.idxAddr (ty := 22) (z := 2) (g := true) rfl rfl kr (by omega) (by first | (have := hin 0 (by omega); omega) | (have := hin (k + 1) (by omega); omega) | (have := hin (k + 2) (by omega); omega))) rfl) ?_)) | ((with_reducible refine AF.k_load ?_); first | (refine AF.ql rfl (SW.q (OQ.load1 (ty := 3) rfl kr (by first | (first | exact hgo 0 (by omega) | exact hg1 k (by omega) | exact hg2 k (by omega)) | (conv => lhs; whnf))) rfl) ?_) | refine AF.ql rfl (SW.q (OQ.loadN (ty := 65) (n := 2) rfl kr kr (by (exact hld _ (by first | exact hin 0 (by omega) | exact hin (k + 1) (by omega) | exact hin (k + 2) (by omega)) _))) rfl) ?_) | ((with_reducible refine AF.k_binOp ?_); refine AF.q 0 (SW.q (OQ.subi rfl rfl (by omega)) rfl) ?_) | ((with_reducible refine AF.k_call ?_); refine AF.q 2 (SW.pcall (g := 74) rfl kr rfl ((by exact hA 0 (k + 1) (k + 2) (by omega) (by omega) (by omega) _)) rfl) ?_)); (conv => (arg 9; try tactic => exact nrmF)); (conv => (arg 11; try simp only [List.nil_append, List.cons_append]))) | (refine AF.nil ?_ kr; (conv => (arg 4; simp only [List.drop_succ_cons, List.drop_zero, List.drop_nil])))) | ((with_reducible refine ex_on ?_); (rw [show ((k : Int) + 2 + 1) = ((k + 1 : Nat) : Int) + 2 by omega, hs k]; refine ⟨H.length - 2 - (k + 1), _, _, by omega, ?_, k + 1, rfl, by omega, rfl, rfl⟩; exact Wk.fk [0, 3, 4, 5] rfl)) | ((with_reducible refine FinP.on ?_); (refine FinP.ret (.tmp wl .nil) ?_ rfl); (try simp only [pack, List.drop, List.take]); all_goals ((obtain rfl : k = H.length - 2 := (by omega); rfl))))
theorem HullArea_q {m : Mem} {b n c : Nat} {blk : Blk} (l : List Pn) (h0 : cpB l = 0) (hb : m.at b = some blk) (hc : blk.cells = flatP l) (hn : l.length = n) (ho : blk.obj = Ob.plain) : PCalls Tryz.prog 77 [.slice (some ⟨b, 0, none⟩) n c] m (.int .i64 (arS l (hl l) (hl l).length)) := by
  subst hn
  exact PCalls.viaS [b] (HullArea_0 l c blk.esz h0) (ro1p _ rfl) ⟨⟨_, hb, by unfold Blk.shp Blk.shpR; rw [ho]; rfl, (fun h => nomatch h), .inl ⟨hc, flatP_scal _⟩⟩, trivial⟩ rfl rfl rfl rfl
end Go.Proofs.YtmohcmghbfhdlaaGreat
end
end
