/- Chapter 6: what the reference's look for an edge finds, its order of triangles (plain). -/
import Derived.Test.YtmohcmghbfhdlaaGreatQf
import Derived.Test.YtmohcmghbfhdlaaGreatQk
import Derived.Test.YtmohcmghbfhdlaaGreatQc
import Derived.Test.YtmohcmghbfhdlaaGreatQd
import Derived.Test.YtmohcmghbfhdlaaGreatProg
import Derived.Test.YtmohcmghbfhdlaaGreatQe
section
set_option linter.unusedSimpArgs false
set_option linter.unusedVariables false
namespace Go.Me
open Go.Ab Go.Proofs.YtmohcmghbfhdlaaGreat
set_option maxRecDepth 100000
theorem lf_ix {ts : List T3} : ∀ k, ∀ p ∈ lf ts k, 0 ≤ p.2 ∧ p.2 < (k : Int)
  | 0, p, hp => by unfold lf at hp; cases hp
  | k + 1, p, hp => by
    unfold lf at hp
    simp only [List.mem_append, List.mem_singleton] at hp
    rcases hp with ((h | rfl) | rfl) | rfl
    · have := lf_ix k p h
      omega
    all_goals simp only; omega
theorem lf_sc (ts : List T3) (k : Nat) : lf ts (k + 1) = lf ts k ++ [(((tr ts k).1, (tr ts k).2.1), (k : Int))] ++ [(((tr ts k).2.1, (tr ts k).2.2), (k : Int))] ++ [(((tr ts k).2.2, (tr ts k).1), (k : Int))] := rfl
theorem lk_cons (p : IE × Int) (r : List (IE × Int)) (e : IE) : lk (p :: r) e = if p.1 = e then p.2 else lk r e := rfl
theorem lk_app (e : IE) (B : List (IE × Int)) : ∀ A : List (IE × Int), lk (A ++ B) e = if e ∈ A.map (·.1) then lk A e else lk B e
  | [] => by simp
  | p :: A => by
    rw [List.cons_append, List.map_cons, lk_cons, lk_cons]
    by_cases h : p.1 = e
    · rw [if_pos h, if_pos h, if_pos (by rw [List.mem_cons]; exact .inl h.symm)]
    · rw [if_neg h, if_neg h, lk_app e B A]
      by_cases h2 : e ∈ A.map (·.1)
      · rw [if_pos h2, if_pos (List.mem_cons_of_mem _ h2)]
      · rw [if_neg h2, if_neg (fun h3 => (List.mem_cons.1 h3).elim (fun h4 => h h4.symm) h2)]
def isE (t : T3) (e : IE) : Prop := e = (t.1, t.2.1) ∨ e = (t.2.1, t.2.2) ∨ e = (t.2.2, t.1)
instance (t : T3) (e : IE) : Decidable (isE t e) := by unfold isE; infer_instance
theorem lk_succ {ts : List T3} {k : Nat} {e : IE} (h : lk (lf ts k) e = -1) : lk (lf ts (k + 1)) e = if isE (tr ts k) e then (k : Int) else -1 := by
  have hn : e ∉ (lf ts k).map (·.1) := lk_notin (fun p hp => (lf_ix k p hp).1) h
  rw [lf_sc, List.append_assoc, List.append_assoc, lk_app, if_neg hn]
  show lk [(((tr ts k).1, (tr ts k).2.1), (k : Int)), (((tr ts k).2.1, (tr ts k).2.2), (k : Int)), (((tr ts k).2.2, (tr ts k).1), (k : Int))] e = _
  rw [lk_cons, lk_cons, lk_cons]
  by_cases h1 : ((tr ts k).1, (tr ts k).2.1) = e
  · rw [if_pos h1, if_pos (show isE (tr ts k) e from .inl h1.symm)]
  · rw [if_neg h1]
    by_cases h2 : ((tr ts k).2.1, (tr ts k).2.2) = e
    · rw [if_pos h2, if_pos (show isE (tr ts k) e from .inr (.inl h2.symm))]
    · rw [if_neg h2]
      by_cases h3 : ((tr ts k).2.2, (tr ts k).1) = e
      · rw [if_pos h3, if_pos (show isE (tr ts k) e from .inr (.inr h3.symm))]
      · rw [if_neg h3, if_neg (fun hh : isE (tr ts k) e => hh.elim (fun h => h1 h.symm) fun hh => hh.elim (fun h => h2 h.symm) fun h => h3 h.symm)]
        rfl
theorem lk_keep {ts : List T3} {k n : Nat} {e : IE} (h : lk (lf ts k) e ≠ -1) (hn : k ≤ n) : lk (lf ts n) e = lk (lf ts k) e := by
  induction n with
  | zero => rw [show k = 0 by omega]
  | succ n ih =>
    by_cases hk : k = n + 1
    · rw [hk]
    · rw [← ih (by omega), lf_sc, List.append_assoc, List.append_assoc, lk_app, if_pos]
      apply Classical.byContradiction
      intro hh
      have := lk_not hh
      rw [ih (by omega)] at this
      exact h this
theorem has_yes {ts : List T3} {k n : Nat} {e : IE} (h : lk (lf ts k) e = -1) (he : isE (tr ts k) e) (hn : k < n) : lk (lf ts n) e = k := by
  have h1 := lk_succ h
  rw [if_pos he] at h1
  rw [← h1]
  exact lk_keep (by omega) (by omega)
theorem has_no {ts : List T3} {k : Nat} {e : IE} (h : lk (lf ts k) e = -1) (he : ¬ isE (tr ts k) e) : lk (lf ts (k + 1)) e = -1 := by
  rw [lk_succ h, if_neg he]
theorem cmpI_anti (a b : Int) : cmpI b a = -cmpI a b := by
  unfold cmpI
  repeat' split
  all_goals omega
theorem cmp3_anti (a b : T3) : cmp3 b a = -cmp3 a b := by
  unfold cmp3
  rw [cmpI_anti a.1, cmpI_anti a.2.1, cmpI_anti a.2.2]
  repeat' split
  all_goals omega
end Go.Me
end
/- Chapter 6: what the reference's look for an edge, its order of triangles and its hull's area are (plain). -/
section
set_option linter.unusedSimpArgs false
set_option linter.unusedVariables false
namespace Go.Me
open Go.Ab Go.Proofs.YtmohcmghbfhdlaaGreat
set_option maxRecDepth 100000
def haK (l : List Pn) (H : List Nat) : Nat → Int
  | 0 => 0
  | k + 1 => haK l H k + cr (pt l (ot H 0)) (pt l (ot H (k + 1))) (pt l (ot H (k + 2)))
theorem haK_ar {l : List Pn} {H : List Nat} : ∀ k, k + 2 ≤ H.length → haK l H k = arS l H (k + 1) + ((pt l (ot H (k + 1))).x * (pt l (ot H 0)).y - (pt l (ot H (k + 1))).y * (pt l (ot H 0)).x)
  | 0, h => by
    unfold haK arS arS
    rw [Nat.zero_add, Nat.mod_eq_of_lt (show 1 < H.length by omega)]
    grind
  | k + 1, h => by
    have e : arS l H (k + 1 + 1) = arS l H (k + 1) + ((pt l (ot H (k + 1))).x * (pt l (ot H ((k + 1 + 1) % H.length))).y - (pt l (ot H (k + 1))).y * (pt l (ot H ((k + 1 + 1) % H.length))).x) := rfl
    rw [e, Nat.mod_eq_of_lt (show k + 1 + 1 < H.length by omega)]
    show haK l H k + _ = _
    rw [haK_ar k (by omega)]
    unfold cr
    grind
theorem haK_all {l : List Pn} {H : List Nat} (h : 3 ≤ H.length) : haK l H (H.length - 2) = arS l H H.length := by
  rw [haK_ar _ (by omega)]
  obtain ⟨k, hk⟩ : ∃ k, H.length = k + 2 := ⟨H.length - 2, by omega⟩
  have e : arS l H (k + 2) = arS l H (k + 1) + ((pt l (ot H (k + 1))).x * (pt l (ot H ((k + 2) % H.length))).y - (pt l (ot H (k + 1))).y * (pt l (ot H ((k + 2) % H.length))).x) := rfl
  rw [hk] at e ⊢
  rw [show k + 2 - 2 = k by omega, e, Nat.mod_self]
theorem arS_two {l : List Pn} {H : List Nat} (h : H.length ≤ 2) : arS l H H.length = 0 := by
  match H, h with
  | [], _ => rfl
  | [a], _ =>
    show arS l [a] 1 = 0
    unfold arS arS
    simp [ot]
    grind
  | [a, b], _ =>
    show arS l [a, b] 2 = 0
    unfold arS arS arS
    simp [ot]
    grind
theorem netE_t {l : List Pn} {ts : List T3} (h0 : cpB l = 0) (h80 : ts.length ≤ 80) {i : Nat} (hi : i < ts.length) (hj : ∀ j, j < i → trK l ts j = 0) (he : trK l ts i ≠ 0) : netE l ts = trK l ts i ∧ netI l ts = i := by
  refine ⟨?_, ?_⟩
  · unfold netE
    rw [if_neg (fun h => h h0), if_neg (by omega), fstN_yes hj he _ hi, if_pos (by omega), Int.toNat_natCast]
  · unfold netI
    rw [if_neg (fun h => h h0), if_neg (by omega), fstN_yes hj he _ hi, if_pos (by omega)]
theorem netI_z {l : List Pn} {ts : List T3} (h0 : cpB l = 0) (h80 : ts.length ≤ 80) (hall : ∀ j, j < ts.length → trK l ts j = 0) : netI l ts = 0 := by
  unfold netI
  rw [if_neg (fun h => h h0), if_neg (by omega), fstN_no _ hall, if_neg (fun h => h rfl)]
theorem netE_o {l : List Pn} {ts : List T3} (h0 : cpB l = 0) (h80 : ts.length ≤ 80) (hall : ∀ j, j < ts.length → trK l ts j = 0) (ho : opB l ts = true) : netE l ts = 25 ∧ netI l ts = 0 := by
  refine ⟨?_, netI_z h0 h80 hall⟩
  unfold netE
  rw [if_neg (fun h => h h0), if_neg (by omega), fstN_no _ hall, if_neg (fun h => h rfl), if_pos ho]
theorem netE_g {l : List Pn} {ts : List T3} (h0 : cpB l = 0) (h80 : ts.length ≤ 80) (hall : ∀ j, j < ts.length → trK l ts j = 0) (ho : opB l ts = false) (hg : gpB l ts = true) : netE l ts = 14 ∧ netI l ts = 0 := by
  refine ⟨?_, netI_z h0 h80 hall⟩
  unfold netE
  rw [if_neg (fun h => h h0), if_neg (by omega), fstN_no _ hall, if_neg (fun h => h rfl), ho, if_neg (by decide), hg, if_pos rfl]
end Go.Me
end
/- Chapter 6: the reference's area of the hull. -/
section
set_option linter.unusedSimpArgs false
set_option linter.unusedVariables false
section
namespace Go.Me
open Go.Ab Go.Proofs.YtmohcmghbfhdlaaGreat
theorem haK_bd {l : List Pn} {H : List Nat} (hok : ∀ k, k < l.length → (pt l k).Ok) (hH : ∀ k, k < H.length → ot H k < l.length) : ∀ k, k + 2 ≤ H.length → -(800000000 * (k : Int)) ≤ haK l H k ∧ haK l H k ≤ 800000000 * (k : Int)
  | 0, _ => by unfold haK; omega
  | k + 1, h => by
    have h1 := haK_bd hok hH k (by omega)
    have h2 := cr_bd (hok _ (hH 0 (by omega))) (hok _ (hH (k + 1) (by omega))) (hok _ (hH (k + 2) (by omega)))
    show -(800000000 * ((k + 1 : Nat) : Int)) ≤ haK l H k + cr _ _ _ ∧ haK l H k + cr _ _ _ ≤ _
    unfold cr
    omega
end Go.Me
namespace Go.Proofs.YtmohcmghbfhdlaaGreat
open Go Go.RowKit Go.Ab Go.Me
set_option maxRecDepth 100000
set_option maxHeartbeats 4000000
attribute [local irreducible] OQ OW AL AW AF SW
theorem HullArea_0 (l : List Pn) (c z : Nat) (h0 : cpB l = 0) : PCalls Tryz.prog 77 [.slice (some ⟨0, 0, none⟩) l.length c] [some ⟨flatP l, false, z⟩] (.int .i64 (arS l (hl l) (hl l).length)) := by
  obtain ⟨h40, hok, hap⟩ := cp_ok h0
  have hle := hl_le h0
  cases hf : flK l (l.length - 2) with
  | true =>
    rw [arS_two (hl_flat h0 hf)]
    have hr := fun (m : Mem) (blk : Blk) (h1 : m.at 0 = some blk) (h2 : blk.cells = flatP l) (h3 : blk.obj = Ob.plain) => rHull_fq (c := c) l hok hf h1 h2 rfl (by omega) h3
    refine PCalls.en 38 Tryz.func77 rfl (ro1p _ rfl) rfl (fun E => ?_)
    repeat' (first | with_reducible (first | refine Then.n ?_ | refine Then.x ?_ | refine InB.hit ?_) | ((with_reducible refine AL.on ?_); first | ((first | ((with_reducible refine AL.k_move ?_); (refine AL.q rfl (OQ.move wl) ?_)) | ((with_reducible refine AL.k_assign ?_); (refine AL.q rfl (OQ.assign wl) ?_)) | ((with_reducible refine AL.k_binOp ?_); refine AL.q rfl (OQ.lss rfl rfl) ?_) | ((with_reducible refine AL.k_call ?_); refine AL.q rfl (OQ.lenS (xt := 26) (r := (none, 1, false)) rfl kr) ?_)); (refine AL.nm ?_)) | ((refine AL.pcall (g := 60) rfl kr rfl ((by exact hr _ _ rfl rfl rfl)) ?_); (refine AL.nm ?_)) | refine AL.nil ?_) | ((with_reducible refine AW.on ?_); first | refine AW.seq ?_ | refine AW.exit ?_ | refine AW.ret ?_ | (refine AW.block (id := 0) ?_; refine AW.unroll 1 ?_) | refine AW.region ?_ | (refine AW.conds rfl (fun hc => ?_) (fun hc => ?_) <;> (try replace hc := nc hc) <;> first | (exfalso; contradiction) | skip)) | with_reducible refine AR.s ?_ | ((with_reducible refine FinP.on ?_); (refine FinP.ret (.tmp wl .nil) ?_ rfl); (try simp only [pack, List.drop, List.take]); all_goals (rfl)))
  | false =>
    have hR := hl_ring h0 hf
    rw [← haK_all hR.len]
    have hr := fun (m : Mem) (blk : Blk) (h1 : m.at 0 = some blk) (h2 : blk.cells = flatP l) (h3 : blk.obj = Ob.plain) => rHull_y (c := c) l h0 hf h1 h2 rfl h3
    have hbd := haK_bd (l := l) (H := hl l) hok hR.bd
    have hl3 := hR.len
    have hin := hR.bd
    have hA := fun (i j k : Nat) (h1 : i < (hl l).length) (h2 : j < (hl l).length) (h3 : k < (hl l).length) (m : Mem) => Area_q (hok _ (hin i h1)) (hok _ (hin j h2)) (hok _ (hin k h3)) m
    have hz : haK l (hl l) 0 = 0 := rfl
    have hs : ∀ k, haK l (hl l) k + cr (pt l (ot (hl l) 0)) (pt l (ot (hl l) (k + 1))) (pt l (ot (hl l) (k + 2))) = haK l (hl l) (k + 1) := fun k => rfl
    have hcb : ∀ k, k + 3 ≤ (hl l).length → -800000000 ≤ cr (pt l (ot (hl l) 0)) (pt l (ot (hl l) (k + 1))) (pt l (ot (hl l) (k + 2))) ∧ cr (pt l (ot (hl l) 0)) (pt l (ot (hl l) (k + 1))) (pt l (ot (hl l) (k + 2))) ≤ 800000000 := fun k hk => by
      have := cr_bd (hok _ (hin 0 (by omega))) (hok _ (hin (k + 1) (by omega))) (hok _ (hin (k + 2) (by omega)))
      unfold cr
      omega
    have hgo := flatO_get (hl l)
    have hg1 : ∀ k : Nat, k + 1 < (hl l).length → (flatO (hl l))[((k : Int) + 2 - 1).toNat]? = some (.int .i64 (ot (hl l) (k + 1))) := fun k hk => by
      rw [show ((k : Int) + 2 - 1).toNat = k + 1 by omega]
      exact flatO_get _ _ hk
    have hg2 : ∀ k : Nat, k + 2 < (hl l).length → (flatO (hl l))[((k : Int) + 2).toNat]? = some (.int .i64 (ot (hl l) (k + 2))) := fun k hk => by
      rw [show ((k : Int) + 2).toNat = k + 2 by omega]
      exact flatO_get _ _ hk
    have hld := fun (k : Nat) (hk : k < l.length) (r : Mem) => flatP_ld (m := some ⟨flatP l, false, z⟩ :: r) (b := 0) (l := l) rfl rfl k hk
    generalize haK l (hl l) = HK at *
    generalize hl l = H at *
    refine PCalls.en 38 Tryz.func77 rfl (ro1p _ rfl) rfl (fun E => ?_)
    repeat' (first | with_reducible (first | refine Then.n ?_ | refine Then.x ?_ | refine InB.n ?_ | refine InB.hit ?_) | ((with_reducible refine AL.on ?_); first | ((first | ((with_reducible refine AL.k_move ?_); (refine AL.q rfl (OQ.move wl) ?_)) | ((with_reducible refine AL.k_assign ?_); (refine AL.q rfl (OQ.assign wl) ?_)) | ((with_reducible refine AL.k_binOp ?_); first | refine AL.q rfl (OQ.lss rfl rfl) ?_ | refine AL.q rfl (OQ.addi rfl rfl (by omega)) ?_) | ((with_reducible refine AL.k_call ?_); refine AL.q rfl (OQ.lenS (xt := 26) (r := (none, 1, false)) rfl kr) ?_)); (refine AL.nm ?_)) | ((refine AL.acall (g := 60) rfl kr rfl ((by exact hr _ _ rfl rfl rfl)) ?_); (refine AL.nm ?_); (refine AL.nM ?_)) | refine AL.nil ?_) | ((with_reducible refine AW.on ?_); first | refine AW.seq ?_ | refine AW.skip ?_ | refine AW.exit ?_ | refine AW.ret ?_ | ((refine AW.block (id := 0) ?_); (refine AW.fk [0, 3, 4, 5] ?_); (refine AW.loop (fun n' t' m => ∃ k : Nat, n' = H.length - 2 - k ∧ k + 2 ≤ H.length ∧ t' = (mtz 39 0 [(0, .slice (some ⟨0, 0, none⟩) l.length c), (3, .slice (some ⟨1, 0, none⟩) (H.length) INF), (4, .int .i64 (HK k)), (5, .int .i64 (k + 2))]) ∧ m = [some ⟨flatP l, false, z⟩, some ⟨flatO H, true, 1⟩]) (H.length - 2) (by exact ⟨0, rfl, by omega, by rw [hz]; rfl, rfl⟩) ?_); (rintro n' t' m ⟨k, rfl, hk, rfl, rfl⟩); (refine AW.nT ?_)) | refine AW.block ?_ | (refine AW.drawF (id := 6) 23 #[0, 0, 0, 4, 12, 30, 62, 0, 0, 0, 512, 1792, 3840, 8064, 16256, 0, 0, 0, 196608, 458752, 1015808, 2064384, 4194302, 8388607, 16777215] kr kr ?_; (conv => (arg 8; simp only [List.take_succ_cons, List.take_zero])); ((have q1 := hcb k (by omega); have q2 := hbd k (by omega)))) | refine AW.region ?_ | (refine AW.conds rfl (fun hc => ?_) (fun hc => ?_) <;> (try replace hc := nc hc) <;> skip)) | ((with_reducible refine AF.on ?_); first | ((first | ((with_reducible refine AF.k_move ?_); (refine AF.q 0 (SW.q (OQ.move wl) rfl) ?_)) | ((with_reducible refine AF.k_indexAddr ?_); first | (refine AF.q 0 (SW.q (OQ.idxAddr (ty := 26) (z := 1) (g := false) rfl rfl kr (by omega) (by omega)) rfl) ?_) | (refine AF.q 0 (SW.q (OQ.idxAddr (ty := 22) (z := 2) (g := true) rfl rfl kr (by omega) (by first | (have := hin 0 (by omega); omega) | (have := hin (k + 1) (by omega); omega) | (have := hin (k + 2) (by omega); omega))) rfl) ?_)) | ((with_reducible refine AF.k_load ?_); first | (refine AF.ql rfl (SW.q (OQ.load1 (ty := 3) rfl kr (by first | (first | exact hgo 0 (by omega) | exact hg1 k (by omega) | exact hg2 k (by omega)) | (conv => lhs; whnf))) rfl) ?_) | refine AF.ql rfl (SW.q (OQ.loadN (ty := 65) (n := 2) rfl kr kr (by (exact hld _ (by first | exact hin 0 (by omega) | exact hin (k + 1) (by omega) | exact hin (k + 2) (by omega)) _))) rfl) ?_) | ((with_reducible refine AF.k_binOp ?_); refine AF.q 0 (SW.q (OQ.subi rfl rfl (by omega)) rfl) ?_) | ((with_reducible refine AF.k_call ?_); refine AF.q 2 (SW.pcall (g := 74) rfl kr rfl ((by exact hA 0 (k + 1) (k + 2) (by omega) (by omega) (by omega) _)) rfl) ?_)); (conv => (arg 9; try tactic => exact nrmF)); (conv => (arg 11; try simp only [List.nil_append, List.cons_append]))) | (refine AF.nil ?_ kr; (conv => (arg 4; simp only [List.drop_succ_cons, List.drop_zero, List.drop_nil])))) | ((with_reducible refine ex_on ?_); (rw [show ((k : Int) + 2 + 1) = ((k + 1 : Nat) : Int) + 2 by omega, hs k]; refine ⟨H.length - 2 - (k + 1), _, _, by omega, ?_, k + 1, rfl, by omega, rfl, rfl⟩; exact Wk.fk [0, 3, 4, 5] rfl)) | ((with_reducible refine FinP.on ?_); (refine FinP.ret (.tmp wl .nil) ?_ rfl); (try simp only [pack, List.drop, List.take]); all_goals ((obtain rfl : k = H.length - 2 := (by omega); rfl))))
theorem HullArea_q {m : Mem} {b n c : Nat} {blk : Blk} (l : List Pn) (h0 : cpB l = 0) (hb : m.at b = some blk) (hc : blk.cells = flatP l) (hn : l.length = n) (ho : blk.obj = Ob.plain) : PCalls Tryz.prog 77 [.slice (some ⟨b, 0, none⟩) n c] m (.int .i64 (arS l (hl l) (hl l).length)) := by
  subst hn
  exact PCalls.viaS [b] (HullArea_0 l c blk.esz h0) (ro1p _ rfl) ⟨⟨_, hb, by unfold Blk.shp Blk.shpR; rw [ho]; rfl, (fun h => nomatch h), .inl ⟨hc, flatP_scal _⟩⟩, trivial⟩ rfl rfl rfl rfl
end Go.Proofs.YtmohcmghbfhdlaaGreat
end
end
/- Chapter 6: the reference's look for an edge and for a corner, its order of triangles. -/
section
set_option linter.unusedSimpArgs false
set_option linter.unusedVariables false
section
namespace Go.Me
open Go.Ab Go.Proofs.YtmohcmghbfhdlaaGreat
def bfB (a b : T3) : Bool := decide (cmp3 a b < 0)
theorem bf_1 {a b : T3} (h : a.1 ≠ b.1) : bfB a b = decide (a.1 < b.1) := by
  unfold bfB cmp3 cmpI
  by_cases h1 : a.1 < b.1
  · simp [h1]
  · have : b.1 < a.1 := by omega
    simp [h1, this]
theorem bf_2 {a b : T3} (h0 : a.1 = b.1) (h : a.2.1 ≠ b.2.1) : bfB a b = decide (a.2.1 < b.2.1) := by
  unfold bfB cmp3 cmpI
  by_cases h1 : a.2.1 < b.2.1
  · simp [h0, h1]
  · have : b.2.1 < a.2.1 := by omega
    simp [h0, h1, this]
theorem bf_3 {a b : T3} (h0 : a.1 = b.1) (h2 : a.2.1 = b.2.1) (h : a.2.2 ≠ b.2.2) : bfB a b = decide (a.2.2 < b.2.2) := by
  unfold bfB cmp3 cmpI
  by_cases h1 : a.2.2 < b.2.2
  · simp [h0, h2, h1]
  · have : b.2.2 < a.2.2 := by omega
    simp [h0, h2, h1, this]
theorem bf_4 {a b : T3} (h0 : a.1 = b.1) (h2 : a.2.1 = b.2.1) (h : a.2.2 = b.2.2) : bfB a b = false := by
  unfold bfB cmp3 cmpI
  simp [h0, h2, h]
def hsB (t : T3) (n : Int) : Bool := decide (t.1 = n ∨ t.2.1 = n ∨ t.2.2 = n)
end Go.Me
namespace Go.Proofs.YtmohcmghbfhdlaaGreat
open Go Go.RowKit Go.Ab Go.Me
set_option maxRecDepth 100000
set_option maxHeartbeats 4000000
attribute [local irreducible] OQ OW AL AW AF SW
theorem Before_0 (x y : T3) (c d z z1 : Nat) : PCalls Tryz.prog 134 [.slice (some ⟨0, 0, none⟩) 3 c, .slice (some ⟨1, 0, none⟩) 3 d] [some ⟨tcC x, false, z⟩, some ⟨tcC y, false, z1⟩] (.bool (bfB x y)) := by
  have b1 := @bf_1 x y
  have b2 := @bf_2 x y
  have b3 := @bf_3 x y
  have b4 := @bf_4 x y
  unfold tcC
  generalize bfB x y = B0 at *
  refine PCalls.en 39 Tryz.func134 rfl (ro2p _ _ rfl rfl) rfl (fun E => ?_)
  repeat' (first | with_reducible (first | refine Then.n ?_ | refine Then.r ?_ | refine Then.x ?_ | refine InB.n ?_ | refine InB.r ?_ | refine InB.hit ?_) | ((with_reducible refine AL.on ?_); first | (refine AL.gd rfl ?_; (refine AL.gs1 rfl rfl (fun hc => ?_) (fun hc => ?_) <;> (try replace hc := nc hc) <;> first | (exfalso; contradiction) | (refine AL.nm ?_))) | ((first | ((with_reducible refine AL.k_move ?_); (refine AL.q rfl (OQ.move wl) ?_)) | ((with_reducible refine AL.k_binOp ?_); first | refine AL.q rfl (OQ.lss rfl rfl) ?_ | refine AL.q rfl (OQ.neq rfl rfl) ?_ | refine AL.q rfl (OQ.addi rfl rfl (by omega)) ?_) | ((with_reducible refine AL.k_assign ?_); (refine AL.q rfl (OQ.assign wl) ?_)) | ((with_reducible refine AL.k_call ?_); refine AL.q rfl (OQ.lenS (xt := 26) (r := (none, 1, false)) rfl kr) ?_) | ((with_reducible refine AL.k_pick ?_); first | (refine AL.q rfl (OQ.pickT rfl (by with_reducible rfl) wl) ?_) | (refine AL.q rfl (OQ.pickF rfl (by with_reducible rfl) wl) ?_))); (refine AL.nm ?_)) | refine AL.nil ?_) | ((with_reducible refine AW.on ?_); first | refine AW.seq ?_ | refine AW.skip ?_ | refine AW.exit ?_ | refine AW.ret ?_ | (refine AW.block (id := 0) ?_; refine AW.unroll 4 ?_) | refine AW.block ?_ | (refine AW.drawF (id := 4) 8 #[0, 0, 3, 7, 0, 0, 48, 112, 255] kr kr ?_; (conv => (arg 8; simp only [List.take_succ_cons, List.take_zero]))) | (refine AW.drawF (id := 5) 8 #[0, 0, 3, 7, 0, 0, 48, 112, 255, 511] kr kr ?_; (conv => (arg 8; simp only [List.take_succ_cons, List.take_zero]))) | refine AW.region ?_ | (refine AW.conds rfl (fun hc => ?_) (fun hc => ?_) <;> (try replace hc := nc hc) <;> first | (exfalso; contradiction) | skip)) | ((with_reducible refine AF.on ?_); first | ((first | ((with_reducible refine AF.k_move ?_); (refine AF.q 0 (SW.q (OQ.move wl) rfl) ?_)) | ((with_reducible refine AF.k_indexAddr ?_); refine AF.q 0 (SW.q (OQ.idxAddr (ty := 26) (z := 1) (g := false) rfl rfl kr (by omega) (by omega)) rfl) ?_) | ((with_reducible refine AF.k_load ?_); (refine AF.ql rfl (SW.q (OQ.load1 (ty := 3) rfl kr wl) rfl) ?_))); (conv => (arg 9; try tactic => exact nrmF)); (conv => (arg 11; try simp only [List.nil_append, List.cons_append]))) | (refine AF.nil ?_ kr; (conv => (arg 4; simp only [List.drop_succ_cons, List.drop_zero, List.drop_nil])))) | with_reducible refine AR.s ?_ | ((with_reducible refine FinP.on ?_); (refine FinP.ret (.tmp wl .nil) ?_ rfl); (try simp only [pack, List.drop, List.take]); all_goals (first | (rw [b1 ‹_›]; done) | (rw [b2 ‹_› ‹_›]; done) | (rw [b3 ‹_› ‹_› ‹_›]; done) | (rw [b4 (by omega) (by omega) (by omega)]; simp; done))))
theorem Before_q {m : Mem} {i j c d : Nat} {A B : Blk} (x y : T3) (a1 : m.at i = some A) (a2 : A.cells = tcC x) (b1 : m.at j = some B) (b2 : B.cells = tcC y) (a3 : A.obj = Ob.plain) (b3 : B.obj = Ob.plain) : PCalls Tryz.prog 134 [.slice (some ⟨i, 0, none⟩) 3 c, .slice (some ⟨j, 0, none⟩) 3 d] m (.bool (bfB x y)) :=
  PCalls.viaS [i, j] (Before_0 x y c d A.esz B.esz) (ro2p _ _ rfl rfl) ⟨⟨_, a1, by unfold Blk.shp Blk.shpR; rw [a3]; rfl, (fun h => nomatch h), .inl ⟨a2, rfl⟩⟩, ⟨_, b1, by unfold Blk.shp Blk.shpR; rw [b3]; rfl, (fun h => nomatch h), .inl ⟨b2, rfl⟩⟩, trivial⟩ rfl rfl rfl rfl
theorem before_q (x y : T3) (m : Mem) : PCalls Tryz.prog 73 [.agg #[.int .i64 x.1, .int .i64 x.2.1, .int .i64 x.2.2], .agg #[.int .i64 y.1, .int .i64 y.2.1, .int .i64 y.2.2]] m (.bool (bfB x y)) := by
  refine PCalls.any ?_ rfl rfl m
  have hB := fun (m : Mem) (i j c d : Nat) (A B : Blk) (a1 : m.at i = some A) (a2 : A.cells = tcC x) (b1 : m.at j = some B) (b2 : B.cells = tcC y) (a3 : A.obj = Ob.plain) (b3 : B.obj = Ob.plain) => Before_q (c := c) (d := d) x y a1 a2 b1 b2 a3 b3
  generalize bfB x y = B0 at *
  refine PCalls.en 6 Tryz.func73 rfl (ro_nil) rfl (fun E => ?_)
  repeat' (first | with_reducible (refine Then.n ?_) | ((with_reducible refine AL.on ?_); first | (((refine AL.q rfl (OQ.assign wl) ?_)); (refine AL.nm ?_)) | ((refine AL.pcall (g := 134) rfl kr rfl ((by exact hB _ _ _ _ _ _ _ rfl rfl rfl rfl rfl rfl)) ?_); (refine AL.nm ?_)) | (((refine AL.w rfl (OW.box wl (by intro r h; cases h)) ?_)); (refine AL.nm ?_); (refine AL.nM ?_)) | refine AL.nil ?_) | ((with_reducible refine AW.on ?_); first | refine AW.seq ?_ | refine AW.ret ?_ | (refine AW.drawF (id := 1) 2 #[0, 0, 3, 7] kr kr ?_; (conv => (arg 8; simp only [List.take_succ_cons, List.take_zero]))) | refine AW.region ?_) | ((with_reducible refine AF.on ?_); first | ((refine AF.q 2 (SW.q (by exact OQ.sliceA (ty := 62) (n := 3) (z := 1) (g := false) (l := 0) (h := 3) rfl kr rfl rfl rfl rfl (by decide) (by decide) (by decide)) rfl) ?_); (conv => (arg 9; try tactic => exact nrmF)); (conv => (arg 11; try simp only [List.nil_append, List.cons_append]))) | (refine AF.nil ?_ kr; (conv => (arg 4; simp only [List.drop_succ_cons, List.drop_zero, List.drop_nil])))) | ((with_reducible refine FinP.on ?_); (refine FinP.ret (.tmp wl .nil) ?_ rfl); (try simp only [pack, List.drop, List.take]); all_goals (rfl)))
theorem Has_0 (ts : List T3) (k : Nat) (hk : k < ts.length) (n : Int) (c z : Nat) (hl : ts.length ≤ 1000000) : PCalls Tryz.prog 78 [.slice (some ⟨0, k * 3, none⟩) 3 c, .int .i64 n] [some ⟨flatT ts, false, z⟩] (.bool (hsB (tr ts k) n)) := by
  obtain ⟨g0, g1, g2⟩ := flatT_get ts k hk
  generalize tr ts k = t at *
  have h1 : t.1 = n → hsB t n = true := fun h => decide_eq_true (.inl h)
  have h2 : t.2.1 = n → hsB t n = true := fun h => decide_eq_true (.inr (.inl h))
  have h3 : t.2.2 = n → hsB t n = true := fun h => decide_eq_true (.inr (.inr h))
  have h4 : t.1 ≠ n → t.2.1 ≠ n → t.2.2 ≠ n → hsB t n = false := fun h h2 h3 => decide_eq_false (by omega)
  generalize hsB t n = B0 at *
  refine PCalls.en 16 Tryz.func78 rfl (ro1p _ rfl) rfl (fun E => ?_)
  repeat' (first | with_reducible (first | refine Then.n ?_ | refine Then.r ?_ | refine Then.x ?_ | refine InB.n ?_ | refine InB.r ?_ | refine InB.hit ?_) | ((with_reducible refine AL.on ?_); first | ((first | ((with_reducible refine AL.k_move ?_); (refine AL.q rfl (OQ.move wl) ?_)) | ((with_reducible refine AL.k_assign ?_); (refine AL.q rfl (OQ.assign wl) ?_)) | ((with_reducible refine AL.k_binOp ?_); first | refine AL.q rfl (OQ.lss rfl rfl) ?_ | refine AL.q rfl (OQ.eql rfl rfl) ?_ | refine AL.q rfl (OQ.addi rfl rfl (by omega)) ?_) | ((with_reducible refine AL.k_call ?_); refine AL.q rfl (OQ.lenS (xt := 26) (r := (none, 1, false)) rfl kr) ?_) | ((with_reducible refine AL.k_load ?_); (refine AL.q rfl (OQ.load1 (ty := 3) rfl kr (by (first | exact g0 | exact g1 | exact g2))) ?_))); (refine AL.nm ?_)) | ((refine AL.q rfl (OQ.idxAddr (ty := 26) (z := 1) (g := false) rfl rfl kr (by omega) (by omega)) ?_); (refine AL.nm ?_)) | refine AL.nil ?_) | ((with_reducible refine AW.on ?_); first | refine AW.seq ?_ | refine AW.skip ?_ | refine AW.exit ?_ | refine AW.ret ?_ | (refine AW.block (id := 0) ?_; refine AW.unroll 4 ?_) | refine AW.block ?_ | refine AW.region ?_ | (refine AW.conds rfl (fun hc => ?_) (fun hc => ?_) <;> (try replace hc := nc hc) <;> first | (exfalso; contradiction) | skip)) | with_reducible refine AR.s ?_ | ((with_reducible refine FinP.on ?_); (refine FinP.ret (.tmp wl .nil) ?_ rfl); (try simp only [pack, List.drop, List.take]); all_goals (first | (rw [h1 (by omega)]; done) | (rw [h2 (by omega)]; done) | (rw [h3 (by omega)]; done) | (rw [h4 (by omega) (by omega) (by omega)]; done))))
theorem Has_q {m : Mem} {b k c : Nat} {blk : Blk} (ts : List T3) (hk : k < ts.length) (n : Int) (hl : ts.length ≤ 1000000) (hb : m.at b = some blk) (hc : blk.cells = flatT ts) (ho : blk.obj = Ob.plain) : PCalls Tryz.prog 78 [.slice (some ⟨b, k * 3, none⟩) 3 c, .int .i64 n] m (.bool (hsB (tr ts k) n)) :=
  PCalls.viaS [b] (Has_0 ts k hk n c blk.esz hl) (ro1p _ rfl) ⟨⟨_, hb, by unfold Blk.shp Blk.shpR; rw [ho]; rfl, (fun h => nomatch h), .inl ⟨hc, flatT_scal _⟩⟩, trivial⟩ rfl rfl rfl rfl
theorem has_0 (ts : List T3) (n : Nat) (hn : n ≤ ts.length) (hl : ts.length ≤ 1000000) (a b : Int) (c z : Nat) : PCalls Tryz.prog 75 [.slice (some ⟨0, 0, none⟩) n c, .int .i64 a, .int .i64 b] [some ⟨flatT ts, false, z⟩] (.int .i64 (lk (lf ts n) (a, b))) := by
  have hg := fun k (hk : k < ts.length) => flatT_get ts k hk
  have hy : ∀ k, lk (lf ts k) (a, b) = -1 → k < n → (((tr ts k).1 = a ∧ (tr ts k).2.1 = b) ∨ ((tr ts k).2.1 = a ∧ (tr ts k).2.2 = b) ∨ ((tr ts k).2.2 = a ∧ (tr ts k).1 = b)) → lk (lf ts n) (a, b) = k := fun k h1 h2 h3 => has_yes h1 (by unfold isE; simp only [Prod.mk.injEq]; omega) h2
  have hno : ∀ k, lk (lf ts k) (a, b) = -1 → ¬ ((tr ts k).1 = a ∧ (tr ts k).2.1 = b) → ¬ ((tr ts k).2.1 = a ∧ (tr ts k).2.2 = b) → ¬ ((tr ts k).2.2 = a ∧ (tr ts k).1 = b) → lk (lf ts (k + 1)) (a, b) = -1 := fun k h1 h2 h3 h4 => has_no h1 (by unfold isE; simp only [Prod.mk.injEq]; omega)
  have h0 : lk (lf ts 0) (a, b) = -1 := rfl
  generalize hLK : (fun k => lk (lf ts k) (a, b)) = LK at *
  have e : ∀ k, lk (lf ts k) (a, b) = LK k := fun k => by rw [← hLK]
  simp only [e] at *
  clear hLK e
  refine PCalls.en 37 Tryz.func75 rfl (ro1p _ rfl) rfl (fun E => ?_)
  repeat' (first | with_reducible (first | refine Then.n ?_ | refine Then.r ?_ | refine Then.x ?_ | refine InB.n ?_ | refine InB.r ?_ | refine InB.hit ?_) | ((with_reducible refine AL.on ?_); first | (refine AL.gd rfl ?_; (refine AL.gs1 rfl rfl (fun hc => ?_) (fun hc => ?_) <;> (try replace hc := nc hc) <;> first | (exfalso; contradiction) | (refine AL.nm ?_))) | ((first | ((with_reducible refine AL.k_move ?_); (refine AL.q rfl (OQ.move wl) ?_)) | ((with_reducible refine AL.k_binOp ?_); first | refine AL.q rfl (OQ.lss rfl rfl) ?_ | refine AL.q rfl (OQ.eql rfl rfl) ?_ | refine AL.q rfl (OQ.addi rfl rfl (by omega)) ?_ | refine AL.q rfl (OQ.rem rfl rfl (by omega)) ?_) | ((with_reducible refine AL.k_assign ?_); (refine AL.q rfl (OQ.assign wl) ?_)) | ((with_reducible refine AL.k_load ?_); (refine AL.q rfl (OQ.load1 (ty := 3) rfl kr (by (first | exact (hg k (by omega)).1 | exact (hg k (by omega)).2.1 | exact (hg k (by omega)).2.2))) ?_)) | ((with_reducible refine AL.k_call ?_); refine AL.q rfl (OQ.lenS (xt := 23) (r := (none, 3, true)) rfl kr) ?_) | ((with_reducible refine AL.k_pick ?_); first | (refine AL.q rfl (OQ.pickT rfl (by with_reducible rfl) wl) ?_) | (refine AL.q rfl (OQ.pickF rfl (by with_reducible rfl) wl) ?_))); (refine AL.nm ?_)) | ((first | refine AL.q rfl (OQ.idxAddr (ty := 23) (z := 3) (g := true) rfl rfl kr (by omega) (by omega)) ?_ | refine AL.q rfl (OQ.idxPtr (ty := 62) (n := 1) (l := 3) (g := false) rfl rfl kr (by first | omega | decide) (by first | omega | decide)) ?_); (refine AL.nm ?_)) | refine AL.nil ?_) | ((with_reducible refine AW.on ?_); first | refine AW.seq ?_ | refine AW.skip ?_ | refine AW.exit ?_ | refine AW.ret ?_ | ((refine AW.block (id := 0) ?_); (refine AW.fk [0, 1, 2, 7] ?_); (refine AW.loop (fun n' t' m => ∃ k : Nat, n' = n - k ∧ k ≤ n ∧ LK k = -1 ∧ t' = (mtz 40 0 [(0, .slice (some ⟨0, 0, none⟩) n c), (1, .int .i64 (a)), (2, .int .i64 (b)), (7, .int .i64 (k))]) ∧ m = [some ⟨flatT ts, false, z⟩]) (n) (by exact ⟨0, rfl, Nat.zero_le _, h0, rfl, rfl⟩) ?_); (rintro n' t' m ⟨k, rfl, hk, hj, rfl, rfl⟩); (refine AW.nT ?_)) | (refine AW.block (id := 2) ?_; refine AW.unroll 4 ?_) | refine AW.block ?_ | refine AW.region ?_ | (refine AW.conds rfl (fun hc => ?_) (fun hc => ?_) <;> (try replace hc := nc hc) <;> first | (exfalso; first | contradiction | (omega); done) | skip)) | with_reducible refine AR.s ?_ | ((with_reducible refine ex_on ?_); (refine ⟨n - (k + 1), _, _, by omega, ?_, k + 1, rfl, by omega, hno k hj (by omega) (by omega) (by omega), rfl, rfl⟩; exact Wk.fk [0, 1, 2, 7] rfl)) | ((with_reducible refine FinP.on ?_); (refine FinP.ret (.tmp wl .nil) ?_ rfl); (try simp only [pack, List.drop, List.take]); all_goals (first | (rw [hy k hj (by omega) (by omega)]; done) | (obtain rfl : k = n := (by omega); rw [hj]))))
theorem has_q {m : Mem} {bT n c : Nat} {blk : Blk} (ts : List T3) (hn : n ≤ ts.length) (hl : ts.length ≤ 1000000) (a b : Int) (hb : m.at bT = some blk) (hc : blk.cells = flatT ts) (ho : blk.obj = Ob.plain) : PCalls Tryz.prog 75 [.slice (some ⟨bT, 0, none⟩) n c, .int .i64 a, .int .i64 b] m (.int .i64 (lk (lf ts n) (a, b))) :=
  PCalls.viaS [bT] (has_0 ts n hn hl a b c blk.esz) (ro1p _ rfl) ⟨⟨_, hb, by unfold Blk.shp Blk.shpR; rw [ho]; rfl, (fun h => nomatch h), .inl ⟨hc, flatT_scal _⟩⟩, trivial⟩ rfl rfl rfl rfl
end Go.Proofs.YtmohcmghbfhdlaaGreat
end
end
/- Chapter 6: the errors of a net, as the reference meets them (plain). -/
section
set_option linter.unusedSimpArgs false
set_option linter.unusedVariables false
namespace Go.Me
open Go.Ab Go.Proofs.YtmohcmghbfhdlaaGreat
set_option maxRecDepth 100000
theorem rgB_no {n a b : Int} (h : rgB n a b = false) : ¬ (a ≤ n ∧ n ≤ b) := of_decide_eq_false h
theorem rgB_ye {n a b : Int} (h : rgB n a b = true) : a ≤ n ∧ n ≤ b := of_decide_eq_true h
theorem lk_ge (ts : List T3) (k : Nat) (e : IE) : -1 ≤ lk (lf ts k) e := by
  by_cases h : e ∈ (lf ts k).map (·.1)
  · have := (lf_ix k _ (lk_mem h)).1
    simp only at this
    omega
  · rw [lk_not h]
    omega
theorem trS_pos {l : List Pn} {t : T3} : trS l t = 1 ↔ 0 < cr (pt l t.1.toNat) (pt l t.2.1.toNat) (pt l t.2.2.toNat) := by
  unfold trS sgn
  repeat' split
  all_goals omega
section
variable {l : List Pn} {ts : List T3} {k : Nat}
theorem rn_of {e : Int} (h0 : cpB l = 0) (h80 : ts.length ≤ 80) (hk : k < ts.length) (hj : ∀ j, j < k → trK l ts j = 0) (he : trK l ts k = e) (hne : e ≠ 0) : netI l ts = k ∧ netE l ts = e := by
  have := netE_t h0 h80 hk hj (by rw [he]; exact hne)
  rw [he] at this
  exact ⟨this.2, this.1⟩
theorem rn_6 (h0 : cpB l = 0) (h80 : ts.length ≤ 80) (hk : k < ts.length) (hj : ∀ j, j < k → trK l ts j = 0) (h : ¬ inR l.length (tr ts k)) : netI l ts = k ∧ netE l ts = 6 :=
  rn_of h0 h80 hk hj (by unfold trK trE; rw [if_neg h]) (by decide)
theorem rn_9 (h0 : cpB l = 0) (h80 : ts.length ≤ 80) (hk : k < ts.length) (hj : ∀ j, j < k → trK l ts j = 0) (h : inR l.length (tr ts k)) (h2 : ordB ts k) : netI l ts = k ∧ netE l ts = 9 :=
  rn_of h0 h80 hk hj (by unfold trK trE; rw [if_pos h, if_pos h2]) (by decide)
theorem ordB_not (h1 : (tr ts k).1 < (tr ts k).2.1) (h2 : (tr ts k).1 < (tr ts k).2.2) (h3 : 0 < k → bfB (tr ts (k - 1)) (tr ts k) = true) : ¬ ordB ts k := by
  unfold ordB
  rintro (h | h | ⟨h, h4⟩)
  · omega
  · omega
  · have := of_decide_eq_true (h3 h)
    rw [cmp3_anti] at this
    omega
theorem ordB_bf (h : 0 < k) (h2 : bfB (tr ts (k - 1)) (tr ts k) = false) : ordB ts k := by
  refine .inr (.inr ⟨h, ?_⟩)
  have := of_decide_eq_false h2
  rw [cmp3_anti] at this
  omega
theorem rn_13 (h0 : cpB l = 0) (h80 : ts.length ≤ 80) (hk : k < ts.length) (hj : ∀ j, j < k → trK l ts j = 0) (h : inR l.length (tr ts k)) (h2 : ¬ ordB ts k) (h3 : cr (pt l (tr ts k).1.toNat) (pt l (tr ts k).2.1.toNat) (pt l (tr ts k).2.2.toNat) ≤ 0) : netI l ts = k ∧ netE l ts = 13 :=
  rn_of h0 h80 hk hj (by unfold trK trE; rw [if_pos h, if_neg h2, if_pos (fun h4 => by have := trS_pos.1 h4; omega)]) (by decide)
theorem rn_28 (h0 : cpB l = 0) (h80 : ts.length ≤ 80) (hk : k < ts.length) (hj : ∀ j, j < k → trK l ts j = 0) (h : inR l.length (tr ts k)) (h2 : ¬ ordB ts k) (h3 : 0 < cr (pt l (tr ts k).1.toNat) (pt l (tr ts k).2.1.toNat) (pt l (tr ts k).2.2.toNat)) (h4 : 0 ≤ lk (lf ts k) ((tr ts k).1, (tr ts k).2.1) ∨ 0 ≤ lk (lf ts k) ((tr ts k).2.1, (tr ts k).2.2) ∨ 0 ≤ lk (lf ts k) ((tr ts k).2.2, (tr ts k).1)) : netI l ts = k ∧ netE l ts = 28 :=
  rn_of h0 h80 hk hj (by unfold trK trE; rw [if_pos h, if_neg h2, if_neg (fun h5 => h5 (trS_pos.2 h3)), if_pos (by omega)]) (by decide)
theorem rn_0 (h : inR l.length (tr ts k)) (h2 : ¬ ordB ts k) (h3 : 0 < cr (pt l (tr ts k).1.toNat) (pt l (tr ts k).2.1.toNat) (pt l (tr ts k).2.2.toNat)) (h4 : lk (lf ts k) ((tr ts k).1, (tr ts k).2.1) < 0) (h5 : lk (lf ts k) ((tr ts k).2.1, (tr ts k).2.2) < 0) (h6 : lk (lf ts k) ((tr ts k).2.2, (tr ts k).1) < 0) : trK l ts k = 0 := by
  have a1 := lk_ge ts k ((tr ts k).1, (tr ts k).2.1)
  have a2 := lk_ge ts k ((tr ts k).2.1, (tr ts k).2.2)
  have a3 := lk_ge ts k ((tr ts k).2.2, (tr ts k).1)
  unfold trK trE
  rw [if_pos h, if_neg h2, if_neg (fun h5 => h5 (trS_pos.2 h3)), if_neg (by omega)]
theorem lf_tri {p : IE × Int} : ∀ n, p ∈ lf ts n ↔ ∃ j : Nat, j < n ∧ p.2 = j ∧ isE (tr ts j) p.1
  | 0 => by
    unfold lf
    constructor
    · intro h; cases h
    · rintro ⟨j, h, _⟩; omega
  | n + 1 => by
    unfold lf
    simp only [List.mem_append, List.mem_singleton]
    rw [lf_tri n]
    unfold isE
    constructor
    · rintro (((⟨j, h1, h2, h3⟩ | h) | h) | h)
      · exact ⟨j, by omega, h2, h3⟩
      · exact ⟨n, by omega, by rw [h], .inl (by rw [h])⟩
      · exact ⟨n, by omega, by rw [h], .inr (.inl (by rw [h]))⟩
      · exact ⟨n, by omega, by rw [h], .inr (.inr (by rw [h]))⟩
    · rintro ⟨j, h1, h2, h3⟩
      rcases Nat.lt_or_eq_of_le (Nat.le_of_lt_succ h1) with h4 | rfl
      · exact .inl (.inl (.inl ⟨j, h4, h2, h3⟩))
      · rcases h3 with h3 | h3 | h3
        · exact .inl (.inl (.inr (Prod.ext h3 h2)))
        · exact .inl (.inr (Prod.ext h3 h2))
        · exact .inr (Prod.ext h3 h2)
def bdO (l : List Pn) (ts : List T3) (a b : Int) : Prop := lk (lfA ts) (b, a) < 0 → bdB l a.toNat b.toNat = true
theorem rn_25 (h0 : cpB l = 0) (h80 : ts.length ≤ 80) (hall : ∀ j, j < ts.length → trK l ts j = 0) (hk : k < ts.length) {a b : Int} (he : isE (tr ts k) (a, b)) (h1 : lk (lfA ts) (b, a) < 0) (h2 : bdB l a.toNat b.toNat = false) : netI l ts = 0 ∧ netE l ts = 25 := by
  have hm : ((a, b), (k : Int)) ∈ lfA ts := (lf_tri _).2 ⟨k, hk, rfl, he⟩
  have hg := lk_ge ts ts.length (b, a)
  have := netE_o h0 h80 hall (opB_yes hm (by show lk (lfA ts) (b, a) = -1; unfold lfA at *; omega) h2)
  exact ⟨this.2, this.1⟩
theorem rn_op (h : ∀ j, j < ts.length → bdO l ts (tr ts j).1 (tr ts j).2.1 ∧ bdO l ts (tr ts j).2.1 (tr ts j).2.2 ∧ bdO l ts (tr ts j).2.2 (tr ts j).1) : opB l ts = false :=
  opB_no fun p hp h1 => by
    obtain ⟨j, hj, _, h3⟩ := (lf_tri _).1 hp
    obtain ⟨a1, a2, a3⟩ := h j hj
    rcases h3 with h3 | h3 | h3
    · rw [h3] at h1 ⊢
      exact a1 (by simp only at h1; omega)
    · rw [h3] at h1 ⊢
      exact a2 (by simp only at h1; omega)
    · rw [h3] at h1 ⊢
      exact a3 (by simp only at h1; omega)
theorem rn_14 (h0 : cpB l = 0) (h80 : ts.length ≤ 80) (hall : ∀ j, j < ts.length → trK l ts j = 0) (ho : opB l ts = false) (h : ts.length = 0 ∨ arT l ts ts.length ≠ arS l (hl l) (hl l).length) : netI l ts = 0 ∧ netE l ts = 14 := by
  have hg : gpB l ts = true := by
    unfold gpB
    rcases h with h | h
    · rw [decide_eq_true h]
      simp
    · rw [decide_eq_true h]
      simp
  have := netE_g h0 h80 hall ho hg
  exact ⟨this.2, this.1⟩
def usK (ts : List T3) (i : Int) : Nat → Bool
  | 0 => false
  | k + 1 => usK ts i k || hsB (tr ts k) i
theorem usK_true {i : Int} : ∀ n, usK ts i n = true ↔ i ∈ us ts n
  | 0 => by unfold usK us; simp
  | n + 1 => by
    unfold usK us
    rw [Bool.or_eq_true, usK_true n, insL_mem, insL_mem, insL_mem]
    unfold hsB
    rw [decide_eq_true_iff, or_assoc, or_assoc]
    constructor
    · rintro (h | h | h | h)
      · exact .inl h
      · exact .inr (.inl h.symm)
      · exact .inr (.inr (.inl h.symm))
      · exact .inr (.inr (.inr h.symm))
    · rintro (h | h | h | h)
      · exact .inl h
      · exact .inr (.inl h.symm)
      · exact .inr (.inr (.inl h.symm))
      · exact .inr (.inr (.inr h.symm))
theorem rn_us (h0 : cpB l = 0) (h80 : ts.length ≤ 80) (hall : ∀ j, j < ts.length → trK l ts j = 0) (ho : opB l ts = false) {i : Nat} (hi : i < l.length) (h : usK ts i ts.length = false) : netI l ts = 0 ∧ netE l ts = 14 := by
  have hg : gpB l ts = true := by
    unfold gpB
    have : (us ts ts.length).length ≠ l.length := fun he => by
      have := (usK_true _).2 ((us_full hall).1 he i hi)
      rw [h] at this
      cases this
    rw [decide_eq_true this]
    simp
  have := netE_g h0 h80 hall ho hg
  exact ⟨this.2, this.1⟩
theorem rn_ok (h0 : cpB l = 0) (h80 : ts.length ≤ 80) (hall : ∀ j, j < ts.length → trK l ts j = 0) (ho : opB l ts = false) (h1 : 0 < ts.length) (h2 : arT l ts ts.length = arS l (hl l) (hl l).length) (h3 : ∀ i : Nat, i < l.length → usK ts i ts.length = true) : netI l ts = 0 ∧ netE l ts = 0 := by
  have hg : gpB l ts = false := by
    unfold gpB
    rw [decide_eq_false (by omega), decide_eq_false (by rw [h2]; simp), decide_eq_false]
    · rfl
    · rw [Classical.not_not]
      exact (us_full hall).2 fun i hi => (usK_true _).1 (h3 i hi)
  have hR : NetR l ts := ⟨h0, h80, hall, ho, hg⟩
  exact ⟨netI_0 (netE_0.2 hR), netE_0.2 hR⟩
end
end Go.Me
end
/- Chapter 6: the reference's check of a net whose lists lie in blocks. -/
section
set_option linter.unusedSimpArgs false
set_option linter.unusedVariables false
section
namespace Go.Proofs.YtmohcmghbfhdlaaGreat
open Go Go.RowKit Go.Ab Go.Me
set_option maxRecDepth 100000
set_option maxHeartbeats 8000000
attribute [local irreducible] OQ OW AL AW AF SW
theorem Border_z {m : Mem} {b n c : Nat} {blk : Blk} (l : List Pn) (hok : ∀ k, k < l.length → (pt l k).Ok) (x y : Int) (hx : 0 ≤ x ∧ x ≤ (l.length : Int) - 1) (hy : 0 ≤ y ∧ y ≤ (l.length : Int) - 1) (hb : m.at b = some blk) (hc : blk.cells = flatP l) (hn : l.length = n) (hl : l.length ≤ 1000000) (ho : blk.obj = Ob.plain) : PCalls Tryz.prog 76 [.slice (some ⟨b, 0, none⟩) n c, .int .i64 x, .int .i64 y] m (.bool (bdB l x.toNat y.toNat)) := by
  have h := Border_q (c := c) l hok x.toNat y.toNat (by omega) (by omega) hb hc hn hl ho
  rw [Int.toNat_of_nonneg hx.1, Int.toNat_of_nonneg hy.1] at h
  exact h
theorem rCheckNet_b (l : List Pn) (ts : List T3) (c c2 : Nat) (h0 : cpB l = 0) (h1 : 0 < ts.length) (h80 : ts.length ≤ 80) : PCalls Tryz.prog 29 [.agg #[.slice (some ⟨0, 0, none⟩) l.length c, .slice (some ⟨1, 0, none⟩) ts.length c2]] [some ⟨flatP l, false, 0⟩, some ⟨flatT ts, false, 0⟩] (.tuple #[.int .i64 (netI l ts), .int .i64 (netE l ts)]) := by
  obtain ⟨h40, hok, hap⟩ := cp_ok h0
  have hcp := fun (m : Mem) (blk : Blk) (h1 : m.at 0 = some blk) (h2 : blk.cells = flatP l) (h3 : blk.obj = Ob.plain) => rCheckPoints_q (c := c) l h1 h2 rfl (by omega) h3
  rw [h0] at hcp
  have hld := fun (k : Nat) (hk : k < l.length) (r : Mem) => flatP_ld (m := some ⟨flatP l, false, 0⟩ :: r) (b := 0) (l := l) rfl rfl k hk
  have hldT := fun (k : Nat) (hk : k < ts.length) (a : Option Blk) (r : Mem) => flatT_ld (m := a :: some ⟨flatT ts, false, 0⟩ :: r) (b := 1) (ts := ts) rfl rfl k hk
  · have hw := fun (x : Int) (m : Mem) => rWithin_q x 0 ((l.length : Int) - 1) m
    have hbf := fun (k : Nat) (m : Mem) => before_q (tr ts ((k : Int) - 1).toNat) (tr ts k) m
    have hA := fun (a b d : Int) (ha : 0 ≤ a ∧ a ≤ (l.length : Int) - 1) (hb : 0 ≤ b ∧ b ≤ (l.length : Int) - 1) (hd : 0 ≤ d ∧ d ≤ (l.length : Int) - 1) (m : Mem) => Area_q (hok a.toNat (by omega)) (hok b.toNat (by omega)) (hok d.toNat (by omega)) m
    have hh := fun (n : Nat) (hn : n ≤ ts.length) (a b : Int) (m : Mem) (blk : Blk) (h1 : m.at 1 = some blk) (h2 : blk.cells = flatT ts) (h3 : blk.obj = Ob.plain) => has_q (c := c2) ts hn (by omega) a b h1 h2 h3
    have hhA : ∀ (a b : Int) (m : Mem) (blk : Blk) (h1 : m.at 1 = some blk) (h2 : blk.cells = flatT ts) (h3 : blk.obj = Ob.plain), PCalls Tryz.prog 75 [.slice (some ⟨1, 0, none⟩) ts.length c2, .int .i64 a, .int .i64 b] m (.int .i64 (lk (lfA ts) (a, b))) := fun a b m blk h1 h2 h3 => hh ts.length (Nat.le_refl _) a b m blk h1 h2 h3
    have hbo := fun (x y : Int) (hx : 0 ≤ x ∧ x ≤ (l.length : Int) - 1) (hy : 0 ≤ y ∧ y ≤ (l.length : Int) - 1) (m : Mem) (blk : Blk) (h1 : m.at 0 = some blk) (h2 : blk.cells = flatP l) (h3 : blk.obj = Ob.plain) => Border_z (c := c) l hok x y hx hy h1 h2 rfl (by omega) h3
    have hHA := fun (m : Mem) (blk : Blk) (h1 : m.at 0 = some blk) (h2 : blk.cells = flatP l) (h3 : blk.obj = Ob.plain) => HullArea_q (c := c) l h0 h1 h2 rfl h3
    have hHs := fun (k : Nat) (hk : k < ts.length) (n : Int) (c : Nat) (m : Mem) (blk : Blk) (h1 : m.at 1 = some blk) (h2 : blk.cells = flatT ts) (h3 : blk.obj = Ob.plain) => Has_q (c := c) ts hk n (by omega) h1 h2 h3
    have hrt : ∀ {x : Int}, rgB x 0 ((l.length : Int) - 1) = true → 0 ≤ x ∧ x ≤ (l.length : Int) - 1 := fun h => rgB_ye h
    have hcb : ∀ a b d : Int, 0 ≤ a ∧ a ≤ (l.length : Int) - 1 → 0 ≤ b ∧ b ≤ (l.length : Int) - 1 → 0 ≤ d ∧ d ≤ (l.length : Int) - 1 → -800000000 ≤ cr (pt l a.toNat) (pt l b.toNat) (pt l d.toNat) ∧ cr (pt l a.toNat) (pt l b.toNat) (pt l d.toNat) ≤ 800000000 := fun a b d ha hb hd => by
      have := cr_bd (hok a.toNat (by omega)) (hok b.toNat (by omega)) (hok d.toNat (by omega))
      unfold cr
      omega
    have hab := fun k (hj : ∀ j, j < k → trK l ts j = 0) => arT_bd (l := l) (ts := ts) hok k hj
    have has : ∀ k, arT l ts (k + 1) = arT l ts k + cr (pt l (tr ts k).1.toNat) (pt l (tr ts k).2.1.toNat) (pt l (tr ts k).2.2.toNat) := fun k => by
      show arT l ts k + arS l _ 3 = _
      rw [arS_3]
    have ht1 : ∀ k : Nat, ((k : Int) - 1).toNat = k - 1 := fun k => by omega
    have F6 : ∀ k, k < ts.length → (∀ j, j < k → trK l ts j = 0) → (rgB (tr ts k).1 0 ((l.length : Int) - 1) = false ∨ rgB (tr ts k).2.1 0 ((l.length : Int) - 1) = false ∨ rgB (tr ts k).2.2 0 ((l.length : Int) - 1) = false) → netI l ts = k ∧ netE l ts = 6 := fun k hk hj h => rn_6 h0 h80 hk hj (fun h2 => by
      unfold inR at h2
      rcases h with h | h | h
      · exact rgB_no h h2.1
      · exact rgB_no h h2.2.1
      · exact rgB_no h h2.2.2)
    have F9 : ∀ k, k < ts.length → (∀ j, j < k → trK l ts j = 0) → (0 ≤ (tr ts k).1 ∧ (tr ts k).1 ≤ (l.length : Int) - 1) → (0 ≤ (tr ts k).2.1 ∧ (tr ts k).2.1 ≤ (l.length : Int) - 1) → (0 ≤ (tr ts k).2.2 ∧ (tr ts k).2.2 ≤ (l.length : Int) - 1) → ((tr ts k).2.1 ≤ (tr ts k).1 ∨ (tr ts k).2.2 ≤ (tr ts k).1) → netI l ts = k ∧ netE l ts = 9 := fun k hk hj a b d h => rn_9 h0 h80 hk hj ⟨a, b, d⟩ (by unfold ordB; omega)
    have F9b : ∀ k, k < ts.length → (∀ j, j < k → trK l ts j = 0) → (0 ≤ (tr ts k).1 ∧ (tr ts k).1 ≤ (l.length : Int) - 1) → (0 ≤ (tr ts k).2.1 ∧ (tr ts k).2.1 ≤ (l.length : Int) - 1) → (0 ≤ (tr ts k).2.2 ∧ (tr ts k).2.2 ≤ (l.length : Int) - 1) → 0 < k → bfB (tr ts ((k : Int) - 1).toNat) (tr ts k) = false → netI l ts = k ∧ netE l ts = 9 := fun k hk hj a b d h h2 => rn_9 h0 h80 hk hj ⟨a, b, d⟩ (ordB_bf h (by rw [← ht1]; exact h2))
    have F13 : ∀ k, k < ts.length → (∀ j, j < k → trK l ts j = 0) → (0 ≤ (tr ts k).1 ∧ (tr ts k).1 ≤ (l.length : Int) - 1) → (0 ≤ (tr ts k).2.1 ∧ (tr ts k).2.1 ≤ (l.length : Int) - 1) → (0 ≤ (tr ts k).2.2 ∧ (tr ts k).2.2 ≤ (l.length : Int) - 1) → (tr ts k).1 < (tr ts k).2.1 → (tr ts k).1 < (tr ts k).2.2 → (0 < k → bfB (tr ts ((k : Int) - 1).toNat) (tr ts k) = true) → cr (pt l (tr ts k).1.toNat) (pt l (tr ts k).2.1.toNat) (pt l (tr ts k).2.2.toNat) ≤ 0 → netI l ts = k ∧ netE l ts = 13 := fun k hk hj a b d h h2 h3 h4 => rn_13 h0 h80 hk hj ⟨a, b, d⟩ (ordB_not h h2 (by rw [← ht1]; exact h3)) h4
    have F28 : ∀ k, k < ts.length → (∀ j, j < k → trK l ts j = 0) → (0 ≤ (tr ts k).1 ∧ (tr ts k).1 ≤ (l.length : Int) - 1) → (0 ≤ (tr ts k).2.1 ∧ (tr ts k).2.1 ≤ (l.length : Int) - 1) → (0 ≤ (tr ts k).2.2 ∧ (tr ts k).2.2 ≤ (l.length : Int) - 1) → (tr ts k).1 < (tr ts k).2.1 → (tr ts k).1 < (tr ts k).2.2 → (0 < k → bfB (tr ts ((k : Int) - 1).toNat) (tr ts k) = true) → 0 < cr (pt l (tr ts k).1.toNat) (pt l (tr ts k).2.1.toNat) (pt l (tr ts k).2.2.toNat) → (0 ≤ lk (lf ts k) ((tr ts k).1, (tr ts k).2.1) ∨ 0 ≤ lk (lf ts k) ((tr ts k).2.1, (tr ts k).2.2) ∨ 0 ≤ lk (lf ts k) ((tr ts k).2.2, (tr ts k).1)) → netI l ts = k ∧ netE l ts = 28 := fun k hk hj a b d h h2 h3 h4 h5 => rn_28 h0 h80 hk hj ⟨a, b, d⟩ (ordB_not h h2 (by rw [← ht1]; exact h3)) h4 h5
    have F0 : ∀ k, (0 ≤ (tr ts k).1 ∧ (tr ts k).1 ≤ (l.length : Int) - 1) → (0 ≤ (tr ts k).2.1 ∧ (tr ts k).2.1 ≤ (l.length : Int) - 1) → (0 ≤ (tr ts k).2.2 ∧ (tr ts k).2.2 ≤ (l.length : Int) - 1) → (tr ts k).1 < (tr ts k).2.1 → (tr ts k).1 < (tr ts k).2.2 → (0 < k → bfB (tr ts ((k : Int) - 1).toNat) (tr ts k) = true) → 0 < cr (pt l (tr ts k).1.toNat) (pt l (tr ts k).2.1.toNat) (pt l (tr ts k).2.2.toNat) → lk (lf ts k) ((tr ts k).1, (tr ts k).2.1) < 0 → lk (lf ts k) ((tr ts k).2.1, (tr ts k).2.2) < 0 → lk (lf ts k) ((tr ts k).2.2, (tr ts k).1) < 0 → trK l ts k = 0 := fun k a b d h h2 h3 h4 h5 h6 h7 => rn_0 ⟨a, b, d⟩ (ordB_not h h2 (by rw [← ht1]; exact h3)) h4 h5 h6 h7
    have hin : ∀ k, trK l ts k = 0 → (0 ≤ (tr ts k).1 ∧ (tr ts k).1 ≤ (l.length : Int) - 1) ∧ (0 ≤ (tr ts k).2.1 ∧ (tr ts k).2.1 ≤ (l.length : Int) - 1) ∧ (0 ≤ (tr ts k).2.2 ∧ (tr ts k).2.2 ≤ (l.length : Int) - 1) := fun k h => (trK_0 h).1
    have F25 : ∀ k, (∀ j, j < ts.length → trK l ts j = 0) → k < ts.length → ((lk (lfA ts) ((tr ts k).2.1, (tr ts k).1) < 0 ∧ bdB l (tr ts k).1.toNat (tr ts k).2.1.toNat = false) ∨ (lk (lfA ts) ((tr ts k).2.2, (tr ts k).2.1) < 0 ∧ bdB l (tr ts k).2.1.toNat (tr ts k).2.2.toNat = false) ∨ (lk (lfA ts) ((tr ts k).1, (tr ts k).2.2) < 0 ∧ bdB l (tr ts k).2.2.toNat (tr ts k).1.toNat = false)) → netI l ts = 0 ∧ netE l ts = 25 := fun k hall hk h => by
      rcases h with h | h | h
      · exact rn_25 h0 h80 hall hk (.inl rfl) h.1 h.2
      · exact rn_25 h0 h80 hall hk (.inr (.inl rfl)) h.1 h.2
      · exact rn_25 h0 h80 hall hk (.inr (.inr rfl)) h.1 h.2
    have F14 : (∀ j, j < ts.length → trK l ts j = 0) → opB l ts = false → arT l ts ts.length ≠ arS l (hl l) (hl l).length → netI l ts = 0 ∧ netE l ts = 14 := fun hall ho h => rn_14 h0 h80 hall ho (.inr h)
    have Fus : (∀ j, j < ts.length → trK l ts j = 0) → opB l ts = false → ∀ i : Nat, i < l.length → usK ts i ts.length = false → netI l ts = 0 ∧ netE l ts = 14 := fun hall ho i hi h => rn_us h0 h80 hall ho hi h
    have Fok : (∀ j, j < ts.length → trK l ts j = 0) → opB l ts = false → arT l ts ts.length = arS l (hl l) (hl l).length → (∀ i : Nat, i < l.length → usK ts i ts.length = true) → netI l ts = 0 ∧ netE l ts = 0 := fun hall ho h h3 => rn_ok h0 h80 hall ho h1 h h3
    have hop := @rn_op l ts
    have hu1 : ∀ (i : Int) (k : Nat), usK ts i k = true → usK ts i (k + 1) = true := fun i k h => by
      show (usK ts i k || _) = true
      rw [h]; rfl
    have hu2 : ∀ (i : Int) (k : Nat), usK ts i k = false → usK ts i (k + 1) = hsB (tr ts k) i := fun i k h => by
      show (usK ts i k || _) = _
      rw [h, Bool.false_or]
    have hz0 : arT l ts 0 = 0 := rfl
    generalize cpA l = A0 at *
    generalize netE l ts = E0 at *
    generalize netI l ts = I0 at *
    generalize arS l (hl l) (hl l).length = AS at *
    refine PCalls.enJ 205 Tryz.func29 rfl (ro2p _ _ rfl rfl) rfl (fun E hE => ?_)
    repeat' (first | with_reducible (first | refine Then.n ?_ | refine Then.r ?_ | refine Then.x ?_ | refine InB.n ?_ | refine InB.r ?_ | refine InB.hit ?_ | refine InB.miss (by decide) ?_) | ((with_reducible refine AL.on ?_); first | (refine AL.gd rfl ?_; first | (refine AL.gskip rfl rfl ?_; (refine AL.nm ?_)) | (refine AL.gs1 rfl rfl (fun hc => ?_) (fun hc => ?_) <;> (try replace hc := nc hc) <;> first | (exfalso; first | contradiction | (first | omega | (simp at hc; done)); done) | (refine AL.nm ?_)) | (refine AL.gs0 rfl rfl (fun hc => ?_) (fun hc => ?_) <;> (try replace hc := nc hc) <;> first | (exfalso; first | contradiction | (first | omega | (simp at hc; done)); done) | (refine AL.nm ?_))) | ((first | ((with_reducible refine AL.k_move ?_); first | (refine AL.q rfl (OQ.move wl) ?_)) | ((with_reducible refine AL.k_assign ?_); first | (refine AL.q rfl (OQ.assign wl) ?_)) | ((with_reducible refine AL.k_load ?_); first | (refine AL.q rfl (OQ.load1 (ty := 22) rfl kr (by first | (first | exact hldT _ (by omega) _ _ | exact hld _ (by omega) _) | (conv => lhs; whnf))) ?_) | (refine AL.q rfl (OQ.load1 (ty := 23) rfl kr (by first | (first | exact hldT _ (by omega) _ _ | exact hld _ (by omega) _) | (conv => lhs; whnf))) ?_) | refine AL.q rfl (OQ.loadN (ty := 62) (n := 3) rfl kr kr (by first | (first | exact hldT _ (by omega) _ _ | exact hld _ (by omega) _) | rfl)) ?_) | ((with_reducible refine AL.k_binOp ?_); first | refine AL.q rfl (OQ.neq rfl rfl) ?_ | refine AL.q rfl (OQ.gtr rfl rfl) ?_ | refine AL.q rfl (OQ.lss rfl rfl) ?_ | refine AL.q rfl (OQ.addi rfl rfl (by omega)) ?_ | refine AL.q rfl (OQ.add rfl rfl) ?_ | refine AL.q rfl (OQ.leq rfl rfl) ?_ | refine AL.q rfl (OQ.geq rfl rfl) ?_ | refine AL.q rfl (OQ.eql rfl rfl) ?_) | ((with_reducible refine AL.k_call ?_); first | refine AL.q rfl (OQ.lenS (xt := 23) (r := (none, 3, true)) rfl kr) ?_ | refine AL.q rfl (OQ.lenS (xt := 22) (r := (none, 2, true)) rfl kr) ?_) | ((with_reducible refine AL.k_pick ?_); first | (refine AL.q rfl (OQ.pickT rfl (by with_reducible rfl) wl) ?_) | (refine AL.q rfl (OQ.pickF rfl (by with_reducible rfl) wl) ?_)) | ((with_reducible refine AL.k_unOp ?_); first | refine AL.q rfl (OQ.not rfl) ?_) | ((with_reducible refine AL.k_extract ?_); first | refine AL.q rfl (OQ.extract rfl rfl) ?_) | refine AL.q rfl (by first | exact OQ.sliceTo (ty := 23) (k := k) (z := 3) (g := true) rfl kr rfl (.inl rfl) rfl rfl (by omega) | exact OQ.sliceA (ty := 62) (n := 3) (z := 1) (g := false) (l := 0) (h := 3) rfl kr rfl rfl rfl rfl (by decide) (by decide) (by decide)) ?_); (refine AL.nm ?_)) | ((first | ((with_reducible refine AL.k_fieldAddr ?_); first | refine AL.q rfl (OQ.fieldA (ty := 25) (i := 0) (n := 1) (off := 0) (g := false) rfl kr (by decide)) ?_ | refine AL.q rfl (OQ.fieldA (ty := 25) (i := 1) (n := 1) (off := 1) (g := false) rfl kr (by decide)) ?_) | ((with_reducible refine AL.k_indexAddr ?_); first | refine AL.q rfl (OQ.idxAddr (ty := 23) (z := 3) (g := true) rfl rfl kr (by first | omega | decide) (by first | omega | decide)) ?_) | ((with_reducible refine AL.k_call ?_); first | refine AL.pcall (g := 59) rfl kr rfl ((by exact hcp _ _ rfl rfl rfl)) ?_ | refine AL.pcall (g := 69) rfl kr rfl (hw _ _) ?_ | refine AL.pcall (g := 73) rfl kr rfl ((by exact hbf _ _)) ?_ | refine AL.pcall (g := 74) rfl kr rfl ((by exact hA _ _ _ (by omega) (by omega) (by omega) _)) ?_ | refine AL.pcall (g := 75) rfl kr rfl ((by first | exact hh k (by omega) _ _ _ _ rfl rfl rfl | exact hhA _ _ _ _ rfl rfl rfl)) ?_ | refine AL.pcall (g := 76) rfl kr rfl ((by exact hbo _ _ (by omega) (by omega) _ _ rfl rfl rfl)) ?_ | refine AL.pcall (g := 77) rfl kr rfl ((by exact hHA _ _ rfl rfl rfl)) ?_ | refine AL.pcall (g := 78) rfl kr rfl ((by exact hHs _ (by omega) _ _ _ _ rfl rfl rfl)) ?_)); (refine AL.nm ?_)) | ((first | ((with_reducible refine AL.k_alloc ?_); first | refine AL.w rfl (OW.alloc (ty := 62) (z := [.int .i64 0, .int .i64 0, .int .i64 0]) kr rfl) ?_) | ((with_reducible refine AL.k_store ?_); first | (refine AL.w rfl (OW.store (ty := 62) (n := 3) rfl wl rfl rfl kr rfl rfl (by decide) rfl (Nat.le_of_ble_eq_true rfl) (by intro r h; cases h)) ?_)) | ((with_reducible refine AL.k_box ?_); first | (refine AL.w rfl (OW.box wl (by intro r h; cases h)) ?_))); (refine AL.nm ?_); (refine AL.nM ?_)) | (refine AL.bs rfl (fun hc => ?_) (fun hc => ?_) <;> (fail_if_success (with_reducible exact lit_no hc)) <;> (try replace hc := nc hc) <;> first | (exfalso; first | contradiction | (first | omega | (simp at hc; done)); done) | (refine AL.nm ?_)) | refine AL.nil ?_) | ((with_reducible refine AW.on ?_); first | refine AW.seq ?_ | refine AW.skip ?_ | refine AW.exit ?_ | refine AW.ret ?_ | ((refine AW.block (id := 0) ?_); (refine AW.fk [1, 6, 7] ?_); (refine AW.loop (fun n' t' m => ∃ k : Nat, n' = ts.length - k ∧ k ≤ ts.length ∧ (∀ j, j < k → trK l ts j = 0) ∧ t' = [jk, .pointer (some ⟨2, 0, none⟩), jk, jk, jk, jk, .int .i64 (arT l ts k), .int .i64 (k), jk, jk, jk, jk, jk, jk, jk, jk, jk, jk, jk, jk, jk, jk, jk, jk, jk, jk, jk, jk, jk, jk, jk, jk, jk, jk, jk, jk, jk, jk, jk, jk, jk, jk, jk, jk, jk, jk, jk, jk, jk, jk, jk, jk, jk, jk, jk, jk, jk, jk, jk, jk, jk, jk, jk, jk, jk, jk, jk, jk, jk, jk, jk, jk, jk, jk, jk, jk, jk, jk, jk, jk, jk, jk, jk, jk, jk, jk, jk, jk, jk, jk, jk, jk, jk, jk, jk, jk, jk, jk, jk, jk, jk, jk, jk, jk, jk, jk, jk, jk, jk, jk, jk, jk, jk, jk, jk, jk, jk, jk, jk, jk, jk, jk, jk, jk, jk, jk, jk, jk, jk, jk, jk, jk, jk, jk, jk, jk, jk, jk, jk, jk, jk, jk, jk, jk, jk, jk, jk, jk, jk, jk, jk, jk, jk, jk, jk, jk, jk, jk, jk, jk, jk, jk, jk, jk, jk, jk, jk, jk, jk, jk, jk, jk, jk, jk, jk, jk, jk, jk, jk, jk, jk, jk, jk, jk, jk, jk, jk, jk, jk, jk, jk, jk, jk, jk, jk, jk, jk, jk, jk, jk, jk, jk, jk, jk, jk, jk] ∧ m = [some ⟨flatP l, false, 0⟩, some ⟨flatT ts, false, 0⟩, some ⟨[.slice (some ⟨0, 0, none⟩) l.length c, .slice (some ⟨1, 0, none⟩) ts.length c2], true, 0⟩]) (ts.length) (by exact ⟨0, rfl, Nat.zero_le _, fun j h => absurd h (by omega), by rw [hz0]; rfl, rfl⟩) ?_); (rintro n' t' m ⟨k, rfl, hk, hj, rfl, rfl⟩)) | (refine AW.block (id := 2) ?_; refine AW.unroll 4 ?_) | (refine AW.block (id := 4) ?_; refine AW.unroll 4 ?_) | ((refine AW.block (id := 6) ?_); (refine AW.fk [1, 6, 12] ?_); (refine AW.loop (fun n' t' m => ∃ k4 : Nat, n' = ts.length - k4 ∧ k4 ≤ ts.length ∧ (∀ j, j < ts.length → trK l ts j = 0) ∧ (∀ j, j < k4 → bdO l ts (tr ts j).1 (tr ts j).2.1 ∧ bdO l ts (tr ts j).2.1 (tr ts j).2.2 ∧ bdO l ts (tr ts j).2.2 (tr ts j).1) ∧ t' = [jk, .pointer (some ⟨2, 0, none⟩), jk, jk, jk, jk, .int .i64 (arT l ts ts.length), jk, jk, jk, jk, jk, .int .i64 (k4), jk, jk, jk, jk, jk, jk, jk, jk, jk, jk, jk, jk, jk, jk, jk, jk, jk, jk, jk, jk, jk, jk, jk, jk, jk, jk, jk, jk, jk, jk, jk, jk, jk, jk, jk, jk, jk, jk, jk, jk, jk, jk, jk, jk, jk, jk, jk, jk, jk, jk, jk, jk, jk, jk, jk, jk, jk, jk, jk, jk, jk, jk, jk, jk, jk, jk, jk, jk, jk, jk, jk, jk, jk, jk, jk, jk, jk, jk, jk, jk, jk, jk, jk, jk, jk, jk, jk, jk, jk, jk, jk, jk, jk, jk, jk, jk, jk, jk, jk, jk, jk, jk, jk, jk, jk, jk, jk, jk, jk, jk, jk, jk, jk, jk, jk, jk, jk, jk, jk, jk, jk, jk, jk, jk, jk, jk, jk, jk, jk, jk, jk, jk, jk, jk, jk, jk, jk, jk, jk, jk, jk, jk, jk, jk, jk, jk, jk, jk, jk, jk, jk, jk, jk, jk, jk, jk, jk, jk, jk, jk, jk, jk, jk, jk, jk, jk, jk, jk, jk, jk, jk, jk, jk, jk, jk, jk, jk, jk, jk, jk, jk, jk, jk, jk, jk, jk, jk, jk, jk, jk, jk, jk, jk] ∧ m = [some ⟨flatP l, false, 0⟩, some ⟨flatT ts, false, 0⟩, some ⟨[.slice (some ⟨0, 0, none⟩) l.length c, .slice (some ⟨1, 0, none⟩) ts.length c2], true, 0⟩]) (ts.length) (by (obtain rfl : k = ts.length := (by omega); exact ⟨0, rfl, Nat.zero_le _, hj, fun j h => absurd h (by omega), rfl, rfl⟩)) ?_); (rintro n' t' m ⟨k4, rfl, hk4, hall, hb4, rfl, rfl⟩)) | (refine AW.block (id := 8) ?_; refine AW.unroll 4 ?_) | ((refine AW.block (id := 10) ?_); (refine AW.fk [1, 17] ?_); (refine AW.loop (fun n' t' m => ∃ k6 : Nat, n' = l.length - k6 ∧ k6 ≤ l.length ∧ opB l ts = false ∧ (∀ i : Nat, i < k6 → usK ts i ts.length = true) ∧ t' = [jk, .pointer (some ⟨2, 0, none⟩), jk, jk, jk, jk, jk, jk, jk, jk, jk, jk, jk, jk, jk, jk, jk, .int .i64 (k6), jk, jk, jk, jk, jk, jk, jk, jk, jk, jk, jk, jk, jk, jk, jk, jk, jk, jk, jk, jk, jk, jk, jk, jk, jk, jk, jk, jk, jk, jk, jk, jk, jk, jk, jk, jk, jk, jk, jk, jk, jk, jk, jk, jk, jk, jk, jk, jk, jk, jk, jk, jk, jk, jk, jk, jk, jk, jk, jk, jk, jk, jk, jk, jk, jk, jk, jk, jk, jk, jk, jk, jk, jk, jk, jk, jk, jk, jk, jk, jk, jk, jk, jk, jk, jk, jk, jk, jk, jk, jk, jk, jk, jk, jk, jk, jk, jk, jk, jk, jk, jk, jk, jk, jk, jk, jk, jk, jk, jk, jk, jk, jk, jk, jk, jk, jk, jk, jk, jk, jk, jk, jk, jk, jk, jk, jk, jk, jk, jk, jk, jk, jk, jk, jk, jk, jk, jk, jk, jk, jk, jk, jk, jk, jk, jk, jk, jk, jk, jk, jk, jk, jk, jk, jk, jk, jk, jk, jk, jk, jk, jk, jk, jk, jk, jk, jk, jk, jk, jk, jk, jk, jk, jk, jk, jk, jk, jk, jk, jk, jk, jk, jk, jk, jk, jk, jk, jk, jk] ∧ m = [some ⟨flatP l, false, 0⟩, some ⟨flatT ts, false, 0⟩, some ⟨[.slice (some ⟨0, 0, none⟩) l.length c, .slice (some ⟨1, 0, none⟩) ts.length c2], true, 0⟩]) (l.length) (by (obtain rfl : k4 = ts.length := (by omega); exact ⟨0, rfl, Nat.zero_le _, hop hb4, fun j h => absurd h (by omega), rfl, rfl⟩)) ?_); (rintro n' t' m ⟨k6, rfl, hk6, hopB, hu6, rfl, rfl⟩)) | ((refine AW.block (id := 12) ?_); (refine AW.fk [1, 17, 18, 19] ?_); (refine AW.loop (fun n' t' m => ∃ k7 : Nat, n' = ts.length - k7 ∧ k7 ≤ ts.length ∧ t' = [jk, .pointer (some ⟨2, 0, none⟩), jk, jk, jk, jk, jk, jk, jk, jk, jk, jk, jk, jk, jk, jk, jk, .int .i64 (k6), .bool (usK ts k6 k7), .int .i64 (k7), jk, jk, jk, jk, jk, jk, jk, jk, jk, jk, jk, jk, jk, jk, jk, jk, jk, jk, jk, jk, jk, jk, jk, jk, jk, jk, jk, jk, jk, jk, jk, jk, jk, jk, jk, jk, jk, jk, jk, jk, jk, jk, jk, jk, jk, jk, jk, jk, jk, jk, jk, jk, jk, jk, jk, jk, jk, jk, jk, jk, jk, jk, jk, jk, jk, jk, jk, jk, jk, jk, jk, jk, jk, jk, jk, jk, jk, jk, jk, jk, jk, jk, jk, jk, jk, jk, jk, jk, jk, jk, jk, jk, jk, jk, jk, jk, jk, jk, jk, jk, jk, jk, jk, jk, jk, jk, jk, jk, jk, jk, jk, jk, jk, jk, jk, jk, jk, jk, jk, jk, jk, jk, jk, jk, jk, jk, jk, jk, jk, jk, jk, jk, jk, jk, jk, jk, jk, jk, jk, jk, jk, jk, jk, jk, jk, jk, jk, jk, jk, jk, jk, jk, jk, jk, jk, jk, jk, jk, jk, jk, jk, jk, jk, jk, jk, jk, jk, jk, jk, jk, jk, jk, jk, jk, jk, jk, jk, jk, jk, jk, jk, jk, jk, jk, jk, jk] ∧ m = [some ⟨flatP l, false, 0⟩, some ⟨flatT ts, false, 0⟩, some ⟨[.slice (some ⟨0, 0, none⟩) l.length c, .slice (some ⟨1, 0, none⟩) ts.length c2], true, 0⟩]) (ts.length) (by exact ⟨0, rfl, Nat.zero_le _, rfl, rfl⟩) ?_); (rintro n' t' m ⟨k7, rfl, hk7, rfl, rfl⟩)) | refine AW.block ?_ | (refine AW.drawF (id := 14) 7 #[0, 1, 3, 0, 8, 24, 56, 127, 255] kr kr ?_; (conv => (arg 8; simp only [List.take_succ_cons, List.take_zero]))) | (refine AW.drawF (id := 16) 23 #[0, 1, 0, 4, 15, 31, 63, 127, 63, 319, 1023, 2047, 4095, 8191, 16383, 32767, 65535, 131071, 65535, 327679, 1048575, 2097151, 65535, 8388607, 16777215, 33554431, 67108863] kr kr ?_; (conv => (arg 8; simp only [List.take_succ_cons, List.take_zero])); ((have q1 := hrt (x := (tr ts k).1) (by assumption); have q2 := hrt (x := (tr ts k).2.1) (by assumption); have q3 := hrt (x := (tr ts k).2.2) (by assumption)))) | (refine AW.drawF (id := 18) 18 #[0, 1, 0, 4, 15, 31, 0, 64, 0, 256, 960, 1984, 0, 4096, 0, 16384, 61440, 126976, 262143, 524287] kr kr ?_; (conv => (arg 8; simp only [List.take_succ_cons, List.take_zero]))) | (refine AW.drawF (id := 24) 12 #[0, 1, 0, 7, 0, 16, 48, 0, 128, 384, 896, 1920, 4095, 8191] kr kr ?_; (conv => (arg 8; simp only [List.take_succ_cons, List.take_zero]))) | (refine AW.drawF (id := 34) 9 #[0, 1, 3, 0, 8, 24, 56, 120, 7, 511] kr kr ?_; (conv => (arg 8; simp only [List.take_succ_cons, List.take_zero]))) | (refine AW.region (id := 26) ?_; ((have q4 := hcb _ _ _ q1 q2 q3; have q5 := hab k hj))) | (refine AW.region (id := 30) ?_; ((have q1 := (hin k4 (hall k4 (by omega))).1; have q2 := (hin k4 (hall k4 (by omega))).2.1; have q3 := (hin k4 (hall k4 (by omega))).2.2))) | refine AW.region ?_ | (refine AW.conds rfl (fun hc => ?_) (fun hc => ?_) <;> (try replace hc := nc hc) <;> first | (exfalso; first | contradiction | (first | omega | (simp at hc; done)); done) | skip)) | ((with_reducible refine AF.on ?_); first | (refine AF.q 0 (SW.skip rfl rfl) ?_; (conv => (arg 9; try tactic => exact nrmF)); (conv => (arg 11; try simp only [List.nil_append, List.cons_append]))) | ((first | refine AF.q 0 (SW.no1 rfl rfl (by with_reducible rfl)) ?_ | refine AF.q 0 (SW.no0 rfl rfl (by with_reducible rfl)) ?_); (conv => (arg 9; try tactic => exact nrmF)); (conv => (arg 11; try simp only [List.nil_append, List.cons_append]))) | ((first | ((with_reducible refine AF.k_move ?_); first | (refine AF.q 0 (SW.q (OQ.move wl) rfl) ?_) | (refine AF.q 0 (SW.yes (SW.q (OQ.move wl) rfl) rfl rfl (by with_reducible rfl)) ?_)) | ((with_reducible refine AF.k_assign ?_); first | (refine AF.q 0 (SW.q (OQ.assign wl) rfl) ?_)) | ((with_reducible refine AF.k_load ?_); first | (refine AF.ql rfl (SW.q (OQ.load1 (ty := 3) rfl kr (by first | (first | exact hldT _ (by omega) _ _ | exact hld _ (by omega) _) | (conv => lhs; whnf))) rfl) ?_) | (refine AF.ql rfl (SW.q (OQ.load1 (ty := 22) rfl kr (by first | (first | exact hldT _ (by omega) _ _ | exact hld _ (by omega) _) | (conv => lhs; whnf))) rfl) ?_) | (refine AF.ql rfl (SW.yes (SW.q (OQ.load1 (ty := 3) rfl kr (by first | (first | exact hldT _ (by omega) _ _ | exact hld _ (by omega) _) | (conv => lhs; whnf))) rfl) rfl rfl (by with_reducible rfl)) ?_) | (refine AF.ql rfl (SW.yes (SW.q (OQ.load1 (ty := 23) rfl kr (by first | (first | exact hldT _ (by omega) _ _ | exact hld _ (by omega) _) | (conv => lhs; whnf))) rfl) rfl rfl (by with_reducible rfl)) ?_) | refine AF.ql rfl (SW.yes (SW.q (OQ.loadN (ty := 62) (n := 3) rfl kr kr (by first | (first | exact hldT _ (by omega) _ _ | exact hld _ (by omega) _) | rfl)) rfl) rfl rfl (by with_reducible rfl)) ?_ | refine AF.ql rfl (SW.q (OQ.loadN (ty := 65) (n := 2) rfl kr kr (by first | (first | exact hldT _ (by omega) _ _ | exact hld _ (by omega) _) | rfl)) rfl) ?_ | (refine AF.ql rfl (SW.q (OQ.load1 (ty := 23) rfl kr (by first | (first | exact hldT _ (by omega) _ _ | exact hld _ (by omega) _) | (conv => lhs; whnf))) rfl) ?_)) | ((with_reducible refine AF.k_binOp ?_); first | refine AF.q 0 (SW.q (OQ.subi rfl rfl (by omega)) rfl) ?_ | refine AF.q 0 (SW.q (OQ.sub rfl rfl) rfl) ?_ | refine AF.q 0 (SW.q (OQ.geq rfl rfl) rfl) ?_ | refine AF.q 0 (SW.yes (SW.q (OQ.geq rfl rfl) rfl) rfl rfl (by with_reducible rfl)) ?_ | refine AF.q 0 (SW.yes (SW.q (OQ.gtr rfl rfl) rfl) rfl rfl (by with_reducible rfl)) ?_ | refine AF.q 0 (SW.yes (SW.q (OQ.subi rfl rfl (by omega)) rfl) rfl rfl (by with_reducible rfl)) ?_ | refine AF.q 0 (SW.yes (SW.q (OQ.sub rfl rfl) rfl) rfl rfl (by with_reducible rfl)) ?_ | refine AF.q 0 (SW.q (OQ.addi rfl rfl (by omega)) rfl) ?_ | refine AF.q 0 (SW.q (OQ.add rfl rfl) rfl) ?_ | refine AF.q 0 (SW.q (OQ.rem rfl rfl (by omega)) rfl) ?_) | ((with_reducible refine AF.k_indexAddr ?_); first | refine AF.q 0 (SW.q (OQ.idxPtr (ty := 62) (n := 1) (l := 3) (g := false) rfl rfl kr (by first | omega | decide) (by first | omega | decide)) rfl) ?_ | refine AF.q 0 (SW.yes (SW.q (OQ.idxPtr (ty := 62) (n := 1) (l := 3) (g := false) rfl rfl kr (by first | omega | decide) (by first | omega | decide)) rfl) rfl rfl (by with_reducible rfl)) ?_ | refine AF.q 0 (SW.yes (SW.q (OQ.idxAddr (ty := 23) (z := 3) (g := true) rfl rfl kr (by first | omega | decide) (by first | omega | decide)) rfl) rfl rfl (by with_reducible rfl)) ?_ | refine AF.q 0 (SW.q (OQ.idxAddr (ty := 22) (z := 2) (g := true) rfl rfl kr (by first | omega | decide) (by first | omega | decide)) rfl) ?_) | ((with_reducible refine AF.k_fieldAddr ?_); first | refine AF.q 0 (SW.q (OQ.fieldA (ty := 25) (i := 0) (n := 1) (off := 0) (g := false) rfl kr (by decide)) rfl) ?_ | refine AF.q 0 (SW.yes (SW.q (OQ.fieldA (ty := 25) (i := 1) (n := 1) (off := 1) (g := false) rfl kr (by decide)) rfl) rfl rfl (by with_reducible rfl)) ?_ | refine AF.q 0 (SW.q (OQ.fieldA (ty := 25) (i := 1) (n := 1) (off := 1) (g := false) rfl kr (by decide)) rfl) ?_) | ((with_reducible refine AF.k_call ?_); first | refine AF.q 0 (SW.q (OQ.lenS (xt := 22) (r := (none, 2, true)) rfl kr) rfl) ?_) | ((with_reducible refine AF.k_pick ?_); first | (refine AF.q 0 (SW.q (OQ.pickT rfl (by with_reducible rfl) wl) rfl) ?_) | (refine AF.q 0 (SW.q (OQ.pickF rfl (by with_reducible rfl) wl) rfl) ?_)) | refine AF.q 2 (SW.q (by first | exact OQ.sliceTo (ty := 23) (k := k) (z := 3) (g := true) rfl kr rfl (.inl rfl) rfl rfl (by omega) | exact OQ.sliceA (ty := 62) (n := 3) (z := 1) (g := false) (l := 0) (h := 3) rfl kr rfl rfl rfl rfl (by decide) (by decide) (by decide)) rfl) ?_); (conv => (arg 9; try tactic => exact nrmF)); (conv => (arg 11; try simp only [List.nil_append, List.cons_append]))) | (refine AF.bs rfl (fun hc => ?_) (fun hc => ?_) <;> (fail_if_success (with_reducible exact lit_no hc)) <;> (try replace hc := nc hc) <;> first | (exfalso; first | contradiction | (first | omega | (simp at hc; done)); done) | skip) | (refine AF.gs1 rfl rfl (fun hc => ?_) (fun hc => ?_) <;> (fail_if_success (with_reducible exact lit_no hc)) <;> (try replace hc := nc hc) <;> first | (exfalso; first | contradiction | (first | omega | (simp at hc; done)); done) | skip) | (refine AF.gs0 rfl rfl (fun hc => ?_) (fun hc => ?_) <;> (fail_if_success (with_reducible exact lit_no hc)) <;> (try replace hc := nc hc) <;> first | (exfalso; first | contradiction | (first | omega | (simp at hc; done)); done) | skip) | (refine AF.nil ?_ kr; (conv => (arg 4; simp only [List.drop_succ_cons, List.drop_zero, List.drop_nil])))) | with_reducible refine AR.s ?_ | ((with_reducible refine AR.out ?_); first | omega | (simp at hc; done); done) | ((with_reducible refine ex_on ?_); first | ((refine ⟨ts.length - (k + 1), [jk, .pointer (some ⟨2, 0, none⟩), jk, jk, jk, jk, .int .i64 (arT l ts (k + 1)), .int .i64 (k + 1), jk, jk, jk, jk, jk, jk, jk, jk, jk, jk, jk, jk, jk, jk, jk, jk, jk, jk, jk, jk, jk, jk, jk, jk, jk, jk, jk, jk, jk, jk, jk, jk, jk, jk, jk, jk, jk, jk, jk, jk, jk, jk, jk, jk, jk, jk, jk, jk, jk, jk, jk, jk, jk, jk, jk, jk, jk, jk, jk, jk, jk, jk, jk, jk, jk, jk, jk, jk, jk, jk, jk, jk, jk, jk, jk, jk, jk, jk, jk, jk, jk, jk, jk, jk, jk, jk, jk, jk, jk, jk, jk, jk, jk, jk, jk, jk, jk, jk, jk, jk, jk, jk, jk, jk, jk, jk, jk, jk, jk, jk, jk, jk, jk, jk, jk, jk, jk, jk, jk, jk, jk, jk, jk, jk, jk, jk, jk, jk, jk, jk, jk, jk, jk, jk, jk, jk, jk, jk, jk, jk, jk, jk, jk, jk, jk, jk, jk, jk, jk, jk, jk, jk, jk, jk, jk, jk, jk, jk, jk, jk, jk, jk, jk, jk, jk, jk, jk, jk, jk, jk, jk, jk, jk, jk, jk, jk, jk, jk, jk, jk, jk, jk, jk, jk, jk, jk, jk, jk, jk, jk, jk, jk, jk, jk, jk, jk, jk, jk], [some ⟨flatP l, false, 0⟩, some ⟨flatT ts, false, 0⟩, some ⟨[.slice (some ⟨0, 0, none⟩) l.length c, .slice (some ⟨1, 0, none⟩) ts.length c2], true, 0⟩], by omega, ?_, k + 1, rfl, by omega, fun j h => (by rcases Nat.lt_or_eq_of_le (Nat.le_of_lt_succ h) with h | rfl; (exact hj j h); exact F0 j q1 q2 q3 (by omega) (by omega) (by first | exact fun _ => ‹_› | (intro _; omega)) (by omega) (by omega) (by omega) (by omega)), rfl, rfl⟩; rw [has k]; exact Wk.keep 3 [] (by rw [hE]; exact Nat.le_of_ble_eq_true rfl) rfl rfl (by repeat (first | exact RenT.nil | refine RenT.jk ?_ | refine RenT.val (by first | rfl | with_reducible assumption | (simp only [rn3, rn2, rn1, kσ]; done)) (by first | rfl | assumption | (simp [ok3, ok2, ok1]; done)) ?_)) ⟨⟨_, rfl, rfl, rfl, .inl ⟨rfl, flatP_scal l⟩⟩, ⟨_, rfl, rfl, rfl, .inl ⟨rfl, flatT_scal ts⟩⟩, ⟨_, rfl, rfl, rfl, .inr ⟨rfl, rfl⟩⟩, trivial⟩)) | ((refine ⟨ts.length - (k4 + 1), [jk, .pointer (some ⟨2, 0, none⟩), jk, jk, jk, jk, .int .i64 (arT l ts ts.length), jk, jk, jk, jk, jk, .int .i64 (k4 + 1), jk, jk, jk, jk, jk, jk, jk, jk, jk, jk, jk, jk, jk, jk, jk, jk, jk, jk, jk, jk, jk, jk, jk, jk, jk, jk, jk, jk, jk, jk, jk, jk, jk, jk, jk, jk, jk, jk, jk, jk, jk, jk, jk, jk, jk, jk, jk, jk, jk, jk, jk, jk, jk, jk, jk, jk, jk, jk, jk, jk, jk, jk, jk, jk, jk, jk, jk, jk, jk, jk, jk, jk, jk, jk, jk, jk, jk, jk, jk, jk, jk, jk, jk, jk, jk, jk, jk, jk, jk, jk, jk, jk, jk, jk, jk, jk, jk, jk, jk, jk, jk, jk, jk, jk, jk, jk, jk, jk, jk, jk, jk, jk, jk, jk, jk, jk, jk, jk, jk, jk, jk, jk, jk, jk, jk, jk, jk, jk, jk, jk, jk, jk, jk, jk, jk, jk, jk, jk, jk, jk, jk, jk, jk, jk, jk, jk, jk, jk, jk, jk, jk, jk, jk, jk, jk, jk, jk, jk, jk, jk, jk, jk, jk, jk, jk, jk, jk, jk, jk, jk, jk, jk, jk, jk, jk, jk, jk, jk, jk, jk, jk, jk, jk, jk, jk, jk, jk, jk, jk, jk, jk, jk, jk], [some ⟨flatP l, false, 0⟩, some ⟨flatT ts, false, 0⟩, some ⟨[.slice (some ⟨0, 0, none⟩) l.length c, .slice (some ⟨1, 0, none⟩) ts.length c2], true, 0⟩], by omega, ?_, k4 + 1, rfl, by omega, hall, fun j h => (by rcases Nat.lt_or_eq_of_le (Nat.le_of_lt_succ h) with h | rfl; (exact hb4 j h); exact ⟨by first | exact fun _ => ‹_› | (intro _; omega), by first | exact fun _ => ‹_› | (intro _; omega), by first | exact fun _ => ‹_› | (intro _; omega)⟩), rfl, rfl⟩; exact Wk.keep 3 [] (by rw [hE]; exact Nat.le_of_ble_eq_true rfl) rfl rfl (by repeat (first | exact RenT.nil | refine RenT.jk ?_ | refine RenT.val (by first | rfl | with_reducible assumption | (simp only [rn3, rn2, rn1, kσ]; done)) (by first | rfl | assumption | (simp [ok3, ok2, ok1]; done)) ?_)) ⟨⟨_, rfl, rfl, rfl, .inl ⟨rfl, flatP_scal l⟩⟩, ⟨_, rfl, rfl, rfl, .inl ⟨rfl, flatT_scal ts⟩⟩, ⟨_, rfl, rfl, rfl, .inr ⟨rfl, rfl⟩⟩, trivial⟩)) | ((obtain rfl : k7 = ts.length := (by omega); refine ⟨l.length - (k6 + 1), _, _, by omega, ?_, k6 + 1, rfl, by omega, hopB, fun j h => (by rcases Nat.lt_or_eq_of_le (Nat.le_of_lt_succ h) with h | rfl; (exact hu6 j h); assumption), rfl, rfl⟩; exact Wk.fk [1, 17] rfl)) | (first | (rw [← hu2 (k6 : Int) k7 (by assumption)]; refine ⟨ts.length - (k7 + 1), [jk, .pointer (some ⟨2, 0, none⟩), jk, jk, jk, jk, jk, jk, jk, jk, jk, jk, jk, jk, jk, jk, jk, .int .i64 (k6), .bool (usK ts k6 (k7 + 1)), .int .i64 (k7 + 1), jk, jk, jk, jk, jk, jk, jk, jk, jk, jk, jk, jk, jk, jk, jk, jk, jk, jk, jk, jk, jk, jk, jk, jk, jk, jk, jk, jk, jk, jk, jk, jk, jk, jk, jk, jk, jk, jk, jk, jk, jk, jk, jk, jk, jk, jk, jk, jk, jk, jk, jk, jk, jk, jk, jk, jk, jk, jk, jk, jk, jk, jk, jk, jk, jk, jk, jk, jk, jk, jk, jk, jk, jk, jk, jk, jk, jk, jk, jk, jk, jk, jk, jk, jk, jk, jk, jk, jk, jk, jk, jk, jk, jk, jk, jk, jk, jk, jk, jk, jk, jk, jk, jk, jk, jk, jk, jk, jk, jk, jk, jk, jk, jk, jk, jk, jk, jk, jk, jk, jk, jk, jk, jk, jk, jk, jk, jk, jk, jk, jk, jk, jk, jk, jk, jk, jk, jk, jk, jk, jk, jk, jk, jk, jk, jk, jk, jk, jk, jk, jk, jk, jk, jk, jk, jk, jk, jk, jk, jk, jk, jk, jk, jk, jk, jk, jk, jk, jk, jk, jk, jk, jk, jk, jk, jk, jk, jk, jk, jk, jk, jk, jk, jk, jk, jk, jk], _, by omega, ?_, k7 + 1, rfl, by omega, rfl, rfl⟩; exact Wk.fk [1, 17, 18, 19] rfl) | (refine ⟨ts.length - (k7 + 1), [jk, .pointer (some ⟨2, 0, none⟩), jk, jk, jk, jk, jk, jk, jk, jk, jk, jk, jk, jk, jk, jk, jk, .int .i64 (k6), .bool true, .int .i64 (k7 + 1), jk, jk, jk, jk, jk, jk, jk, jk, jk, jk, jk, jk, jk, jk, jk, jk, jk, jk, jk, jk, jk, jk, jk, jk, jk, jk, jk, jk, jk, jk, jk, jk, jk, jk, jk, jk, jk, jk, jk, jk, jk, jk, jk, jk, jk, jk, jk, jk, jk, jk, jk, jk, jk, jk, jk, jk, jk, jk, jk, jk, jk, jk, jk, jk, jk, jk, jk, jk, jk, jk, jk, jk, jk, jk, jk, jk, jk, jk, jk, jk, jk, jk, jk, jk, jk, jk, jk, jk, jk, jk, jk, jk, jk, jk, jk, jk, jk, jk, jk, jk, jk, jk, jk, jk, jk, jk, jk, jk, jk, jk, jk, jk, jk, jk, jk, jk, jk, jk, jk, jk, jk, jk, jk, jk, jk, jk, jk, jk, jk, jk, jk, jk, jk, jk, jk, jk, jk, jk, jk, jk, jk, jk, jk, jk, jk, jk, jk, jk, jk, jk, jk, jk, jk, jk, jk, jk, jk, jk, jk, jk, jk, jk, jk, jk, jk, jk, jk, jk, jk, jk, jk, jk, jk, jk, jk, jk, jk, jk, jk, jk, jk, jk, jk, jk, jk, jk], _, by omega, ?_, k7 + 1, rfl, by omega, by first | (rw [hu1 (k6 : Int) k7 (by assumption)]; done) | (rw [hu1 (k6 : Int) k7 (by assumption)]; rfl), rfl⟩; exact Wk.fk [1, 17, 18, 19] rfl))) | ((with_reducible refine FinJ.on ?_); first | (have q := F6 k (by omega) hj (by first | exact .inl ‹_› | exact .inr (.inl ‹_›) | exact .inr (.inr ‹_›)); rw [q.1, q.2]; first | exact FinJ.ret (.tmp wl (.tmp wl .nil)) (jle_flat rfl) | exact FinJ.end (.tmp wl (.tmp wl .nil)) (jle_flat rfl)) | (have q := F9 k (by omega) hj q1 q2 q3 (by omega); rw [q.1, q.2]; first | exact FinJ.ret (.tmp wl (.tmp wl .nil)) (jle_flat rfl) | exact FinJ.end (.tmp wl (.tmp wl .nil)) (jle_flat rfl)) | (have q := F9b k (by omega) hj q1 q2 q3 (by omega) ‹_›; rw [q.1, q.2]; first | exact FinJ.ret (.tmp wl (.tmp wl .nil)) (jle_flat rfl) | exact FinJ.end (.tmp wl (.tmp wl .nil)) (jle_flat rfl)) | (have q := F13 k (by omega) hj q1 q2 q3 (by omega) (by omega) (by first | exact fun _ => ‹_› | (intro _; omega)) (by omega); rw [q.1, q.2]; first | exact FinJ.ret (.tmp wl (.tmp wl .nil)) (jle_flat rfl) | exact FinJ.end (.tmp wl (.tmp wl .nil)) (jle_flat rfl)) | (have q := F28 k (by omega) hj q1 q2 q3 (by omega) (by omega) (by first | exact fun _ => ‹_› | (intro _; omega)) (by omega) (by omega); rw [q.1, q.2]; first | exact FinJ.ret (.tmp wl (.tmp wl .nil)) (jle_flat rfl) | exact FinJ.end (.tmp wl (.tmp wl .nil)) (jle_flat rfl)) | (have q := F25 k4 hall (by omega) (by first | exact .inl ⟨by omega, ‹_›⟩ | exact .inr (.inl ⟨by omega, ‹_›⟩) | exact .inr (.inr ⟨by omega, ‹_›⟩)); rw [q.1, q.2]; first | exact FinJ.ret (.tmp wl (.tmp wl .nil)) (jle_flat rfl) | exact FinJ.end (.tmp wl (.tmp wl .nil)) (jle_flat rfl)) | (obtain rfl : k7 = ts.length := (by omega); have q := Fus hall hopB k6 (by omega) ‹_›; rw [q.1, q.2]; first | exact FinJ.ret (.tmp wl (.tmp wl .nil)) (jle_flat rfl) | exact FinJ.end (.tmp wl (.tmp wl .nil)) (jle_flat rfl)) | (obtain rfl : k6 = l.length := (by omega); have q := Fok hall hopB (by omega) hu6; rw [q.1, q.2]; first | exact FinJ.ret (.tmp wl (.tmp wl .nil)) (jle_flat rfl) | exact FinJ.end (.tmp wl (.tmp wl .nil)) (jle_flat rfl)) | (obtain rfl : k4 = ts.length := (by omega); have q := F14 hall (hop hb4) (by omega); rw [q.1, q.2]; first | exact FinJ.ret (.tmp wl (.tmp wl .nil)) (jle_flat rfl) | exact FinJ.end (.tmp wl (.tmp wl .nil)) (jle_flat rfl))))
end Go.Proofs.YtmohcmghbfhdlaaGreat
end
end
/- Arguments of which lists are in memory, in the small memory. -/
section
set_option linter.unusedSimpArgs false
set_option linter.unusedVariables false
namespace Go.Ls
open Go.ChangeShapes Go.WideShapes Go.ChangeAt Go Go.RowKit Go.Ab
def plL (L : List (Option Addr × List Value)) (b : Nat) : Option Pl := match L[b]? with
  | some x => plX x.1 x.2
  | none => none
theorem glueL {P : Program} {f : FuncId} {args : List Value} {vals : Array Value} {w : World} (L : List (Option Addr × List Value)) (hs : ∀ x ∈ L, x.2.all scal = true ∧ SlX w x.1 x.2) (hv : VRel (plL L) (.tuple args.toArray) (.tuple vals))
    (h : PCalls P f args (L.map fun x => blX x.2) (.bool true)) : Calls P f vals w fun e w' => e = .returned (.bool true) ∧ Below w.heap.size w w' := by
  refine (h (plL L) _ w (fun b pl hb => ?_) hv (fun b blk hb => ?_)).mono fun e w' ⟨v', he, hr, hb⟩ => ⟨by rw [he, hr.bool], hb.below⟩
  · unfold plL at hb
    cases hx : L[b]? with
    | none => rw [hx] at hb; cases hb
    | some x =>
      have := (List.getElem?_eq_some_iff.1 hx).1
      simpa using this
  · have hlt := Mem.at_lt hb
    have hlt' : b < L.length := by simpa using hlt
    have hx : L[b]? = some L[b] := List.getElem?_eq_getElem hlt'
    obtain ⟨h1, h2⟩ := hs _ (List.getElem_mem hlt')
    have hb' : blX L[b].2 = some blk := by simpa [Mem.at, hx] using hb
    obtain ⟨pl, k1, k2⟩ := blX_rel (ρ := plL L) (i := b) h1 h2 (by unfold plL; rw [hx]) hb'
    exact ⟨pl, k1, k2, fun ho => by rw [blX_ro _ _ hb'] at ho; cases ho⟩
section
variable {H : Type} {enc : TypeId × Value → H} {P : Program}
theorem post_below {f : Func} {s : ChangeSpec} {apart fresh handsOn again : Bool} {W W' : World} {args : Array Value} {v : Value} {ds gs : List (DataW H)} {before pa pv : List MemPlace}
    (hW : DataW.Whole enc P f.params.toList s.vars apart W args.toList ds gs before)
    (hres : ∀ (b : Nat) (sp : Nat → Bool) (hd : Bool), DataW.TrodAll enc P W' b sp hd f.resultTypes.toList (v.resultList f.resultTypes.size) (s.fn H (ds ++ gs)).results [])
    (hargs : ∀ sp : Nat → Bool, (∀ p ∈ before, sp p.block = true) → DataW.TrodAll enc P W' 0 sp true f.params.toList args.toList (s.fn H (ds ++ gs)).args pa)
    (hvars : ∀ sp : Nat → Bool, (∀ p ∈ before, sp p.block = true) → DataW.TrodVars enc P W' sp s.vars (s.fn H (ds ++ gs)).vars pv)
    (hps : before = pa ++ pv) (hb : Below W.heap.size W W')
    (hok : ∀ (j : Nat) (t : TypeId) (r : Value), f.resultTypes[j]? = some t → (v.resultList f.resultTypes.size)[j]? = some r → Value.okWide P W' .any 0 t r) :
    s.post enc P f apart fresh handsOn again W args v W' := by
  have hlt : ∀ p ∈ before, p.block < W.heap.size := fun p hp => hW.lt p hp
  have hold : ∀ p ∈ before, (fun b => decide (b < W.heap.size)) p.block = true := fun p hp => by simpa using hlt p hp
  refine ⟨ds, gs, before, [], pa, pv, hW, hres _ _ _, hargs _ hold, hvars _ hold, World.keptBut_mono (fun p hp => ⟨hp, ?_⟩) (hb.frame (· ∈ before)), fun _ => ?_⟩
  · rw [hps, List.mem_append] at hp
    exact Or.inr hp
  · obtain ⟨_, _, _, _, _, hz, hn⟩ := hW
    refine ⟨hok, _, _, ([] ++ pa) ++ pv, ⟨[] ++ pa, pv, trodAll_append (hargs _ (fun _ _ => rfl)) (hres _ _ _), hvars _ (fun _ _ => rfl), rfl, ?_, ?_⟩, ?_⟩
    · intro b off hp
      have hin : MemPlace.cell b off ∈ before := by rw [hps]; simpa using hp
      rw [hb.frozen (hlt _ hin)]
      exact hz b off hin
    · intro ha
      have := hn ha
      rw [hps] at this
      simpa using this
    · intro p hp _
      rw [hps]
      simpa using hp
end
end Go.Ls
end
/- How the arguments of the statements of chapter 6 read. -/
section
set_option linter.unusedSimpArgs false
set_option linter.unusedVariables false
section
namespace Go.Proofs.YtmohcmghbfhdlaaGreat
open Go.ChangeShapes Go.WideShapes Go.ChangeAt Go Go.RowKit Go.Ab Go.Ls Go.Me
set_option maxRecDepth 100000
theorem laid : laidOutB Tryz.prog = true := by kernel_rfl
theorem own : ownKnob Tryz.prog.godebug = none := by kernel_rfl
def mkP (f : Nat → Int) : Pn := ⟨f 0, f 1⟩
theorem cells_mp : Tryz.prog.cellsOf 65 = 2 := by kernel_rfl
theorem ints_mp : intsT Tryz.prog 4 65 = true := by kernel_rfl
theorem flatP_nil (l : List Pn) : flatP l = [] ↔ l.length = 0 := by
  rw [← List.length_eq_zero_iff, flatP_len]
  omega
end Go.Proofs.YtmohcmghbfhdlaaGreat
end
end
/- Chapter 6: few points, and points in memory of their own (the law's). -/
section
set_option linter.unusedSimpArgs false
set_option linter.unusedVariables false
section
namespace Go.Me
def fwB (n : Nat) : Bool := decide ((n : Int) ≤ 9 ∨ ((n : Int) > 40 ∧ (n : Int) ≤ 42))
end Go.Me
namespace Go.Proofs.YtmohcmghbfhdlaaGreat
open Go Go.RowKit Go.Ab Go.Me
set_option maxRecDepth 100000
set_option maxHeartbeats 4000000
attribute [local irreducible] OQ OW AL AW AF SW
theorem few_0 (l : List Pn) (c z : Nat) (hl : (l.length : Int) ≤ 9223372036854775807) : PCalls Tryz.prog 56 [.slice (some ⟨0, 0, none⟩) l.length c] [some ⟨flatP l, false, z⟩] (.bool (fwB l.length)) := by
  have h1 : (l.length : Int) ≤ 9 → fwB l.length = true := fun h => decide_eq_true (.inl h)
  have h2 : 9 < (l.length : Int) → 40 < (l.length : Int) → fwB l.length = decide ((l.length : Int) ≤ 42) := fun h h2 => by
    unfold fwB
    by_cases h3 : (l.length : Int) ≤ 42
    · rw [decide_eq_true h3]; exact decide_eq_true (.inr ⟨h2, h3⟩)
    · rw [decide_eq_false h3]; exact decide_eq_false (by omega)
  have h3 : 9 < (l.length : Int) → (l.length : Int) ≤ 40 → fwB l.length = false := fun h h2 => decide_eq_false (by omega)
  generalize fwB l.length = B0 at *
  refine PCalls.en 15 Tryz.func56 rfl (ro1p _ rfl) rfl (fun E => ?_)
  repeat' (first | with_reducible (refine Then.n ?_) | ((with_reducible refine AL.on ?_); first | (refine AL.gd rfl ?_; first | (refine AL.gskip rfl rfl ?_; (refine AL.nm ?_)) | (refine AL.gs1 rfl rfl (fun hc => ?_) (fun hc => ?_) <;> (try replace hc := nc hc) <;> first | (exfalso; contradiction) | (refine AL.nm ?_)) | (refine AL.gs0 rfl rfl (fun hc => ?_) (fun hc => ?_) <;> (try replace hc := nc hc) <;> first | (exfalso; contradiction) | (refine AL.nm ?_))) | ((first | ((with_reducible refine AL.k_move ?_); (refine AL.q rfl (OQ.move wl) ?_)) | ((with_reducible refine AL.k_call ?_); refine AL.q rfl (OQ.lenS (xt := 22) (r := (none, 2, true)) rfl kr) ?_) | ((with_reducible refine AL.k_binOp ?_); first | refine AL.q rfl (OQ.leq rfl rfl) ?_ | refine AL.q rfl (OQ.gtr rfl rfl) ?_) | ((with_reducible refine AL.k_assign ?_); (refine AL.q rfl (OQ.assign wl) ?_)) | ((with_reducible refine AL.k_pick ?_); first | (refine AL.q rfl (OQ.pickT rfl (by with_reducible rfl) wl) ?_) | (refine AL.q rfl (OQ.pickF rfl (by with_reducible rfl) wl) ?_))); (refine AL.nm ?_)) | refine AL.nil ?_) | ((with_reducible refine AW.on ?_); first | refine AW.seq ?_ | refine AW.ret ?_ | refine AW.region ?_) | ((with_reducible refine FinP.on ?_); (refine FinP.ret (.tmp wl .nil) ?_ rfl); (try simp only [pack, List.drop, List.take]); all_goals (first | (rw [h1 (by omega)]; done) | (rw [h2 (by omega) (by omega)]; done) | (rw [h3 (by omega) (by omega)]; done))))
end Go.Proofs.YtmohcmghbfhdlaaGreat
end
end
/- Chapter 6: few, Light and the copy of a net, for lists of any form. -/
section
set_option linter.unusedSimpArgs false
set_option linter.unusedVariables false
section
namespace Go.Me
open Go.Ab
def fwT (n : Nat) : Bool := decide ((n : Int) ≤ 14 ∨ ((n : Int) > 80 ∧ (n : Int) ≤ 82))
def liB (l : List Pn) (ts : List T3) : Bool := fwB l.length && fwT ts.length
def cpC (n : Nat) : Nat := if n = 0 then 0 else INF
theorem ldP {m : Mem} {b n : Nat} {blk : Blk} {l : List Pn} (hb : m.at b = some blk) (hc : blk.cells = flatP l) (hn : l.length = n) : m.ld b 0 (n * 2) = some (flatP l) := by
  subst hn
  unfold Mem.ld
  rw [hb]
  show (if 0 + l.length * 2 ≤ blk.cells.length then some ((blk.cells.drop 0).take (l.length * 2)) else none) = _
  rw [hc, flatP_len, if_pos (by omega), List.drop_zero, ← flatP_len, List.take_length]
theorem ldT {m : Mem} {b n : Nat} {blk : Blk} {l : List T3} (hb : m.at b = some blk) (hc : blk.cells = flatT l) (hn : l.length = n) : m.ld b 0 (n * 3) = some (flatT l) := by
  subst hn
  unfold Mem.ld
  rw [hb]
  show (if 0 + l.length * 3 ≤ blk.cells.length then some ((blk.cells.drop 0).take (l.length * 3)) else none) = _
  rw [hc, flatT_len, if_pos (by omega), List.drop_zero, ← flatT_len, List.take_length]
theorem flatP_one (l : List Pn) : (flatP l).all Ab.one = true := Ls.one_of_scal (flatP_scal l)
theorem flatT_one (l : List T3) : (flatT l).all Ab.one = true := Ls.one_of_scal (flatT_scal l)
end Go.Me
namespace Go.Proofs.YtmohcmghbfhdlaaGreat
open Go Go.RowKit Go.Ab Go.Me
set_option maxRecDepth 100000
set_option maxHeartbeats 4000000
attribute [local irreducible] OQ OW AL AW AF SW
theorem few_ng (m : Mem) : PCalls Tryz.prog 56 [.slice none 0 0] m (.bool true) := by
  refine PCalls.any ?_ rfl rfl m
  refine PCalls.en 15 Tryz.func56 rfl (ro_nil) rfl (fun E => ?_)
  repeat' (first | with_reducible (refine Then.n ?_) | ((with_reducible refine AL.on ?_); first | (refine AL.gd rfl ?_; first | (refine AL.gskip rfl rfl ?_; (refine AL.nm ?_)) | (refine AL.gs0 rfl rfl (fun hc => ?_) (fun hc => ?_) <;> (try replace hc := nc hc) <;> first | (exfalso; contradiction) | (refine AL.nm ?_))) | ((first | ((with_reducible refine AL.k_move ?_); (refine AL.q rfl (OQ.move wl) ?_)) | ((with_reducible refine AL.k_call ?_); refine AL.q rfl (OQ.lenS (xt := 22) (r := (none, 2, true)) rfl kr) ?_) | ((with_reducible refine AL.k_binOp ?_); refine AL.q rfl (OQ.leq rfl rfl) ?_) | ((with_reducible refine AL.k_assign ?_); (refine AL.q rfl (OQ.assign wl) ?_)) | ((with_reducible refine AL.k_pick ?_); (refine AL.q rfl (OQ.pickT rfl (by with_reducible rfl) wl) ?_))); (refine AL.nm ?_)) | refine AL.nil ?_) | ((with_reducible refine AW.on ?_); first | refine AW.seq ?_ | refine AW.ret ?_ | refine AW.region ?_) | ((with_reducible refine FinP.on ?_); (refine FinP.ret (.tmp wl .nil) ?_ rfl); (try simp only [pack, List.drop, List.take]); all_goals (rfl)))
theorem few_lg (m : Mem) : PCalls Tryz.prog 56 [lostV] m (.bool true) := by
  refine PCalls.viaS (m0 := []) (args0 := [lostV]) (v0 := .bool true) [] ?_ (fun b blk h => by simp [Mem.at] at h) trivial rfl rfl rfl rfl
  refine PCalls.en 15 Tryz.func56 rfl (ro_nil) rfl (fun E => ?_)
  repeat' (first | with_reducible (refine Then.n ?_) | ((with_reducible refine AL.on ?_); first | (refine AL.gd rfl ?_; first | (refine AL.gskip rfl rfl ?_; (refine AL.nm ?_)) | (refine AL.gs0 rfl rfl (fun hc => ?_) (fun hc => ?_) <;> (try replace hc := nc hc) <;> first | (exfalso; contradiction) | (refine AL.nm ?_))) | ((first | ((with_reducible refine AL.k_move ?_); (refine AL.q rfl (OQ.move wl) ?_)) | ((with_reducible refine AL.k_call ?_); refine AL.q rfl (OQ.lenS (xt := 22) (r := (none, 2, true)) rfl kr) ?_) | ((with_reducible refine AL.k_binOp ?_); refine AL.q rfl (OQ.leq rfl rfl) ?_) | ((with_reducible refine AL.k_assign ?_); (refine AL.q rfl (OQ.assign wl) ?_)) | ((with_reducible refine AL.k_pick ?_); (refine AL.q rfl (OQ.pickT rfl (by with_reducible rfl) wl) ?_))); (refine AL.nm ?_)) | refine AL.nil ?_) | ((with_reducible refine AW.on ?_); first | refine AW.seq ?_ | refine AW.ret ?_ | refine AW.region ?_) | ((with_reducible refine FinP.on ?_); (refine FinP.ret (.tmp wl .nil) ?_ rfl); (try simp only [pack, List.drop, List.take]); all_goals (rfl)))
theorem VRel.to_lost5 {ρ : Ren} {i o c : Nat} {v : Value} (h : VRel ρ (.slice (some ⟨i, o, some default⟩) 0 c) v) : VRel ρ lostV v := by
  cases h with
  | scal h => simp [Ab.scal] at h
  | empty => exact .lost
  | lost => exact .lost
theorem few_l5 (m : Mem) : PCalls Tryz.prog 56 [.slice (some ⟨5, 0, some default⟩) 0 0] m (.bool true) := by
  intro ρ args' w hdom hargs hm
  refine few_lg m ρ args' w hdom ?_ hm
  obtain ⟨xs, e, hl, hg⟩ := hargs.tuple_inv
  cases e
  refine .tuple (by simpa using hl) fun i hi hi' => ?_
  match i with
  | 0 =>
    obtain ⟨u, e0, r0⟩ := hg 0 _ rfl
    rw [Array.getElem?_eq_getElem hi'] at e0
    cases e0
    exact VRel.to_lost5 r0
  | i + 1 => exact absurd hi (by simp)
theorem few_bg {m : Mem} {b n c : Nat} {blk : Blk} (l : List Pn) (hb : m.at b = some blk) (hc : blk.cells = flatP l) (hn : l.length = n) (hl : (l.length : Int) ≤ 9223372036854775807) (ho : blk.obj = Ob.plain := by rfl) : PCalls Tryz.prog 56 [.slice (some ⟨b, 0, none⟩) n c] m (.bool (fwB n)) := by
  subst hn
  exact PCalls.viaS [b] (few_0 l c blk.esz hl) (ro1p _ rfl) ⟨⟨_, hb, by unfold Blk.shp Blk.shpR; rw [ho]; rfl, (fun h => nomatch h), .inl ⟨hc, flatP_scal _⟩⟩, trivial⟩ rfl rfl rfl rfl

theorem Light_e (v : Value) (l : List Pn) (xb : Option Addr) (o1 o2 : Option Blk) (hr : Mem.ro [o1, o2]) (hF : ∀ m : Mem, m.at 0 = Mem.at [o1, o2] 0 → PCalls Tryz.prog 56 [v] m (.bool (fwB l.length))) : PCalls Tryz.prog 13 [.agg #[v, .slice xb 0 0]] [o1, o2] (.bool (liB l [])) := by
  have hT0 : fwT ([] : List T3).length = true := by decide
  unfold liB
  generalize fwB l.length = B1 at *
  rw [hT0, Bool.and_true]
  refine PCalls.en 23 Tryz.func13 rfl (hr) rfl (fun E => ?_)
  repeat' (first | with_reducible (refine Then.n ?_) | ((with_reducible refine AL.on ?_); first | (refine AL.gd rfl ?_; first | (refine AL.gskip rfl rfl ?_; (refine AL.nm ?_)) | (refine AL.gs1 rfl rfl (fun hc => ?_) (fun hc => ?_) <;> (try replace hc := nc hc) <;> first | (exfalso; contradiction) | (refine AL.nm ?_)) | (refine AL.gs0 rfl rfl (fun hc => ?_) (fun hc => ?_) <;> (try replace hc := nc hc) <;> first | (exfalso; contradiction) | (refine AL.nm ?_))) | ((first | ((with_reducible refine AL.k_fieldAddr ?_); first | refine AL.q rfl (OQ.fieldA (ty := 25) (i := 0) (n := 1) (off := 0) (g := false) rfl kr (by decide)) ?_ | refine AL.q rfl (OQ.fieldA (ty := 25) (i := 1) (n := 1) (off := 1) (g := false) rfl kr (by decide)) ?_) | ((with_reducible refine AL.k_load ?_); first | (refine AL.q rfl (OQ.load1 (ty := 22) rfl kr wl) ?_) | (refine AL.q rfl (OQ.load1 (ty := 23) rfl kr wl) ?_)) | ((with_reducible refine AL.k_call ?_); refine AL.q rfl (OQ.lenS (xt := 23) (r := (none, 3, true)) rfl kr) ?_) | ((with_reducible refine AL.k_move ?_); (refine AL.q rfl (OQ.move wl) ?_)) | ((with_reducible refine AL.k_binOp ?_); refine AL.q rfl (OQ.leq rfl rfl) ?_) | ((with_reducible refine AL.k_pick ?_); first | (refine AL.q rfl (OQ.pickT rfl (by with_reducible rfl) wl) ?_) | (refine AL.q rfl (OQ.pickF rfl (by with_reducible rfl) wl) ?_)) | ((with_reducible refine AL.k_assign ?_); (refine AL.q rfl (OQ.assign wl) ?_))); (refine AL.nm ?_)) | ((refine AL.pcall (g := 56) rfl kr rfl ((by exact hF _ rfl)) ?_); (refine AL.nm ?_)) | (((refine AL.w rfl (OW.box wl (by intro r h; cases h)) ?_)); (refine AL.nm ?_); (refine AL.nM ?_)) | refine AL.nil ?_) | ((with_reducible refine AW.on ?_); first | refine AW.seq ?_ | refine AW.ret ?_ | refine AW.region ?_) | ((with_reducible refine FinP.on ?_); (refine FinP.ret (.tmp wl .nil) ?_ rfl); (try simp only [pack, List.drop, List.take]); all_goals ((simp_all; done))))
theorem Light_b (v : Value) (l : List Pn) (ts : List T3) (c2 : Nat) (ht : (ts.length : Int) ≤ 9223372036854775807) (o1 o2 : Option Blk) (hr : Mem.ro [o1, o2]) (hF : ∀ m : Mem, m.at 0 = Mem.at [o1, o2] 0 → PCalls Tryz.prog 56 [v] m (.bool (fwB l.length))) : PCalls Tryz.prog 13 [.agg #[v, .slice (some ⟨1, 0, none⟩) ts.length c2]] [o1, o2] (.bool (liB l ts)) := by
  have hT0 : fwT ([] : List T3).length = true := by decide
  have t1 : (ts.length : Int) ≤ 14 → fwT ts.length = true := fun h => decide_eq_true (.inl h)
  have t2 : 14 < (ts.length : Int) → 80 < (ts.length : Int) → fwT ts.length = decide ((ts.length : Int) ≤ 82) := fun h h2 => by
    unfold fwT
    by_cases h3 : (ts.length : Int) ≤ 82
    · rw [decide_eq_true h3]; exact decide_eq_true (.inr ⟨h2, h3⟩)
    · rw [decide_eq_false h3]; exact decide_eq_false (by omega)
  have t3 : 14 < (ts.length : Int) → (ts.length : Int) ≤ 80 → fwT ts.length = false := fun h h2 => decide_eq_false (by omega)
  unfold liB
  generalize fwB l.length = B1 at *
  generalize fwT ts.length = B2 at *
  refine PCalls.en 23 Tryz.func13 rfl (hr) rfl (fun E => ?_)
  repeat' (first | with_reducible (refine Then.n ?_) | ((with_reducible refine AL.on ?_); first | (refine AL.gd rfl ?_; first | (refine AL.gskip rfl rfl ?_; (refine AL.nm ?_)) | (refine AL.gs1 rfl rfl (fun hc => ?_) (fun hc => ?_) <;> (try replace hc := nc hc) <;> first | (exfalso; contradiction) | (refine AL.nm ?_)) | (refine AL.gs0 rfl rfl (fun hc => ?_) (fun hc => ?_) <;> (try replace hc := nc hc) <;> first | (exfalso; contradiction) | (refine AL.nm ?_))) | ((first | ((with_reducible refine AL.k_fieldAddr ?_); first | refine AL.q rfl (OQ.fieldA (ty := 25) (i := 0) (n := 1) (off := 0) (g := false) rfl kr (by decide)) ?_ | refine AL.q rfl (OQ.fieldA (ty := 25) (i := 1) (n := 1) (off := 1) (g := false) rfl kr (by decide)) ?_) | ((with_reducible refine AL.k_load ?_); first | (refine AL.q rfl (OQ.load1 (ty := 22) rfl kr wl) ?_) | (refine AL.q rfl (OQ.load1 (ty := 23) rfl kr wl) ?_)) | ((with_reducible refine AL.k_call ?_); refine AL.q rfl (OQ.lenS (xt := 23) (r := (none, 3, true)) rfl kr) ?_) | ((with_reducible refine AL.k_move ?_); (refine AL.q rfl (OQ.move wl) ?_)) | ((with_reducible refine AL.k_binOp ?_); first | refine AL.q rfl (OQ.leq rfl rfl) ?_ | refine AL.q rfl (OQ.gtr rfl rfl) ?_) | ((with_reducible refine AL.k_pick ?_); first | (refine AL.q rfl (OQ.pickT rfl (by with_reducible rfl) wl) ?_) | (refine AL.q rfl (OQ.pickF rfl (by with_reducible rfl) wl) ?_)) | ((with_reducible refine AL.k_assign ?_); (refine AL.q rfl (OQ.assign wl) ?_))); (refine AL.nm ?_)) | ((refine AL.pcall (g := 56) rfl kr rfl ((by exact hF _ rfl)) ?_); (refine AL.nm ?_)) | (((refine AL.w rfl (OW.box wl (by intro r h; cases h)) ?_)); (refine AL.nm ?_); (refine AL.nM ?_)) | refine AL.nil ?_) | ((with_reducible refine AW.on ?_); first | refine AW.seq ?_ | refine AW.ret ?_ | refine AW.region ?_) | ((with_reducible refine FinP.on ?_); (refine FinP.ret (.tmp wl .nil) ?_ rfl); (try simp only [pack, List.drop, List.take]); all_goals (first | (rw [t1 (by omega)]; simp_all; done) | (rw [t2 (by omega) (by omega)]; simp_all; done) | (rw [t3 (by omega) (by omega)]; simp_all; done) | (simp_all; done))))
theorem Copy_ee (xa : Option Addr) (xb : Option Addr) : ACalls Tryz.prog 15 [.agg #[.slice xa 0 0, .slice xb 0 0]] [] (.agg #[.slice (some ⟨0, 0, none⟩) 0 0, .slice (some ⟨1, 0, none⟩) 0 0]) [some ⟨flatP [], true, 2⟩, some ⟨flatT [], true, 3⟩] := by
  refine ACalls.en 11 Tryz.func15 rfl rfl (fun E hE => ?_)
  repeat' (first | with_reducible (refine Then.n ?_) | ((with_reducible refine AL.on ?_); first | ((refine AL.q rfl (OQ.buildS (ty := 25) (zs := [.slice none 0 0, .slice none 0 0]) (pls := [(0, 1), (1, 1)]) kr rfl kr rfl rfl rfl) ?_); (refine AL.nm ?_)) | ((first | ((with_reducible refine AL.k_call ?_); refine AL.q rfl (by exact (by exact OQ.append0 (v := undef) (st := 23) (e := 62) (z := 3) rfl rfl kr kr)) ?_) | ((with_reducible refine AL.k_box ?_); (refine AL.w rfl (OW.box wl (by intro r h; cases h)) ?_)) | ((with_reducible refine AL.k_alloc ?_); refine AL.w rfl (OW.alloc (ty := 25) (z := [.slice none 0 0, .slice none 0 0]) kr rfl) ?_) | ((with_reducible refine AL.k_store ?_); (refine AL.w rfl (OW.store (ty := 25) (n := 2) rfl wl rfl rfl kr rfl rfl (by decide) rfl (Nat.le_of_ble_eq_true rfl) (by intro r h; cases h)) ?_))); (refine AL.nm ?_); (refine AL.nM ?_)) | refine AL.nil ?_) | ((with_reducible refine AW.on ?_); first | refine AW.seq ?_ | refine AW.ret ?_ | (refine AW.drawF (id := 1) 7 #[0, 0, 2, 7, 0, 0, 32, 127, 255, 511] kr kr ?_; (conv => (arg 8; simp only [List.take_succ_cons, List.take_zero]))) | refine AW.region ?_) | ((with_reducible refine AF.on ?_); first | ((first | ((with_reducible refine AF.k_fieldAddr ?_); first | refine AF.q 0 (SW.q (OQ.fieldA (ty := 25) (i := 0) (n := 1) (off := 0) (g := false) rfl kr (by decide)) rfl) ?_ | refine AF.q 0 (SW.q (OQ.fieldA (ty := 25) (i := 1) (n := 1) (off := 1) (g := false) rfl kr (by decide)) rfl) ?_) | ((with_reducible refine AF.k_load ?_); first | (refine AF.ql rfl (SW.q (OQ.load1 (ty := 22) rfl kr wl) rfl) ?_) | (refine AF.ql rfl (SW.q (OQ.load1 (ty := 23) rfl kr wl) rfl) ?_))); (conv => (arg 9; try tactic => exact nrmF)); (conv => (arg 11; try simp only [List.nil_append, List.cons_append]))) | ((first | ((with_reducible refine AF.k_buildSlice ?_); first | refine AF.n1 0 (SW.w (OW.buildSl0 (ty := 22) (z := (none, 2, true)) kr) rfl) rfl ?_ | refine AF.n1 0 (SW.w (OW.buildSl0 (ty := 23) (z := (none, 3, true)) kr) rfl) rfl ?_) | ((with_reducible refine AF.k_call ?_); refine AF.q 2 (SW.q (by exact (by exact OQ.append0 (v := undef) (st := 22) (e := 65) (z := 2) rfl rfl kr kr)) rfl) ?_)); (conv => (arg 9; try tactic => exact nrmF)); (conv => (arg 11; try simp only [List.nil_append, List.cons_append])); (conv => (arg 10; try tactic => exact nrmF))) | (refine AF.nil ?_ kr; (conv => (arg 4; simp only [List.drop_succ_cons, List.drop_zero, List.drop_nil])))) | ((with_reducible refine FinA.on ?_); (refine FinA.keep 0 [2, 3] (.inl rfl) (.cellN (n := 2) wl kr kr rfl .nil) ?_ rfl (Nat.le_of_eq hE) rfl rfl ⟨⟨_, rfl, rfl, rfl, .inl ⟨rfl, flatP_scal _⟩⟩, ⟨_, rfl, rfl, rfl, .inl ⟨rfl, flatT_scal _⟩⟩, trivial⟩; rfl)))
theorem Copy_eb (xa : Option Addr) (ts : List T3) (c2 z1 : Nat) (ht : ts.length ≤ 1000000) (h1 : 0 < ts.length) : ACalls Tryz.prog 15 [.agg #[.slice xa 0 0, .slice (some ⟨0, 0, none⟩) ts.length c2]] [some ⟨flatT ts, false, z1⟩] (.agg #[.slice (some ⟨1, 0, none⟩) 0 0, .slice (some ⟨2, 0, none⟩) ts.length INF]) [some ⟨flatT ts, false, z1⟩, some ⟨flatP [], true, 2⟩, some ⟨flatT ts, true, 3⟩] := by
  have hlen2 : 0 + ts.length = ts.length := Nat.zero_add _
  refine ACalls.en 11 Tryz.func15 rfl rfl (fun E hE => ?_)
  repeat' (first | with_reducible (refine Then.n ?_) | ((with_reducible refine AL.on ?_); first | ((refine AL.q rfl (OQ.buildS (ty := 25) (zs := [.slice none 0 0, .slice none 0 0]) (pls := [(0, 1), (1, 1)]) kr rfl kr rfl rfl rfl) ?_); (refine AL.nm ?_)) | ((first | ((with_reducible refine AL.k_call ?_); refine AL.w rfl (OW.append (n := 0) (c := 0) (b := 4) (blk := ⟨[], true, 3⟩) (z := 3) (by' := 24) (zs := [.int .i64 0, .int .i64 0, .int .i64 0]) (e := 62) rfl rfl kr kr kr rfl kr (by omega) rfl rfl rfl (by decide) (Nat.le_refl _) (ldT rfl rfl rfl) (flatT_one _) (by omega) (by omega)) ?_) | ((with_reducible refine AL.k_box ?_); (refine AL.w rfl (OW.box wl (by intro r h; cases h)) ?_)) | ((with_reducible refine AL.k_alloc ?_); refine AL.w rfl (OW.alloc (ty := 25) (z := [.slice none 0 0, .slice none 0 0]) kr rfl) ?_) | ((with_reducible refine AL.k_store ?_); (refine AL.w rfl (OW.store (ty := 25) (n := 2) rfl wl rfl rfl kr rfl rfl (by decide) rfl (Nat.le_of_ble_eq_true rfl) (by intro r h; cases h)) ?_))); (refine AL.nm ?_); (refine AL.nM ?_)) | refine AL.nil ?_) | ((with_reducible refine AW.on ?_); first | refine AW.seq ?_ | refine AW.ret ?_ | (refine AW.drawF (id := 1) 7 #[0, 0, 2, 7, 0, 0, 32, 127, 255, 511] kr kr ?_; (conv => (arg 8; simp only [List.take_succ_cons, List.take_zero]))) | refine AW.region ?_) | ((with_reducible refine AF.on ?_); first | ((first | ((with_reducible refine AF.k_fieldAddr ?_); first | refine AF.q 0 (SW.q (OQ.fieldA (ty := 25) (i := 0) (n := 1) (off := 0) (g := false) rfl kr (by decide)) rfl) ?_ | refine AF.q 0 (SW.q (OQ.fieldA (ty := 25) (i := 1) (n := 1) (off := 1) (g := false) rfl kr (by decide)) rfl) ?_) | ((with_reducible refine AF.k_load ?_); first | (refine AF.ql rfl (SW.q (OQ.load1 (ty := 22) rfl kr wl) rfl) ?_) | (refine AF.ql rfl (SW.q (OQ.load1 (ty := 23) rfl kr wl) rfl) ?_))); (conv => (arg 9; try tactic => exact nrmF)); (conv => (arg 11; try simp only [List.nil_append, List.cons_append]))) | ((first | ((with_reducible refine AF.k_buildSlice ?_); first | refine AF.n1 0 (SW.w (OW.buildSl0 (ty := 22) (z := (none, 2, true)) kr) rfl) rfl ?_ | refine AF.n1 0 (SW.w (OW.buildSl0 (ty := 23) (z := (none, 3, true)) kr) rfl) rfl ?_) | ((with_reducible refine AF.k_call ?_); refine AF.q 2 (SW.q (by exact OQ.append0 (v := undef) (st := 22) (e := 65) (z := 2) rfl rfl kr kr) rfl) ?_)); (conv => (arg 9; try tactic => exact nrmF)); (conv => (arg 11; try simp only [List.nil_append, List.cons_append])); (conv => (arg 10; try tactic => exact nrmF))) | (refine AF.nil ?_ kr; (conv => (arg 4; simp only [List.drop_succ_cons, List.drop_zero, List.drop_nil])))) | ((with_reducible refine FinA.on ?_); (rw [← hlen2]; refine FinA.keep 1 [3, 5] (.inl rfl) (.cellN (n := 2) wl kr kr rfl .nil) ?_ rfl (Nat.le_of_eq hE) rfl rfl ⟨⟨_, rfl, rfl, rfl, .inl ⟨rfl, flatT_scal _⟩⟩, ⟨_, rfl, rfl, rfl, .inl ⟨rfl, flatP_scal _⟩⟩, ⟨_, rfl, rfl, rfl, .inl ⟨rfl, flatT_scal _⟩⟩, trivial⟩; rfl)))
theorem Copy_be (l : List Pn) (c z : Nat) (hl : l.length ≤ 1000000) (h0 : 0 < l.length) (xb : Option Addr) : ACalls Tryz.prog 15 [.agg #[.slice (some ⟨0, 0, none⟩) l.length c, .slice xb 0 0]] [some ⟨flatP l, false, z⟩] (.agg #[.slice (some ⟨1, 0, none⟩) l.length INF, .slice (some ⟨2, 0, none⟩) 0 0]) [some ⟨flatP l, false, z⟩, some ⟨flatP l, true, 2⟩, some ⟨flatT [], true, 3⟩] := by
  have hlen : 0 + l.length = l.length := Nat.zero_add _
  refine ACalls.en 11 Tryz.func15 rfl rfl (fun E hE => ?_)
  repeat' (first | with_reducible (refine Then.n ?_) | ((with_reducible refine AL.on ?_); first | ((refine AL.q rfl (OQ.buildS (ty := 25) (zs := [.slice none 0 0, .slice none 0 0]) (pls := [(0, 1), (1, 1)]) kr rfl kr rfl rfl rfl) ?_); (refine AL.nm ?_)) | ((first | ((with_reducible refine AL.k_call ?_); refine AL.q rfl (by exact OQ.append0 (v := undef) (st := 23) (e := 62) (z := 3) rfl rfl kr kr) ?_) | ((with_reducible refine AL.k_box ?_); (refine AL.w rfl (OW.box wl (by intro r h; cases h)) ?_)) | ((with_reducible refine AL.k_alloc ?_); refine AL.w rfl (OW.alloc (ty := 25) (z := [.slice none 0 0, .slice none 0 0]) kr rfl) ?_) | ((with_reducible refine AL.k_store ?_); (refine AL.w rfl (OW.store (ty := 25) (n := 2) rfl wl rfl rfl kr rfl rfl (by decide) rfl (Nat.le_of_ble_eq_true rfl) (by intro r h; cases h)) ?_))); (refine AL.nm ?_); (refine AL.nM ?_)) | refine AL.nil ?_) | ((with_reducible refine AW.on ?_); first | refine AW.seq ?_ | refine AW.ret ?_ | (refine AW.drawF (id := 1) 7 #[0, 0, 2, 7, 0, 0, 32, 127, 255, 511] kr kr ?_; (conv => (arg 8; simp only [List.take_succ_cons, List.take_zero]))) | refine AW.region ?_) | ((with_reducible refine AF.on ?_); first | ((first | ((with_reducible refine AF.k_fieldAddr ?_); first | refine AF.q 0 (SW.q (OQ.fieldA (ty := 25) (i := 0) (n := 1) (off := 0) (g := false) rfl kr (by decide)) rfl) ?_ | refine AF.q 0 (SW.q (OQ.fieldA (ty := 25) (i := 1) (n := 1) (off := 1) (g := false) rfl kr (by decide)) rfl) ?_) | ((with_reducible refine AF.k_load ?_); first | (refine AF.ql rfl (SW.q (OQ.load1 (ty := 22) rfl kr wl) rfl) ?_) | (refine AF.ql rfl (SW.q (OQ.load1 (ty := 23) rfl kr wl) rfl) ?_))); (conv => (arg 9; try tactic => exact nrmF)); (conv => (arg 11; try simp only [List.nil_append, List.cons_append]))) | ((first | ((with_reducible refine AF.k_buildSlice ?_); first | refine AF.n1 0 (SW.w (OW.buildSl0 (ty := 22) (z := (none, 2, true)) kr) rfl) rfl ?_ | refine AF.n1 0 (SW.w (OW.buildSl0 (ty := 23) (z := (none, 3, true)) kr) rfl) rfl ?_) | ((with_reducible refine AF.k_call ?_); refine AF.al rfl (SW.w (OW.append (n := 0) (c := 0) (b := 3) (blk := ⟨[], true, 2⟩) (z := 2) (by' := 16) (zs := [.int .i64 0, .int .i64 0]) (e := 65) rfl rfl kr kr kr rfl kr (by omega) rfl rfl rfl (by decide) (Nat.le_refl _) (ldP rfl rfl rfl) (flatP_one _) (by omega) (by omega)) rfl) rfl ?_)); (conv => (arg 9; try tactic => exact nrmF)); (conv => (arg 11; try simp only [List.nil_append, List.cons_append])); (conv => (arg 10; try tactic => exact nrmF))) | (refine AF.nil ?_ kr; (conv => (arg 4; simp only [List.drop_succ_cons, List.drop_zero, List.drop_nil])))) | ((with_reducible refine FinA.on ?_); (rw [← hlen]; refine FinA.keep 1 [4, 5] (.inl rfl) (.cellN (n := 2) wl kr kr rfl .nil) ?_ rfl (Nat.le_of_eq hE) rfl rfl ⟨⟨_, rfl, rfl, rfl, .inl ⟨rfl, flatP_scal _⟩⟩, ⟨_, rfl, rfl, rfl, .inl ⟨rfl, flatP_scal _⟩⟩, ⟨_, rfl, rfl, rfl, .inl ⟨rfl, flatT_scal _⟩⟩, trivial⟩; rfl)))
theorem Copy_bb (l : List Pn) (c z : Nat) (hl : l.length ≤ 1000000) (h0 : 0 < l.length) (ts : List T3) (c2 z1 : Nat) (ht : ts.length ≤ 1000000) (h1 : 0 < ts.length) : ACalls Tryz.prog 15 [.agg #[.slice (some ⟨0, 0, none⟩) l.length c, .slice (some ⟨1, 0, none⟩) ts.length c2]] [some ⟨flatP l, false, z⟩, some ⟨flatT ts, false, z1⟩] (.agg #[.slice (some ⟨2, 0, none⟩) l.length INF, .slice (some ⟨3, 0, none⟩) ts.length INF]) [some ⟨flatP l, false, z⟩, some ⟨flatT ts, false, z1⟩, some ⟨flatP l, true, 2⟩, some ⟨flatT ts, true, 3⟩] := by
  have hlen : 0 + l.length = l.length := Nat.zero_add _
  have hlen2 : 0 + ts.length = ts.length := Nat.zero_add _
  refine ACalls.en 11 Tryz.func15 rfl rfl (fun E hE => ?_)
  repeat' (first | with_reducible (refine Then.n ?_) | ((with_reducible refine AL.on ?_); first | ((refine AL.q rfl (OQ.buildS (ty := 25) (zs := [.slice none 0 0, .slice none 0 0]) (pls := [(0, 1), (1, 1)]) kr rfl kr rfl rfl rfl) ?_); (refine AL.nm ?_)) | ((first | ((with_reducible refine AL.k_call ?_); refine AL.w rfl (by exact (OW.append (n := 0) (c := 0) (b := 6) (blk := ⟨[], true, 3⟩) (z := 3) (by' := 24) (zs := [.int .i64 0, .int .i64 0, .int .i64 0]) (e := 62) rfl rfl kr kr kr rfl kr (by omega) rfl rfl rfl (by decide) (Nat.le_refl _) (ldT rfl rfl rfl) (flatT_one _) (by omega) (by omega))) ?_) | ((with_reducible refine AL.k_box ?_); (refine AL.w rfl (OW.box wl (by intro r h; cases h)) ?_)) | ((with_reducible refine AL.k_alloc ?_); refine AL.w rfl (OW.alloc (ty := 25) (z := [.slice none 0 0, .slice none 0 0]) kr rfl) ?_) | ((with_reducible refine AL.k_store ?_); (refine AL.w rfl (OW.store (ty := 25) (n := 2) rfl wl rfl rfl kr rfl rfl (by decide) rfl (Nat.le_of_ble_eq_true rfl) (by intro r h; cases h)) ?_))); (refine AL.nm ?_); (refine AL.nM ?_)) | refine AL.nil ?_) | ((with_reducible refine AW.on ?_); first | refine AW.seq ?_ | refine AW.ret ?_ | (refine AW.drawF (id := 1) 7 #[0, 0, 2, 7, 0, 0, 32, 127, 255, 511] kr kr ?_; (conv => (arg 8; simp only [List.take_succ_cons, List.take_zero]))) | refine AW.region ?_) | ((with_reducible refine AF.on ?_); first | ((first | ((with_reducible refine AF.k_fieldAddr ?_); first | refine AF.q 0 (SW.q (OQ.fieldA (ty := 25) (i := 0) (n := 1) (off := 0) (g := false) rfl kr (by decide)) rfl) ?_ | refine AF.q 0 (SW.q (OQ.fieldA (ty := 25) (i := 1) (n := 1) (off := 1) (g := false) rfl kr (by decide)) rfl) ?_) | ((with_reducible refine AF.k_load ?_); first | (refine AF.ql rfl (SW.q (OQ.load1 (ty := 22) rfl kr wl) rfl) ?_) | (refine AF.ql rfl (SW.q (OQ.load1 (ty := 23) rfl kr wl) rfl) ?_))); (conv => (arg 9; try tactic => exact nrmF)); (conv => (arg 11; try simp only [List.nil_append, List.cons_append]))) | ((first | ((with_reducible refine AF.k_buildSlice ?_); first | refine AF.n1 0 (SW.w (OW.buildSl0 (ty := 22) (z := (none, 2, true)) kr) rfl) rfl ?_ | refine AF.n1 0 (SW.w (OW.buildSl0 (ty := 23) (z := (none, 3, true)) kr) rfl) rfl ?_) | ((with_reducible refine AF.k_call ?_); refine AF.al rfl (SW.w (by exact (OW.append (n := 0) (c := 0) (b := 4) (blk := ⟨[], true, 2⟩) (z := 2) (by' := 16) (zs := [.int .i64 0, .int .i64 0]) (e := 65) rfl rfl kr kr kr rfl kr (by omega) rfl rfl rfl (by decide) (Nat.le_refl _) (ldP rfl rfl rfl) (flatP_one _) (by omega) (by omega))) rfl) rfl ?_)); (conv => (arg 9; try tactic => exact nrmF)); (conv => (arg 11; try simp only [List.nil_append, List.cons_append])); (conv => (arg 10; try tactic => exact nrmF))) | (refine AF.nil ?_ kr; (conv => (arg 4; simp only [List.drop_succ_cons, List.drop_zero, List.drop_nil])))) | ((with_reducible refine FinA.on ?_); (rw [← hlen, ← hlen2]; refine FinA.keep 2 [5, 7] (.inl rfl) (.cellN (n := 2) wl kr kr rfl .nil) ?_ rfl (Nat.le_of_eq hE) rfl rfl ⟨⟨_, rfl, rfl, rfl, .inl ⟨rfl, flatP_scal _⟩⟩, ⟨_, rfl, rfl, rfl, .inl ⟨rfl, flatT_scal _⟩⟩, ⟨_, rfl, rfl, rfl, .inl ⟨rfl, flatP_scal _⟩⟩, ⟨_, rfl, rfl, rfl, .inl ⟨rfl, flatT_scal _⟩⟩, trivial⟩; rfl)))
end Go.Proofs.YtmohcmghbfhdlaaGreat
end
end
