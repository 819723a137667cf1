/- Chapter 6: the law's examples, walked (awake). -/
import Derived.Test.YtmohcmghbfhdlaaGreatQd
import Derived.Test.YtmohcmghbfhdlaaGreatRa
import Derived.Test.YtmohcmghbfhdlaaGreatQq
import Derived.Test.YtmohcmghbfhdlaaGreatQr
import Derived.Test.YtmohcmghbfhdlaaGreatQj
import Derived.Test.YtmohcmghbfhdlaaGreatQt
import Derived.Test.YtmohcmghbfhdlaaGreatQu
import Derived.Test.YtmohcmghbfhdlaaGreatQv
import Derived.Test.YtmohcmghbfhdlaaGreatQe
section
set_option linter.unusedSimpArgs false
set_option linter.unusedVariables false
section
namespace Go.Proofs.YtmohcmghbfhdlaaGreat
open Go Go.RowKit Go.Ab Go.Me
set_option maxRecDepth 100000
set_option maxHeartbeats 4000000
theorem eqr_t52 (d : Nat) (w : World) (a0 a1 b0 b1 : Int) : (Op.equalIn (d + 2) 52 (.agg #[.int .i64 a0, .int .i64 a1]) (.agg #[.int .i64 b0, .int .i64 b1])).run Tryz.prog w = .ok (decide ((a0, a1) = (b0, b1))) w := by
  unfold Op.equalIn
  simp [Tryz.underlying52, run_underlying, go_sem, List.range', List.forIn_cons]
  by_cases h0 : a0 = b0
  case neg => simp [h0]
  by_cases h1 : a1 = b1
  case neg => simp [h0, h1]
  simp [h0, h1]
theorem eql_t52 {t : T} {m : Mem} {dst : Option Tmp} {rt ty' : TypeId} {pos : String} {after : Array Edge} {guard : Option (Nat × Bool)} {x y : Operand} {a0 a1 b0 b1 : Int} (hx : t.ev x = (.agg #[.int .i64 a0, .int .i64 a1])) (hy : t.ev y = (.agg #[.int .i64 b0, .int .i64 b1])) :
    OQ Tryz.prog ⟨dst, .binOp .eql 52 x y ty', rt, pos, after, guard⟩ t m (.bool (decide ((a0, a1) = (b0, b1)))) := by
  refine OQ.closed (fun cs b => by simp) (fun z hz => ?_) (fun w => ?_) rfl
  · simp [Op.operands] at hz
    rcases hz with rfl | rfl
    · rw [hx]; rfl
    · rw [hy]; rfl
  · have e := eqr_t52 9998 w a0 a1 b0 b1
    have hgt : (Tryz.prog).eqGuardType (Tryz.prog).depth 52 = false := by kernel_rfl
    have hg : (eqGuard .eql 52 x y (t.ev x) (t.ev y)).run Tryz.prog w = .ok () w := by
      rw [hx, hy]
      simp [eqGuard, program, Sem.run, Sem.run_bind, hgt]
    rw [hx, hy] at hg
    simp only [execOp, hx, hy, Sem.run_bind, hg, Result.andThen_ok, binOp, Op.equal, Op.maxDepth]
    erw [e]
    simp [go_sem]
attribute [local irreducible] OQ OW AL AW AF SW
theorem Ints_t {m : Mem} {b b' n n' c d : Nat} {X Y : Blk} (xs : List Int) (hl : xs.length ≤ 1000000) (x1 : m.at b = some X) (x2 : X.cells = flatN xs) (hn : xs.length = n) (y1 : m.at b' = some Y) (y2 : Y.cells = flatN xs) (hn' : xs.length = n') (x3 : X.obj = Ob.plain := by rfl) (y3 : Y.obj = Ob.plain := by rfl) :
    PCalls Tryz.prog 20 [.slice (some ⟨b, 0, none⟩) n c, .slice (some ⟨b', 0, none⟩) n' d] m (.bool true) := by
  have h := Ints_q (m := m) (c := c) (d := d) xs xs hl x1 x2 hn y1 y2 hn' x3 y3
  rw [decide_eq_true rfl] at h
  exact h
theorem awake_0 : PCalls Tryz.prog 12 [] [] (.bool true) := by
  have hH := fun (m : Mem) (b : Nat) (blk : Blk) (h1 : m.at b = some blk) (h2 : blk.cells = flatP sqp) (h3 : blk.esz = 0 ∨ blk.esz = 2) (h4 : blk.obj = Ob.plain) => Hull_y (n := 5) (c := 5) sqp cps fks h1 h2 rfl h3 h4
  rw [hls] at hH
  have hS := fun (m : Mem) (bP bT : Nat) (hA : ArgN m bP bT sqp sqt) => Sides_q (n := 5) (k := 4) (c := 5) (c2 := 4) sqp sqt hA rfl rfl nets
  rw [sds.1] at hS
  have hsd : sdL sqt = [⟨0, -1⟩, ⟨-1, 1⟩, ⟨1, 0⟩, ⟨2, -1⟩, ⟨0, 2⟩, ⟨3, -1⟩, ⟨2, 3⟩, ⟨3, 1⟩] := by
    unfold sdL
    rw [eds]
    kernel_rfl
  rw [hsd] at hS
  have hU := fun (m : Mem) (bP bT bF bC : Nat) (F C : Blk) (hA : ArgN m bP bT l0 ts0) (f1 : m.at bF = some F) (f2 : F.cells = flatN ph0) (f3 : F.obj = Ob.plain) (c1 : m.at bC = some C) (c2 : C.cells = flatN cs0) (c3 : C.obj = Ob.plain) (hd : [bP, bT, bF, bC].Nodup) => Unwrap_q (c := 3) (c2 := 1) (c3 := 3) (c4 := 3) hA rfl rfl f1 f2 rfl c1 c2 rfl hd f3 c3
  have hD := fun (m : Mem) (b : Nat) (blk : Blk) (h1 : m.at b = some blk) (h2 : blk.cells = flatN [9, 12]) (h3 : blk.obj = Ob.plain) => Dispersion_q (n := 2) (c := 2) [9, 12] h1 h2 rfl (by decide) h3
  rw [dsV_9] at hD
  have hF := fun (m : Mem) (bP bT bF bX : Nat) (F X : Blk) (hA : ArgN m bP bT l0 ts0) (f1 : m.at bF = some F) (f2 : F.cells = flatN ph0) (f3 : F.obj = Ob.plain) (x1 : m.at bX = some X) (x2 : X.cells = flatN xs0) (x3 : X.obj = Ob.plain) (hd : [bP, bT, bF, bX].Nodup) => Field_y (n := 3) (k := 1) (j := 3) (i := 3) (c := 3) (c2 := 1) (c3 := 3) (c4 := 3) l0 ts0 ph0 xs0 hA rfl rfl f1 f2 rfl x1 x2 rfl (netE_0.1 net0) ta0.ph tu0 1 fdr0 (by decide) hd f3 x3
  have hfv : (fdN (dfL ts0 ph0) xs0 (edL ts0) (fd0 l0.length (nt ph0 0)) 1).1 = [0, 1500, 2596] := fdv0
  rw [hfv] at hF
  refine PCalls.en 94 Tryz.func12 rfl (ro_nil) rfl (fun E => ?_)
  repeat' (first | with_reducible (refine Then.n ?_) | ((with_reducible refine AL.on ?_); first | (refine AL.gd rfl ?_; (refine AL.gs1 rfl rfl (fun hc => ?_) (fun hc => ?_) <;> (try replace hc := nc hc) <;> first | (exfalso; contradiction) | (refine AL.nm ?_))) | ((first | ((with_reducible refine AL.k_move ?_); (refine AL.q rfl (OQ.move wl) ?_)) | ((with_reducible refine AL.k_assign ?_); (refine AL.q rfl (OQ.assign wl) ?_)) | ((with_reducible refine AL.k_call ?_); refine AL.q rfl (OQ.lenS (xt := 45) (r := (none, 2, true)) rfl kr) ?_) | ((with_reducible refine AL.k_extract ?_); refine AL.q rfl (OQ.extract rfl rfl) ?_) | ((with_reducible refine AL.k_pick ?_); (refine AL.q rfl (OQ.pickT rfl (by with_reducible rfl) wl) ?_)) | ((with_reducible refine AL.k_binOp ?_); first | refine AL.q rfl (OQ.eql rfl rfl) ?_ | refine AL.q rfl (eql_t52 rfl rfl) ?_) | ((with_reducible refine AL.k_field ?_); first | refine AL.q rfl (OQ.field1 (ty := 25) (i := 0) (n := 1) (off := 0) rfl kr rfl) ?_ | refine AL.q rfl (OQ.fieldL (ty := 67) (i := 0) (n := 2) (off := 0) rfl kr rfl) ?_ | refine AL.q rfl (OQ.field1 (ty := 67) (i := 1) (n := 1) (off := 2) rfl kr rfl) ?_) | ((with_reducible refine AL.k_load ?_); refine AL.q rfl (OQ.loadN (ty := 52) (n := 2) rfl kr kr rfl) ?_) | ((with_reducible refine AL.k_indexAddr ?_); refine AL.q rfl (OQ.idxAddr (ty := 45) (z := 2) (g := true) rfl rfl kr (by omega) (by omega)) ?_)); (refine AL.nm ?_)) | ((first | ((with_reducible refine AL.k_call ?_); first | refine AL.pcall (g := 48) rfl kr rfl ((by exact hD _ _ _ rfl rfl rfl)) ?_ | refine AL.pcall (g := 20) rfl kr rfl ((by first | exact Ints_t [0, 1, 2, 3] (by decide) rfl rfl rfl rfl rfl rfl | exact Ints_t [0, 1500, 2596] (by decide) rfl rfl rfl rfl rfl rfl)) ?_) | ((with_reducible refine AL.k_build ?_); refine AL.q rfl (OQ.buildA (ty := 52) (zs := [.int .i64 0, .int .i64 0]) (n := 1) (k := 2) (g := false) kr rfl kr rfl rfl rfl) ?_)); (refine AL.nm ?_)) | ((first | ((with_reducible refine AL.k_call ?_); first | refine AL.acall (g := 62) rfl kr rfl ((by exact Square_q _)) ?_ | refine AL.acall (g := 61) rfl kr rfl ((by exact hH _ _ _ rfl rfl (.inr rfl) rfl)) ?_ | refine AL.acall (g := 28) rfl kr rfl ((by exact hS _ _ _ ⟨⟨_, rfl, rfl, .inr rfl, rfl⟩, ⟨_, rfl, rfl, rfl⟩, by decide⟩)) ?_ | refine AL.acall (g := 64) rfl kr rfl ((by exact Corner_q _)) ?_ | refine AL.acall (g := 63) rfl kr rfl ((by exact hU _ _ _ _ _ _ _ ⟨⟨_, rfl, rfl, .inr rfl, rfl⟩, ⟨_, rfl, rfl, rfl⟩, by decide⟩ rfl rfl rfl rfl rfl rfl (by decide))) ?_ | refine AL.acall (g := 14) rfl kr rfl ((by exact hF _ _ _ _ _ _ _ ⟨⟨_, rfl, rfl, .inr rfl, rfl⟩, ⟨_, rfl, rfl, rfl⟩, by decide⟩ rfl rfl rfl rfl rfl rfl (by decide))) ?_) | ((with_reducible refine AL.k_buildSlice ?_); refine AL.w rfl (OW.buildSl (ty := 26) (zs := [.int .i64 0]) (n := 1) (g := false) kr kr rfl rfl rfl (by decide) (by decide) rfl rfl) ?_) | ((with_reducible refine AL.k_alloc ?_); refine AL.w rfl (OW.alloc (ty := 52) (z := [.int .i64 0, .int .i64 0]) kr rfl) ?_) | ((with_reducible refine AL.k_store ?_); (refine AL.w rfl (OW.store (ty := 52) (n := 2) rfl wl rfl rfl kr rfl rfl (by decide) rfl (Nat.le_of_ble_eq_true rfl) (by intro r h; cases h)) ?_))); (refine AL.nm ?_); (refine AL.nM ?_)) | refine AL.nil ?_) | ((with_reducible refine AW.on ?_); first | refine AW.seq ?_ | refine AW.ret ?_ | refine AW.region ?_) | ((with_reducible refine FinP.on ?_); (refine FinP.ret (.tmp wl .nil) ?_ rfl); (try simp only [pack, List.drop, List.take]); all_goals (rfl)))
theorem awake_q (m : Mem) : PCalls Tryz.prog 12 [] m (.bool true) := PCalls.any awake_0 rfl rfl m
end Go.Proofs.YtmohcmghbfhdlaaGreat
end
end
/- Chapter 6: the reference's edges and sides are the program's (plain). -/
section
set_option linter.unusedSimpArgs false
set_option linter.unusedVariables false
namespace Go.Me
open Go.Ab Go.Proofs.YtmohcmghbfhdlaaGreat
set_option maxRecDepth 100000
theorem lf_tri' {ts : List T3} {p : IE × Int} : ∀ n, p ∈ lf ts n → ∃ j : Nat, j < n ∧ (p.1 = ((tr ts j).1, (tr ts j).2.1) ∨ p.1 = ((tr ts j).2.1, (tr ts j).2.2) ∨ p.1 = ((tr ts j).2.2, (tr ts j).1))
  | 0, h => by unfold lf at h; cases h
  | n + 1, h => by
    unfold lf at h
    simp only [List.mem_append, List.mem_singleton] at h
    rcases h with ((h | h) | h) | h
    · obtain ⟨j, h1, h2⟩ := lf_tri' n h
      exact ⟨j, by omega, h2⟩
    · exact ⟨n, by omega, .inl (by rw [h])⟩
    · exact ⟨n, by omega, .inr (.inl (by rw [h]))⟩
    · exact ⟨n, by omega, .inr (.inr (by rw [h]))⟩
theorem lf_ne {l : List Pn} {ts : List T3} (h : NetR l ts) {p : IE × Int} (hp : p ∈ lfA ts) : p.1.1 ≠ p.1.2 := fun e => by
  obtain ⟨j, hj, h1⟩ := lf_tri' _ hp
  obtain ⟨_, h2, h3, _⟩ := trK_0 (h.all j hj)
  unfold ordB at h2
  unfold trS at h3
  rcases h1 with h1 | h1 | h1
  · rw [h1] at e; simp only at e; omega
  · rw [h1] at e; simp only at e
    rw [e, show cr (pt l (tr ts j).1.toNat) (pt l (tr ts j).2.2.toNat) (pt l (tr ts j).2.2.toNat) = 0 from cr_self _ _] at h3
    cases h3
  · rw [h1] at e; simp only at e; omega
theorem pkE_at {l : List Pn} {ts : List T3} (h : NetR l ts) {p : IE × Int} (hp : p ∈ lfA ts) {x : Pn} (hx : x ∈ pkE (lfA ts) p.1) : x.x < x.y ∧ ((p.1 = (x.x, x.y)) ∨ (p.1 = (x.y, x.x) ∧ lk (lfA ts) (x.x, x.y) = -1)) := by
  have hne := lf_ne h hp
  obtain ⟨⟨a, b⟩, i⟩ := p
  unfold pkE at hx
  simp only at hx hne ⊢
  split at hx
  · rename_i hs
    rw [List.mem_singleton] at hx
    subst hx
    simp only
    by_cases hab : a < b
    · rw [if_neg (by omega), if_pos (show b > a by omega)]
      exact ⟨hab, .inl rfl⟩
    · rw [if_pos (show b < a by omega), if_neg (show ¬ b > a by omega)]
      exact ⟨by omega, .inr ⟨rfl, hs.resolve_left hab⟩⟩
  · cases hx
theorem edL_mem {l : List Pn} {ts : List T3} (h : NetR l ts) {x : Pn} : x ∈ edL ts ↔ x.x < x.y ∧ (lk (lfA ts) (x.x, x.y) ≠ -1 ∨ lk (lfA ts) (x.y, x.x) ≠ -1) := by
  unfold edL
  rw [(sortE_perm _).mem_iff]
  unfold eqS
  have hr := fun (F : Nat → List Pn) => List.mem_flatMap (f := F) (b := x) (l := List.range (lfA ts).length)
  rw [hr]
  constructor
  · rintro ⟨j, hj, hx⟩
    rw [List.mem_range] at hj
    unfold pk at hx
    rw [List.getElem?_eq_getElem hj] at hx
    have hp := List.getElem_mem hj
    obtain ⟨h1, h2⟩ := pkE_at h hp hx
    refine ⟨h1, ?_⟩
    have hk : ((lfA ts)[j]).1 ∈ (lfA ts).map (·.1) := List.mem_map.2 ⟨_, hp, rfl⟩
    rcases h2 with h2 | ⟨h2, _⟩
    · rw [h2] at hk
      exact .inl fun hh => (lk_no h).1 hh hk
    · rw [h2] at hk
      exact .inr fun hh => (lk_no h).1 hh hk
  · rintro ⟨h1, h2⟩
    have key : ∀ e : IE, lk (lfA ts) e ≠ -1 → ∃ (j : Nat) (i : Int), (lfA ts)[j]? = some (e, i) := fun e he => by
      have : e ∈ (lfA ts).map (·.1) := Classical.byContradiction fun hh => he (lk_not hh)
      obtain ⟨p, hp, rfl⟩ := List.mem_map.1 this
      obtain ⟨j, hj⟩ := List.mem_iff_getElem?.1 hp
      exact ⟨j, p.2, hj⟩
    by_cases h3 : lk (lfA ts) (x.x, x.y) ≠ -1
    · obtain ⟨j, i, hj⟩ := key _ h3
      refine ⟨j, List.mem_range.2 (List.getElem?_eq_some_iff.1 hj).1, ?_⟩
      unfold pk
      rw [hj]
      show x ∈ pkE (lfA ts) (x.x, x.y)
      unfold pkE
      rw [if_pos (.inl h1)]
      simp only
      rw [if_neg (by omega), if_pos (by omega)]
      exact List.mem_singleton.2 rfl
    · obtain ⟨j, i, hj⟩ := key _ (h2.resolve_left h3)
      refine ⟨j, List.mem_range.2 (List.getElem?_eq_some_iff.1 hj).1, ?_⟩
      unfold pk
      rw [hj]
      show x ∈ pkE (lfA ts) (x.y, x.x)
      unfold pkE
      rw [if_pos (.inr (Classical.not_not.1 h3))]
      simp only
      rw [if_pos (by omega), if_neg (by omega)]
      exact List.mem_singleton.2 rfl
theorem eqS_flat (ts : List T3) : eqS ts (List.range (lfA ts).length) = (lfA ts).flatMap fun p => pkE (lfA ts) p.1 := by
  have e : ∀ k, k ≤ (lfA ts).length → (List.range k).flatMap (pk ts) = ((lfA ts).take k).flatMap fun p => pkE (lfA ts) p.1 := fun k => by
    induction k with
    | zero => intro _; rfl
    | succ k ih =>
      intro hk
      have hg : (lfA ts)[k]? = some (lfA ts)[k] := List.getElem?_eq_getElem (by omega)
      have hpk : pk ts k = pkE (lfA ts) ((lfA ts)[k]).1 := by unfold pk; rw [hg]
      rw [List.range_succ, List.flatMap_append, ih (by omega), List.take_add_one, List.flatMap_append, hg]
      simp [hpk]
  have := e _ (Nat.le_refl _)
  rw [List.take_length] at this
  exact this
theorem edL_nodup {l : List Pn} {ts : List T3} (h : NetR l ts) : (edL ts).Nodup := by
  unfold edL
  rw [(sortE_perm _).nodup_iff, eqS_flat]
  unfold List.Nodup
  rw [List.pairwise_flatMap]
  refine ⟨fun p _ => ?_, ?_⟩
  · unfold pkE
    split
    · exact List.pairwise_singleton _ _
    · exact List.Pairwise.nil
  · have h2 : ((lfA ts).map (·.1)).Nodup := h.ok.nd
    unfold List.Nodup at h2
    rw [List.pairwise_map] at h2
    refine h2.imp_of_mem fun {p q} hp hq hne x hx y hy e => ?_
    subst e
    obtain ⟨_, a2⟩ := pkE_at h hp hx
    obtain ⟨_, b2⟩ := pkE_at h hq hy
    have hkp : p.1 ∈ (lfA ts).map (·.1) := List.mem_map.2 ⟨p, hp, rfl⟩
    have hkq : q.1 ∈ (lfA ts).map (·.1) := List.mem_map.2 ⟨q, hq, rfl⟩
    rcases a2 with a2 | ⟨a2, a3⟩ <;> rcases b2 with b2 | ⟨b2, b3⟩
    · exact hne (a2.trans b2.symm)
    · rw [a2] at hkp
      exact (lk_no h).1 b3 hkp
    · rw [b2] at hkq
      exact (lk_no h).1 a3 hkq
    · exact hne (a2.trans b2.symm)
def reP (ts : List T3) (i k : Nat) : List Pn := if lk (lfA ts) ((i : Int), (k : Int)) ≠ -1 ∨ lk (lfA ts) ((k : Int), (i : Int)) ≠ -1 then [⟨i, k⟩] else []
def reI (ts : List T3) (i : Nat) : Nat → List Pn
  | 0 => []
  | j + 1 => reI ts i j ++ reP ts i (i + 1 + j)
def reE (ts : List T3) (n : Nat) : Nat → List Pn
  | 0 => []
  | i + 1 => reE ts n i ++ reI ts i (n - 1 - i)
theorem reI_mem {ts : List T3} {i : Nat} {x : Pn} : ∀ j, x ∈ reI ts i j ↔ ∃ k : Nat, i < k ∧ k < i + 1 + j ∧ x = ⟨i, k⟩ ∧ (lk (lfA ts) ((i : Int), (k : Int)) ≠ -1 ∨ lk (lfA ts) ((k : Int), (i : Int)) ≠ -1)
  | 0 => by
    unfold reI
    constructor
    · intro h; cases h
    · rintro ⟨k, h1, h2, _⟩
      omega
  | j + 1 => by
    unfold reI
    rw [List.mem_append, reI_mem j]
    unfold reP
    constructor
    · rintro (⟨k, h1, h2, h3, h4⟩ | hx)
      · exact ⟨k, h1, by omega, h3, h4⟩
      · split at hx
        · rename_i hc
          rw [List.mem_singleton] at hx
          exact ⟨i + 1 + j, by omega, by omega, hx, hc⟩
        · cases hx
    · rintro ⟨k, h1, h2, h3, h4⟩
      by_cases hk : k = i + 1 + j
      · subst hk
        rw [if_pos h4]
        exact .inr (List.mem_singleton.2 h3)
      · exact .inl ⟨k, h1, by omega, h3, h4⟩
theorem reE_mem {ts : List T3} {n : Nat} {x : Pn} : ∀ i, i ≤ n → (x ∈ reE ts n i ↔ ∃ a k : Nat, a < i ∧ a < k ∧ k < n ∧ x = ⟨a, k⟩ ∧ (lk (lfA ts) ((a : Int), (k : Int)) ≠ -1 ∨ lk (lfA ts) ((k : Int), (a : Int)) ≠ -1))
  | 0, _ => by
    unfold reE
    constructor
    · intro h; cases h
    · rintro ⟨a, k, h1, _⟩
      omega
  | i + 1, hi => by
    unfold reE
    rw [List.mem_append, reE_mem i (by omega), reI_mem]
    constructor
    · rintro (⟨a, k, h1, h2⟩ | ⟨k, h1, h2, h3⟩)
      · exact ⟨a, k, by omega, h2⟩
      · exact ⟨i, k, by omega, h1, by omega, h3⟩
    · rintro ⟨a, k, h1, h2, h3, h4⟩
      by_cases ha : a = i
      · subst ha
        exact .inr ⟨k, h2, by omega, h4⟩
      · exact .inl ⟨a, k, by omega, h2, h3, h4⟩
theorem reI_sorted (ts : List T3) (i : Nat) : ∀ j, (reI ts i j).Pairwise lexLt
  | 0 => List.Pairwise.nil
  | j + 1 => by
    unfold reI
    rw [List.pairwise_append]
    refine ⟨reI_sorted ts i j, ?_, fun x hx y hy => ?_⟩
    · unfold reP
      split
      · exact List.pairwise_singleton _ _
      · exact List.Pairwise.nil
    · obtain ⟨k, h1, h2, rfl, _⟩ := (reI_mem j).1 hx
      unfold reP at hy
      split at hy
      · rw [List.mem_singleton] at hy
        subst hy
        refine .inr ⟨rfl, ?_⟩
        show (k : Int) < ((i + 1 + j : Nat) : Int)
        omega
      · cases hy
theorem reE_sorted (ts : List T3) (n : Nat) : ∀ i, i ≤ n → (reE ts n i).Pairwise lexLt
  | 0, _ => List.Pairwise.nil
  | i + 1, hi => by
    unfold reE
    rw [List.pairwise_append]
    refine ⟨reE_sorted ts n i (by omega), reI_sorted ts i _, fun x hx y hy => ?_⟩
    obtain ⟨a, k, h1, _, _, rfl, _⟩ := (reE_mem i (by omega)).1 hx
    obtain ⟨b, _, _, rfl, _⟩ := (reI_mem _).1 hy
    unfold lexLt
    simp only
    omega
theorem reE_edL {l : List Pn} {ts : List T3} (h : NetR l ts) : reE ts l.length l.length = edL ts := by
  have hs := reE_sorted ts l.length l.length (Nat.le_refl _)
  have hns : ∀ {x y : Pn}, lexLt x y → ¬ lexLt y x := fun {x y} h1 h2 => by
    unfold lexLt at h1 h2
    omega
  refine sorted_uniq ?_ (hs.imp hns) ?_
  · refine (List.perm_ext_iff_of_nodup ?_ (edL_nodup h)).2 fun x => ?_
    · unfold List.Nodup
      refine hs.imp fun {x y} h1 e => ?_
      subst e
      exact hns h1 h1
    · rw [reE_mem _ (Nat.le_refl _), edL_mem h]
      constructor
      · rintro ⟨a, k, h1, h2, h3, rfl, h4⟩
        exact ⟨by simp only; omega, h4⟩
      · rintro ⟨h1, h2⟩
        have hx := (edL_mem h).2 ⟨h1, h2⟩
        obtain ⟨⟨r1, r2⟩, r3, r4⟩ := edL_rng h.ok x hx
        refine ⟨x.x.toNat, x.y.toNat, by omega, by omega, by omega, ?_, ?_⟩
        · obtain ⟨a, b⟩ := x
          simp only at r1 r3 ⊢
          rw [Int.toNat_of_nonneg r1, Int.toNat_of_nonneg r3]
        · rw [Int.toNat_of_nonneg r1, Int.toNat_of_nonneg r3]
          exact h2
  · unfold edL
    exact sortE_pair _
end Go.Me
end
/- Chapter 6: the reference's edges and sides of a right net, and its comparison of pairs. -/
section
set_option linter.unusedSimpArgs false
set_option linter.unusedVariables false
section
namespace Go.Me
open Go.Ab Go.Proofs.YtmohcmghbfhdlaaGreat
theorem reP_0 {ts : List T3} {i k : Nat} (h1 : lk (lfA ts) ((i : Int), (k : Int)) < 0) (h2 : lk (lfA ts) ((k : Int), (i : Int)) < 0) : reP ts i k = [] := by
  unfold reP
  have a1 := lk_ge ts ts.length ((i : Int), (k : Int))
  have a2 := lk_ge ts ts.length ((k : Int), (i : Int))
  unfold lfA at *
  rw [if_neg (by omega)]
theorem reP_1 {ts : List T3} {i k : Nat} (h : 0 ≤ lk (lfA ts) ((i : Int), (k : Int)) ∨ 0 ≤ lk (lfA ts) ((k : Int), (i : Int))) : reP ts i k = [⟨i, k⟩] := by
  unfold reP
  rw [if_pos (by omega)]
def reX (ts : List T3) (n i j : Nat) : List Pn := reE ts n i ++ reI ts i j
theorem reX_row {ts : List T3} {n i : Nat} (h : i < n) : reX ts n i (n - 1 - i) = reX ts n (i + 1) 0 := by
  unfold reX
  show _ = (reE ts n i ++ reI ts i (n - 1 - i)) ++ []
  rw [List.append_nil]
theorem reX_step {ts : List T3} {n i j : Nat} : reX ts n i (j + 1) = reX ts n i j ++ reP ts i (i + 1 + j) := by
  unfold reX
  show _ ++ (reI ts i j ++ _) = _
  rw [List.append_assoc]
theorem reP_len (ts : List T3) (i k : Nat) : (reP ts i k).length ≤ 1 := by
  unfold reP
  split <;> simp
theorem reI_len (ts : List T3) (i : Nat) : ∀ j, (reI ts i j).length ≤ j
  | 0 => Nat.le_refl _
  | j + 1 => by
    unfold reI
    have := reI_len ts i j
    have := reP_len ts i (i + 1 + j)
    rw [List.length_append]
    omega
theorem reE_len (ts : List T3) (n : Nat) : ∀ i, (reE ts n i).length ≤ n * i
  | 0 => Nat.le_refl _
  | i + 1 => by
    unfold reE
    have := reE_len ts n i
    have := reI_len ts i (n - 1 - i)
    rw [List.length_append, Nat.mul_succ]
    omega
theorem reX_len (ts : List T3) {n i j : Nat} (hn : n ≤ 40) (hi : i ≤ n) (hj : j ≤ n) : (reX ts n i j).length ≤ 2000 := by
  unfold reX
  rw [List.length_append]
  have h1 := reE_len ts n i
  have h2 := reI_len ts i j
  have h3 : n * i ≤ 40 * 40 := Nat.mul_le_mul hn (by omega)
  omega
end Go.Me
namespace Go.Proofs.YtmohcmghbfhdlaaGreat
open Go Go.RowKit Go.Ab Go.Me
set_option maxRecDepth 100000
set_option maxHeartbeats 4000000
attribute [local irreducible] OQ OW AL AW AF SW
end Go.Proofs.YtmohcmghbfhdlaaGreat
end
end
/- Chapter 6: the reference's edges of a right net. -/
section
set_option linter.unusedSimpArgs false
set_option linter.unusedVariables false
section
namespace Go.Proofs.YtmohcmghbfhdlaaGreat
open Go Go.RowKit Go.Ab Go.Me
set_option maxRecDepth 100000
set_option maxHeartbeats 4000000
attribute [local irreducible] OQ OW AL AW AF SW
theorem rEdges_0 (l : List Pn) (ts : List T3) (hR : NetR l ts) (c c2 : Nat) :
    ACalls Tryz.prog 31 [.agg #[.slice (some ⟨0, 0, none⟩) l.length c, .slice (some ⟨1, 0, none⟩) ts.length c2]] [some ⟨flatP l, false, 0⟩, some ⟨flatT ts, false, 0⟩] (.slice (some ⟨2, 0, none⟩) (edL ts).length INF) [some ⟨flatP l, false, 0⟩, some ⟨flatT ts, false, 0⟩, some ⟨flatP (edL ts), true, 2⟩] := by
  have hh : ∀ (a b : Int) (m : Mem) (blk : Blk) (h1 : m.at 1 = some blk) (h2 : blk.cells = flatT ts) (h3 : blk.obj = Ob.plain), PCalls Tryz.prog 75 [.slice (some ⟨1, 0, none⟩) ts.length c2, .int .i64 a, .int .i64 b] m (.int .i64 (lk (lfA ts) (a, b))) := fun a b m blk h1 h2 h3 => has_q (c := c2) ts (Nat.le_refl _) (by have := hR.le; omega) a b h1 h2 h3
  have h80 := hR.le
  have h40 := (cp_ok hR.cp).1
  have hn2 := two_of hR.all hR.g.1
  have hpos := edL_pos hR
  have a1 : ∀ i, reX ts l.length i (i + 1 - i - 1) = reX ts l.length i 0 := fun i => by rw [show i + 1 - i - 1 = 0 by omega]
  have a2 : ∀ i, i < l.length → reX ts l.length i (l.length - i - 1) = reX ts l.length (i + 1) 0 := fun i hi => by
    rw [show l.length - i - 1 = l.length - 1 - i by omega]
    exact reX_row hi
  have a3 : ∀ i k : Nat, i < k → (0 ≤ lk (lfA ts) ((i : Int), (k : Int)) ∨ 0 ≤ lk (lfA ts) ((k : Int), (i : Int))) → reX ts l.length i (k + 1 - i - 1) = reX ts l.length i (k - i - 1) ++ [⟨i, k⟩] := fun i k hk h => by
    rw [show k + 1 - i - 1 = (k - i - 1) + 1 by omega, reX_step, show i + 1 + (k - i - 1) = k by omega, reP_1 h]
  have a4 : ∀ i k : Nat, i < k → lk (lfA ts) ((i : Int), (k : Int)) < 0 → lk (lfA ts) ((k : Int), (i : Int)) < 0 → reX ts l.length i (k + 1 - i - 1) = reX ts l.length i (k - i - 1) := fun i k hk h1 h2 => by
    rw [show k + 1 - i - 1 = (k - i - 1) + 1 by omega, reX_step, show i + 1 + (k - i - 1) = k by omega, reP_0 h1 h2, List.append_nil]
  have a5 : reX ts l.length 0 0 = [] := rfl
  have a6 : reX ts l.length l.length 0 = edL ts := by
    rw [← reE_edL hR]
    show _ ++ [] = _
    rw [List.append_nil]
  have a7 : ∀ i k : Nat, i ≤ l.length → k ≤ l.length → (reX ts l.length i (k - i - 1)).length ≤ 2000 := fun i k h1 h2 => reX_len ts h40 h1 (by omega)
  have a8 : ∀ i : Nat, i ≤ l.length → (reX ts l.length i 0).length ≤ 2000 := fun i h1 => reX_len ts h40 h1 (by omega)
  have hfl := flatP_len
  have hsn : ∀ (X : List Pn) (i k : Nat), flatP (X ++ [⟨i, k⟩]) = flatP X ++ [.int .i64 (i : Int), .int .i64 (k : Int)] := fun X i k => flatP_snoc X ⟨i, k⟩
  generalize hRK : (fun i k : Nat => reX ts l.length i (k - i - 1)) = RK at *
  generalize hOX : (fun i : Nat => reX ts l.length i 0) = OX at *
  have e1 : ∀ i k : Nat, reX ts l.length i (k - i - 1) = RK i k := fun i k => by rw [← hRK]
  have e2 : ∀ i : Nat, reX ts l.length i 0 = OX i := fun i => by rw [← hOX]
  simp only [e1, e2] at a1 a2 a3 a4 a5 a6 a7 a8
  clear hRK hOX e1 e2
  refine ACalls.en 42 Tryz.func31 rfl rfl (fun E hE => ?_)
  repeat' (first | with_reducible (first | refine Then.n ?_ | refine Then.x ?_ | refine InB.n ?_ | refine InB.hit ?_) | ((with_reducible refine AL.on ?_); first | (refine AL.gd rfl ?_; (refine AL.gs0 rfl rfl (fun hc => ?_) (fun hc => ?_) <;> (try replace hc := nc hc) <;> first | (exfalso; contradiction) | (refine AL.nm ?_))) | ((first | ((with_reducible refine AL.k_move ?_); (refine AL.q rfl (OQ.move wl) ?_)) | ((with_reducible refine AL.k_assign ?_); (refine AL.q rfl (OQ.assign wl) ?_)) | ((with_reducible refine AL.k_binOp ?_); first | refine AL.q rfl (OQ.lss rfl rfl) ?_ | refine AL.q rfl (OQ.addi rfl rfl (by omega)) ?_ | refine AL.q rfl (OQ.geq rfl rfl) ?_) | ((with_reducible refine AL.k_call ?_); refine AL.q rfl (OQ.lenS (xt := 22) (r := (none, 2, true)) rfl kr) ?_) | ((with_reducible refine AL.k_fieldAddr ?_); first | refine AL.q rfl (OQ.fieldA (ty := 25) (i := 0) (n := 1) (off := 0) (g := false) rfl kr (by decide)) ?_ | refine AL.q rfl (OQ.fieldA (ty := 25) (i := 1) (n := 1) (off := 1) (g := false) rfl kr (by decide)) ?_) | ((with_reducible refine AL.k_load ?_); first | (refine AL.q rfl (OQ.load1 (ty := 22) rfl kr wl) ?_) | (refine AL.q rfl (OQ.load1 (ty := 23) rfl kr wl) ?_)) | ((with_reducible refine AL.k_pick ?_); first | (refine AL.q rfl (OQ.pickT rfl (by with_reducible rfl) wl) ?_) | (refine AL.q rfl (OQ.pickF rfl (by with_reducible rfl) wl) ?_))); (refine AL.nm ?_)) | ((first | ((with_reducible refine AL.k_call ?_); refine AL.pcall (g := 75) rfl kr rfl ((by exact hh _ _ _ _ rfl rfl rfl)) ?_) | ((with_reducible refine AL.k_build ?_); refine AL.q rfl (OQ.buildA (ty := 52) (zs := [.int .i64 0, .int .i64 0]) (n := 1) (k := 2) (g := false) kr rfl kr rfl rfl rfl) ?_)); (refine AL.nm ?_)) | ((first | ((with_reducible refine AL.k_call ?_); refine AL.w rfl (by first | exact OW.appendNil (e := 52) (z := 2) (zs := [.int .i64 0, .int .i64 0]) (by' := 16) rfl rfl kr kr kr rfl kr (by decide) rfl (by decide) (by decide) | exact OW.appendL (e := 52) (z := 2) (zs := [.int .i64 0, .int .i64 0]) (by' := 16) rfl rfl kr kr kr rfl kr (by decide) rfl rfl rfl (by decide) (by exact hfl _) rfl rfl (by omega) (by omega)) ?_) | ((with_reducible refine AL.k_box ?_); (refine AL.w rfl (OW.box wl (by intro r h; cases h)) ?_)) | ((with_reducible refine AL.k_buildSlice ?_); refine AL.w rfl (OW.buildSl (ty := 45) (zs := [.int .i64 0, .int .i64 0]) (n := 2) (g := true) kr kr rfl rfl rfl (by decide) (by decide) rfl rfl) ?_)); (refine AL.nm ?_); (refine AL.nM ?_)) | refine AL.nil ?_) | ((with_reducible refine AW.on ?_); first | refine AW.seq ?_ | refine AW.skip ?_ | refine AW.exit ?_ | refine AW.ret ?_ | ((refine AW.block (id := 0) ?_); (refine AW.fk [1, 3, 4] ?_); (refine AW.loop (fun n' t' m => ∃ i : Nat, n' = l.length - i ∧ i ≤ l.length ∧ ((OX i = [] ∧ t' = [jk, .pointer (some ⟨2, 0, none⟩), jk, .slice none 0 0, .int .i64 (i), jk, jk, jk, jk, jk, jk, jk, jk, jk, jk, jk, jk, jk, jk, jk, jk, jk, jk, jk, jk, jk, jk, jk, jk, jk, jk, jk, jk, jk, jk, jk, jk, jk, jk, jk, jk, jk, jk] ∧ m = [some ⟨flatP l, false, 0⟩, some ⟨flatT ts, false, 0⟩, some ⟨[.slice (some ⟨0, 0, none⟩) l.length c, .slice (some ⟨1, 0, none⟩) ts.length c2], true, 0⟩]) ∨ (0 < (OX i).length ∧ t' = [jk, .pointer (some ⟨2, 0, none⟩), jk, .slice (some ⟨3, 0, none⟩) ((OX i).length) INF, .int .i64 (i), jk, jk, jk, jk, jk, jk, jk, jk, jk, jk, jk, jk, jk, jk, jk, jk, jk, jk, jk, jk, jk, jk, jk, jk, jk, jk, jk, jk, jk, jk, jk, jk, jk, jk, jk, jk, jk, jk] ∧ m = [some ⟨flatP l, false, 0⟩, some ⟨flatT ts, false, 0⟩, some ⟨[.slice (some ⟨0, 0, none⟩) l.length c, .slice (some ⟨1, 0, none⟩) ts.length c2], true, 0⟩, some ⟨flatP (OX i), true, 2⟩]))) (l.length) (by exact ⟨0, rfl, Nat.zero_le _, .inl ⟨a5, rfl, rfl⟩⟩) ?_); (rintro n' t' m ⟨i, rfl, hi, (⟨hi0, rfl, rfl⟩ | ⟨hi1, rfl, rfl⟩)⟩)) | ((refine AW.block (id := 2) ?_); (refine AW.fk [1, 3, 4, 5] ?_); (refine AW.loop (fun n' t' m => ∃ k : Nat, n' = l.length - k ∧ i < k ∧ k ≤ l.length ∧ ((RK i k = [] ∧ t' = [jk, .pointer (some ⟨2, 0, none⟩), jk, .slice none 0 0, .int .i64 (i), .int .i64 (k), jk, jk, jk, jk, jk, jk, jk, jk, jk, jk, jk, jk, jk, jk, jk, jk, jk, jk, jk, jk, jk, jk, jk, jk, jk, jk, jk, jk, jk, jk, jk, jk, jk, jk, jk, jk, jk] ∧ m = [some ⟨flatP l, false, 0⟩, some ⟨flatT ts, false, 0⟩, some ⟨[.slice (some ⟨0, 0, none⟩) l.length c, .slice (some ⟨1, 0, none⟩) ts.length c2], true, 0⟩]) ∨ (0 < (RK i k).length ∧ t' = [jk, .pointer (some ⟨2, 0, none⟩), jk, .slice (some ⟨3, 0, none⟩) ((RK i k).length) INF, .int .i64 (i), .int .i64 (k), jk, jk, jk, jk, jk, jk, jk, jk, jk, jk, jk, jk, jk, jk, jk, jk, jk, jk, jk, jk, jk, jk, jk, jk, jk, jk, jk, jk, jk, jk, jk, jk, jk, jk, jk, jk, jk] ∧ m = [some ⟨flatP l, false, 0⟩, some ⟨flatT ts, false, 0⟩, some ⟨[.slice (some ⟨0, 0, none⟩) l.length c, .slice (some ⟨1, 0, none⟩) ts.length c2], true, 0⟩, some ⟨flatP (RK i k), true, 2⟩]))) (l.length - (i + 1)) (by first | exact ⟨i + 1, rfl, by omega, by omega, .inl ⟨(a1 i).trans hi0, rfl, rfl⟩⟩ | exact ⟨i + 1, rfl, by omega, by omega, .inr ⟨by rw [a1 i]; exact hi1, by rw [a1 i]; rfl, by rw [a1 i]⟩⟩) ?_); (rintro n' t' m ⟨k, rfl, hik, hk, (⟨hk0, rfl, rfl⟩ | ⟨hk1, rfl, rfl⟩)⟩)) | refine AW.block ?_ | (refine AW.region (id := 8) ?_; ((have q7 := a7 i k (by omega) (by omega)))) | refine AW.region ?_ | (refine AW.conds rfl (fun hc => ?_) (fun hc => ?_) <;> (try replace hc := nc hc) <;> first | (exfalso; contradiction) | skip)) | ((with_reducible refine ex_on ?_); first | ((obtain rfl : k = l.length := (by omega); have q2 := a2 i (by omega); first | (refine ⟨l.length - (i + 1), _, _, by omega, ?_, i + 1, rfl, by omega, .inl ⟨q2.symm.trans hk0, rfl, rfl⟩⟩; exact Wk.fk [1, 3, 4] rfl) | (rw [q2]; refine ⟨l.length - (i + 1), _, _, by omega, ?_, i + 1, rfl, by omega, .inr ⟨by rw [← q2]; exact hk1, rfl, rfl⟩⟩; exact Wk.fk [1, 3, 4] rfl))) | (first | (have q := a4 i k hik (by omega) (by omega); refine ⟨l.length - (k + 1), _, _, by omega, ?_, k + 1, rfl, by omega, by omega, .inl ⟨q.trans hk0, rfl, rfl⟩⟩; exact Wk.fk [1, 3, 4, 5] rfl) | (have q := a4 i k hik (by omega) (by omega); rw [← q]; refine ⟨l.length - (k + 1), _, _, by omega, ?_, k + 1, rfl, by omega, by omega, .inr ⟨by rw [q]; exact hk1, rfl, rfl⟩⟩; exact Wk.fk [1, 3, 4, 5] rfl) | (have q := a3 i k hik (by omega); rw [hk0, List.nil_append] at q; refine ⟨l.length - (k + 1), [jk, .pointer (some ⟨2, 0, none⟩), jk, .slice (some ⟨3, 0, none⟩) (1) INF, .int .i64 (i), .int .i64 (k + 1), jk, jk, jk, jk, jk, jk, jk, jk, jk, jk, jk, jk, jk, jk, jk, jk, jk, jk, jk, jk, jk, jk, jk, jk, jk, jk, jk, jk, jk, jk, jk, jk, jk, jk, jk, jk, jk], [some ⟨flatP l, false, 0⟩, some ⟨flatT ts, false, 0⟩, some ⟨[.slice (some ⟨0, 0, none⟩) l.length c, .slice (some ⟨1, 0, none⟩) ts.length c2], true, 0⟩, some ⟨[.int .i64 (i : Int), .int .i64 (k : Int)], true, 2⟩], by omega, ?_, k + 1, rfl, by omega, by omega, .inr ⟨by rw [q]; exact Nat.one_pos, by rw [q]; rfl, by rw [q]; rfl⟩⟩; exact Wk.keep 3 [4] (by rw [hE]; exact Nat.le_of_ble_eq_true rfl) rfl rfl (by repeat (first | exact RenT.nil | refine RenT.jk ?_ | refine RenT.val (by rfl) (by rfl) ?_)) ⟨⟨_, rfl, rfl, rfl, .inl ⟨rfl, flatP_scal l⟩⟩, ⟨_, rfl, rfl, rfl, .inl ⟨rfl, flatT_scal ts⟩⟩, ⟨_, rfl, rfl, rfl, .inr ⟨rfl, rfl⟩⟩, ⟨_, rfl, rfl, rfl, .inl ⟨rfl, rfl⟩⟩, trivial⟩) | (have q := a3 i k hik (by omega); refine ⟨l.length - (k + 1), [jk, .pointer (some ⟨2, 0, none⟩), jk, .slice (some ⟨3, 0, none⟩) ((RK i k).length + 1) INF, .int .i64 (i), .int .i64 (k + 1), jk, jk, jk, jk, jk, jk, jk, jk, jk, jk, jk, jk, jk, jk, jk, jk, jk, jk, jk, jk, jk, jk, jk, jk, jk, jk, jk, jk, jk, jk, jk, jk, jk, jk, jk, jk, jk], [some ⟨flatP l, false, 0⟩, some ⟨flatT ts, false, 0⟩, some ⟨[.slice (some ⟨0, 0, none⟩) l.length c, .slice (some ⟨1, 0, none⟩) ts.length c2], true, 0⟩, some ⟨flatP (RK i k) ++ [.int .i64 (i : Int), .int .i64 (k : Int)], true, 2⟩], by omega, ?_, k + 1, rfl, by omega, by omega, .inr ⟨by rw [q, List.length_append]; exact Nat.succ_pos _, by rw [q, List.length_append]; rfl, by rw [q, hsn]⟩⟩; exact Wk.keep 3 [5] (by rw [hE]; exact Nat.le_of_ble_eq_true rfl) rfl rfl (by repeat (first | exact RenT.nil | refine RenT.jk ?_ | refine RenT.val (by rfl) (by rfl) ?_)) ⟨⟨_, rfl, rfl, rfl, .inl ⟨rfl, flatP_scal l⟩⟩, ⟨_, rfl, rfl, rfl, .inl ⟨rfl, flatT_scal ts⟩⟩, ⟨_, rfl, rfl, rfl, .inr ⟨rfl, rfl⟩⟩, ⟨_, rfl, rfl, rfl, .inl ⟨rfl, by rw [List.all_append, flatP_scal]; rfl⟩⟩, trivial⟩))) | ((with_reducible refine FinA.on ?_); (obtain rfl : i = l.length := (by omega); first | (exfalso; rw [a6] at hi0; rw [hi0] at hpos; exact absurd hpos (by simp)) | (rw [a6]; refine FinA.keep 2 [3] (.inl rfl) (.tmp wl .nil) ?_ rfl (Nat.le_of_eq hE) rfl rfl ⟨⟨_, rfl, rfl, rfl, .inl ⟨rfl, flatP_scal l⟩⟩, ⟨_, rfl, rfl, rfl, .inl ⟨rfl, flatT_scal ts⟩⟩, ⟨_, rfl, rfl, rfl, .inl ⟨rfl, flatP_scal _⟩⟩, trivial⟩; rfl))))
end Go.Proofs.YtmohcmghbfhdlaaGreat
end
end
/- Chapter 6: the copy of a net in blocks, its edges, in a greater memory. -/
section
set_option linter.unusedSimpArgs false
set_option linter.unusedVariables false
section
namespace Go.Me
open Go.Ab Go.Proofs.YtmohcmghbfhdlaaGreat
theorem liB_le {l : List Pn} {ts : List T3} (h : liB l ts = true) : l.length ≤ 1000 ∧ ts.length ≤ 1000 := by
  unfold liB fwB fwT at h
  rw [Bool.and_eq_true, decide_eq_true_iff, decide_eq_true_iff] at h
  omega
end Go.Me
namespace Go.Proofs.YtmohcmghbfhdlaaGreat
open Go Go.RowKit Go.Ab Go.Me
set_option maxRecDepth 100000
theorem Copy_y {m : Mem} {i j : Nat} {A B : Blk} {l : List Pn} {ts : List T3} (hij : i ≠ j) (h0 : 0 < l.length) (h1 : 0 < ts.length) (hl : l.length ≤ 1000000) (ht : ts.length ≤ 1000000) (a1 : m.at i = some A) (a2 : A.cells = flatP l) (b1 : m.at j = some B) (b2 : B.cells = flatT ts) (a3 : A.obj = Ob.plain) (b3 : B.obj = Ob.plain) :
    ACalls Tryz.prog 15 [.agg #[.slice (some ⟨i, 0, none⟩) l.length INF, .slice (some ⟨j, 0, none⟩) ts.length INF]] m (.agg #[.slice (some ⟨m.length, 0, none⟩) l.length INF, .slice (some ⟨m.length + 1, 0, none⟩) ts.length INF]) (m ++ cpM l ts) := by
  have h := Copy_g hij (.blk A h0 rfl a1 a2 a3) (.blk B h1 rfl b1 b2 b3) hl ht
  unfold cpV at h
  rw [show cpC l.length = INF from if_neg (by omega), show cpC ts.length = INF from if_neg (by omega)] at h
  exact h
end Go.Proofs.YtmohcmghbfhdlaaGreat
end
end
/- Chapter 6: edges and sides in a greater memory; those of a wrong net. -/
section
set_option linter.unusedSimpArgs false
set_option linter.unusedVariables false
section
namespace Go.Proofs.YtmohcmghbfhdlaaGreat
open Go Go.RowKit Go.Ab Go.Me
set_option maxRecDepth 100000
set_option maxHeartbeats 4000000
theorem rEdges_q {m : Mem} {bP bT : Nat} {A B : Blk} (l : List Pn) (ts : List T3) (hR : NetR l ts) (c c2 : Nat) (hne : bP ≠ bT) (a1 : m.at bP = some A) (a2 : A.cells = flatP l) (b1 : m.at bT = some B) (b2 : B.cells = flatT ts) (a3 : A.obj = Ob.plain) (b3 : B.obj = Ob.plain) (a4 : A.esz = 0) (b4 : B.esz = 0) :
    ACalls Tryz.prog 31 [.agg #[.slice (some ⟨bP, 0, none⟩) l.length c, .slice (some ⟨bT, 0, none⟩) ts.length c2]] m (.slice (some ⟨m.length, 0, none⟩) (edL ts).length INF) (m ++ [some ⟨flatP (edL ts), true, 2⟩]) := by
  have h := ACalls.viaS (m := m) (args := [.agg #[.slice (some ⟨bP, 0, none⟩) l.length c, .slice (some ⟨bT, 0, none⟩) ts.length c2]]) (v := .slice (some ⟨m.length, 0, none⟩) (edL ts).length INF) [bP, bT] [] [some ⟨flatP (edL ts), true, 2⟩] (rEdges_0 l ts hR c c2) ⟨⟨_, a1, by unfold Blk.shp Blk.shpR; rw [a3, a4]; rfl, (fun h => nomatch h), .inl ⟨a2, flatP_scal _⟩⟩, ⟨_, b1, by unfold Blk.shp Blk.shpR; rw [b3, b4]; rfl, (fun h => nomatch h), .inl ⟨b2, flatT_scal _⟩⟩, trivial⟩ (by simpa using hne) ⟨⟨_, rfl, rfl⟩, ⟨_, rfl, rfl⟩, ⟨rfl, rfl, rfl, .inl ⟨rfl, flatP_scal _⟩⟩, trivial⟩ rfl rfl rfl rfl
  exact h
end Go.Proofs.YtmohcmghbfhdlaaGreat
end
end
/- Chapter 6: the reference's sums around a triangle, differences and closures. -/
section
set_option linter.unusedSimpArgs false
set_option linter.unusedVariables false
section
namespace Go.Me
open Go.Ab Go.Proofs.YtmohcmghbfhdlaaGreat
end Go.Me
namespace Go.Proofs.YtmohcmghbfhdlaaGreat
open Go Go.RowKit Go.Ab Go.Me
set_option maxRecDepth 100000
set_option maxHeartbeats 4000000
attribute [local irreducible] OQ OW AL AW AF SW
end Go.Proofs.YtmohcmghbfhdlaaGreat
end
end
/- Chapter 6: the reference's closures; the error of a net and phases of any form. -/
section
set_option linter.unusedSimpArgs false
set_option linter.unusedVariables false
section
namespace Go.Me
open Go.Ab Go.Ls Go.Proofs.YtmohcmghbfhdlaaGreat
theorem ro_bl3 (a b c : List Value) : Mem.ro [blX a, blX b, blX c] := fun k blk hk => by
  match k, hk with
  | 0, hk => exact blX_ro a _ hk
  | 1, hk => exact blX_ro b _ hk
  | 2, hk => exact blX_ro c _ hk
end Go.Me
namespace Go.Proofs.YtmohcmghbfhdlaaGreat
open Go Go.RowKit Go.Ab Go.Me
set_option maxRecDepth 100000
set_option maxHeartbeats 4000000
attribute [local irreducible] OQ OW AL AW AF SW
end Go.Proofs.YtmohcmghbfhdlaaGreat
end
end
/- Chapter 6: the reference's errors of turns, and the first triangle that turns do not close. -/
section
set_option linter.unusedSimpArgs false
set_option linter.unusedVariables false
section
namespace Go.Me
open Go.Ab Go.Proofs.YtmohcmghbfhdlaaGreat
end Go.Me
namespace Go.Proofs.YtmohcmghbfhdlaaGreat
open Go Go.RowKit Go.Ab Go.Me
set_option maxRecDepth 100000
set_option maxHeartbeats 4000000
attribute [local irreducible] OQ OW AL AW AF SW
end Go.Proofs.YtmohcmghbfhdlaaGreat
end
end
/- Chapter 6 in plain Lean: nets: sums over directed edges; what is left is the border; a border goes round the hull a whole number of times. -/
section
set_option linter.unusedSimpArgs false
set_option linter.unusedVariables false
namespace Go.Me
def su {α : Type} (l : List α) (f : α → Int) : Int := (l.map f).sum
section
variable {α β : Type}
theorem su_nil (f : α → Int) : su [] f = 0 := rfl
theorem su_cons (a : α) (l : List α) (f : α → Int) : su (a :: l) f = f a + su l f := rfl
theorem su_app (l k : List α) (f : α → Int) : su (l ++ k) f = su l f + su k f := by
  induction l with
  | nil => rw [List.nil_append, su_nil]; omega
  | cons a l ih => rw [List.cons_append, su_cons, su_cons, ih]; omega
theorem su_add (l : List α) (f g : α → Int) : su l (fun a => f a + g a) = su l f + su l g := by
  induction l with
  | nil => rfl
  | cons a l ih => rw [su_cons, su_cons, su_cons, ih]; omega
theorem su_sub (l : List α) (f g : α → Int) : su l (fun a => f a - g a) = su l f - su l g := by
  induction l with
  | nil => rfl
  | cons a l ih => rw [su_cons, su_cons, su_cons, ih]; omega
theorem su_neg (l : List α) (f : α → Int) : su l (fun a => -f a) = -su l f := by
  induction l with
  | nil => rfl
  | cons a l ih => rw [su_cons, su_cons, ih]; omega
theorem su_mul (c : Int) (l : List α) (f : α → Int) : su l (fun a => c * f a) = c * su l f := by
  induction l with
  | nil => simp [su_nil]
  | cons a l ih => rw [su_cons, su_cons, ih, Int.mul_add]
theorem su_zero (l : List α) : su l (fun _ => 0) = 0 := by
  induction l with
  | nil => rfl
  | cons a l ih => rw [su_cons, ih]; rfl
theorem su_congr {l : List α} {f g : α → Int} (h : ∀ a ∈ l, f a = g a) : su l f = su l g := by
  unfold su
  rw [List.map_congr_left h]
theorem su_nn {l : List α} {f : α → Int} (h : ∀ a ∈ l, 0 ≤ f a) : 0 ≤ su l f := by
  induction l with
  | nil => exact Int.le_refl _
  | cons a l ih =>
    have h1 := h a (by simp)
    have h2 := ih fun x hx => h x (by simp [hx])
    rw [su_cons]
    omega
theorem su_mem {l : List α} {f : α → Int} (h : ∀ a ∈ l, 0 ≤ f a) {a : α} (ha : a ∈ l) : f a ≤ su l f := by
  induction l with
  | nil => simp at ha
  | cons b l ih =>
    have h1 := h b (by simp)
    have h2 := su_nn (l := l) (f := f) fun x hx => h x (by simp [hx])
    rw [su_cons]
    rcases List.mem_cons.1 ha with rfl | ha
    · omega
    · have := ih (fun x hx => h x (by simp [hx])) ha
      omega
theorem su_perm {l k : List α} (h : l.Perm k) (f : α → Int) : su l f = su k f := by
  induction h with
  | nil => rfl
  | cons a _ ih => rw [su_cons, su_cons, ih]
  | swap a b l => rw [su_cons, su_cons, su_cons, su_cons]; omega
  | trans _ _ h1 h2 => rw [h1, h2]
theorem su_map (l : List α) (g : α → β) (f : β → Int) : su (l.map g) f = su l (fun a => f (g a)) := by
  unfold su
  rw [List.map_map]
  rfl
theorem su_flat (l : List α) (g : α → List β) (f : β → Int) : su (l.flatMap g) f = su l fun a => su (g a) f := by
  induction l with
  | nil => rfl
  | cons a l ih => rw [List.flatMap_cons, su_app, su_cons, ih]
theorem su_filter (l : List α) (p : α → Bool) (f : α → Int) : su l f = su (l.filter p) f + su (l.filter fun a => !p a) f := by
  induction l with
  | nil => rfl
  | cons a l ih =>
    rw [su_cons, ih]
    cases hp : p a
    · rw [List.filter_cons_of_neg (by simp [hp]), List.filter_cons_of_pos (by simp [hp]), su_cons]; omega
    · rw [List.filter_cons_of_pos (by simp [hp]), List.filter_cons_of_neg (by simp [hp]), su_cons]; omega
theorem su_comm (l : List α) (k : List β) (f : α → β → Int) : su l (fun a => su k fun b => f a b) = su k fun b => su l fun a => f a b := by
  induction l with
  | nil => rw [su_nil]; exact (su_zero k).symm
  | cons a l ih => rw [su_cons, ih, ← su_add]; rfl
end
abbrev Ed := Nat × Nat
def sw (e : Ed) : Ed := (e.2, e.1)
theorem sw_sw (e : Ed) : sw (sw e) = e := rfl
def Anti (g : Ed → Int) : Prop := ∀ e, g (sw e) = -g e
theorem nodup_map_sw {l : List Ed} (h : l.Nodup) : (l.map sw).Nodup := by
  refine List.Pairwise.map _ (fun a b hab hs => hab ?_) h
  have := congrArg sw hs
  exact this
theorem su_anti {l : List Ed} (hn : l.Nodup) (hs : ∀ e ∈ l, sw e ∈ l) {g : Ed → Int} (hg : Anti g) : su l g = 0 := by
  have hp : (l.map sw).Perm l := (List.perm_ext_iff_of_nodup (nodup_map_sw hn) hn).2 fun e => by
    constructor
    · intro h
      obtain ⟨x, hx, rfl⟩ := List.mem_map.1 h
      exact hs x hx
    · intro h
      exact List.mem_map.2 ⟨sw e, hs e h, sw_sw e⟩
  have h1 := su_perm hp g
  rw [su_map, show (fun a => g (sw a)) = fun a => -g a from funext hg, su_neg] at h1
  omega
def bd (l : List Ed) : List Ed := l.filter fun e => !l.contains (sw e)
theorem bd_mem {l : List Ed} {e : Ed} : e ∈ bd l ↔ e ∈ l ∧ sw e ∉ l := by
  unfold bd
  simp
theorem su_bd {l : List Ed} (hn : l.Nodup) {g : Ed → Int} (hg : Anti g) : su l g = su (bd l) g := by
  rw [su_filter l (fun e => !l.contains (sw e)) g]
  have : su (l.filter fun e => !(!l.contains (sw e))) g = 0 := by
    refine su_anti (hn.filter _) (fun e he => ?_) hg
    simp only [Bool.not_not, List.mem_filter, List.contains_iff_mem] at he ⊢
    exact ⟨he.2, by rw [sw_sw]; exact he.1⟩
  rw [this]
  unfold bd
  omega
abbrev Tri := Nat × Nat × Nat
def ed3 (t : Tri) : List Ed := [(t.1, t.2.1), (t.2.1, t.2.2), (t.2.2, t.1)]
def edT (ts : List Tri) : List Ed := ts.flatMap ed3
theorem su_ed3 (t : Tri) (f : Ed → Int) : su (ed3 t) f = f (t.1, t.2.1) + (f (t.2.1, t.2.2) + f (t.2.2, t.1)) := by
  show f (t.1, t.2.1) + (f (t.2.1, t.2.2) + (f (t.2.2, t.1) + 0)) = _
  omega
theorem su_grad (ts : List Tri) (f : Nat → Int) : su (edT ts) (fun e => f e.1 - f e.2) = 0 := by
  unfold edT
  rw [su_flat]
  rw [su_congr (g := fun _ => 0) fun t _ => by rw [su_ed3]; show f t.1 - f t.2.1 + (f t.2.1 - f t.2.2 + (f t.2.2 - f t.1)) = 0; omega]
  exact su_zero ts
def Bal (l : List Ed) : Prop := ∀ f : Nat → Int, su l (fun e => f e.1 - f e.2) = 0
theorem bal_bd {ts : List Tri} (hn : (edT ts).Nodup) : Bal (bd (edT ts)) := fun f => by
  rw [← su_bd hn fun e => by show f e.2 - f e.1 = -(f e.1 - f e.2); omega]
  exact su_grad ts f
end Go.Me
end
/- Chapter 6: all closures together (plain). -/
section
set_option linter.unusedSimpArgs false
set_option linter.unusedVariables false
namespace Go.Me
open Go.Ab Go.Proofs.YtmohcmghbfhdlaaGreat
set_option maxRecDepth 100000
theorem lk_at {e : IE} {v : Int} : ∀ {L : List (IE × Int)}, (L.map (·.1)).Nodup → (e, v) ∈ L → lk L e = v
  | [], _, h => by cases h
  | p :: r, hn, hm => by
    rw [List.map_cons, List.nodup_cons] at hn
    rw [lk_cons]
    by_cases he : p.1 = e
    · rw [if_pos he]
      rcases List.mem_cons.1 hm with rfl | hm
      · rfl
      · exact absurd (he ▸ List.mem_map_of_mem (f := (·.1)) hm) hn.1
    · rw [if_neg he]
      rcases List.mem_cons.1 hm with rfl | hm
      · exact absurd rfl he
      · exact lk_at hn.2 hm
theorem lk_tri {l : List Pn} {ts : List T3} (h : NetR l ts) {e : IE} {i : Nat} (hi : i < ts.length) : lk (lfA ts) e = i ↔ isE (tr ts i) e := by
  constructor
  · intro h1
    have h2 : e ∈ (lfA ts).map (·.1) := Classical.not_not.1 fun h2 => by
      have := (lk_no h).2 h2
      omega
    obtain ⟨j, h3, h4, h5⟩ := (lf_tri _).1 (lk_mem h2)
    obtain rfl : j = i := by
      have : ((j : Nat) : Int) = i := h4.symm.trans h1
      omega
    exact h5
  · intro h1
    exact lk_at h.ok.nd ((lf_tri _).2 ⟨i, hi, rfl, h1⟩)
end Go.Me
end
