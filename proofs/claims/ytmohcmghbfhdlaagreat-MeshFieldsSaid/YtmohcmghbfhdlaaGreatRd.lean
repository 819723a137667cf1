/- Chapter 6: fields of turns (the reference's). -/
import Derived.Test.YtmohcmghbfhdlaaGreatQd
import Derived.Test.YtmohcmghbfhdlaaGreatRc
import Derived.Test.YtmohcmghbfhdlaaGreatQt
import Derived.Test.YtmohcmghbfhdlaaGreatQe
import Derived.Test.YtmohcmghbfhdlaaGreatRa
import Derived.Test.YtmohcmghbfhdlaaGreatQy
section
set_option linter.unusedSimpArgs false
set_option linter.unusedVariables false
section
namespace Go.Me
open Go.Ab Go.Proofs.YtmohcmghbfhdlaaGreat
def flatB (n : Nat) (u : List Int) : List Value := (List.range n).map fun i => .bool (decide (((i : Nat) : Int) ∈ u))
theorem flatB_len (n : Nat) (u : List Int) : (flatB n u).length = n := by unfold flatB; rw [List.length_map, List.length_range]
theorem flatB_scal (n : Nat) (u : List Int) : (flatB n u).all Ab.scal = true := by
 rw [List.all_eq_true]
 intro x hx
 unfold flatB at hx
 obtain ⟨i, _, rfl⟩ := List.mem_map.1 hx
 rfl
theorem flatB_get {n : Nat} {u : List Int} {x : Int} (h0 : 0 ≤ x) (h1 : x < n) : (flatB n u)[x.toNat]? = some (.bool (decide (x ∈ u))) := by
 unfold flatB
 rw [List.getElem?_map, List.getElem?_range (by omega)]
 simp only [Option.map_some]
 rw [show ((x.toNat : Nat) : Int) = x by omega]
theorem flatB_T {n : Nat} {u : List Int} {x : Int} (h0 : 0 ≤ x) (h1 : x < n) (h : x ∈ u) : (flatB n u)[x.toNat]? = some (.bool true) := by rw [flatB_get h0 h1, decide_eq_true h]
theorem flatB_F {n : Nat} {u : List Int} {x : Int} (h0 : 0 ≤ x) (h1 : x < n) (h : x ∉ u) : (flatB n u)[x.toNat]? = some (.bool false) := by rw [flatB_get h0 h1, decide_eq_false h]
theorem flatB_set {n : Nat} {u : List Int} {x : Int} (h0 : 0 ≤ x) : (flatB n u).set x.toNat (.bool true) = flatB n (u ++ [x]) := by
 refine List.ext_getElem? fun i => ?_
 unfold flatB
 rw [List.getElem?_set, List.length_map, List.length_range, List.getElem?_map, List.getElem?_map]
 by_cases hi : i < n
 ·rw [List.getElem?_range hi]
  simp only [Option.map_some, List.mem_append, List.mem_singleton]
  by_cases he : x.toNat = i
  ·rw [if_pos he, if_pos (by omega), decide_eq_true (.inr (by omega))]
  ·rw [if_neg he]
   congr 2
   have : ¬ ((i : Int) = x) := by omega
   simp [this]
 ·rw [List.getElem?_eq_none (by rw [List.length_range]; omega)]
  split
  ·rw [if_neg (by omega)]; rfl
  ·rfl
theorem flatB_0 {n : Nat} {f : Nat → Value} (hn : 0 < n) (hf : ∀ i, f i = .bool false) : flatB n [0] = ((List.range n).map f).set 0 (.bool true) := by
 have h := flatB_set (n := n) (u := []) (x := 0) (Int.le_refl _)
 rw [List.nil_append] at h
 rw [← h]
 congr 1
 unfold flatB
 refine List.map_congr_left fun i _ => ?_
 rw [hf]
 simp
theorem fdp_ok {n : Nat} {ph : List Int} (hn : 0 < n) (hl : ph.length = n) (hb : ∀ k, k < ph.length → -2048 ≤ nt ph k ∧ nt ph k ≤ 2047) : FdOk n (ph, [0]) := by
 refine ⟨hl, by simp, fun k hk => ?_, fun i hi => ?_⟩
 ·simp only [List.mem_singleton] at hk
  omega
 ·have := hb i (by omega)
  simp only [List.length_cons, List.length_nil]
  omega
end Go.Me
namespace Go.Proofs.YtmohcmghbfhdlaaGreat
open Go Go.RowKit Go.Ab Go.Me
set_option maxRecDepth 100000
set_option maxHeartbeats 4000000
attribute [local irreducible] OQ OW AL AW AF SW
theorem rField_0 (l : List Pn) (ts : List T3) (hR : NetR l ts) (ph xs : List Int) (hph : phE l ph = 0) (htu : tuR ts xs = 0) (c c2 c4 z z3 : Nat) :
  ACalls Tryz.prog 21 [.agg #[.slice (some ⟨0, 0, none⟩) l.length c, .slice (some ⟨1, 0, none⟩) ts.length c2], .slice (some ⟨2, 0, none⟩) ph.length INF, .slice (some ⟨3, 0, none⟩) xs.length c4] [some ⟨flatP l, false, 0⟩, some ⟨flatT ts, false, 0⟩, some ⟨flatN ph, false, z⟩, some ⟨flatN xs, false, z3⟩]
   (.slice (some ⟨4, 0, none⟩) ph.length INF) [some ⟨flatP l, false, 0⟩, some ⟨flatT ts, false, 0⟩, some ⟨flatN ph, false, z⟩, some ⟨flatN xs, false, z3⟩, some ⟨flatN (fdN (dfL ts ph) xs (edL ts) (ph, [0]) ph.length).1, true, 1⟩] := by
 obtain ⟨hxl, hxa⟩ := tuR_0 htu
 have hxb := anyR_no hxa
 have hdl := dfL_len ts ph
 have hdb := dfL_bd ts ph
 obtain ⟨hpl, hpb⟩ := phE_0 hph
 have h40 := (cp_ok hR.cp).1
 have he := fun k hk => edL_at hR.ok k hk
 have hle2 := edL_le ts
 have h80 := hR.le
 have hpos : 0 < l.length := by
  have h1 := edL_pos hR
  have h2 := he 0 (by omega)
  omega
 have hd : ∀ k, k < (edL ts).length → -411648 ≤ fdD (dfL ts ph) xs k ∧ fdD (dfL ts ph) xs k ≤ 411648 := fun k hk => by
  have h1 := hdb k (by omega)
  have h2 := hxb k (by omega)
  unfold fdD
  omega
 have hok := fun r k hk => fdS_ok (s := (ph, [0])) he hd (fdp_ok hpos hpl hpb) r k hk
 have hle := fun r k hk => (hok r k hk).le
 have hrE := fun (m : Mem) (A B : Blk) (a1 : m.at 0 = some A) (a2 : A.cells = flatP l) (b1 : m.at 1 = some B) (b2 : B.cells = flatT ts) (a3 : A.obj = Ob.plain) (b3 : B.obj = Ob.plain) (a4 : A.esz = 0) (b4 : B.esz = 0) => rEdges_q l ts hR c c2 (by decide) a1 a2 b1 b2 a3 b3 a4 b4
 have hrD := fun (m : Mem) (A B X : Blk) (a1 : m.at 0 = some A) (a2 : A.cells = flatP l) (b1 : m.at 1 = some B) (b2 : B.cells = flatT ts) (x1 : m.at 2 = some X) (x2 : X.cells = flatN ph) (a3 : A.obj = Ob.plain) (b3 : B.obj = Ob.plain) (x3 : X.obj = Ob.plain) (a4 : A.esz = 0) (b4 : B.esz = 0) => rDifferences_q (n := l.length) l ts hR ph hph c c2 INF (by decide) a1 a2 b1 b2 x1 x2 hpl a3 b3 x3 a4 b4
 have hI : ∀ (m : Mem) (A : Blk) (a1 : m.at 2 = some A) (a2 : A.cells = flatN ph) (a3 : A.obj = Ob.plain), ACalls Tryz.prog 16 [.slice (some ⟨2, 0, none⟩) ph.length INF] m (.slice (some ⟨m.length, 0, none⟩) ph.length INF) (m ++ [some ⟨flatN ph, true, 1⟩]) := fun m A a1 a2 a3 => by
  have h := CopyInts_g (m := m) (i := 2) (.blk A (by omega) rfl a1 a2 a3) (by omega)
  rw [show cpC ph.length = INF from if_neg (by omega)] at h
  exact h
 have hS0 : fdS (dfL ts ph) xs (edL ts) (ph, [0]) 0 0 = (ph, [0]) := rfl
 have hSe : ∀ r, fdS (dfL ts ph) xs (edL ts) (ph, [0]) (r + 1) 0 = fdS (dfL ts ph) xs (edL ts) (ph, [0]) r (edL ts).length := fun r => rfl
 have hSs : ∀ r k, fdS (dfL ts ph) xs (edL ts) (ph, [0]) r (k + 1) = fdSt (dfL ts ph) xs (pt (edL ts) k) k (fdS (dfL ts ph) xs (edL ts) (ph, [0]) r k) := fun r k => rfl
 change ACalls _ _ _ _ _ [_, _, _, _, some ⟨flatN (fdS (dfL ts ph) xs (edL ts) (ph, [0]) ph.length 0).1, true, 1⟩]
 have hgE : ∀ k, k < (edL ts).length → (flatP (edL ts))[k * 2]? = some (.int .i64 (pt (edL ts) k).x) ∧ (flatP (edL ts))[k * 2 + 1]? = some (.int .i64 (pt (edL ts) k).y) := fun k hk => flatP_get (edL ts) k hk
 have hgD : ∀ k, k < (edL ts).length → (flatN (dfL ts ph))[k]? = some (.int .i64 (nt (dfL ts ph) k)) := fun k hk => flatN_get _ k (by omega)
 have hgX : ∀ k, k < (edL ts).length → (flatN xs)[k]? = some (.int .i64 (nt xs k)) := fun k hk => flatN_get _ k (by omega)
 have hSa : ∀ r k, (pt (edL ts) k).x ∈ (fdS (dfL ts ph) xs (edL ts) (ph, [0]) r k).2 → (pt (edL ts) k).y ∉ (fdS (dfL ts ph) xs (edL ts) (ph, [0]) r k).2 → flatN (fdS (dfL ts ph) xs (edL ts) (ph, [0]) r (k + 1)).1 = (flatN (fdS (dfL ts ph) xs (edL ts) (ph, [0]) r k).1).set (pt (edL ts) k).y.toNat (.int .i64 (nt (fdS (dfL ts ph) xs (edL ts) (ph, [0]) r k).1 (pt (edL ts) k).x.toNat + (nt (dfL ts ph) k + 4096 * nt xs k))) ∧ (fdS (dfL ts ph) xs (edL ts) (ph, [0]) r (k + 1)).2 = (fdS (dfL ts ph) xs (edL ts) (ph, [0]) r k).2 ++ [(pt (edL ts) k).y] := fun r k h1 h2 => by
  rw [hSs, fdSt_a h1 h2]
  exact ⟨flatN_set _ _ _, rfl⟩
 have hSb : ∀ r k, (pt (edL ts) k).y ∈ (fdS (dfL ts ph) xs (edL ts) (ph, [0]) r k).2 → (pt (edL ts) k).x ∉ (fdS (dfL ts ph) xs (edL ts) (ph, [0]) r k).2 → flatN (fdS (dfL ts ph) xs (edL ts) (ph, [0]) r (k + 1)).1 = (flatN (fdS (dfL ts ph) xs (edL ts) (ph, [0]) r k).1).set (pt (edL ts) k).x.toNat (.int .i64 (nt (fdS (dfL ts ph) xs (edL ts) (ph, [0]) r k).1 (pt (edL ts) k).y.toNat - (nt (dfL ts ph) k + 4096 * nt xs k))) ∧ (fdS (dfL ts ph) xs (edL ts) (ph, [0]) r (k + 1)).2 = (fdS (dfL ts ph) xs (edL ts) (ph, [0]) r k).2 ++ [(pt (edL ts) k).x] := fun r k h1 h2 => by
  rw [hSs, fdSt_b h1 h2]
  exact ⟨flatN_set _ _ _, rfl⟩
 have hSc : ∀ r k, ((pt (edL ts) k).x ∈ (fdS (dfL ts ph) xs (edL ts) (ph, [0]) r k).2 ↔ (pt (edL ts) k).y ∈ (fdS (dfL ts ph) xs (edL ts) (ph, [0]) r k).2) → fdS (dfL ts ph) xs (edL ts) (ph, [0]) r (k + 1) = fdS (dfL ts ph) xs (edL ts) (ph, [0]) r k := fun r k h1 => by
  rw [hSs, fdSt_c h1]
 clear hSs hd
 generalize fdS (dfL ts ph) xs (edL ts) (ph, [0]) = S at *
 have hgO : ∀ r k i, k ≤ (edL ts).length → i < l.length → (flatN (S r k).1)[i]? = some (.int .i64 (nt (S r k).1 i)) := fun r k i hk hi => flatN_get _ i (by rw [(hok r k hk).len]; exact hi)
 have hOl : ∀ r k, k ≤ (edL ts).length → (flatN (S r k).1).length = l.length := fun r k hk => by rw [flatN_len, (hok r k hk).len]
 have hBT : ∀ r k (x : Int), 0 ≤ x → x < l.length → x ∈ (S r k).2 → (flatB l.length (S r k).2)[x.toNat]? = some (.bool true) := fun r k x h0 h1 h => flatB_T h0 h1 h
 have hBF : ∀ r k (x : Int), 0 ≤ x → x < l.length → x ∉ (S r k).2 → (flatB l.length (S r k).2)[x.toNat]? = some (.bool false) := fun r k x h0 h1 h => flatB_F h0 h1 h
 have hBl : ∀ r k, (flatB l.length (S r k).2).length = l.length := fun r k => flatB_len _ _
 have hB0 : flatB l.length (S 0 0).2 = flatB l.length [0] := by rw [hS0]
 rw [hpl]
 rw [hpl] at hI
 refine ACalls.en 104 Tryz.func21 rfl rfl (fun E hE => ?_)
 repeat' (first | with_reducible (first | refine Then.n ?_ | refine Then.x ?_ | refine InB.n ?_ | refine InB.hit ?_) | ((with_reducible refine AL.on ?_); first | (refine AL.gd rfl ?_; (refine AL.gs1 rfl rfl (fun hc => ?_) (fun hc => ?_) <;> (try replace hc := nc hc) <;> first | (exfalso; contradiction) | refine AL.nm ?_)) | ((first | refine AL.mv ?_ | refine AL.as ?_ | ((with_reducible refine AL.k_load ?_); first | (refine AL.g (OQ.load1 (ty := 4) rfl kr (by first | (first | exact hBT _ _ _ (by omega) (by omega) (by assumption) | exact hBF _ _ _ (by omega) (by omega) (by assumption)) | (conv => lhs; whnf))) ?_) | (refine AL.g (OQ.load1 (ty := 3) rfl kr (by (exact hgO _ _ _ (by omega) (by omega)))) ?_)) | ((with_reducible refine AL.k_binOp ?_); first | refine AL.g (OQ.lss rfl rfl) ?_ | refine AL.g (OQ.addi rfl rfl (by omega)) ?_ | refine AL.g (OQ.subi rfl rfl (by omega)) ?_) | ((with_reducible refine AL.k_call ?_); first | refine AL.g (OQ.lenS (xt := 26) (r := (none, 1, false)) rfl kr) ?_ | refine AL.g (OQ.lenS (xt := 45) (r := (none, 2, true)) rfl kr) ?_) | ((with_reducible refine AL.k_unOp ?_); refine AL.g (OQ.not rfl) ?_) | ((with_reducible refine AL.k_pick ?_); first | refine AL.pT ?_ | refine AL.pF ?_)); refine AL.nm ?_) | ((first | refine AL.g (OQ.idxAddr (ty := 54) (z := 1) (g := false) rfl rfl kr (by omega) (by omega)) ?_ | refine AL.g (OQ.idxAddr (ty := 26) (z := 1) (g := false) rfl rfl kr (by omega) (by omega)) ?_); refine AL.nm ?_) | ((first | ((with_reducible refine AL.k_call ?_); first | refine AL.acall (g := 25) rfl kr rfl ((by exact hrD _ _ _ _ rfl rfl rfl rfl rfl rfl rfl rfl rfl rfl rfl)) ?_ | refine AL.acall (g := 16) rfl kr rfl ((by exact hI _ _ rfl rfl rfl)) ?_) | ((with_reducible refine AL.k_store ?_); first | (refine AL.w rfl (OW.store (ty := 4) (n := 1) rfl wl rfl rfl kr rfl rfl (by decide) rfl (by ((first | (simp only [List.length_set, hBl]; omega) | (simp; omega)))) (by intro r h; cases h)) ?_) | (refine AL.w rfl (OW.store (ty := 3) (n := 1) rfl wl rfl rfl kr rfl rfl (by decide) rfl (by (((simp only [List.length_set, hOl _ _ (Nat.le_of_lt hkl)]; omega)))) (by intro r h; cases h)) ?_)) | refine AL.bx ?_ | refine AL.w rfl (OW.makeSl (st := 54) (e := 4) (z := 1) (by' := 1) (zs := [.bool false]) rfl kr kr kr rfl rfl kr (by decide) (by omega) (by omega)) ?_); refine AL.nm ?_; refine AL.nM ?_) | refine AL.nil ?_) | ((with_reducible refine AW.on ?_); first | refine AW.seq ?_ | refine AW.skip ?_ | refine AW.exit ?_ | refine AW.ret ?_ | ((refine AW.block (id := 0) ?_); (refine AW.fk [1, 2, 7, 8, 9, 10, 11] ?_); (refine AW.wk (t' := [jk, .slice (some ⟨2, 0, none⟩) l.length INF, .slice (some ⟨3, 0, none⟩) xs.length c4, jk, jk, jk, jk, .slice (some ⟨5, 0, none⟩) ((edL ts).length) INF, .slice (some ⟨6, 0, none⟩) ((edL ts).length) INF, .slice (some ⟨7, 0, none⟩) (l.length) INF, .slice (some ⟨8, 0, none⟩) l.length l.length, .int .i64 (0), jk, jk, jk, jk, jk, jk, jk, jk, jk, jk, jk, jk, jk, jk, jk, jk, jk, jk, jk, jk, jk, jk, jk, jk, jk, jk, jk, jk, jk, jk, jk, jk, jk, jk, jk, jk, jk, jk, jk, jk, jk, jk, jk, jk, jk, jk, jk, jk, jk, jk, jk, jk, jk, jk, jk, jk, jk, jk, jk, jk, jk, jk, jk, jk, jk, jk, jk, jk, jk, jk, jk, jk, jk, jk, jk, jk, jk, jk, jk, jk, jk, jk, jk, jk, jk, jk, jk, jk, jk, jk, jk, jk, jk, jk, jk]) (m' := [some ⟨flatP l, false, 0⟩, some ⟨flatT ts, false, 0⟩, some ⟨flatN ph, false, z⟩, some ⟨flatN xs, false, z3⟩, some ⟨[.slice (some ⟨0, 0, none⟩) l.length c, .slice (some ⟨1, 0, none⟩) ts.length c2], true, 0⟩, some ⟨flatP (edL ts), true, 2⟩, some ⟨flatN (dfL ts ph), true, 1⟩, some ⟨flatN (S 0 0).1, true, 1⟩, some ⟨flatB l.length (S 0 0).2, true, 1⟩]) (Wk.keep 4 [4, 5, 6, 7, 8] (by rw [hE]; exact Nat.le_of_ble_eq_true rfl) rfl rfl (by repeat (first | exact RenT.nil | refine RenT.jk ?_ | refine RenT.val (by rfl) (by rfl) ?_)) ⟨kl rfl (flatP_scal l), kl rfl (flatT_scal ts), kl rfl (flatN_scal ph), kl rfl (flatN_scal xs), ki rfl, kl rfl (flatP_scal _), kl rfl (flatN_scal _), ⟨_, rfl, rfl, rfl, .inl ⟨by rw [hS0], flatN_scal _⟩⟩, ⟨_, rfl, rfl, rfl, .inl ⟨hB0.trans (flatB_0 hpos (fun i => by simp [Nat.mod_one])), flatB_scal _ _⟩⟩, trivial⟩) ?_); (refine AW.loop (fun n' t' m => ∃ r : Nat, n' = l.length - r ∧ r ≤ l.length ∧ t' = (mtz 107 0 [(1, .slice (some ⟨2, 0, none⟩) l.length INF), (2, .slice (some ⟨3, 0, none⟩) xs.length c4), (7, .slice (some ⟨5, 0, none⟩) ((edL ts).length) INF), (8, .slice (some ⟨6, 0, none⟩) ((edL ts).length) INF), (9, .slice (some ⟨7, 0, none⟩) (l.length) INF), (10, .slice (some ⟨8, 0, none⟩) l.length l.length), (11, .int .i64 (r))]) ∧ m = [some ⟨flatP l, false, 0⟩, some ⟨flatT ts, false, 0⟩, some ⟨flatN ph, false, z⟩, some ⟨flatN xs, false, z3⟩, some ⟨[.slice (some ⟨0, 0, none⟩) l.length c, .slice (some ⟨1, 0, none⟩) ts.length c2], true, 0⟩, some ⟨flatP (edL ts), true, 2⟩, some ⟨flatN (dfL ts ph), true, 1⟩, some ⟨flatN (S r 0).1, true, 1⟩, some ⟨flatB l.length (S r 0).2, true, 1⟩]) (l.length) (by exact ⟨0, rfl, Nat.zero_le _, rfl, rfl⟩) ?_); (rintro n' t' m ⟨r, rfl, hr, rfl, rfl⟩); (refine AW.nT ?_)) | ((refine AW.block (id := 2) ?_); (refine AW.fk [1, 2, 7, 8, 9, 10, 11, 12] ?_); (refine AW.loop (fun n' t' m => ∃ k : Nat, n' = (edL ts).length - k ∧ k ≤ (edL ts).length ∧ t' = (mtz 107 0 [(1, .slice (some ⟨2, 0, none⟩) l.length INF), (2, .slice (some ⟨3, 0, none⟩) xs.length c4), (7, .slice (some ⟨5, 0, none⟩) ((edL ts).length) INF), (8, .slice (some ⟨6, 0, none⟩) ((edL ts).length) INF), (9, .slice (some ⟨7, 0, none⟩) (l.length) INF), (10, .slice (some ⟨8, 0, none⟩) l.length l.length), (11, .int .i64 (r)), (12, .int .i64 (k))]) ∧ m = [some ⟨flatP l, false, 0⟩, some ⟨flatT ts, false, 0⟩, some ⟨flatN ph, false, z⟩, some ⟨flatN xs, false, z3⟩, some ⟨[.slice (some ⟨0, 0, none⟩) l.length c, .slice (some ⟨1, 0, none⟩) ts.length c2], true, 0⟩, some ⟨flatP (edL ts), true, 2⟩, some ⟨flatN (dfL ts ph), true, 1⟩, some ⟨flatN (S r k).1, true, 1⟩, some ⟨flatB l.length (S r k).2, true, 1⟩]) ((edL ts).length) (by exact ⟨0, rfl, Nat.zero_le _, rfl, rfl⟩) ?_); (rintro n' t' m ⟨k, rfl, hk, rfl, rfl⟩); (refine AW.nT ?_)) | refine AW.block ?_ | (refine AW.drawF (id := 1) 4 #[0, 1, 0, 0, 15, 31, 63] kr kr ?_; (conv => (arg 8; simp only [List.take_succ_cons, List.take_zero]))) | (refine AW.drawF (id := 11) 11 #[0, 0, 3, 7, 15, 0, 0, 96, 224, 480, 31, 2047] kr kr ?_; (conv => (arg 8; simp only [List.take_succ_cons, List.take_zero])); ((have hkl : k < (edL ts).length := (by omega); have hr2 := he k (by omega)))) | (refine AW.drawF (id := 12) 9 #[0, 0, 3, 7, 0, 0, 48, 112, 240, 511, 1023] kr kr ?_; (conv => (arg 8; simp only [List.take_succ_cons, List.take_zero])); ((have hq1 := hdb k (by omega); have hq2 := hxb k (by omega)))) | (refine AW.region (id := 13) ?_; ((rcases Classical.em ((pt (edL ts) k).x ∈ (S r k).2) with hxm | hxm <;> rcases Classical.em ((pt (edL ts) k).y ∈ (S r k).2) with hym | hym))) | (refine AW.region (id := 14) ?_; ((have hq3 := (hok r k (by omega)).bd (pt (edL ts) k).x.toNat (by omega); have hq4 := hle r k (by omega)))) | (refine AW.region (id := 16) ?_; ((have hq3 := (hok r k (by omega)).bd (pt (edL ts) k).y.toNat (by omega); have hq4 := hle r k (by omega)))) | refine AW.region ?_ | (refine AW.conds rfl (fun hc => ?_) (fun hc => ?_) <;> (try replace hc := nc hc) <;> first | (exfalso; contradiction) | skip)) | ((with_reducible refine AF.on ?_); first | ((first | ((with_reducible refine AF.k_move ?_); (refine AF.q 0 (SW.q (OQ.move wl) rfl) ?_)) | ((with_reducible refine AF.k_indexAddr ?_); first | refine AF.q 0 (SW.q (OQ.idxAddr (ty := 45) (z := 2) (g := true) rfl rfl kr (by omega) (by omega)) rfl) ?_ | refine AF.q 0 (SW.q (OQ.idxPtr (ty := 52) (n := 1) (l := 2) (g := false) rfl rfl kr (by omega) (by omega)) rfl) ?_ | refine AF.q 0 (SW.q (OQ.idxAddr (ty := 26) (z := 1) (g := false) rfl rfl kr (by omega) (by omega)) rfl) ?_) | ((with_reducible refine AF.k_assign ?_); (refine AF.q 0 (SW.q (OQ.assign wl) rfl) ?_)) | ((with_reducible refine AF.k_load ?_); first | refine AF.ql rfl (SW.q (OQ.loadN (ty := 25) (n := 2) rfl kr kr (by rfl)) rfl) ?_ | (refine AF.ql rfl (SW.q (OQ.load1 (ty := 3) rfl kr (by (first | exact (hgE k (by omega)).1 | exact (hgE k (by omega)).2 | exact hgD k (by omega) | exact hgX k (by omega)))) rfl) ?_)) | ((with_reducible refine AF.k_binOp ?_); refine AF.q 0 (SW.q (OQ.muli rfl rfl (by omega)) rfl) ?_)); refine AF.nm ?_) | ((refine AF.n1 2 (SW.acall (g := 31) rfl kr rfl ((by exact hrE _ _ _ rfl rfl rfl rfl rfl rfl rfl rfl)) rfl) rfl ?_); refine AF.nm ?_; (conv => (arg 10; try tactic => exact nrmF))) | refine AF.nl ?_) | ((with_reducible refine ex_on ?_); first | ((obtain rfl : k = (edL ts).length := (by omega); refine ⟨l.length - (r + 1), _, _, by omega, ?_, r + 1, rfl, by omega, rfl, by rw [hSe r]⟩; exact Wk.fk [1, 2, 7, 8, 9, 10, 11] rfl)) | (first | (have hs := hSc r k (iff_of_true hxm hym); refine ⟨(edL ts).length - (k + 1), [jk, .slice (some ⟨2, 0, none⟩) l.length INF, .slice (some ⟨3, 0, none⟩) xs.length c4, jk, jk, jk, jk, .slice (some ⟨5, 0, none⟩) ((edL ts).length) INF, .slice (some ⟨6, 0, none⟩) ((edL ts).length) INF, .slice (some ⟨7, 0, none⟩) (l.length) INF, .slice (some ⟨8, 0, none⟩) l.length l.length, .int .i64 (r), .int .i64 (((k + 1 : Nat) : Int)), jk, jk, jk, jk, jk, jk, jk, jk, jk, jk, jk, jk, jk, jk, jk, jk, jk, jk, jk, jk, jk, jk, jk, jk, jk, jk, jk, jk, jk, jk, jk, jk, jk, jk, jk, jk, jk, jk, jk, jk, jk, jk, jk, jk, jk, jk, jk, jk, jk, jk, jk, jk, jk, jk, jk, jk, jk, jk, jk, jk, jk, jk, jk, jk, jk, jk, jk, jk, jk, jk, jk, jk, jk, jk, jk, jk, jk, jk, jk, jk, jk, jk, jk, jk, jk, jk, jk, jk, jk, jk, jk, jk, jk, jk], [some ⟨flatP l, false, 0⟩, some ⟨flatT ts, false, 0⟩, some ⟨flatN ph, false, z⟩, some ⟨flatN xs, false, z3⟩, some ⟨[.slice (some ⟨0, 0, none⟩) l.length c, .slice (some ⟨1, 0, none⟩) ts.length c2], true, 0⟩, some ⟨flatP (edL ts), true, 2⟩, some ⟨flatN (dfL ts ph), true, 1⟩, some ⟨flatN (S r (k + 1)).1, true, 1⟩, some ⟨flatB l.length (S r (k + 1)).2, true, 1⟩], by omega, ?_, k + 1, rfl, by omega, rfl, rfl⟩; rw [hs]; exact Wk.fk [1, 2, 7, 8, 9, 10, 11, 12] rfl) | (have hs := hSc r k (iff_of_false hxm hym); refine ⟨(edL ts).length - (k + 1), [jk, .slice (some ⟨2, 0, none⟩) l.length INF, .slice (some ⟨3, 0, none⟩) xs.length c4, jk, jk, jk, jk, .slice (some ⟨5, 0, none⟩) ((edL ts).length) INF, .slice (some ⟨6, 0, none⟩) ((edL ts).length) INF, .slice (some ⟨7, 0, none⟩) (l.length) INF, .slice (some ⟨8, 0, none⟩) l.length l.length, .int .i64 (r), .int .i64 (((k + 1 : Nat) : Int)), jk, jk, jk, jk, jk, jk, jk, jk, jk, jk, jk, jk, jk, jk, jk, jk, jk, jk, jk, jk, jk, jk, jk, jk, jk, jk, jk, jk, jk, jk, jk, jk, jk, jk, jk, jk, jk, jk, jk, jk, jk, jk, jk, jk, jk, jk, jk, jk, jk, jk, jk, jk, jk, jk, jk, jk, jk, jk, jk, jk, jk, jk, jk, jk, jk, jk, jk, jk, jk, jk, jk, jk, jk, jk, jk, jk, jk, jk, jk, jk, jk, jk, jk, jk, jk, jk, jk, jk, jk, jk, jk, jk, jk, jk], [some ⟨flatP l, false, 0⟩, some ⟨flatT ts, false, 0⟩, some ⟨flatN ph, false, z⟩, some ⟨flatN xs, false, z3⟩, some ⟨[.slice (some ⟨0, 0, none⟩) l.length c, .slice (some ⟨1, 0, none⟩) ts.length c2], true, 0⟩, some ⟨flatP (edL ts), true, 2⟩, some ⟨flatN (dfL ts ph), true, 1⟩, some ⟨flatN (S r (k + 1)).1, true, 1⟩, some ⟨flatB l.length (S r (k + 1)).2, true, 1⟩], by omega, ?_, k + 1, rfl, by omega, rfl, rfl⟩; rw [hs]; exact Wk.fk [1, 2, 7, 8, 9, 10, 11, 12] rfl) | (have hs := hSa r k hxm hym; refine ⟨(edL ts).length - (k + 1), [jk, .slice (some ⟨2, 0, none⟩) l.length INF, .slice (some ⟨3, 0, none⟩) xs.length c4, jk, jk, jk, jk, .slice (some ⟨5, 0, none⟩) ((edL ts).length) INF, .slice (some ⟨6, 0, none⟩) ((edL ts).length) INF, .slice (some ⟨7, 0, none⟩) (l.length) INF, .slice (some ⟨8, 0, none⟩) l.length l.length, .int .i64 (r), .int .i64 (((k + 1 : Nat) : Int)), jk, jk, jk, jk, jk, jk, jk, jk, jk, jk, jk, jk, jk, jk, jk, jk, jk, jk, jk, jk, jk, jk, jk, jk, jk, jk, jk, jk, jk, jk, jk, jk, jk, jk, jk, jk, jk, jk, jk, jk, jk, jk, jk, jk, jk, jk, jk, jk, jk, jk, jk, jk, jk, jk, jk, jk, jk, jk, jk, jk, jk, jk, jk, jk, jk, jk, jk, jk, jk, jk, jk, jk, jk, jk, jk, jk, jk, jk, jk, jk, jk, jk, jk, jk, jk, jk, jk, jk, jk, jk, jk, jk, jk, jk], [some ⟨flatP l, false, 0⟩, some ⟨flatT ts, false, 0⟩, some ⟨flatN ph, false, z⟩, some ⟨flatN xs, false, z3⟩, some ⟨[.slice (some ⟨0, 0, none⟩) l.length c, .slice (some ⟨1, 0, none⟩) ts.length c2], true, 0⟩, some ⟨flatP (edL ts), true, 2⟩, some ⟨flatN (dfL ts ph), true, 1⟩, some ⟨flatN (S r (k + 1)).1, true, 1⟩, some ⟨flatB l.length (S r (k + 1)).2, true, 1⟩], by omega, ?_, k + 1, rfl, by omega, rfl, rfl⟩; rw [hs.1, hs.2, ← flatB_set (by omega)]; exact Wk.fk [1, 2, 7, 8, 9, 10, 11, 12] rfl) | (have hs := hSb r k hym hxm; refine ⟨(edL ts).length - (k + 1), [jk, .slice (some ⟨2, 0, none⟩) l.length INF, .slice (some ⟨3, 0, none⟩) xs.length c4, jk, jk, jk, jk, .slice (some ⟨5, 0, none⟩) ((edL ts).length) INF, .slice (some ⟨6, 0, none⟩) ((edL ts).length) INF, .slice (some ⟨7, 0, none⟩) (l.length) INF, .slice (some ⟨8, 0, none⟩) l.length l.length, .int .i64 (r), .int .i64 (((k + 1 : Nat) : Int)), jk, jk, jk, jk, jk, jk, jk, jk, jk, jk, jk, jk, jk, jk, jk, jk, jk, jk, jk, jk, jk, jk, jk, jk, jk, jk, jk, jk, jk, jk, jk, jk, jk, jk, jk, jk, jk, jk, jk, jk, jk, jk, jk, jk, jk, jk, jk, jk, jk, jk, jk, jk, jk, jk, jk, jk, jk, jk, jk, jk, jk, jk, jk, jk, jk, jk, jk, jk, jk, jk, jk, jk, jk, jk, jk, jk, jk, jk, jk, jk, jk, jk, jk, jk, jk, jk, jk, jk, jk, jk, jk, jk, jk, jk], [some ⟨flatP l, false, 0⟩, some ⟨flatT ts, false, 0⟩, some ⟨flatN ph, false, z⟩, some ⟨flatN xs, false, z3⟩, some ⟨[.slice (some ⟨0, 0, none⟩) l.length c, .slice (some ⟨1, 0, none⟩) ts.length c2], true, 0⟩, some ⟨flatP (edL ts), true, 2⟩, some ⟨flatN (dfL ts ph), true, 1⟩, some ⟨flatN (S r (k + 1)).1, true, 1⟩, some ⟨flatB l.length (S r (k + 1)).2, true, 1⟩], by omega, ?_, k + 1, rfl, by omega, rfl, rfl⟩; rw [hs.1, hs.2, ← flatB_set (by omega)]; exact Wk.fk [1, 2, 7, 8, 9, 10, 11, 12] rfl))) | ((with_reducible refine FinA.on ?_); (obtain rfl : r = l.length := (by omega); refine FinA.keep 4 [7] (.inl rfl) (.tmp wl .nil) ?_ rfl (Nat.le_of_eq hE) rfl rfl ⟨kl rfl (flatP_scal l), kl rfl (flatT_scal ts), kl rfl (flatN_scal _), kl rfl (flatN_scal _), kl rfl (flatN_scal _), trivial⟩; rfl)))
theorem rField_q {m : Mem} {bP bT bF bX n n' : Nat} {A B F X : Blk} (l : List Pn) (ts : List T3) (hR : NetR l ts) (ph xs : List Int) (hph : phE l ph = 0) (htu : tuR ts xs = 0) (c c2 c4 : Nat) (hd : [bP, bT, bF, bX].Nodup) (a1 : m.at bP = some A) (a2 : A.cells = flatP l) (b1 : m.at bT = some B) (b2 : B.cells = flatT ts) (f1 : m.at bF = some F) (f2 : F.cells = flatN ph) (hn : ph.length = n) (x1 : m.at bX = some X) (x2 : X.cells = flatN xs) (hn' : xs.length = n') (a3 : A.obj = Ob.plain) (b3 : B.obj = Ob.plain) (f3 : F.obj = Ob.plain) (x3 : X.obj = Ob.plain) (a4 : A.esz = 0) (b4 : B.esz = 0) :
  ACalls Tryz.prog 21 [.agg #[.slice (some ⟨bP, 0, none⟩) l.length c, .slice (some ⟨bT, 0, none⟩) ts.length c2], .slice (some ⟨bF, 0, none⟩) n INF, .slice (some ⟨bX, 0, none⟩) n' c4] m (.slice (some ⟨m.length, 0, none⟩) n INF) (m ++ [some ⟨flatN (fdN (dfL ts ph) xs (edL ts) (ph, [0]) ph.length).1, true, 1⟩]) := by
 subst hn hn'
 have h := ACalls.viaS (m := m) (args := [.agg #[.slice (some ⟨bP, 0, none⟩) l.length c, .slice (some ⟨bT, 0, none⟩) ts.length c2], .slice (some ⟨bF, 0, none⟩) ph.length INF, .slice (some ⟨bX, 0, none⟩) xs.length c4]) (v := .slice (some ⟨m.length, 0, none⟩) ph.length INF) [bP, bT, bF, bX] [] [some ⟨flatN (fdN (dfL ts ph) xs (edL ts) (ph, [0]) ph.length).1, true, 1⟩] (rField_0 l ts hR ph xs hph htu c c2 c4 F.esz X.esz) ⟨bS a1 a3 a2 (flatP_scal _) a4, bS b1 b3 b2 (flatT_scal _) b4, bS f1 f3 f2 (flatN_scal _), bS x1 x3 x2 (flatN_scal _), trivial⟩ hd
  ⟨⟨_, rfl, rfl⟩, ⟨_, rfl, rfl⟩, ⟨_, rfl, rfl⟩, ⟨_, rfl, rfl⟩, ⟨rfl, rfl, rfl, .inl ⟨rfl, flatN_scal _⟩⟩, trivial⟩ rfl rfl rfl rfl
 exact h
end Go.Proofs.YtmohcmghbfhdlaaGreat
end
end
/- Chapter 6 in plain Lean: nets: sums over directed edges; what is left is the border; a border goes round the hull a whole number of times. -/
section
set_option linter.unusedSimpArgs false
set_option linter.unusedVariables false
namespace Go.Me
def su {α : Type} (l : List α) (f : α → Int) : Int := (l.map f).sum
section
variable {α β : Type}
theorem su_nil (f : α → Int) : su [] f = 0 := rfl
theorem su_cons (a : α) (l : List α) (f : α → Int) : su (a :: l) f = f a + su l f := rfl
theorem su_app (l k : List α) (f : α → Int) : su (l ++ k) f = su l f + su k f := by
 induction l with
 | nil => rw [List.nil_append, su_nil]; omega
 | cons a l ih => rw [List.cons_append, su_cons, su_cons, ih]; omega
theorem su_add (l : List α) (f g : α → Int) : su l (fun a => f a + g a) = su l f + su l g := by
 induction l with
 | nil => rfl
 | cons a l ih => rw [su_cons, su_cons, su_cons, ih]; omega
theorem su_sub (l : List α) (f g : α → Int) : su l (fun a => f a - g a) = su l f - su l g := by
 induction l with
 | nil => rfl
 | cons a l ih => rw [su_cons, su_cons, su_cons, ih]; omega
theorem su_neg (l : List α) (f : α → Int) : su l (fun a => -f a) = -su l f := by
 induction l with
 | nil => rfl
 | cons a l ih => rw [su_cons, su_cons, ih]; omega
theorem su_mul (c : Int) (l : List α) (f : α → Int) : su l (fun a => c * f a) = c * su l f := by
 induction l with
 | nil => simp [su_nil]
 | cons a l ih => rw [su_cons, su_cons, ih, Int.mul_add]
theorem su_zero (l : List α) : su l (fun _ => 0) = 0 := by
 induction l with
 | nil => rfl
 | cons a l ih => rw [su_cons, ih]; rfl
theorem su_congr {l : List α} {f g : α → Int} (h : ∀ a ∈ l, f a = g a) : su l f = su l g := by
 unfold su
 rw [List.map_congr_left h]
theorem su_nn {l : List α} {f : α → Int} (h : ∀ a ∈ l, 0 ≤ f a) : 0 ≤ su l f := by
 induction l with
 | nil => exact Int.le_refl _
 | cons a l ih =>
  have h1 := h a (by simp)
  have h2 := ih fun x hx => h x (by simp [hx])
  rw [su_cons]
  omega
theorem su_mem {l : List α} {f : α → Int} (h : ∀ a ∈ l, 0 ≤ f a) {a : α} (ha : a ∈ l) : f a ≤ su l f := by
 induction l with
 | nil => simp at ha
 | cons b l ih =>
  have h1 := h b (by simp)
  have h2 := su_nn (l := l) (f := f) fun x hx => h x (by simp [hx])
  rw [su_cons]
  rcases List.mem_cons.1 ha with rfl | ha
  ·omega
  ·have := ih (fun x hx => h x (by simp [hx])) ha
   omega
theorem su_perm {l k : List α} (h : l.Perm k) (f : α → Int) : su l f = su k f := by
 induction h with
 | nil => rfl
 | cons a _ ih => rw [su_cons, su_cons, ih]
 | swap a b l => rw [su_cons, su_cons, su_cons, su_cons]; omega
 | trans _ _ h1 h2 => rw [h1, h2]
theorem su_map (l : List α) (g : α → β) (f : β → Int) : su (l.map g) f = su l (fun a => f (g a)) := by
 unfold su
 rw [List.map_map]
 rfl
theorem su_flat (l : List α) (g : α → List β) (f : β → Int) : su (l.flatMap g) f = su l fun a => su (g a) f := by
 induction l with
 | nil => rfl
 | cons a l ih => rw [List.flatMap_cons, su_app, su_cons, ih]
theorem su_filter (l : List α) (p : α → Bool) (f : α → Int) : su l f = su (l.filter p) f + su (l.filter fun a => !p a) f := by
 induction l with
 | nil => rfl
 | cons a l ih =>
  rw [su_cons, ih]
  cases hp : p a
  ·rw [List.filter_cons_of_neg (by simp [hp]), List.filter_cons_of_pos (by simp [hp]), su_cons]; omega
  ·rw [List.filter_cons_of_pos (by simp [hp]), List.filter_cons_of_neg (by simp [hp]), su_cons]; omega
theorem su_comm (l : List α) (k : List β) (f : α → β → Int) : su l (fun a => su k fun b => f a b) = su k fun b => su l fun a => f a b := by
 induction l with
 | nil => rw [su_nil]; exact (su_zero k).symm
 | cons a l ih => rw [su_cons, ih, ← su_add]; rfl
end
abbrev Ed := Nat × Nat
def sw (e : Ed) : Ed := (e.2, e.1)
theorem sw_sw (e : Ed) : sw (sw e) = e := rfl
def Anti (g : Ed → Int) : Prop := ∀ e, g (sw e) = -g e
theorem nodup_map_sw {l : List Ed} (h : l.Nodup) : (l.map sw).Nodup := by
 refine List.Pairwise.map _ (fun a b hab hs => hab ?_) h
 have := congrArg sw hs
 exact this
theorem su_anti {l : List Ed} (hn : l.Nodup) (hs : ∀ e ∈ l, sw e ∈ l) {g : Ed → Int} (hg : Anti g) : su l g = 0 := by
 have hp : (l.map sw).Perm l := (List.perm_ext_iff_of_nodup (nodup_map_sw hn) hn).2 fun e => by
  constructor
  ·intro h
   obtain ⟨x, hx, rfl⟩ := List.mem_map.1 h
   exact hs x hx
  ·intro h
   exact List.mem_map.2 ⟨sw e, hs e h, sw_sw e⟩
 have h1 := su_perm hp g
 rw [su_map, show (fun a => g (sw a)) = fun a => -g a from funext hg, su_neg] at h1
 omega
def bd (l : List Ed) : List Ed := l.filter fun e => !l.contains (sw e)
theorem bd_mem {l : List Ed} {e : Ed} : e ∈ bd l ↔ e ∈ l ∧ sw e ∉ l := by
 unfold bd
 simp
theorem su_bd {l : List Ed} (hn : l.Nodup) {g : Ed → Int} (hg : Anti g) : su l g = su (bd l) g := by
 rw [su_filter l (fun e => !l.contains (sw e)) g]
 have : su (l.filter fun e => !(!l.contains (sw e))) g = 0 := by
  refine su_anti (hn.filter _) (fun e he => ?_) hg
  simp only [Bool.not_not, List.mem_filter, List.contains_iff_mem] at he ⊢
  exact ⟨he.2, by rw [sw_sw]; exact he.1⟩
 rw [this]
 unfold bd
 omega
abbrev Tri := Nat × Nat × Nat
def ed3 (t : Tri) : List Ed := [(t.1, t.2.1), (t.2.1, t.2.2), (t.2.2, t.1)]
def edT (ts : List Tri) : List Ed := ts.flatMap ed3
theorem su_ed3 (t : Tri) (f : Ed → Int) : su (ed3 t) f = f (t.1, t.2.1) + (f (t.2.1, t.2.2) + f (t.2.2, t.1)) := by
 show f (t.1, t.2.1) + (f (t.2.1, t.2.2) + (f (t.2.2, t.1) + 0)) = _
 omega
theorem su_grad (ts : List Tri) (f : Nat → Int) : su (edT ts) (fun e => f e.1 - f e.2) = 0 := by
 unfold edT
 rw [su_flat]
 rw [su_congr (g := fun _ => 0) fun t _ => by rw [su_ed3]; show f t.1 - f t.2.1 + (f t.2.1 - f t.2.2 + (f t.2.2 - f t.1)) = 0; omega]
 exact su_zero ts
def Bal (l : List Ed) : Prop := ∀ f : Nat → Int, su l (fun e => f e.1 - f e.2) = 0
theorem bal_bd {ts : List Tri} (hn : (edT ts).Nodup) : Bal (bd (edT ts)) := fun f => by
 rw [← su_bd hn fun e => by show f e.2 - f e.1 = -(f e.1 - f e.2); omega]
 exact su_grad ts f
end Go.Me
end
/- Chapter 6: all closures together (plain). -/
section
set_option linter.unusedSimpArgs false
set_option linter.unusedVariables false
namespace Go.Me
open Go.Ab Go.Proofs.YtmohcmghbfhdlaaGreat
set_option maxRecDepth 100000
theorem lk_at {e : IE} {v : Int} : ∀ {L : List (IE × Int)}, (L.map (·.1)).Nodup → (e, v) ∈ L → lk L e = v
 | [], _, h => by cases h
 | p :: r, hn, hm => by
  rw [List.map_cons, List.nodup_cons] at hn
  rw [lk_cons]
  by_cases he : p.1 = e
  ·rw [if_pos he]
   rcases List.mem_cons.1 hm with rfl | hm
   ·rfl
   ·exact absurd (he ▸ List.mem_map_of_mem (f := (·.1)) hm) hn.1
  ·rw [if_neg he]
   rcases List.mem_cons.1 hm with rfl | hm
   ·exact absurd rfl he
   ·exact lk_at hn.2 hm
theorem lk_tri {l : List Pn} {ts : List T3} (h : NetR l ts) {e : IE} {i : Nat} (hi : i < ts.length) : lk (lfA ts) e = i ↔ isE (tr ts i) e := by
 constructor
 ·intro h1
  have h2 : e ∈ (lfA ts).map (·.1) := Classical.not_not.1 fun h2 => by
   have := (lk_no h).2 h2
   omega
  obtain ⟨j, h3, h4, h5⟩ := (lf_tri _).1 (lk_mem h2)
  obtain rfl : j = i := by
   have : ((j : Nat) : Int) = i := h4.symm.trans h1
   omega
  exact h5
 ·intro h1
  exact lk_at h.ok.nd ((lf_tri _).2 ⟨i, hi, rfl, h1⟩)
end Go.Me
end
/- Chapter 6 in plain Lean: a balanced family of edges that all have the points at their left crosses each upright line equally often. Points have different x here. -/
section
set_option linter.unusedSimpArgs false
set_option linter.unusedVariables false
namespace Go.Me
theorem wedge_id {a b a' b' v q : Pn} (hv1 : v = a ∨ v = b) (hv2 : v = a' ∨ v = b') :
  (a.x - b.x) * cr a' b' q + (b'.x - a'.x) * cr a b q = (q.x - v.x) * ((b'.x - a'.x) * (a.y - b.y) - (b'.y - a'.y) * (a.x - b.x)) := by
 rcases hv1 with rfl | rfl <;> rcases hv2 with h | h <;> subst h <;> unfold cr <;> grind
theorem wedge {a b a' b' v m M q : Pn} (h1 : b.x < a.x) (h2 : a'.x < b'.x) (hv1 : v = a ∨ v = b) (hv2 : v = a' ∨ v = b') (hm : m.x < v.x) (hM : v.x < M.x)
  (s1 : 0 ≤ cr a b m) (s2 : 0 ≤ cr a b M) (s3 : 0 ≤ cr a b q) (s4 : 0 ≤ cr a' b' m) (s5 : 0 ≤ cr a' b' M) (s6 : 0 ≤ cr a' b' q) : cr a b q = 0 := by
 have e1 := wedge_id (q := m) hv1 hv2
 have e2 := wedge_id (q := M) hv1 hv2
 have e3 := wedge_id (q := q) hv1 hv2
 generalize (b'.x - a'.x) * (a.y - b.y) - (b'.y - a'.y) * (a.x - b.x) = K at *
 have p1 := Int.mul_nonneg (show 0 ≤ a.x - b.x by omega) s4
 have p2 := Int.mul_nonneg (show 0 ≤ b'.x - a'.x by omega) s1
 have p3 := Int.mul_nonneg (show 0 ≤ a.x - b.x by omega) s5
 have p4 := Int.mul_nonneg (show 0 ≤ b'.x - a'.x by omega) s2
 have p5 := Int.mul_nonneg (show 0 ≤ a.x - b.x by omega) s6
 have p6 := Int.mul_nonneg (show 0 ≤ b'.x - a'.x by omega) s3
 have k1 : K ≤ 0 := by
  apply Classical.byContradiction
  intro hk
  have := Int.mul_neg_of_neg_of_pos (show m.x - v.x < 0 by omega) (show 0 < K by omega)
  omega
 have k2 : 0 ≤ K := by
  apply Classical.byContradiction
  intro hk
  have := Int.mul_neg_of_pos_of_neg (show 0 < M.x - v.x by omega) (show K < 0 by omega)
  omega
 have k0 : K = 0 := by omega
 rw [k0, Int.mul_zero] at e3
 have z : (b'.x - a'.x) * cr a b q = 0 := by omega
 rcases Int.mul_eq_zero.1 z with h | h
 ·omega
 ·exact h
section
variable (P : Nat → Pn)
def sp (c : Int) (e : Ed) : Int := if (P e.2).x ≤ c ∧ c < (P e.1).x then 1 else 0
def U (S : List Ed) (c : Int) : Int := su S (sp P c)
def Lo (S : List Ed) (c : Int) : Int := su S fun e => sp P c (sw e)
structure Sup (n : Nat) (e : Ed) : Prop where
 l1 : e.1 < n
 l2 : e.2 < n
 ne : e.1 ≠ e.2
 at_ : ∀ q, q < n → 0 ≤ cr (P e.1) (P e.2) (P q)
structure Gen (n : Nat) : Prop where
 inj : ∀ i j, i < n → j < n → (P i).x = (P j).x → i = j
 nf : ∃ i j k, i < n ∧ j < n ∧ k < n ∧ cr (P i) (P j) (P k) ≠ 0
end
section
variable {P : Nat → Pn} {n : Nat} {S : List Ed}
theorem U_Lo (hb : Bal S) (c : Int) : U P S c = Lo P S c := by
 have h := hb fun v => if c < (P v).x then 1 else 0
 have e : su S (fun e => (if c < (P e.1).x then (1 : Int) else 0) - if c < (P e.2).x then (1 : Int) else 0) = U P S c - Lo P S c := by
  unfold U Lo
  rw [← su_sub]
  refine su_congr fun e _ => ?_
  show _ = (if (P e.2).x ≤ c ∧ c < (P e.1).x then (1 : Int) else 0) - if (P e.1).x ≤ c ∧ c < (P e.2).x then 1 else 0
  by_cases h1 : c < (P e.1).x <;> by_cases h2 : c < (P e.2).x
  ·rw [if_pos h1, if_pos h2, if_neg (by omega), if_neg (by omega)]; rfl
  ·rw [if_pos h1, if_neg h2, if_pos (by omega), if_neg (by omega)]
  ·rw [if_neg h1, if_pos h2, if_neg (by omega), if_pos (by omega)]
  ·rw [if_neg h1, if_neg h2, if_neg (by omega), if_neg (by omega)]
 rw [e] at h
 omega
theorem U_step (hg : Gen P n) (hb : Bal S) (hs : ∀ e ∈ S, Sup P n e) {c : Int} {m M : Nat} (hm : m < n) (hM : M < n) (h1 : (P m).x ≤ c) (h2 : c + 1 < (P M).x) : U P S c = U P S (c + 1) := by
 let f : Nat → Int := fun v => if (P v).x = c + 1 then 1 else 0
 have hb' := hb f
 have e : U P S c - U P S (c + 1) = su S fun e => if (P e.2).x < (P e.1).x then f e.1 - f e.2 else 0 := by
  unfold U
  rw [← su_sub]
  refine su_congr fun e _ => ?_
  show (if (P e.2).x ≤ c ∧ c < (P e.1).x then (1 : Int) else 0) - (if (P e.2).x ≤ c + 1 ∧ c + 1 < (P e.1).x then 1 else 0) = if (P e.2).x < (P e.1).x then (if (P e.1).x = c + 1 then 1 else 0) - (if (P e.2).x = c + 1 then 1 else 0) else 0
  repeat' split
  all_goals omega
 by_cases hlo : ∃ e ∈ S, (P e.1).x < (P e.2).x ∧ ((P e.1).x = c + 1 ∨ (P e.2).x = c + 1)
 ·have z : su S (fun e => if (P e.2).x < (P e.1).x then f e.1 - f e.2 else 0) = 0 := by
   rw [su_congr (g := fun _ => 0) fun e he => ?_]
   ·exact su_zero S
   ·split
    ·rename_i hu
     by_cases hv : (P e.1).x = c + 1 ∨ (P e.2).x = c + 1
     ·exfalso
      obtain ⟨e', he', hl, hv'⟩ := hlo
      have s := hs e he
      have s' := hs e' he'
      obtain ⟨i, j, k, hi, hj, hk, hne⟩ := hg.nf
      have vs : ∃ v, v < n ∧ (P v).x = c + 1 ∧ (v = e.1 ∨ v = e.2) := by
       rcases hv with h | h
       ·exact ⟨e.1, s.l1, h, .inl rfl⟩
       ·exact ⟨e.2, s.l2, h, .inr rfl⟩
      obtain ⟨v, hvn, hvx, hv1⟩ := vs
      have hv2 : v = e'.1 ∨ v = e'.2 := by
       rcases hv' with h | h
       ·exact .inl (hg.inj _ _ hvn s'.l1 (by omega))
       ·exact .inr (hg.inj _ _ hvn s'.l2 (by omega))
      have z : ∀ q, q < n → cr (P e.1) (P e.2) (P q) = 0 := fun q hq =>
       wedge (v := P v) (m := P m) (M := P M) hu hl (hv1.imp (congrArg P) (congrArg P)) (hv2.imp (congrArg P) (congrArg P)) (by omega) (by omega) (s.at_ m hm) (s.at_ M hM) (s.at_ q hq) (s'.at_ m hm) (s'.at_ M hM) (s'.at_ q hq)
      refine hne (flat_of (a := P e.1) (b := P e.2) (fun h => ?_) (z i hi) (z j hj) (z k hk))
      rw [h] at hu
      omega
     ·show (if (P e.1).x = c + 1 then (1 : Int) else 0) - (if (P e.2).x = c + 1 then 1 else 0) = 0
      rw [if_neg fun h => hv (.inl h), if_neg fun h => hv (.inr h)]
      rfl
    ·rfl
  omega
 ·have z : su S (fun e => if (P e.2).x < (P e.1).x then f e.1 - f e.2 else 0) = su S fun e => f e.1 - f e.2 := by
   refine su_congr fun e he => ?_
   split
   ·rfl
   ·rename_i hu
    have s := hs e he
    have hx : (P e.1).x ≠ (P e.2).x := fun h => s.ne (hg.inj _ _ s.l1 s.l2 h)
    have hv : ¬ ((P e.1).x = c + 1 ∨ (P e.2).x = c + 1) := fun h => hlo ⟨e, he, by omega, h⟩
    show 0 = (if (P e.1).x = c + 1 then (1 : Int) else 0) - (if (P e.2).x = c + 1 then 1 else 0)
    rw [if_neg fun h => hv (.inl h), if_neg fun h => hv (.inr h)]
    rfl
  omega
theorem U_const (hg : Gen P n) (hb : Bal S) (hs : ∀ e ∈ S, Sup P n e) {m M : Nat} (hm : m < n) (hM : M < n) : ∀ (k : Nat), (P m).x + k < (P M).x → U P S ((P m).x + k) = U P S (P m).x
 | 0, _ => by simp
 | k + 1, h => by
  have ih := U_const hg hb hs hm hM k (by omega)
  have := U_step (c := (P m).x + k) hg hb hs hm hM (by omega) (by omega)
  rw [← ih, this]
  congr 1
  omega
theorem U_eq (hg : Gen P n) (hb : Bal S) (hs : ∀ e ∈ S, Sup P n e) {m M : Nat} (hm : m < n) (hM : M < n) {c : Int} (h1 : (P m).x ≤ c) (h2 : c < (P M).x) : U P S c = U P S (P m).x := by
 obtain ⟨k, rfl⟩ : ∃ k : Nat, c = (P m).x + k := ⟨(c - (P m).x).toNat, by omega⟩
 exact U_const hg hb hs hm hM k h2
end
end Go.Me
end
/- Chapter 6 in plain Lean: two such families: what they enclose goes as how often they go round. -/
section
set_option linter.unusedSimpArgs false
set_option linter.unusedVariables false
namespace Go.Me
def gN (a b : Pn) (c : Int) : Int := a.y * (2 * (c - b.x) + 1) + b.y * (2 * (a.x - c) - 1)
theorem line_eq {a b a' b' : Pn} (c : Int) (h1 : cr a b a' = 0) (h2 : cr a b b' = 0) : gN a b c * (a'.x - b'.x) = gN a' b' c * (a.x - b.x) := by
 unfold gN cr at *
 grind
theorem line_of {a b a' b' : Pn} {c : Int} (h1 : b.x ≤ c) (h2 : c < a.x) (h1' : b'.x ≤ c) (h2' : c < a'.x) (s1 : 0 ≤ cr a b a') (s2 : 0 ≤ cr a b b') (s3 : 0 ≤ cr a' b' a) (s4 : 0 ≤ cr a' b' b) : cr a b a' = 0 ∧ cr a b b' = 0 := by
 -- the difference of both lines' heights, times both lengths
 let al : Int := (a.x - b.x) * (a'.y - b'.y) - (a'.x - b'.x) * (a.y - b.y)
 let be : Int := (a.x - b.x) * (b'.y * a'.x - a'.y * b'.x) - (a'.x - b'.x) * (b.y * a.x - a.y * b.x)
 have e1 : al * a.x + be = (a.x - b.x) * cr a' b' a := by simp only [al, be]; unfold cr; grind
 have e2 : al * b.x + be = (a.x - b.x) * cr a' b' b := by simp only [al, be]; unfold cr; grind
 have e3 : al * a'.x + be = -((a'.x - b'.x) * cr a b a') := by simp only [al, be]; unfold cr; grind
 have e4 : al * b'.x + be = -((a'.x - b'.x) * cr a b b') := by simp only [al, be]; unfold cr; grind
 have p1 := Int.mul_nonneg (show 0 ≤ a.x - b.x by omega) s3
 have p2 := Int.mul_nonneg (show 0 ≤ a.x - b.x by omega) s4
 have p3 := Int.mul_nonneg (show 0 ≤ a'.x - b'.x by omega) s1
 have p4 := Int.mul_nonneg (show 0 ≤ a'.x - b'.x by omega) s2
 generalize al = al at *
 generalize be = be at *
 have k1 : 0 ≤ al := by
  apply Classical.byContradiction
  intro hk
  have := Int.mul_neg_of_neg_of_pos (show al < 0 by omega) (show 0 < a.x - b'.x by omega)
  rw [Int.mul_sub] at this
  omega
 have k2 : al ≤ 0 := by
  apply Classical.byContradiction
  intro hk
  have := Int.mul_neg_of_pos_of_neg (show 0 < al by omega) (show b.x - a'.x < 0 by omega)
  rw [Int.mul_sub] at this
  omega
 have k0 : al = 0 := by omega
 subst k0
 rw [Int.zero_mul] at e1 e2 e3 e4
 have z1 : (a'.x - b'.x) * cr a b a' = 0 := by omega
 have z2 : (a'.x - b'.x) * cr a b b' = 0 := by omega
 exact ⟨(Int.mul_eq_zero.1 z1).resolve_left (by omega), (Int.mul_eq_zero.1 z2).resolve_left (by omega)⟩
def cols (m : Int) (N : Nat) : List Int := (List.range N).map fun j => m + (j : Nat)
theorem cols_mem {m c : Int} {N : Nat} (h : c ∈ cols m N) : m ≤ c ∧ c < m + N := by
 obtain ⟨j, hj, rfl⟩ := List.mem_map.1 h
 have := List.mem_range.1 hj
 omega
theorem su_tele (m : Int) (h : Int → Int) : ∀ N : Nat, su (cols m N) (fun c => h (c + 1) - h c) = h (m + N) - h m
 | 0 => by simp [cols, su_nil]
 | N + 1 => by
  have e : cols m (N + 1) = cols m N ++ [m + (N : Nat)] := by
   unfold cols
   rw [List.range_succ, List.map_append]
   rfl
  rw [e, su_app, su_tele m h N, su_cons, su_nil]
  rw [show m + ((N + 1 : Nat) : Int) = m + (N : Int) + 1 by omega]
  omega
section
variable (P : Nat → Pn)
def gE (c : Int) (e : Ed) : Int := gN (P e.1) (P e.2) c
def trz (e : Ed) : Int := ((P e.1).x - (P e.2).x) * ((P e.1).y + (P e.2).y)
def tU (S : List Ed) : Int := su S fun e => if (P e.2).x < (P e.1).x then trz P e else 0
end
section
variable {P : Nat → Pn} {n : Nat}
theorem col_sum {m : Int} {N : Nat} {e : Ed} (h1 : m ≤ (P e.2).x) (h2 : (P e.1).x ≤ m + N) (h3 : (P e.2).x < (P e.1).x) : su (cols m N) (fun c => sp P c e * gE P c e) = ((P e.1).x - (P e.2).x) * trz P e := by
 let F : Int → Int := fun c => (P e.1).y * ((c - (P e.2).x) * (c - (P e.2).x)) - (P e.2).y * (((P e.1).x - c) * ((P e.1).x - c))
 let h : Int → Int := fun c => F (max (P e.2).x (min (P e.1).x c))
 have t := su_tele m h N
 have e0 : h m = F (P e.2).x := by simp only [h]; congr 1; omega
 have e1 : h (m + N) = F (P e.1).x := by simp only [h]; congr 1; omega
 rw [e0, e1] at t
 have ef : F (P e.1).x - F (P e.2).x = ((P e.1).x - (P e.2).x) * trz P e := by simp only [F]; unfold trz; grind
 rw [ef] at t
 rw [← t]
 refine su_congr fun c _ => ?_
 simp only [h]
 unfold sp
 by_cases hc : (P e.2).x ≤ c ∧ c < (P e.1).x
 ·rw [if_pos hc, show max (P e.2).x (min (P e.1).x (c + 1)) = c + 1 by omega, show max (P e.2).x (min (P e.1).x c) = c by omega]
  simp only [F]
  unfold gE gN
  grind
 ·rw [if_neg hc]
  rcases Int.lt_or_le c (P e.2).x with hl | hl
  ·rw [show max (P e.2).x (min (P e.1).x (c + 1)) = (P e.2).x by omega, show max (P e.2).x (min (P e.1).x c) = (P e.2).x by omega]; omega
  ·rw [show max (P e.2).x (min (P e.1).x (c + 1)) = (P e.1).x by omega, show max (P e.2).x (min (P e.1).x c) = (P e.1).x by omega]; omega
theorem common (P : Nat → Pn) : ∀ L : List Ed, ∃ (D : Int) (q : Ed → Int), 0 < D ∧ ∀ e ∈ L, (P e.2).x < (P e.1).x → q e * ((P e.1).x - (P e.2).x) = D := by
 intro L
 suffices h : ∃ D : Int, 0 < D ∧ ∀ e ∈ L, (P e.2).x < (P e.1).x → ∃ q, q * ((P e.1).x - (P e.2).x) = D by
  obtain ⟨D, h0, h1⟩ := h
  refine ⟨D, fun e => if h : e ∈ L ∧ (P e.2).x < (P e.1).x then Classical.choose (h1 e h.1 h.2) else 0, h0, fun e he hu => ?_⟩
  simp only [dif_pos (And.intro he hu)]
  exact Classical.choose_spec (h1 e he hu)
 induction L with
 | nil => exact ⟨1, by decide, by simp⟩
 | cons a L ih =>
  obtain ⟨D, h0, h1⟩ := ih
  by_cases hu : (P a.2).x < (P a.1).x
  ·refine ⟨D * ((P a.1).x - (P a.2).x), Int.mul_pos h0 (by omega), fun e he hue => ?_⟩
   rcases List.mem_cons.1 he with rfl | he
   ·exact ⟨D, rfl⟩
   ·obtain ⟨q, hq⟩ := h1 e he hue
    exact ⟨q * ((P a.1).x - (P a.2).x), by rw [← hq]; grind⟩
  ·refine ⟨D, h0, fun e he hue => ?_⟩
   rcases List.mem_cons.1 he with rfl | he
   ·exact absurd hue hu
   ·exact h1 e he hue
theorem sp_01 (c : Int) (e : Ed) : sp P c e = 0 ∨ (sp P c e = 1 ∧ (P e.2).x ≤ c ∧ c < (P e.1).x) := by
 unfold sp
 split
 ·rename_i h; exact .inr ⟨rfl, h⟩
 ·exact .inl rfl
theorem area_up {S H : List Ed} {m : Nat} {N : Nat} (hS : ∀ e ∈ S, Sup P n e) (hH : ∀ e ∈ H, Sup P n e) (hm : ∀ v, v < n → (P m).x ≤ (P v).x) (hM : ∀ v, v < n → (P v).x ≤ (P m).x + N) {wS wH : Int}
  (kS : ∀ c ∈ cols (P m).x N, U P S c = wS) (kH : ∀ c ∈ cols (P m).x N, U P H c = wH) : wH * tU P S = wS * tU P H := by
 obtain ⟨D, q, hD, hq⟩ := common P (S ++ H)
 -- one family, counted by columns
 have one : ∀ (S H : List Ed) (wH : Int), (∀ e ∈ S, Sup P n e) → (∀ e ∈ S, (P e.2).x < (P e.1).x → q e * ((P e.1).x - (P e.2).x) = D) → (∀ c ∈ cols (P m).x N, U P H c = wH) →
   D * (wH * tU P S) = su S fun e => su H fun e' => su (cols (P m).x N) fun c => sp P c e * sp P c e' * (gE P c e * q e) := by
  intro S H wH hS hq kH
  unfold tU
  rw [← su_mul, ← su_mul]
  refine su_congr fun e he => ?_
  rw [su_comm]
  have s := hS e he
  have e1 : su (cols (P m).x N) (fun c => su H fun e' => sp P c e * sp P c e' * (gE P c e * q e)) = su (cols (P m).x N) fun c => wH * q e * (sp P c e * gE P c e) := by
   refine su_congr fun c hc => ?_
   rw [su_congr (g := fun e' => sp P c e * (gE P c e * q e) * sp P c e') fun e' _ => by grind, su_mul]
   have := kH c hc
   unfold U at this
   rw [show (su H fun e' => sp P c e') = wH from this]
   grind
  rw [e1, su_mul]
  by_cases hu : (P e.2).x < (P e.1).x
  ·rw [if_pos hu, col_sum (hm _ s.l2) (hM _ s.l1) hu, ← hq e he hu]
   grind
  ·rw [if_neg hu, su_congr (g := fun _ => 0) fun c _ => ?_, su_zero]
   ·simp
   ·rcases sp_01 (P := P) c e with h | ⟨_, h1, h2⟩
    ·rw [h, Int.zero_mul]
    ·omega
 have h1 := one S H wH hS (fun e he => hq e (by simp [he])) kH
 have h2 := one H S wS hH (fun e he => hq e (by simp [he])) kS
 rw [su_comm] at h2
 have h3 : (su S fun e => su H fun e' => su (cols (P m).x N) fun c => sp P c e * sp P c e' * (gE P c e * q e)) = su S fun e => su H fun e' => su (cols (P m).x N) fun c => sp P c e' * sp P c e * (gE P c e' * q e') := by
  refine su_congr fun e he => su_congr fun e' he' => su_congr fun c _ => ?_
  rcases sp_01 (P := P) c e with h | ⟨h, q1, q2⟩
  ·rw [h]; grind
  ·rcases sp_01 (P := P) c e' with h' | ⟨h', q1', q2'⟩
   ·rw [h']; grind
   ·have s := hS e he
    have s' := hH e' he'
    obtain ⟨z1, z2⟩ := line_of q1 q2 q1' q2' (s.at_ _ s'.l1) (s.at_ _ s'.l2) (s'.at_ _ s.l1) (s'.at_ _ s.l2)
    have le := line_eq c z1 z2
    have d1 := hq e (by simp [he]) (by omega)
    have d2 := hq e' (by simp [he']) (by omega)
    have hk : gE P c e * q e = gE P c e' * q e' := by
     unfold gE
     have hn : ((P e.1).x - (P e.2).x) * ((P e'.1).x - (P e'.2).x) ≠ 0 := Int.mul_ne_zero (by omega) (by omega)
     refine Int.eq_of_mul_eq_mul_right hn ?_
     grind
    rw [h, h', hk]
 have h4 : D * (wH * tU P S) = D * (wS * tU P H) := (h1.trans h3).trans h2.symm
 exact Int.eq_of_mul_eq_mul_left (by omega) h4
end
end Go.Me
end
