/- Chapter 6: the reference's edges of a right net. -/
import Derived.Test.YtmohcmghbfhdlaaGreatQd
import Derived.Test.YtmohcmghbfhdlaaGreatRc
import Derived.Test.YtmohcmghbfhdlaaGreatRa
import Derived.Test.YtmohcmghbfhdlaaGreatQs
import Derived.Test.YtmohcmghbfhdlaaGreatQy
import Derived.Test.YtmohcmghbfhdlaaGreatQe
section
set_option linter.unusedSimpArgs false
set_option linter.unusedVariables false
section
namespace Go.Proofs.YtmohcmghbfhdlaaGreat
open Go Go.RowKit Go.Ab Go.Me
set_option maxRecDepth 100000
set_option maxHeartbeats 4000000
attribute [local irreducible] OQ OW AL AW AF SW
theorem rEdges_0 (l : List Pn) (ts : List T3) (hR : NetR l ts) (c c2 : Nat) :
    ACalls Tryz.prog 31 [.agg #[.slice (some ⟨0, 0, none⟩) l.length c, .slice (some ⟨1, 0, none⟩) ts.length c2]] [some ⟨flatP l, false, 0⟩, some ⟨flatT ts, false, 0⟩] (.slice (some ⟨2, 0, none⟩) (edL ts).length INF) [some ⟨flatP l, false, 0⟩, some ⟨flatT ts, false, 0⟩, some ⟨flatP (edL ts), true, 2⟩] := by
  have hh : ∀ (a b : Int) (m : Mem) (blk : Blk) (h1 : m.at 1 = some blk) (h2 : blk.cells = flatT ts) (h3 : blk.obj = Ob.plain), PCalls Tryz.prog 75 [.slice (some ⟨1, 0, none⟩) ts.length c2, .int .i64 a, .int .i64 b] m (.int .i64 (lk (lfA ts) (a, b))) := fun a b m blk h1 h2 h3 => has_q (c := c2) ts (Nat.le_refl _) (by have := hR.le; omega) a b h1 h2 h3
  have h80 := hR.le
  have h40 := (cp_ok hR.cp).1
  have hn2 := two_of hR.all hR.g.1
  have hpos := edL_pos hR
  have a1 : ∀ i, reX ts l.length i (i + 1 - i - 1) = reX ts l.length i 0 := fun i => by rw [show i + 1 - i - 1 = 0 by omega]
  have a2 : ∀ i, i < l.length → reX ts l.length i (l.length - i - 1) = reX ts l.length (i + 1) 0 := fun i hi => by
    rw [show l.length - i - 1 = l.length - 1 - i by omega]
    exact reX_row hi
  have a3 : ∀ i k : Nat, i < k → (0 ≤ lk (lfA ts) ((i : Int), (k : Int)) ∨ 0 ≤ lk (lfA ts) ((k : Int), (i : Int))) → reX ts l.length i (k + 1 - i - 1) = reX ts l.length i (k - i - 1) ++ [⟨i, k⟩] := fun i k hk h => by
    rw [show k + 1 - i - 1 = (k - i - 1) + 1 by omega, reX_step, show i + 1 + (k - i - 1) = k by omega, reP_1 h]
  have a4 : ∀ i k : Nat, i < k → lk (lfA ts) ((i : Int), (k : Int)) < 0 → lk (lfA ts) ((k : Int), (i : Int)) < 0 → reX ts l.length i (k + 1 - i - 1) = reX ts l.length i (k - i - 1) := fun i k hk h1 h2 => by
    rw [show k + 1 - i - 1 = (k - i - 1) + 1 by omega, reX_step, show i + 1 + (k - i - 1) = k by omega, reP_0 h1 h2, List.append_nil]
  have a5 : reX ts l.length 0 0 = [] := rfl
  have a6 : reX ts l.length l.length 0 = edL ts := by
    rw [← reE_edL hR]
    show _ ++ [] = _
    rw [List.append_nil]
  have a7 : ∀ i k : Nat, i ≤ l.length → k ≤ l.length → (reX ts l.length i (k - i - 1)).length ≤ 2000 := fun i k h1 h2 => reX_len ts h40 h1 (by omega)
  have a8 : ∀ i : Nat, i ≤ l.length → (reX ts l.length i 0).length ≤ 2000 := fun i h1 => reX_len ts h40 h1 (by omega)
  have hfl := flatP_len
  have hsn : ∀ (X : List Pn) (i k : Nat), flatP (X ++ [⟨i, k⟩]) = flatP X ++ [.int .i64 (i : Int), .int .i64 (k : Int)] := fun X i k => flatP_snoc X ⟨i, k⟩
  generalize hRK : (fun i k : Nat => reX ts l.length i (k - i - 1)) = RK at *
  generalize hOX : (fun i : Nat => reX ts l.length i 0) = OX at *
  have e1 : ∀ i k : Nat, reX ts l.length i (k - i - 1) = RK i k := fun i k => by rw [← hRK]
  have e2 : ∀ i : Nat, reX ts l.length i 0 = OX i := fun i => by rw [← hOX]
  simp only [e1, e2] at a1 a2 a3 a4 a5 a6 a7 a8
  clear hRK hOX e1 e2
  refine ACalls.en 42 Tryz.func31 rfl rfl (fun E hE => ?_)
  repeat' (first | with_reducible (first | refine Then.n ?_ | refine Then.x ?_ | refine InB.n ?_ | refine InB.hit ?_) | ((with_reducible refine AL.on ?_); first | (refine AL.gd rfl ?_; (refine AL.gs0 rfl rfl (fun hc => ?_) (fun hc => ?_) <;> (try replace hc := nc hc) <;> first | (exfalso; contradiction) | refine AL.nm ?_)) | ((first | refine AL.mv ?_ | refine AL.as ?_ | ((with_reducible refine AL.k_binOp ?_); first | refine AL.g (OQ.lss rfl rfl) ?_ | refine AL.g (OQ.addi rfl rfl (by omega)) ?_ | refine AL.g (OQ.geq rfl rfl) ?_) | ((with_reducible refine AL.k_call ?_); refine AL.g (OQ.lenS (xt := 22) (r := (none, 2, true)) rfl kr) ?_) | ((with_reducible refine AL.k_fieldAddr ?_); first | refine AL.g (OQ.fieldA (ty := 25) (i := 0) (n := 1) (off := 0) (g := false) rfl kr (by decide)) ?_ | refine AL.g (OQ.fieldA (ty := 25) (i := 1) (n := 1) (off := 1) (g := false) rfl kr (by decide)) ?_) | ((with_reducible refine AL.k_load ?_); first | (refine AL.g (OQ.load1 (ty := 22) rfl kr wl) ?_) | (refine AL.g (OQ.load1 (ty := 23) rfl kr wl) ?_)) | ((with_reducible refine AL.k_pick ?_); first | refine AL.pT ?_ | refine AL.pF ?_)); refine AL.nm ?_) | ((first | ((with_reducible refine AL.k_call ?_); refine AL.pcall (g := 75) rfl kr rfl ((by exact hh _ _ _ _ rfl rfl rfl)) ?_) | ((with_reducible refine AL.k_build ?_); refine AL.g (OQ.buildA (ty := 52) (zs := [.int .i64 0, .int .i64 0]) (n := 1) (k := 2) (g := false) kr rfl kr rfl rfl rfl) ?_)); refine AL.nm ?_) | ((first | ((with_reducible refine AL.k_call ?_); refine AL.w rfl (by first | exact OW.appendNil (e := 52) (z := 2) (zs := [.int .i64 0, .int .i64 0]) (by' := 16) rfl rfl kr kr kr rfl kr (by decide) rfl (by decide) (by decide) | exact OW.appendL (e := 52) (z := 2) (zs := [.int .i64 0, .int .i64 0]) (by' := 16) rfl rfl kr kr kr rfl kr (by decide) rfl rfl rfl (by decide) (by exact hfl _) rfl rfl (by omega) (by omega)) ?_) | refine AL.bx ?_ | ((with_reducible refine AL.k_buildSlice ?_); refine AL.w rfl (OW.buildSl (ty := 45) (zs := [.int .i64 0, .int .i64 0]) (n := 2) (g := true) kr kr rfl rfl rfl (by decide) (by decide) rfl rfl) ?_)); refine AL.nm ?_; refine AL.nM ?_) | refine AL.nil ?_) | ((with_reducible refine AW.on ?_); first | refine AW.seq ?_ | refine AW.skip ?_ | refine AW.exit ?_ | refine AW.ret ?_ | ((refine AW.block (id := 0) ?_); (refine AW.fk [1, 3, 4] ?_); (refine AW.loop (fun n' t' m => ∃ i : Nat, n' = l.length - i ∧ i ≤ l.length ∧ ((OX i = [] ∧ t' = [jk, .pointer (some ⟨2, 0, none⟩), jk, .slice none 0 0, .int .i64 (i), jk, jk, jk, jk, jk, jk, jk, jk, jk, jk, jk, jk, jk, jk, jk, jk, jk, jk, jk, jk, jk, jk, jk, jk, jk, jk, jk, jk, jk, jk, jk, jk, jk, jk, jk, jk, jk, jk] ∧ m = [some ⟨flatP l, false, 0⟩, some ⟨flatT ts, false, 0⟩, some ⟨[.slice (some ⟨0, 0, none⟩) l.length c, .slice (some ⟨1, 0, none⟩) ts.length c2], true, 0⟩]) ∨ (0 < (OX i).length ∧ t' = [jk, .pointer (some ⟨2, 0, none⟩), jk, .slice (some ⟨3, 0, none⟩) ((OX i).length) INF, .int .i64 (i), jk, jk, jk, jk, jk, jk, jk, jk, jk, jk, jk, jk, jk, jk, jk, jk, jk, jk, jk, jk, jk, jk, jk, jk, jk, jk, jk, jk, jk, jk, jk, jk, jk, jk, jk, jk, jk, jk] ∧ m = [some ⟨flatP l, false, 0⟩, some ⟨flatT ts, false, 0⟩, some ⟨[.slice (some ⟨0, 0, none⟩) l.length c, .slice (some ⟨1, 0, none⟩) ts.length c2], true, 0⟩, some ⟨flatP (OX i), true, 2⟩]))) (l.length) (by exact ⟨0, rfl, Nat.zero_le _, .inl ⟨a5, rfl, rfl⟩⟩) ?_); (rintro n' t' m ⟨i, rfl, hi, (⟨hi0, rfl, rfl⟩ | ⟨hi1, rfl, rfl⟩)⟩)) | ((refine AW.block (id := 2) ?_); (refine AW.fk [1, 3, 4, 5] ?_); (refine AW.loop (fun n' t' m => ∃ k : Nat, n' = l.length - k ∧ i < k ∧ k ≤ l.length ∧ ((RK i k = [] ∧ t' = [jk, .pointer (some ⟨2, 0, none⟩), jk, .slice none 0 0, .int .i64 (i), .int .i64 (k), jk, jk, jk, jk, jk, jk, jk, jk, jk, jk, jk, jk, jk, jk, jk, jk, jk, jk, jk, jk, jk, jk, jk, jk, jk, jk, jk, jk, jk, jk, jk, jk, jk, jk, jk, jk, jk] ∧ m = [some ⟨flatP l, false, 0⟩, some ⟨flatT ts, false, 0⟩, some ⟨[.slice (some ⟨0, 0, none⟩) l.length c, .slice (some ⟨1, 0, none⟩) ts.length c2], true, 0⟩]) ∨ (0 < (RK i k).length ∧ t' = [jk, .pointer (some ⟨2, 0, none⟩), jk, .slice (some ⟨3, 0, none⟩) ((RK i k).length) INF, .int .i64 (i), .int .i64 (k), jk, jk, jk, jk, jk, jk, jk, jk, jk, jk, jk, jk, jk, jk, jk, jk, jk, jk, jk, jk, jk, jk, jk, jk, jk, jk, jk, jk, jk, jk, jk, jk, jk, jk, jk, jk, jk] ∧ m = [some ⟨flatP l, false, 0⟩, some ⟨flatT ts, false, 0⟩, some ⟨[.slice (some ⟨0, 0, none⟩) l.length c, .slice (some ⟨1, 0, none⟩) ts.length c2], true, 0⟩, some ⟨flatP (RK i k), true, 2⟩]))) (l.length - (i + 1)) (by first | exact ⟨i + 1, rfl, by omega, by omega, .inl ⟨(a1 i).trans hi0, rfl, rfl⟩⟩ | exact ⟨i + 1, rfl, by omega, by omega, .inr ⟨by rw [a1 i]; exact hi1, by rw [a1 i]; rfl, by rw [a1 i]⟩⟩) ?_); (rintro n' t' m ⟨k, rfl, hik, hk, (⟨hk0, rfl, rfl⟩ | ⟨hk1, rfl, rfl⟩)⟩)) | refine AW.block ?_ | (refine AW.region (id := 8) ?_; ((have q7 := a7 i k (by omega) (by omega)))) | refine AW.region ?_ | (refine AW.conds rfl (fun hc => ?_) (fun hc => ?_) <;> (try replace hc := nc hc) <;> first | (exfalso; contradiction) | skip)) | ((with_reducible refine ex_on ?_); first | ((obtain rfl : k = l.length := (by omega); have q2 := a2 i (by omega); first | (refine ⟨l.length - (i + 1), _, _, by omega, ?_, i + 1, rfl, by omega, .inl ⟨q2.symm.trans hk0, rfl, rfl⟩⟩; exact Wk.fk [1, 3, 4] rfl) | (rw [q2]; refine ⟨l.length - (i + 1), _, _, by omega, ?_, i + 1, rfl, by omega, .inr ⟨by rw [← q2]; exact hk1, rfl, rfl⟩⟩; exact Wk.fk [1, 3, 4] rfl))) | (first | (have q := a4 i k hik (by omega) (by omega); refine ⟨l.length - (k + 1), _, _, by omega, ?_, k + 1, rfl, by omega, by omega, .inl ⟨q.trans hk0, rfl, rfl⟩⟩; exact Wk.fk [1, 3, 4, 5] rfl) | (have q := a4 i k hik (by omega) (by omega); rw [← q]; refine ⟨l.length - (k + 1), _, _, by omega, ?_, k + 1, rfl, by omega, by omega, .inr ⟨by rw [q]; exact hk1, rfl, rfl⟩⟩; exact Wk.fk [1, 3, 4, 5] rfl) | (have q := a3 i k hik (by omega); rw [hk0, List.nil_append] at q; refine ⟨l.length - (k + 1), [jk, .pointer (some ⟨2, 0, none⟩), jk, .slice (some ⟨3, 0, none⟩) (1) INF, .int .i64 (i), .int .i64 (k + 1), jk, jk, jk, jk, jk, jk, jk, jk, jk, jk, jk, jk, jk, jk, jk, jk, jk, jk, jk, jk, jk, jk, jk, jk, jk, jk, jk, jk, jk, jk, jk, jk, jk, jk, jk, jk, jk], [some ⟨flatP l, false, 0⟩, some ⟨flatT ts, false, 0⟩, some ⟨[.slice (some ⟨0, 0, none⟩) l.length c, .slice (some ⟨1, 0, none⟩) ts.length c2], true, 0⟩, some ⟨[.int .i64 (i : Int), .int .i64 (k : Int)], true, 2⟩], by omega, ?_, k + 1, rfl, by omega, by omega, .inr ⟨by rw [q]; exact Nat.one_pos, by rw [q]; rfl, by rw [q]; rfl⟩⟩; exact Wk.keep 3 [4] (by rw [hE]; exact Nat.le_of_ble_eq_true rfl) rfl rfl (by repeat (first | exact RenT.nil | refine RenT.jk ?_ | refine RenT.val (by rfl) (by rfl) ?_)) ⟨kl rfl (flatP_scal l), kl rfl (flatT_scal ts), ki rfl, kl rfl rfl, trivial⟩) | (have q := a3 i k hik (by omega); refine ⟨l.length - (k + 1), [jk, .pointer (some ⟨2, 0, none⟩), jk, .slice (some ⟨3, 0, none⟩) ((RK i k).length + 1) INF, .int .i64 (i), .int .i64 (k + 1), jk, jk, jk, jk, jk, jk, jk, jk, jk, jk, jk, jk, jk, jk, jk, jk, jk, jk, jk, jk, jk, jk, jk, jk, jk, jk, jk, jk, jk, jk, jk, jk, jk, jk, jk, jk, jk], [some ⟨flatP l, false, 0⟩, some ⟨flatT ts, false, 0⟩, some ⟨[.slice (some ⟨0, 0, none⟩) l.length c, .slice (some ⟨1, 0, none⟩) ts.length c2], true, 0⟩, some ⟨flatP (RK i k) ++ [.int .i64 (i : Int), .int .i64 (k : Int)], true, 2⟩], by omega, ?_, k + 1, rfl, by omega, by omega, .inr ⟨by rw [q, List.length_append]; exact Nat.succ_pos _, by rw [q, List.length_append]; rfl, by rw [q, hsn]⟩⟩; exact Wk.keep 3 [5] (by rw [hE]; exact Nat.le_of_ble_eq_true rfl) rfl rfl (by repeat (first | exact RenT.nil | refine RenT.jk ?_ | refine RenT.val (by rfl) (by rfl) ?_)) ⟨kl rfl (flatP_scal l), kl rfl (flatT_scal ts), ki rfl, ⟨_, rfl, rfl, rfl, .inl ⟨rfl, by rw [List.all_append, flatP_scal]; rfl⟩⟩, trivial⟩))) | ((with_reducible refine FinA.on ?_); (obtain rfl : i = l.length := (by omega); first | (exfalso; rw [a6] at hi0; rw [hi0] at hpos; exact absurd hpos (by simp)) | (rw [a6]; refine FinA.keep 2 [3] (.inl rfl) (.tmp wl .nil) ?_ rfl (Nat.le_of_eq hE) rfl rfl ⟨kl rfl (flatP_scal l), kl rfl (flatT_scal ts), kl rfl (flatP_scal _), trivial⟩; rfl))))
end Go.Proofs.YtmohcmghbfhdlaaGreat
end
end
/- Chapter 6: edges and sides in a greater memory; those of a wrong net. -/
section
set_option linter.unusedSimpArgs false
set_option linter.unusedVariables false
section
namespace Go.Proofs.YtmohcmghbfhdlaaGreat
open Go Go.RowKit Go.Ab Go.Me
set_option maxRecDepth 100000
set_option maxHeartbeats 4000000
theorem rEdges_q {m : Mem} {bP bT : Nat} {A B : Blk} (l : List Pn) (ts : List T3) (hR : NetR l ts) (c c2 : Nat) (hne : bP ≠ bT) (a1 : m.at bP = some A) (a2 : A.cells = flatP l) (b1 : m.at bT = some B) (b2 : B.cells = flatT ts) (a3 : A.obj = Ob.plain) (b3 : B.obj = Ob.plain) (a4 : A.esz = 0) (b4 : B.esz = 0) :
    ACalls Tryz.prog 31 [.agg #[.slice (some ⟨bP, 0, none⟩) l.length c, .slice (some ⟨bT, 0, none⟩) ts.length c2]] m (.slice (some ⟨m.length, 0, none⟩) (edL ts).length INF) (m ++ [some ⟨flatP (edL ts), true, 2⟩]) := by
  have h := ACalls.viaS (m := m) (args := [.agg #[.slice (some ⟨bP, 0, none⟩) l.length c, .slice (some ⟨bT, 0, none⟩) ts.length c2]]) (v := .slice (some ⟨m.length, 0, none⟩) (edL ts).length INF) [bP, bT] [] [some ⟨flatP (edL ts), true, 2⟩] (rEdges_0 l ts hR c c2) ⟨bS a1 a3 a2 (flatP_scal _) a4, bS b1 b3 b2 (flatT_scal _) b4, trivial⟩ (by simpa using hne) ⟨⟨_, rfl, rfl⟩, ⟨_, rfl, rfl⟩, ⟨rfl, rfl, rfl, .inl ⟨rfl, flatP_scal _⟩⟩, trivial⟩ rfl rfl rfl rfl
  exact h
theorem rSides_q {m : Mem} {bP bT : Nat} {A B : Blk} (l : List Pn) (ts : List T3) (hR : NetR l ts) (c c2 : Nat) (hne : bP ≠ bT) (a1 : m.at bP = some A) (a2 : A.cells = flatP l) (b1 : m.at bT = some B) (b2 : B.cells = flatT ts) (a3 : A.obj = Ob.plain) (b3 : B.obj = Ob.plain) (a4 : A.esz = 0) (b4 : B.esz = 0) :
    ACalls Tryz.prog 32 [.agg #[.slice (some ⟨bP, 0, none⟩) l.length c, .slice (some ⟨bT, 0, none⟩) ts.length c2]] m (.slice (some ⟨m.length, 0, none⟩) (edL ts).length INF) (m ++ [some ⟨flatP (sdL ts), true, 2⟩]) := by
  have h := ACalls.viaS (m := m) (args := [.agg #[.slice (some ⟨bP, 0, none⟩) l.length c, .slice (some ⟨bT, 0, none⟩) ts.length c2]]) (v := .slice (some ⟨m.length, 0, none⟩) (edL ts).length INF) [bP, bT] [] [some ⟨flatP (sdL ts), true, 2⟩] (rSides_0 l ts hR c c2 fun m A B a1 a2 b1 b2 a3 b3 a4 b4 => rEdges_q l ts hR c c2 (by decide) a1 a2 b1 b2 a3 b3 a4 b4) ⟨bS a1 a3 a2 (flatP_scal _) a4, bS b1 b3 b2 (flatT_scal _) b4, trivial⟩ (by simpa using hne) ⟨⟨_, rfl, rfl⟩, ⟨_, rfl, rfl⟩, ⟨rfl, rfl, rfl, .inl ⟨rfl, flatP_scal _⟩⟩, trivial⟩ rfl rfl rfl rfl
  exact h
end Go.Proofs.YtmohcmghbfhdlaaGreat
end
end
/- Chapter 6: the reference's sums around a triangle, differences and closures. -/
section
set_option linter.unusedSimpArgs false
set_option linter.unusedVariables false
section
namespace Go.Me
open Go.Ab Go.Proofs.YtmohcmghbfhdlaaGreat
end Go.Me
namespace Go.Proofs.YtmohcmghbfhdlaaGreat
open Go Go.RowKit Go.Ab Go.Me
set_option maxRecDepth 100000
set_option maxHeartbeats 4000000
attribute [local irreducible] OQ OW AL AW AF SW
end Go.Proofs.YtmohcmghbfhdlaaGreat
end
end
/- Chapter 6: the reference's closures; the error of a net and phases of any form. -/
section
set_option linter.unusedSimpArgs false
set_option linter.unusedVariables false
section
namespace Go.Me
open Go.Ab Go.Ls Go.Proofs.YtmohcmghbfhdlaaGreat
end Go.Me
namespace Go.Proofs.YtmohcmghbfhdlaaGreat
open Go Go.RowKit Go.Ab Go.Me
set_option maxRecDepth 100000
set_option maxHeartbeats 4000000
attribute [local irreducible] OQ OW AL AW AF SW
end Go.Proofs.YtmohcmghbfhdlaaGreat
end
end
/- Chapter 6: all closures together (plain). -/
section
set_option linter.unusedSimpArgs false
set_option linter.unusedVariables false
namespace Go.Me
open Go.Ab Go.Proofs.YtmohcmghbfhdlaaGreat
set_option maxRecDepth 100000
theorem lk_at {e : IE} {v : Int} : ∀ {L : List (IE × Int)}, (L.map (·.1)).Nodup → (e, v) ∈ L → lk L e = v
  | [], _, h => by cases h
  | p :: r, hn, hm => by
    rw [List.map_cons, List.nodup_cons] at hn
    rw [lk_cons]
    by_cases he : p.1 = e
    · rw [if_pos he]
      rcases List.mem_cons.1 hm with rfl | hm
      · rfl
      · exact absurd (he ▸ List.mem_map_of_mem (f := (·.1)) hm) hn.1
    · rw [if_neg he]
      rcases List.mem_cons.1 hm with rfl | hm
      · exact absurd rfl he
      · exact lk_at hn.2 hm
theorem lk_tri {l : List Pn} {ts : List T3} (h : NetR l ts) {e : IE} {i : Nat} (hi : i < ts.length) : lk (lfA ts) e = i ↔ isE (tr ts i) e := by
  constructor
  · intro h1
    have h2 : e ∈ (lfA ts).map (·.1) := Classical.not_not.1 fun h2 => by
      have := (lk_no h).2 h2
      omega
    obtain ⟨j, h3, h4, h5⟩ := (lf_tri _).1 (lk_mem h2)
    obtain rfl : j = i := by
      have : ((j : Nat) : Int) = i := h4.symm.trans h1
      omega
    exact h5
  · intro h1
    exact lk_at h.ok.nd ((lf_tri _).2 ⟨i, hi, rfl, h1⟩)
end Go.Me
end
/- Chapter 6 in plain Lean: a corner of a right net lies strictly beyond a side of each triangle that does not have it. -/
section
set_option linter.unusedSimpArgs false
set_option linter.unusedVariables false
namespace Go.Me
section
variable {P : Nat → Pn} {n : Nat}
theorem closed_min {p q r v : Nat} (h1 : (P p).x < (P q).x) (h2 : (P p).x < (P r).x) (h3 : (P q).x ≠ (P r).x) (hc : 0 < cr (P p) (P q) (P r)) (hq : (P v).x ≠ (P q).x) (hr : (P v).x ≠ (P r).x) (hp : (P v).x ≠ (P p).x)
    (hA : 0 ≤ cr (P p) (P q) (P v)) (hB : 0 ≤ cr (P q) (P r) (P v)) (hC : 0 ≤ cr (P r) (P p) (P v)) : 1 ≤ su (ed3 (p, q, r)) (chi P v) ∨ 1 ≤ su (ed3 (p, q, r)) (chd P v) := by
  rw [su_ed3, su_ed3]
  have i1 := vec3 (P p) (P q) (P r) (P v)
  have i2 := vec3 (P r) (P q) (P p) (P v)
  have i3 := vec3 (P q) (P p) (P r) (P v)
  have c1 : cr (P p) (P r) (P q) = -cr (P p) (P q) (P r) := by unfold cr; grind
  have c2 : cr (P r) (P p) (P q) = cr (P p) (P q) (P r) := by unfold cr; grind
  have c3 : cr (P q) (P r) (P p) = cr (P p) (P q) (P r) := by unfold cr; grind
  have c4 : cr (P p) (P r) (P v) = -cr (P r) (P p) (P v) := by unfold cr; grind
  have c5 : cr (P r) (P q) (P v) = -cr (P q) (P r) (P v) := by unfold cr; grind
  have c6 : cr (P q) (P p) (P v) = -cr (P p) (P q) (P v) := by unfold cr; grind
  rw [c1, c4] at i1
  rw [c2, c5] at i2
  rw [c3, c6] at i3
  clear c1 c2 c3 c4 c5 c6
  unfold chi chd
  simp only
  generalize cr (P p) (P q) (P v) = A at *
  generalize cr (P q) (P r) (P v) = Bq at *
  generalize cr (P r) (P p) (P v) = C at *
  generalize cr (P p) (P q) (P r) = K at *
  -- v lies between
  have b1 : (P p).x < (P v).x := by
    apply Classical.byContradiction
    intro hn
    have a1 := Int.mul_nonneg (show 0 ≤ (P r).x - (P p).x by omega) hA
    have a2 := Int.mul_neg_of_neg_of_pos (show (P v).x - (P p).x < 0 by omega) hc
    have a3 := Int.mul_nonneg (show 0 ≤ (P q).x - (P p).x by omega) hC
    rw [Int.mul_neg, Int.mul_neg] at i1
    omega
  have z1 : A = 0 → C = 0 → False := fun ha hc' => by
    rw [ha, hc', Int.mul_zero, Int.neg_zero, Int.mul_zero, Int.mul_neg] at i1
    have := Int.mul_pos (show 0 < (P v).x - (P p).x by omega) hc
    omega
  rcases Int.lt_or_le (P q).x (P r).x with hqr | hqr
  · have b2 : (P v).x < (P r).x := by
      apply Classical.byContradiction
      intro hn
      have a1 := Int.mul_nonneg (show 0 ≤ (P r).x - (P p).x by omega) hB
      have a2 := Int.mul_pos (show 0 < (P v).x - (P r).x by omega) hc
      have a3 := Int.mul_nonneg (show 0 ≤ (P r).x - (P q).x by omega) hC
      have e1 : ((P q).x - (P r).x) * C = -(((P r).x - (P q).x) * C) := by rw [← Int.neg_mul]; congr 1; omega
      have e2 : ((P p).x - (P r).x) * -Bq = ((P r).x - (P p).x) * Bq := by rw [Int.mul_neg, ← Int.neg_mul]; congr 1; omega
      omega
    have z2 : Bq = 0 → C = 0 → False := fun ha hc' => by
      rw [ha, hc', Int.mul_zero, Int.neg_zero, Int.mul_zero] at i2
      have := Int.mul_neg_of_neg_of_pos (show (P v).x - (P r).x < 0 by omega) hc
      omega
    rcases Int.lt_or_le (P v).x (P q).x with hx | hx
    · by_cases hC0 : C = 0
      · have : A ≠ 0 := fun h => z1 h hC0
        right
        repeat' split
        all_goals omega
      · left
        repeat' split
        all_goals omega
    · by_cases hC0 : C = 0
      · have : Bq ≠ 0 := fun h => z2 h hC0
        right
        repeat' split
        all_goals omega
      · left
        repeat' split
        all_goals omega
  · have b2 : (P v).x < (P q).x := by
      apply Classical.byContradiction
      intro hn
      have a1 := Int.mul_nonneg (show 0 ≤ (P q).x - (P r).x by omega) hA
      have a2 := Int.mul_pos (show 0 < (P v).x - (P q).x by omega) hc
      have a3 := Int.mul_nonneg (show 0 ≤ (P q).x - (P p).x by omega) hB
      have e1 : ((P p).x - (P q).x) * Bq = -(((P q).x - (P p).x) * Bq) := by rw [← Int.neg_mul]; congr 1; omega
      have e2 : ((P r).x - (P q).x) * -A = ((P q).x - (P r).x) * A := by rw [Int.mul_neg, ← Int.neg_mul]; congr 1; omega
      omega
    have z2 : A = 0 → Bq = 0 → False := fun ha hc' => by
      rw [ha, hc', Int.mul_zero, Int.neg_zero, Int.mul_zero] at i3
      have := Int.mul_neg_of_neg_of_pos (show (P v).x - (P q).x < 0 by omega) hc
      omega
    rcases Int.lt_or_le (P v).x (P r).x with hx | hx
    · by_cases hC0 : C = 0
      · have : A ≠ 0 := fun h => z1 h hC0
        right
        repeat' split
        all_goals omega
      · left
        repeat' split
        all_goals omega
    · by_cases hC0 : Bq = 0
      · have : A ≠ 0 := fun h => z2 h hC0
        right
        repeat' split
        all_goals omega
      · left
        repeat' split
        all_goals omega
theorem closed_in (hg : Gen P n) {v : Nat} (hv : v < n) {t : Tri} (ht : TriOk P n t) (hno : v ≠ t.1 ∧ v ≠ t.2.1 ∧ v ≠ t.2.2) (hall : ∀ e ∈ ed3 t, 0 ≤ cr (P e.1) (P e.2) (P v)) : 1 ≤ su (ed3 t) (chi P v) ∨ 1 ≤ su (ed3 t) (chd P v) := by
  obtain ⟨p, q, r⟩ := t
  have hA := hall (p, q) (by simp [ed3])
  have hB := hall (q, r) (by simp [ed3])
  have hC := hall (r, p) (by simp [ed3])
  have n1 : (P v).x ≠ (P p).x := fun h => hno.1 (hg.inj _ _ hv ht.l1 h)
  have n2 : (P v).x ≠ (P q).x := fun h => hno.2.1 (hg.inj _ _ hv ht.l2 h)
  have n3 : (P v).x ≠ (P r).x := fun h => hno.2.2 (hg.inj _ _ hv ht.l3 h)
  obtain ⟨x1, x2, x3⟩ := ht.xs hg
  have r1 : ∀ f : Ed → Int, su (ed3 (p, q, r)) f = su (ed3 (q, r, p)) f := fun f => by rw [su_ed3, su_ed3]; simp only; omega
  have r2 : ∀ f : Ed → Int, su (ed3 (p, q, r)) f = su (ed3 (r, p, q)) f := fun f => by rw [su_ed3, su_ed3]; simp only; omega
  by_cases h1 : (P p).x < (P q).x ∧ (P p).x < (P r).x
  · exact closed_min h1.1 h1.2 x2 ht.pos n2 n3 n1 hA hB hC
  · by_cases h2 : (P q).x < (P r).x ∧ (P q).x < (P p).x
    · rw [r1, r1 (chd P v)]
      exact closed_min h2.1 h2.2 x3 ht.rot.pos n3 n1 n2 hB hC hA
    · rw [r2, r2 (chd P v)]
      exact closed_min (by omega) (by omega) x1 ht.rot.rot.pos n1 n2 n3 hC hA hB
def rv (t : Tri) : Tri := (t.1, t.2.2, t.2.1)
theorem ed3_rv (t : Tri) : ed3 (rv t) = ((ed3 t).map sw).reverse := rfl
theorem edT_rv : ∀ ts : List Tri, (edT (ts.map rv)).Perm ((edT ts).map sw)
  | [] => .refl _
  | t :: ts => by
    show (ed3 (rv t) ++ edT (ts.map rv)).Perm ((ed3 t ++ edT ts).map sw)
    rw [List.map_append, ed3_rv]
    exact (List.reverse_perm _).append (edT_rv ts)
theorem bd_rv {ts : List Tri} (hn : (edT ts).Nodup) : (edT (ts.map rv)).Nodup ∧ (bd (edT (ts.map rv))).Perm ((bd (edT ts)).map sw) := by
  have h1 : (edT (ts.map rv)).Nodup := (edT_rv ts).nodup_iff.2 (nodup_map_sw hn)
  have hm : ∀ e, e ∈ edT (ts.map rv) ↔ sw e ∈ edT ts := fun e => by
    rw [(edT_rv ts).mem_iff]
    constructor
    · intro h
      obtain ⟨x, hx, rfl⟩ := List.mem_map.1 h
      exact hx
    · intro h
      exact List.mem_map.2 ⟨sw e, h, rfl⟩
  refine ⟨h1, (List.perm_ext_iff_of_nodup (h1.filter _) (nodup_map_sw (hn.filter _))).2 fun e => ?_⟩
  rw [show (e ∈ (edT (ts.map rv)).filter fun e => !(edT (ts.map rv)).contains (sw e)) ↔ _ from bd_mem, hm, hm]
  constructor
  · rintro ⟨a, b⟩
    exact List.mem_map.2 ⟨sw e, bd_mem.2 ⟨a, b⟩, rfl⟩
  · intro h
    obtain ⟨x, hx, rfl⟩ := List.mem_map.1 h
    exact bd_mem.1 hx
theorem not_in_dn {ts : List Tri} (hg : Gen P n) (hT : ∀ t ∈ ts, TriOk P n t) (hn : (edT ts).Nodup) (hS : ∀ e ∈ bd (edT ts), Sup P n e) {m M : Nat} (hm : m < n) (hM : M < n) (hmin : ∀ v, v < n → (P m).x ≤ (P v).x) (hmax : ∀ v, v < n → (P v).x ≤ (P M).x)
    (hw : U P (bd (edT ts)) (P m).x = 1) (hu : ∀ v, v < n → ∃ t ∈ ts, v = t.1 ∨ v = t.2.1 ∨ v = t.2.2) {v : Nat} (hv : v < n) {t : Tri} (ht : t ∈ ts) (hno : v ≠ t.1 ∧ v ≠ t.2.1 ∧ v ≠ t.2.2) : su (ed3 t) (chd P v) ≤ 0 := by
  obtain ⟨hn', hp⟩ := bd_rv hn
  have hT' : ∀ t ∈ ts.map rv, TriOk (mr P) n t := fun t ht => by
    obtain ⟨x, hx, rfl⟩ := List.mem_map.1 ht
    have o := hT x hx
    refine ⟨o.l1, o.l3, o.l2, ?_⟩
    show 0 < cr (mr P x.1) (mr P x.2.2) (mr P x.2.1)
    have h3 : cr (mr P x.1) (mr P x.2.2) (mr P x.2.1) = -cr (mr P x.1) (mr P x.2.1) (mr P x.2.2) := by unfold cr; grind
    have h4 := cr_mr P x.2.1 x.1 x.2.2
    have h5 := cr_neg (P x.1) (P x.2.1) (P x.2.2)
    have := o.pos
    rw [h3, h4]
    omega
  have h := not_in_up (gen_mr hg) hT' hn' (fun e he => by
    obtain ⟨x, hx, rfl⟩ := List.mem_map.1 (hp.mem_iff.1 he)
    exact sup_mr (hS x hx)) hm hM hmin hmax (by
      have e1 : U (mr P) (bd (edT (ts.map rv))) (mr P m).x = U (mr P) ((bd (edT ts)).map sw) (P m).x := su_perm hp _
      rw [e1, U_mr, ← U_Lo (bal_bd hn), hw]) (fun v hv => by
      obtain ⟨t, ht, h⟩ := hu v hv
      refine ⟨rv t, List.mem_map.2 ⟨t, ht, rfl⟩, ?_⟩
      rcases h with h | h | h
      · exact .inl h
      · exact .inr (.inr h)
      · exact .inr (.inl h)) hv (List.mem_map.2 ⟨t, ht, rfl⟩) ⟨hno.1, hno.2.2, hno.2.1⟩
  have e2 : su (ed3 (rv t)) (chi (mr P) v) = su (ed3 t) (chd P v) := by
    obtain ⟨p, q, r⟩ := t
    show su (ed3 (p, r, q)) (chi (mr P) v) = su (ed3 (p, q, r)) (chd P v)
    rw [su_ed3, su_ed3, chd_mr, chd_mr, chd_mr]
    unfold sw
    simp only
    omega
  rw [e2] at h
  exact h
end
theorem Net.out {B : Int} {l : List Pn} {ts : List Tri} {h : List Nat} (N : Net B l ts h) {v : Nat} (hv : v < l.length) {t : Tri} (ht : t ∈ ts) (hno : v ≠ t.1 ∧ v ≠ t.2.1 ∧ v ≠ t.2.2) : ∃ e ∈ ed3 t, cr (pt l e.1) (pt l e.2) (pt l v) < 0 := by
  obtain ⟨m, M, hm, hM, hmin, hmax, hw⟩ := N.ends
  have hB : 0 ≤ B := by have := N.bnd _ (pt_mem hv); omega
  apply Classical.byContradiction
  intro hno'
  have a1 := not_in_up N.gen N.triOk N.nd N.supS hm hM hmin hmax hw N.used hv ht hno
  have a2 := not_in_dn N.gen N.triOk N.nd N.supS hm hM hmin hmax hw N.used hv ht hno
  have := closed_in N.gen hv (N.triOk t ht) hno fun e he => by
    rw [cr_shr]
    refine Int.mul_nonneg (by omega) ?_
    apply Classical.byContradiction
    intro hlt
    exact hno' ⟨e, he, by omega⟩
  omega
end Go.Me
end
/- Chapter 6 in plain Lean: where no edge is illegal all circles are empty. -/
section
set_option linter.unusedSimpArgs false
set_option linter.unusedVariables false
namespace Go.Me
theorem inD_rot (a b c q : Pn) : inD b c a q = inD a b c q := by unfold inD sq cd; grind
theorem inD_self (a b c : Pn) : inD a b c a = 0 ∧ inD a b c b = 0 ∧ inD a b c c = 0 := by
  refine ⟨?_, ?_, ?_⟩ <;> unfold inD sq cd <;> grind
theorem inD_cross (a b c d p : Pn) : inD a b c p * cr b a d - inD b a d p * cr a b c = -(inD a b c d * cr a b p) := by unfold inD sq cd cr; grind
theorem beyond {A B C q : Pn} (hD : 0 < cr A B C) (h1 : cr A B q ≤ 0) (h2 : cr C A q ≤ 0) (h3 : cr A B q < 0 ∨ cr C A q < 0) : inD A B C q < 0 := by
  have e : cr A B C * inD A B C q = -(cr A B C * (-(cr C A q) * sq A B + -(cr A B q) * sq A C) + (((-(cr C A q)) * (B.x - A.x) + (-(cr A B q)) * (C.x - A.x)) * ((-(cr C A q)) * (B.x - A.x) + (-(cr A B q)) * (C.x - A.x)) + ((-(cr C A q)) * (B.y - A.y) + (-(cr A B q)) * (C.y - A.y)) * ((-(cr C A q)) * (B.y - A.y) + (-(cr A B q)) * (C.y - A.y)))) := by
    unfold inD sq cd cr
    grind
  have sqn : ∀ x : Int, 0 ≤ x * x := fun x => by
    rcases Int.le_total 0 x with h | h
    · exact Int.mul_nonneg h h
    · have := Int.mul_nonneg (show 0 ≤ -x by omega) (show 0 ≤ -x by omega)
      rwa [Int.neg_mul_neg] at this
  have s1 := sqn ((-(cr C A q)) * (B.x - A.x) + (-(cr A B q)) * (C.x - A.x))
  have s2 := sqn ((-(cr C A q)) * (B.y - A.y) + (-(cr A B q)) * (C.y - A.y))
  have sqp : ∀ X Y : Pn, X ≠ Y → 0 < sq X Y := fun X Y hne => by
    unfold sq
    have t1 := sqn (X.x - Y.x)
    have t2 := sqn (X.y - Y.y)
    apply Classical.byContradiction
    intro hn
    have z1 : (X.x - Y.x) * (X.x - Y.x) = 0 := by omega
    have z2 : (X.y - Y.y) * (X.y - Y.y) = 0 := by omega
    have y1 : X.x = Y.x := by rcases Int.mul_eq_zero.1 z1 with h | h <;> omega
    have y2 : X.y = Y.y := by rcases Int.mul_eq_zero.1 z2 with h | h <;> omega
    refine hne ?_
    cases X; cases Y
    simp only at y1 y2
    rw [y1, y2]
  obtain ⟨n1, n2, n3⟩ := cr_pos_ne hD
  have hAC := sqp A C (fun h => n3 h.symm)
  have hAB := sqp A B n1
  have m1 := Int.mul_nonneg (show 0 ≤ -cr C A q by omega) (Int.le_of_lt hAB)
  have m2 := Int.mul_nonneg (show 0 ≤ -cr A B q by omega) (Int.le_of_lt hAC)
  have m0 : 0 < -(cr C A q) * sq A B + -(cr A B q) * sq A C := by
    rcases h3 with h | h
    · have := Int.mul_pos (show 0 < -cr A B q by omega) hAC
      omega
    · have := Int.mul_pos (show 0 < -cr C A q by omega) hAB
      omega
  have m3 := Int.mul_pos hD m0
  apply Classical.byContradiction
  intro hn
  have := Int.mul_nonneg (Int.le_of_lt hD) (show 0 ≤ inD A B C q by omega)
  omega
section
variable {B : Int} {l : List Pn} {ts : List Tri} {h : List Nat}
def pw (l : List Pn) (t : Tri) (v : Nat) : Int := inD (pt l t.1) (pt l t.2.1) (pt l t.2.2) (pt l v)
def dT (l : List Pn) (t : Tri) : Int := cr (pt l t.1) (pt l t.2.1) (pt l t.2.2)
theorem ed_rot {t : Tri} {e : Ed} (he : e ∈ ed3 t) : ∃ c, (e.2, c) ∈ ed3 t ∧ (c, e.1) ∈ ed3 t ∧ (t = (e.1, e.2, c) ∨ t = (c, e.1, e.2) ∨ t = (e.2, c, e.1)) := by
  obtain ⟨p, q, r⟩ := t
  simp only [ed3, List.mem_cons, List.not_mem_nil, or_false] at he
  rcases he with rfl | rfl | rfl
  · exact ⟨r, by simp [ed3], by simp [ed3], .inl rfl⟩
  · exact ⟨p, by simp [ed3], by simp [ed3], .inr (.inl rfl)⟩
  · exact ⟨q, by simp [ed3], by simp [ed3], .inr (.inr rfl)⟩
theorem pw_rot {t : Tri} {a b c : Nat} (h : t = (a, b, c) ∨ t = (c, a, b) ∨ t = (b, c, a)) (l : List Pn) (v : Nat) : pw l t v = inD (pt l a) (pt l b) (pt l c) (pt l v) ∧ dT l t = cr (pt l a) (pt l b) (pt l c) := by
  unfold pw dT
  rcases h with rfl | rfl | rfl
  · exact ⟨rfl, rfl⟩
  · exact ⟨(inD_rot (pt l c) (pt l a) (pt l b) (pt l v)).symm, (cr_rot (pt l c) (pt l a) (pt l b)).symm⟩
  · exact ⟨inD_rot (pt l a) (pt l b) (pt l c) (pt l v), cr_rot (pt l a) (pt l b) (pt l c)⟩
def Legal (l : List Pn) (ts : List Tri) : Prop := ∀ t ∈ ts, ∀ t' ∈ ts, ∀ e c d, e ∈ ed3 t → sw e ∈ ed3 t' → (e.2, c) ∈ ed3 t → (c, e.1) ∈ ed3 t → (e.1, d) ∈ ed3 t' → (d, e.2) ∈ ed3 t' → inD (pt l e.1) (pt l e.2) (pt l c) (pt l d) ≤ 0
def Less (l : List Pn) (v : Nat) (s t : Tri) : Prop := pw l s v * dT l t < pw l t v * dT l s
theorem less_tr {v : Nat} {r s t : Tri} (hr : 0 < dT l r) (hs : 0 < dT l s) (ht : 0 < dT l t) (h1 : Less l v r s) (h2 : Less l v s t) : Less l v r t := by
  unfold Less at *
  refine Int.lt_of_mul_lt_mul_right (a := dT l s) ?_ (Int.le_of_lt hs)
  have a1 := Int.mul_lt_mul_of_pos_right h1 ht
  have a2 := Int.mul_lt_mul_of_pos_right h2 hr
  have e1 : pw l r v * dT l t * dT l s = pw l r v * dT l s * dT l t := by grind
  have e2 : pw l t v * dT l r * dT l s = pw l t v * dT l s * dT l r := by grind
  have e3 : pw l s v * dT l r * dT l t = pw l s v * dT l t * dT l r := by grind
  omega
theorem Net.empty (N : Net B l ts h) (hl : Legal l ts) : ∀ t ∈ ts, ∀ v, v < l.length → pw l t v ≤ 0 := by
  intro t0 h0 v hv
  apply Classical.byContradiction
  intro hbad
  have hpos : ∀ t ∈ ts, 0 < dT l t := N.pos
  -- a triangle in whose circle the point lies furthest
  obtain ⟨tm, htm, hmax⟩ : ∃ t ∈ ts, ∀ s ∈ ts, ¬ Less l v t s := by
    have key : ∀ L : List Tri, L ≠ [] → (∀ t ∈ L, t ∈ ts) → ∃ t ∈ L, ∀ s ∈ L, ¬ Less l v t s := by
      intro L
      induction L with
      | nil => intro h; exact absurd rfl h
      | cons a L ih =>
        intro _ hsub
        by_cases hL : L = []
        · subst hL
          refine ⟨a, by simp, fun s hs => ?_⟩
          simp at hs
          subst hs
          unfold Less
          omega
        · obtain ⟨p, hp, hm⟩ := ih hL fun t ht => hsub t (by simp [ht])
          by_cases hx : Less l v p a
          · refine ⟨a, by simp, fun s hs => ?_⟩
            rcases List.mem_cons.1 hs with rfl | hs
            · unfold Less; omega
            · exact fun ha => hm s hs (less_tr (hpos _ (hsub p (by simp [hp]))) (hpos _ (hsub a (by simp))) (hpos _ (hsub s (by simp [hs]))) hx ha)
          · refine ⟨p, by simp [hp], fun s hs => ?_⟩
            rcases List.mem_cons.1 hs with rfl | hs
            · exact hx
            · exact hm s hs
    exact key ts N.ne fun t h => h
  have hmp : 0 < pw l tm v := by
    have h1 := hmax t0 h0
    unfold Less at h1
    have a1 := Int.mul_pos (show 0 < pw l t0 v by omega) (hpos tm htm)
    exact Int.pos_of_mul_pos_left (show 0 < pw l tm v * dT l t0 by omega) (hpos t0 h0) |> fun h => h
  -- corners on the circle, beyond an edge
  let mE : Tri → Ed → Int := fun t e => su (List.range l.length) fun q => if pw l t q = 0 ∧ cr (pt l e.1) (pt l e.2) (pt l q) < 0 then 1 else 0
  have mnn : ∀ t e, 0 ≤ mE t e := fun t e => su_nn fun q _ => by split <;> omega
  have step : ∀ (t : Tri) (e : Ed), t ∈ ts → (∀ s ∈ ts, ¬ Less l v t s) → 0 < pw l t v → e ∈ ed3 t → cr (pt l e.1) (pt l e.2) (pt l v) < 0 →
      ∃ t' f, t' ∈ ts ∧ (∀ s ∈ ts, ¬ Less l v t' s) ∧ 0 < pw l t' v ∧ f ∈ ed3 t' ∧ cr (pt l f.1) (pt l f.2) (pt l v) < 0 ∧ mE t' f < mE t e := by
    intro t e ht hm hp he hc
    obtain ⟨c, h1, h2, hrot⟩ := ed_rot he
    have heT : e ∈ edT ts := List.mem_flatMap.2 ⟨t, ht, he⟩
    have hsT : sw e ∈ edT ts := by
      apply Classical.byContradiction
      intro hno
      have := N.sup e (bd_mem.2 ⟨heT, hno⟩) v hv
      omega
    obtain ⟨t', ht', hs'⟩ := List.mem_flatMap.1 (show sw e ∈ ts.flatMap ed3 from hsT)
    obtain ⟨d, h1', h2', hrot'⟩ := ed_rot hs'
    obtain ⟨a, b⟩ := e
    simp only [sw] at hs' h1' h2' hrot'
    simp only at h1 h2 hrot hc
    have leg := hl t ht t' ht' (a, b) c d he hs' h1 h2 h1' h2'
    simp only at leg
    have R := fun q => pw_rot hrot l q
    have R' := fun q => pw_rot hrot' l q
    have D := hpos t ht
    have D' := hpos t' ht'
    have X := fun q => inD_cross (pt l a) (pt l b) (pt l c) (pt l d) (pt l q)
    have Xv := X v
    have mv := hm t' ht'
    unfold Less at mv
    rw [(R v).1, (R' v).1, (R v).2, (R' v).2] at mv
    have hd := (R v).2
    have hd' := (R' v).2
    rw [hd] at D
    rw [hd'] at D'
    have hcross : 0 ≤ inD (pt l a) (pt l b) (pt l c) (pt l d) * cr (pt l a) (pt l b) (pt l v) := by
      have := Int.mul_nonneg (show 0 ≤ -inD (pt l a) (pt l b) (pt l c) (pt l d) by omega) (show 0 ≤ -cr (pt l a) (pt l b) (pt l v) by omega)
      rwa [Int.neg_mul_neg] at this
    have hz0 : inD (pt l a) (pt l b) (pt l c) (pt l d) * cr (pt l a) (pt l b) (pt l v) = 0 := by omega
    have hco : inD (pt l a) (pt l b) (pt l c) (pt l d) = 0 := by
      rcases Int.mul_eq_zero.1 hz0 with h | h
      · exact h
      · omega
    -- the same circle
    have same : ∀ q, pw l t q * dT l t' = pw l t' q * dT l t := fun q => by
      have := X q
      rw [hco, Int.zero_mul] at this
      rw [(R q).1, (R' q).1, hd, hd']
      omega
    have hp' : 0 < pw l t' v := by
      have := same v
      have h3 := Int.mul_pos hp (hpos t' ht')
      rw [this] at h3
      exact Int.pos_of_mul_pos_left h3 (hpos t ht)
    have hm' : ∀ s ∈ ts, ¬ Less l v t' s := fun s hs hls => by
      refine hm s hs ?_
      unfold Less at *
      refine Int.lt_of_mul_lt_mul_right (a := dT l t') ?_ (Int.le_of_lt (hpos t' ht'))
      have a1 := Int.mul_lt_mul_of_pos_right hls (hpos t ht)
      have e1 : pw l t v * dT l s * dT l t' = pw l t' v * dT l s * dT l t := by have := same v; grind
      have e2 : pw l s v * dT l t * dT l t' = pw l s v * dT l t' * dT l t := by grind
      omega
    obtain ⟨f, hf, hfc⟩ := N.out hv ht' ⟨fun h => by unfold pw at hp'; rw [h, (inD_self _ _ _).1] at hp'; omega, fun h => by unfold pw at hp'; rw [h, (inD_self _ _ _).2.1] at hp'; omega, fun h => by unfold pw at hp'; rw [h, (inD_self _ _ _).2.2] at hp'; omega⟩
    have hfs : f = (b, a) ∨ f = (a, d) ∨ f = (d, b) := by
      rcases hrot' with rfl | rfl | rfl
      · simpa [ed3] using hf
      · have : f = (d, b) ∨ f = (b, a) ∨ f = (a, d) := by simpa [ed3] using hf
        rcases this with h | h | h
        · exact .inr (.inr h)
        · exact .inl h
        · exact .inr (.inl h)
      · have : f = (a, d) ∨ f = (d, b) ∨ f = (b, a) := by simpa [ed3] using hf
        rcases this with h | h | h
        · exact .inr (.inl h)
        · exact .inr (.inr h)
        · exact .inl h
    have hswap : ∀ q, cr (pt l b) (pt l a) (pt l q) = -cr (pt l a) (pt l b) (pt l q) := fun q => cr_neg _ _ _
    have hfs' : f = (a, d) ∨ f = (d, b) := by
      rcases hfs with h | h
      · rw [h] at hfc
        have := hswap v
        simp only at hfc
        omega
      · exact h
    refine ⟨t', f, ht', hm', hp', hf, hfc, ?_⟩
    -- what lies beyond the new edge lies beyond the old one; the new corner does not
    have sub : ∀ q, pw l t' q = 0 → cr (pt l f.1) (pt l f.2) (pt l q) < 0 → pw l t q = 0 ∧ cr (pt l a) (pt l b) (pt l q) < 0 := fun q hq hfq => by
      have hs := same q
      rw [hq, Int.zero_mul] at hs
      refine ⟨(Int.mul_eq_zero.1 hs).resolve_right (by have := hpos t' ht'; omega), ?_⟩
      apply Classical.byContradiction
      intro hn
      have hba : cr (pt l b) (pt l a) (pt l q) ≤ 0 := by rw [hswap]; omega
      rw [(R' q).1] at hq
      rcases hfs' with rfl | rfl
      · have := beyond (A := pt l a) (B := pt l d) (C := pt l b) (q := pt l q) (by rw [cr_rot]; exact D') (Int.le_of_lt hfq) hba (.inl hfq)
        rw [inD_rot] at this
        omega
      · have := beyond (A := pt l b) (B := pt l a) (C := pt l d) (q := pt l q) D' hba (Int.le_of_lt hfq) (.inr hfq)
        omega
    have hdl : d < l.length := (N.edge (List.mem_flatMap.2 ⟨t', ht', h1'⟩)).2.1
    have hin : pw l t d = 0 ∧ cr (pt l a) (pt l b) (pt l d) < 0 := by
      refine ⟨by rw [(R d).1]; exact hco, ?_⟩
      have := hswap d
      omega
    have hnot : ¬ (pw l t' d = 0 ∧ cr (pt l f.1) (pt l f.2) (pt l d) < 0) := fun h => by
      have h2 := h.2
      rcases hfs' with rfl | rfl
      · simp only at h2
        rw [cr_self] at h2
        omega
      · simp only at h2
        rw [cr_base] at h2
        omega
    have hm1 := su_mem (l := List.range l.length) (f := fun q => (if pw l t q = 0 ∧ cr (pt l a) (pt l b) (pt l q) < 0 then (1 : Int) else 0) - if pw l t' q = 0 ∧ cr (pt l f.1) (pt l f.2) (pt l q) < 0 then (1 : Int) else 0) (fun q _ => by
      by_cases h : pw l t' q = 0 ∧ cr (pt l f.1) (pt l f.2) (pt l q) < 0
      · rw [if_pos h, if_pos (sub q h.1 h.2)]; decide
      · rw [if_neg h]; split <;> omega) (List.mem_range.2 hdl)
    rw [su_sub] at hm1
    (try simp only at hm1)
    rw [if_pos hin, if_neg hnot] at hm1
    show mE t' f < mE t (a, b)
    simp only [mE]
    omega
  have key : ∀ (k : Nat) (t : Tri) (e : Ed), t ∈ ts → (∀ s ∈ ts, ¬ Less l v t s) → 0 < pw l t v → e ∈ ed3 t → cr (pt l e.1) (pt l e.2) (pt l v) < 0 → mE t e ≤ k → False := by
    intro k
    induction k with
    | zero =>
      intro t e ht hm hp he hc hk
      obtain ⟨t', f, _, _, _, _, _, hlt⟩ := step t e ht hm hp he hc
      have := mnn t' f
      omega
    | succ k ih =>
      intro t e ht hm hp he hc hk
      obtain ⟨t', f, a1, a2, a3, a4, a5, hlt⟩ := step t e ht hm hp he hc
      exact ih t' f a1 a2 a3 a4 a5 (by omega)
  obtain ⟨e, he, hc⟩ := N.out hv htm ⟨fun h => by unfold pw at hmp; rw [h, (inD_self _ _ _).1] at hmp; omega, fun h => by unfold pw at hmp; rw [h, (inD_self _ _ _).2.1] at hmp; omega, fun h => by unfold pw at hmp; rw [h, (inD_self _ _ _).2.2] at hmp; omega⟩
  exact key (mE tm e).toNat tm e htm hmax hmp he hc (by have := mnn tm e; omega)
end
end Go.Me
end
